/-
  Part 6 of the proof: a machine over named blocks, what each function computes, and what follows. No condition.
-/
import Derived.Test.YtafmgcbfmifaeaaGreatRows
import Derived.WalkKit
import Derived.ProofKit
import Derived.OpenShut
import Derived.Test.YtafmgcbfmifaeaaGreatHFieldsE
set_option linter.unusedVariables false
set_option linter.unusedSimpArgs false
set_option linter.all false
set_option maxRecDepth 20000
set_option maxHeartbeats 8000000
namespace Go.Abs
open Go
set_option linter.unusedVariables false
theorem dec_lt_le (a b : Int) : decide (a < b) = !decide (b ≤ a) := by
  by_cases h : a < b
  · rw [decide_eq_true h, decide_eq_false (by omega)]; rfl
  · rw [decide_eq_false h, decide_eq_true (by omega)]; rfl
theorem at_mapR {α : Type} (g : Nat → α) {n j : Nat} (h : j < n) : at? ((List.range n).map g) (j : Int) = some (g j) := by
  apply at_of
  rw [List.getElem?_map, List.getElem?_range h]; rfl
theorem Fur.Lims.b_ge {f : Fur} {P : Nat} {a b : Nat → Int} (h : f.Lims P a b) {p : Nat} (hp : p < P) : -3000 ≤ b p := by
  rw [h.B p _ hp]
  exact ⟨by omega, fun y hy _ => (h.sm.2 y hy).2.1⟩
theorem Fur.Lims.a_le {f : Fur} {P : Nat} {a b : Nat → Int} (h : f.Lims P a b) {p : Nat} (hp : p < P) : a p ≤ 3000 := by
  rw [h.A p _ hp]
  exact ⟨by omega, fun y hy _ => (h.sm.1 y hy).2.2⟩
theorem R04_hottest_eq {f : Firing} (h : f.ok) : R04_hottest KK f = some ((List.range f.Kiln.Falls.length).map (nf f).fur.U) := by
  have hk := kilnB_len h.k
  obtain ⟨l, e1, e2, e3⟩ := R04_limits_eq h
  unfold R04_hottest
  rw [e1]
  simp only [Option.bind_some]
  have h1 := (whl_foldN (n := f.Kiln.Falls.length) (body := R04_hottest.b0 KK f l) (k := KK) (fun i s => (i, s)) (fun s j => s ++ [(nf f).fur.U j]) (fun i s => s.length = i) (s0 := []) (by omega) (by unfold KK; omega) rfl ?_ ?_).1
  · rw [h1, foldl_pushN]; rfl
  · intro j s hj hI
    refine ⟨?_, by simp [hI]⟩
    unfold R04_hottest.b0
    simp only [lt_dec hj, cond_true]
    obtain ⟨h2, h3⟩ := whl_foldN (n := l.length) (body := R04_hottest.b1 KK f l (j : Int)) (k := KK) (fun i s => (s, i)) (fun s p => bif decide ((l.getD p R0).Hi < 1000000) then min s ((l.getD p R0).Hi + (nf f).fur.hi j p) else s)
      (fun i s => ∀ t, t ≤ s ↔ t ≤ 3000 ∧ ∀ p, p < i → (l.getD p R0).Hi < 1000000 → t ≤ (l.getD p R0).Hi + (nf f).fur.hi j p) (s0 := 3000) (by omega) (by unfold KK; omega) (by intro t; simp) (fun p s hp hI2 => by
        have g1 := kilnB_at h.k j p
        have g2 : -3000 ≤ (l.getD p R0).Hi := e3.b_ge (show p < f.Kiln.P by omega)
        have g3 : (nf f).fur.hi j p = (f.Kiln.at j p).Hi := rfl
        refine ⟨?_, fun t => ?_⟩
        · unfold R04_hottest.b1
          simp only [lt_dec hp, cond_true, at_nat R0 hp, Option.bind_some, at_row h.k hj, at_cellN h.k hj (show p < f.Kiln.P by omega)]
          by_cases hc : (l.getD p R0).Hi < 1000000
          · simp only [hc, decide_true, cond_true, g3]
            rw [w64_of (n := (l.getD p R0).Hi + (f.Kiln.at j p).Hi) (by omega) (by omega)]
          · simp only [hc, decide_false, cond_false]
        · by_cases hc : (l.getD p R0).Hi < 1000000
          · simp only [hc, decide_true, cond_true]
            rw [Int.le_min, hI2 t]
            constructor
            · rintro ⟨⟨k1, k2⟩, k3⟩
              refine ⟨k1, fun q hq hb => ?_⟩
              by_cases hqp : q = p
              · subst hqp; exact k3
              · exact k2 q (by omega) hb
            · rintro ⟨k1, k2⟩
              exact ⟨⟨k1, fun q hq hb => k2 q (by omega) hb⟩, k2 p (by omega) hc⟩
          · simp only [hc, decide_false, cond_false]
            rw [hI2 t]
            constructor
            · rintro ⟨k1, k2⟩
              refine ⟨k1, fun q hq hb => ?_⟩
              by_cases hqp : q = p
              · subst hqp; exact absurd hb hc
              · exact k2 q (by omega) hb
            · rintro ⟨k1, k2⟩
              exact ⟨k1, fun q hq hb => k2 q (by omega) hb⟩) (fun s _ => by
        unfold R04_hottest.b1
        simp only [lt_dec_self]; rfl)
    rw [h2]
    have : (List.range l.length).foldl (fun s p => bif decide ((l.getD p R0).Hi < 1000000) then min s ((l.getD p R0).Hi + (nf f).fur.hi j p) else s) 3000 = (nf f).fur.U j := by
      refine eq_of_le_iff fun t => ?_
      rw [h3 t, e3.U_iff j t, e2]
    rw [this]
    simp only [Option.bind_some]
    rw [push_of (by omega) (by omega)]
    rfl
  · intro s _
    unfold R04_hottest.b0
    simp only [lt_dec_self]; rfl
theorem R04_reaches_eq {f : Firing} (h : f.ok) {j : Nat} (hj : j < f.Kiln.Falls.length) {p : Nat} (hp : p < f.Kiln.P) (n : Int) (hn : -1000000 ≤ n ∧ n ≤ 1000000) :
    R04_reaches KK f ((List.range f.Kiln.Falls.length).map (nf f).fur.U) (j : Int) (p : Int) n = some (decide (n + (nf f).fur.lo j p ≤ (nf f).fur.U j)) := by
  have g1 := kilnB_at h.k j p
  unfold R04_reaches
  simp only [at_row h.k hj, at_cellN h.k hj hp, Option.bind_some, at_mapR _ hj]
  rw [w64_of (n := n + (f.Kiln.at j p).Lo) (by omega) (by omega)]
  rfl
theorem R04_IsSound_eq {f : Firing} (h : f.ok) : R04_IsSound KK f = some (soundB (nf f)) := by
  have hk := kilnB_len h.k
  obtain ⟨l, e1, e2, e3⟩ := R04_limits_eq h
  have hm : (nf f).fur.m = f.Kiln.Falls.length - 1 := rfl
  unfold R04_IsSound
  rw [e1, R04_hottest_eq h]
  simp only [Option.bind_some]
  have hl : ((List.range f.Kiln.Falls.length).map (nf f).fur.U).length = f.Kiln.Falls.length := by simp
  rw [whl_allN (n := f.Kiln.Falls.length) (p := fun j => !decide ((nf f).fur.U j < 0)) (c := false) (by omega) (by unfold KK; omega) (fun j hj => by
    unfold R04_IsSound.b0
    rw [hl]
    simp only [lt_dec hj, cond_true, at_mapR _ hj, Option.bind_some]
    cases decide ((nf f).fur.U j < 0) <;> rfl) (by
    unfold R04_IsSound.b0
    rw [hl, lt_dec_self]; rfl)]
  have hb : ∀ p, p < f.Kiln.P → ∀ c : Int, -1000000 ≤ c ∧ c ≤ 1000000 → whl (R04_IsSound.b2 KK f ((List.range f.Kiln.Falls.length).map (nf f).fur.U) (p : Int) ⟨c, (l.getD p R0).Hi⟩) KK (decide (c = (-1000000 : Int)), 0) = some (.brk (decide (c = (-1000000 : Int)) || (List.range f.Kiln.Falls.length).any fun j => decide (c + (nf f).fur.lo j p ≤ (nf f).fur.U j))) := by
    intro p hp c hc
    have h1 := (whl_foldN (n := f.Kiln.Falls.length) (body := R04_IsSound.b2 KK f ((List.range f.Kiln.Falls.length).map (nf f).fur.U) (p : Int) ⟨c, (l.getD p R0).Hi⟩) (k := KK) (fun i s => (s, i)) (fun s j => s || decide (c + (nf f).fur.lo j p ≤ (nf f).fur.U j)) (fun _ _ => True) (s0 := decide (c = (-1000000 : Int))) (by omega) (by unfold KK; omega) trivial (fun j s hj _ => by
      refine ⟨?_, trivial⟩
      unfold R04_IsSound.b2
      simp only [hl, lt_dec hj, cond_true]
      cases s with
      | true => rfl
      | false =>
        simp only [Bool.not_false, cond_true, R04_reaches_eq h hj hp c hc, Option.bind_some, Bool.false_or]) (fun s _ => by
      unfold R04_IsSound.b2
      simp only [hl, lt_dec_self]; rfl)).1
    rw [h1]
    have : ∀ (m : List Nat) (s : Bool), m.foldl (fun s j => s || decide (c + (nf f).fur.lo j p ≤ (nf f).fur.U j)) s = (s || m.any fun j => decide (c + (nf f).fur.lo j p ≤ (nf f).fur.U j)) := by
      intro m
      induction m with
      | nil => simp
      | cons j m ih => intro s; rw [List.foldl_cons, ih, List.any_cons, Bool.or_assoc]
    rw [this]
  have hs2 : whl (R04_IsSound.b1 KK f l ((List.range f.Kiln.Falls.length).map (nf f).fur.U)) KK 0 = some (bif (List.range l.length).all (fun p => decide ((l.getD p R0).Lo ≤ (l.getD p R0).Hi) && (decide ((l.getD p R0).Lo = (-1000000 : Int)) || (List.range f.Kiln.Falls.length).any fun j => decide ((l.getD p R0).Lo + (nf f).fur.lo j p ≤ (nf f).fur.U j))) then .brk () else .ret false) := by
    refine whl_allN (n := l.length) (by omega) (by unfold KK; omega) (fun p hp => ?_) ?_
    · unfold R04_IsSound.b1
      have g1 := e3.a_ge (show p < f.Kiln.P by omega)
      have g2 := e3.a_le (show p < f.Kiln.P by omega)
      have g3 := hb p (by omega) (l.getD p R0).Lo ⟨g1, by omega⟩
      have g4 : (⟨(l.getD p R0).Lo, (l.getD p R0).Hi⟩ : Range) = l.getD p R0 := rfl
      rw [g4] at g3
      simp only [lt_dec hp, cond_true, at_nat R0 hp, Option.bind_some, g3]
      have : decide ((l.getD p R0).Hi < (l.getD p R0).Lo) = !decide ((l.getD p R0).Lo ≤ (l.getD p R0).Hi) := dec_lt_le _ _
      rw [this]
      cases decide ((l.getD p R0).Lo ≤ (l.getD p R0).Hi) <;> cases (decide ((l.getD p R0).Lo = (-1000000 : Int)) || (List.range f.Kiln.Falls.length).any fun j => decide ((l.getD p R0).Lo + (nf f).fur.lo j p ≤ (nf f).fur.U j)) <;> rfl
    · unfold R04_IsSound.b1
      rw [lt_dec_self]; rfl
  have hfin : soundB (nf f) = ((List.range f.Kiln.Falls.length).all (fun j => !decide ((nf f).fur.U j < 0)) && (List.range l.length).all (fun p => decide ((l.getD p R0).Lo ≤ (l.getD p R0).Hi) && (decide ((l.getD p R0).Lo = (-1000000 : Int)) || (List.range f.Kiln.Falls.length).any fun j => decide ((l.getD p R0).Lo + (nf f).fur.lo j p ≤ (nf f).fur.U j)))) := by
    rw [Bool.eq_iff_iff, soundB_iff (nf_ok h), e3.sound_iff, Bool.and_eq_true, List.all_eq_true, List.all_eq_true]
    constructor
    · rintro ⟨k1, k2⟩
      refine ⟨fun j hj => ?_, fun p hp => ?_⟩
      · simp only [List.mem_range] at hj
        have := k1 j (by omega)
        simp; omega
      · simp only [List.mem_range] at hp
        obtain ⟨k3, k4⟩ := k2 p (by omega)
        simp only [Bool.and_eq_true, Bool.or_eq_true, decide_eq_true_eq, List.any_eq_true, List.mem_range]
        refine ⟨k3, ?_⟩
        rcases k4 with k4 | ⟨j, k4, k5⟩
        · exact .inl k4
        · exact .inr ⟨j, by omega, k5⟩
    · rintro ⟨k1, k2⟩
      refine ⟨fun j hj => ?_, fun p hp => ?_⟩
      · have := k1 j (by simp only [List.mem_range]; omega)
        simp at this; omega
      · have := k2 p (by simp only [List.mem_range]; omega)
        simp only [Bool.and_eq_true, Bool.or_eq_true, decide_eq_true_eq, List.any_eq_true, List.mem_range] at this
        obtain ⟨k3, k4⟩ := this
        refine ⟨k3, ?_⟩
        rcases k4 with k4 | ⟨j, k4, k5⟩
        · exact .inl k4
        · exact .inr ⟨j, by omega, k5⟩
  rw [hfin, hs2]
  cases (List.range f.Kiln.Falls.length).all (fun j => !decide ((nf f).fur.U j < 0)) with
  | false => rfl
  | true =>
    simp only [cond_true, Option.bind_some, Bool.true_and]
    cases (List.range l.length).all (fun p => decide ((l.getD p R0).Lo ≤ (l.getD p R0).Hi) && (decide ((l.getD p R0).Lo = (-1000000 : Int)) || (List.range f.Kiln.Falls.length).any fun j => decide ((l.getD p R0).Lo + (nf f).fur.lo j p ≤ (nf f).fur.U j))) <;> rfl
end Go.Abs
namespace Go.Abs
open Go
set_option linter.unusedVariables false
theorem bound_same {f : Fur} {q : Nat} {r s : Range} (h1 : ∀ t, r.Lo ≤ t ↔ f.Low q t) (h2 : ∀ t, t ≤ r.Hi ↔ f.High q t) (h3 : ∀ t, s.Lo ≤ t ↔ f.Low q t) (h4 : ∀ t, t ≤ s.Hi ↔ f.High q t) : r = s := by
  have e1 : r.Lo = s.Lo := eq_of_ge_iff fun t => by rw [h1, h3]
  have e2 : r.Hi = s.Hi := eq_of_le_iff fun t => by rw [h2, h4]
  cases r; cases s; simp only at e1 e2; rw [e1, e2]
end Go.Abs
namespace Go.Abs
open Go
set_option linter.unusedVariables false
def Field.u (x : Field) (j : Nat) : Int := x.Mouths.getD j 0
def Field.d (x : Field) (j p : Nat) : Int := (x.Falls.getD j []).getD p 0
def Field.ht (x : Field) (m p : Nat) : Int := mx (fun j => x.u j - x.d j p) m
def rowB (k : Kiln) (x : Field) (j : Nat) : Bool := inB (x.u j) 0 3000 && (decide ((x.Falls.getD j []).length = (k.Falls.getD j []).length) && (List.range (k.Falls.getD j []).length).all fun p => inB (x.d j p) (k.at j p).Lo (k.at j p).Hi)
def fieldB (k : Kiln) (x : Field) : Bool := decide (x.Mouths.length = k.Falls.length) && (decide (x.Falls.length = k.Falls.length) && (List.range k.Falls.length).all (rowB k x))
theorem heat_isField_eq {k : Kiln} (h : kilnB k = true) (x : Field) : heat_isField KK k x = some (fieldB k x) := by
  have hk := kilnB_len h
  unfold heat_isField fieldB
  simp only [len_dec]
  by_cases h1 : x.Mouths.length = k.Falls.length
  · by_cases h2 : x.Falls.length = k.Falls.length
    · simp only [h1, h2, decide_true, Bool.not_true, cond_true, cond_false, Bool.true_and]
      rw [whl_allN (n := k.Falls.length) (p := rowB k x) (c := false) (by omega) (by unfold KK; omega) (fun j hj => by
        unfold heat_isField.b0 rowB
        have hr := kilnB_row h hj
        simp only [lt_dec hj, cond_true, at_row h hj, at_nat (0 : Int) (show j < x.Mouths.length by omega), at_nat ([] : List Int) (show j < x.Falls.length by omega), Option.bind_some, heat_in_eq, len_dec]
        show (bif inB (x.u j) 0 3000 then _ else _) = _
        cases inB (x.u j) 0 3000 with
        | false => rfl
        | true =>
          by_cases h3 : (x.Falls.getD j []).length = (k.Falls.getD j []).length
          · simp only [h3, decide_true, Bool.not_true, cond_true, cond_false, Bool.true_and]
            rw [whl_allN (n := (k.Falls.getD j []).length) (p := fun p => inB (x.d j p) (k.at j p).Lo (k.at j p).Hi) (c := false) (by omega) (by unfold KK; omega) (fun p hp => by
              unfold heat_isField.b1
              simp only [lt_dec hp, cond_true, at_nat R0 hp, at_nat (0 : Int) (show p < (x.Falls.getD j []).length by omega), Option.bind_some, heat_in_eq]
              show (bif !inB (x.d j p) (k.at j p).Lo (k.at j p).Hi then _ else _) = _
              cases inB (x.d j p) (k.at j p).Lo (k.at j p).Hi <;> rfl) (by
              unfold heat_isField.b1
              rw [lt_dec_self]; rfl)]
            cases (List.range (k.Falls.getD j []).length).all fun p => inB (x.d j p) (k.at j p).Lo (k.at j p).Hi <;> rfl
          · simp only [h3, decide_false, Bool.not_false, cond_true, Bool.false_and, Bool.and_false, cond_false]) (by
        unfold heat_isField.b0
        rw [lt_dec_self]; rfl)]
      cases (List.range k.Falls.length).all (rowB k x) <;> rfl
    · simp [h1, h2]
  · simp [h1]
theorem R04_isField_eq {k : Kiln} (h : kilnB k = true) (x : Field) : R04_isField KK k x = some (fieldB k x) := by
  have hk := kilnB_len h
  unfold R04_isField fieldB
  simp only [len_dec]
  by_cases h1 : x.Mouths.length = k.Falls.length
  · by_cases h2 : x.Falls.length = k.Falls.length
    · simp only [h1, h2, decide_true, Bool.not_true, cond_true, cond_false, Bool.true_and]
      rw [whl_allN (n := k.Falls.length) (p := rowB k x) (c := false) (by omega) (by unfold KK; omega) (fun j hj => by
        unfold R04_isField.b0 rowB
        have hr := kilnB_row h hj
        simp only [lt_dec hj, cond_true, at_row h hj, at_nat (0 : Int) (show j < x.Mouths.length by omega), at_nat ([] : List Int) (show j < x.Falls.length by omega), Option.bind_some, R01_In_eq, len_dec]
        show (bif inB (x.u j) 0 3000 then _ else _) = _
        cases inB (x.u j) 0 3000 with
        | false => rfl
        | true =>
          by_cases h3 : (x.Falls.getD j []).length = (k.Falls.getD j []).length
          · simp only [h3, decide_true, Bool.not_true, cond_true, cond_false, Bool.true_and]
            rw [whl_allN (n := (k.Falls.getD j []).length) (p := fun p => inB (x.d j p) (k.at j p).Lo (k.at j p).Hi) (c := false) (by omega) (by unfold KK; omega) (fun p hp => by
              unfold R04_isField.b1
              simp only [lt_dec hp, cond_true, at_nat R0 hp, at_nat (0 : Int) (show p < (x.Falls.getD j []).length by omega), Option.bind_some, R01_In_eq]
              show (bif !inB (x.d j p) (k.at j p).Lo (k.at j p).Hi then _ else _) = _
              cases inB (x.d j p) (k.at j p).Lo (k.at j p).Hi <;> rfl) (by
              unfold R04_isField.b1
              rw [lt_dec_self]; rfl)]
            cases (List.range (k.Falls.getD j []).length).all fun p => inB (x.d j p) (k.at j p).Lo (k.at j p).Hi <;> rfl
          · simp only [h3, decide_false, Bool.not_false, cond_true, Bool.false_and, Bool.and_false, cond_false]) (by
        unfold R04_isField.b0
        rw [lt_dec_self]; rfl)]
      cases (List.range k.Falls.length).all (rowB k x) <;> rfl
    · simp [h1, h2]
  · simp [h1]
structure FieldOk (k : Kiln) (x : Field) : Prop where
  kv : kilnB k = true
  m : x.Mouths.length = k.Falls.length
  f : x.Falls.length = k.Falls.length
  row : ∀ j, j < k.Falls.length → (x.Falls.getD j []).length = k.P
  u : ∀ j, j < k.Falls.length → 0 ≤ x.u j ∧ x.u j ≤ 3000
  d : ∀ j p, j < k.Falls.length → (k.at j p).Lo ≤ x.d j p ∧ x.d j p ≤ (k.at j p).Hi
theorem fieldB_iff {k : Kiln} (h : kilnB k = true) (x : Field) : fieldB k x = true ↔ FieldOk k x := by
  unfold fieldB
  simp only [Bool.and_eq_true, decide_eq_true_eq, List.all_eq_true, List.mem_range, rowB, inB]
  constructor
  · rintro ⟨h1, h2, h3⟩
    refine ⟨h, h1, h2, fun j hj => by rw [(h3 j hj).2.1, kilnB_row h hj], fun j hj => (h3 j hj).1, fun j p hj => ?_⟩
    obtain ⟨_, h4, h5⟩ := h3 j hj
    by_cases hp : p < (k.Falls.getD j []).length
    · exact h5 p hp
    · unfold Field.d Kiln.at
      rw [getD_none (by omega), getD_none (by omega)]
      exact ⟨Int.le_refl _, Int.le_refl _⟩
  · intro g
    exact ⟨g.m, g.f, fun j hj => ⟨g.u j hj, by rw [g.row j hj, kilnB_row h hj], fun p _ => g.d j p hj⟩⟩
theorem FieldOk.bounds {k : Kiln} {x : Field} (h : FieldOk k x) {j : Nat} (p : Nat) (hj : j < k.Falls.length) : -3000 ≤ x.u j - x.d j p ∧ x.u j - x.d j p ≤ 3000 := by
  have h1 := h.u j hj
  have h2 := h.d j p hj
  have h3 := kilnB_at h.kv j p
  omega
theorem FieldOk.ht {k : Kiln} {x : Field} (h : FieldOk k x) (p : Nat) : -3000 ≤ x.ht (k.Falls.length - 1) p ∧ x.ht (k.Falls.length - 1) p ≤ 3000 := by
  have hk := kilnB_len h.kv
  unfold Field.ht
  rw [mx_le_iff, le_mx_iff]
  exact ⟨⟨0, Nat.zero_le _, (h.bounds p (by omega)).1⟩, fun j hj => (h.bounds p (by omega)).2⟩
def heatsL (k : Kiln) (x : Field) : List Int := (List.range k.P).map (x.ht (k.Falls.length - 1))
theorem heat_heats_eq {k : Kiln} {x : Field} (h : FieldOk k x) : heat_heats KK x = some (heatsL k x) := by
  have hk := kilnB_len h.kv
  have hm := h.m
  have hf := h.f
  have hr0 := h.row 0 (by omega)
  unfold heat_heats
  have e0 : at? x.Falls (0 : Int) = some (x.Falls.getD 0 []) := at_nat [] (l := x.Falls) (i := 0) (by omega)
  rw [e0]
  simp only [Option.bind_some]
  have h1 := (whl_foldN (n := (x.Falls.getD 0 []).length) (body := heat_heats.b0 KK x (x.Falls.getD 0 [])) (k := KK) (fun i s => (i, s)) (fun s p => s ++ [x.ht (k.Falls.length - 1) p]) (fun i s => s.length = i) (s0 := []) (by omega) (by unfold KK; omega) rfl ?_ ?_).1
  · rw [h1, foldl_pushN, hr0]; rfl
  · intro p s hp hI
    refine ⟨?_, by simp [hI]⟩
    unfold heat_heats.b0
    have e1 : at? x.Mouths (0 : Int) = some (x.u 0) := at_nat 0 (l := x.Mouths) (i := 0) (by omega)
    have e2 : at? (x.Falls.getD 0 []) (p : Int) = some (x.d 0 p) := at_nat 0 hp
    have hb0 := h.bounds p (show 0 < k.Falls.length by omega)
    simp only [lt_dec hp, cond_true, e1, e2, Option.bind_some]
    obtain ⟨h2, h3⟩ := whl_foldN (n := k.Falls.length) (body := heat_heats.b1 KK x (p : Int)) (k := KK) (fun i s => (s, i)) (fun s j => max s (x.u j - x.d j p)) (fun i s => ∀ t, t ≤ s ↔ t ≤ x.u 0 - x.d 0 p ∨ ∃ j, j < i ∧ t ≤ x.u j - x.d j p) (s0 := w64 (x.u 0 - x.d 0 p)) (by omega) (by unfold KK; omega) (by intro t; rw [w64_of (by omega) (by omega)]; simp) (fun j s hj hI2 => by
      have hb := h.bounds p hj
      have hr := h.row j hj
      have e3 : at? x.Mouths (j : Int) = some (x.u j) := at_nat 0 (by omega)
      have e4 : at? (x.Falls.getD j []) (p : Int) = some (x.d j p) := at_nat 0 (by omega)
      refine ⟨?_, fun t => ?_⟩
      · unfold heat_heats.b1
        simp only [hm, lt_dec hj, cond_true, e3, e4, at_nat ([] : List Int) (show j < x.Falls.length by omega), Option.bind_some]
        rw [w64_of (n := x.u j - x.d j p) (by omega) (by omega)]
      · rw [show ∀ a b : Int, t ≤ max a b ↔ t ≤ a ∨ t ≤ b by intro a b; omega, hI2 t]
        constructor
        · rintro ((k1 | ⟨i, k1, k2⟩) | k1)
          · exact .inl k1
          · exact .inr ⟨i, by omega, k2⟩
          · exact .inr ⟨j, by omega, by omega⟩
        · rintro (k1 | ⟨i, k1, k2⟩)
          · exact .inl (.inl k1)
          · by_cases hij : i = j
            · subst hij; exact .inr (by omega)
            · exact .inl (.inr ⟨i, by omega, k2⟩)) (fun s _ => by
      unfold heat_heats.b1
      simp only [hm, lt_dec_self]; rfl)
    rw [h2]
    have : (List.range k.Falls.length).foldl (fun s j => max s (x.u j - x.d j p)) (w64 (x.u 0 - x.d 0 p)) = x.ht (k.Falls.length - 1) p := by
      refine eq_of_le_iff fun t => ?_
      unfold Field.ht
      rw [h3 t, le_mx_iff]
      constructor
      · rintro (k1 | ⟨j, k1, k2⟩)
        · exact ⟨0, Nat.zero_le _, k1⟩
        · exact ⟨j, by omega, k2⟩
      · rintro ⟨j, k1, k2⟩; exact .inr ⟨j, by omega, k2⟩
    rw [this]
    simp only [Option.bind_some]
    rw [push_of (by omega) (by omega)]
    rfl
  · intro s _
    unfold heat_heats.b0
    simp only [lt_dec_self]; rfl
theorem R04_heat_eq {k : Kiln} {x : Field} (h : FieldOk k x) {p : Nat} (hp : p < k.P) : R04_heat KK x (p : Int) = some (x.ht (k.Falls.length - 1) p) := by
  have hk := kilnB_len h.kv
  have hm := h.m
  have hf := h.f
  have hr0 := h.row 0 (by omega)
  unfold R04_heat
  have e0 : at? x.Falls (0 : Int) = some (x.Falls.getD 0 []) := at_nat [] (l := x.Falls) (i := 0) (by omega)
  have e1 : at? x.Mouths (0 : Int) = some (x.u 0) := at_nat 0 (l := x.Mouths) (i := 0) (by omega)
  have e2 : at? (x.Falls.getD 0 []) (p : Int) = some (x.d 0 p) := at_nat 0 (by omega)
  have hb0 := h.bounds p (show 0 < k.Falls.length by omega)
  simp only [e0, e1, e2, Option.bind_some]
  rw [w64_of (by omega) (by omega)]
  have hw := whl_ok (body := R04_heat.b0 KK x (p : Int))
    (fun t => ∃ (i : Nat) (s : Int), t = (s, ((i + 1 : Nat) : Int)) ∧ i + 1 ≤ k.Falls.length ∧ s = x.ht i p)
    (fun r => r = .brk (x.ht (k.Falls.length - 1) p)) (fun t => k.Falls.length - t.2.toNat) ?_ KK (x.u 0 - x.d 0 p, 1) ⟨0, _, rfl, by omega, rfl⟩ (by unfold KK; simp only; omega)
  · obtain ⟨r, k1, k2, _⟩ := hw
    rw [k1, k2]; rfl
  · rintro t ⟨i, s, rfl, g1, g2⟩
    by_cases hi : i + 1 = k.Falls.length
    · right; left
      refine ⟨s, ?_, by rw [g2]; congr 2; omega⟩
      unfold R04_heat.b0
      simp only [hm, hi, lt_dec_self]; rfl
    · left
      have hj : i + 1 < k.Falls.length := by omega
      have hb := h.bounds p hj
      have hr := h.row _ hj
      have e3 : at? x.Mouths ((i + 1 : Nat) : Int) = some (x.u (i + 1)) := at_nat 0 (by omega)
      have e4 : at? (x.Falls.getD (i + 1) []) (p : Int) = some (x.d (i + 1) p) := at_nat 0 (by omega)
      refine ⟨(max s (x.u (i + 1) - x.d (i + 1) p), ((i + 1 + 1 : Nat) : Int)), ?_, ⟨i + 1, _, rfl, hj, by rw [g2]; rfl⟩, by simp only [Int.toNat_natCast]; omega⟩
      unfold R04_heat.b0
      simp only [hm, lt_dec hj, cond_true, e3, e4, at_nat ([] : List Int) (show i + 1 < x.Falls.length by omega), Option.bind_some]
      rw [w64_of (n := x.u (i + 1) - x.d (i + 1) p) (by omega) (by omega), w64_succ (n := k.Falls.length) hj (by omega)]
def heatsR (k : Kiln) (x : Field) : List Int × Int := bif !kilnB k then ([], 40) else bif !fieldB k x then ([], 45) else (heatsL k x, 0)
theorem heat_Heats_eq (k : Kiln) (q : Kiln.s k) (x : Field) : heat_Heats KK k x = some (heatsR k x) := by
  unfold heat_Heats heatsR
  rw [heat_CheckKiln_eq k q]
  cases h : kilnB k with
  | false => rfl
  | true =>
    simp only [Option.bind_some, cond_true, decide_true, Bool.not_true, cond_false, heat_isField_eq h]
    cases h2 : fieldB k x with
    | false => rfl
    | true => simp only [Bool.not_true, cond_false, heat_heats_eq ((fieldB_iff h x).1 h2)]; rfl
theorem R04_Heats_eq (k : Kiln) (q : Kiln.s k) (x : Field) : R04_Heats KK k x = some (heatsR k x) := by
  unfold R04_Heats heatsR
  rw [R04_CheckKiln_eq k q]
  cases h : kilnB k with
  | false => rfl
  | true =>
    have hk := kilnB_len h
    simp only [Option.bind_some, cond_true, decide_true, Bool.not_true, cond_false, R04_isField_eq h]
    cases h2 : fieldB k x with
    | false => rfl
    | true =>
      have hF := (fieldB_iff h x).1 h2
      obtain ⟨x3, g1, g2, g3⟩ := kilnB_head h
      have hP : x3.length = k.P := by unfold Kiln.P; rw [g3]
      simp only [Bool.not_true, cond_false]
      have h1 := (whl_foldN (n := k.P) (body := R04_Heats.b0 KK k x) (k := KK) (fun i s => (i, s)) (fun s p => s ++ [x.ht (k.Falls.length - 1) p]) (fun i s => s.length = i) (s0 := []) (by omega) (by unfold KK; omega) rfl ?_ ?_).1
      · rw [h1, foldl_pushN]; rfl
      · intro p s hp hI
        refine ⟨?_, by simp [hI]⟩
        unfold R04_Heats.b0
        simp only [g2, hP, lt_dec hp, cond_true, Option.bind_some, R04_heat_eq hF hp]
        rw [push_of (by omega) (by omega)]
        rfl
      · intro s _
        unfold R04_Heats.b0
        simp only [g2, hP, Option.bind_some, lt_dec_self]; rfl
def rdAg (h : Int) (r : Reading) : Bool := !((lo? r).isSome && decide (h < (lo? r).getD 0)) && !((hi? r).isSome && decide ((hi? r).getD 0 < h))
def agB (f : Firing) (x : Field) : Bool := f.Readings.all fun r => rdAg (x.ht (f.Kiln.Falls.length - 1) r.Place.toNat) r
theorem R04_agrees_eq {f : Firing} (h : f.ok) {x : Field} (hF : FieldOk f.Kiln x) : R04_agrees KK f x = some (agB f x) := by
  have hl := h.l
  unfold R04_agrees agB
  rw [whl_allL (l := f.Readings) (p := fun r => rdAg (x.ht (f.Kiln.Falls.length - 1) r.Place.toNat) r) (c := false) (by omega) (by unfold KK; omega) ?_ ?_]
  · cases f.Readings.all fun r => rdAg (x.ht (f.Kiln.Falls.length - 1) r.Place.toNat) r <;> rfl
  · intro i r hr
    have hi : i < f.Readings.length := (List.getElem?_eq_some_iff.1 hr).1
    have hro := h.r r (List.mem_of_getElem? hr)
    have hp := hro.1
    have hp2 := hro.2.1
    have hpl : ((r.Place.toNat : Nat) : Int) = r.Place := by omega
    have hb := hF.ht r.Place.toNat
    unfold R04_agrees.b0 rdAg
    have e1 := R04_heat_eq hF (p := r.Place.toNat) (by omega)
    rw [hpl] at e1
    simp only [lt_dec hi, cond_true, at_of hr, Option.bind_some, R04_Least_eq hro, e1]
    cases h1 : lo? r with
    | none =>
      have : ¬ x.ht (f.Kiln.Falls.length - 1) r.Place.toNat < -1000000 := by omega
      cases h2 : hi? r with
      | none =>
        have : ¬ (1000000 : Int) < x.ht (f.Kiln.Falls.length - 1) r.Place.toNat := by omega
        simp [*]
      | some b =>
        simp only [Option.getD_none, Option.getD_some, this, decide_false, Bool.not_false, cond_true, Option.isSome_none, Option.isSome_some, Bool.false_and, Bool.true_and]
        cases decide (b < x.ht (f.Kiln.Falls.length - 1) r.Place.toNat) <;> rfl
    | some a =>
      cases h2 : hi? r with
      | none =>
        have : ¬ (1000000 : Int) < x.ht (f.Kiln.Falls.length - 1) r.Place.toNat := by omega
        simp only [Option.getD_none, Option.getD_some, this, decide_false, Bool.not_false, cond_true, Option.isSome_none, Option.isSome_some, Bool.false_and, Bool.true_and]
        cases decide (x.ht (f.Kiln.Falls.length - 1) r.Place.toNat < a) <;> rfl
      | some b =>
        simp only [Option.getD_some, Option.isSome_some, Bool.true_and]
        cases decide (x.ht (f.Kiln.Falls.length - 1) r.Place.toNat < a) <;> cases decide (b < x.ht (f.Kiln.Falls.length - 1) r.Place.toNat) <;> rfl
  · unfold R04_agrees.b0
    rw [lt_dec_self]; rfl
def fieldCode (f : Firing) (x : Field) : Int := bif !decide (firingCode f = 0) then 42 else bif !fieldB f.Kiln x then 45 else bif agB f x then 0 else 45
theorem R04_CheckField_eq (f : Firing) (q : Firing.s f) (x : Field) : R04_CheckField KK f x = some (fieldCode f x) := by
  unfold R04_CheckField fieldCode
  rw [R04_Check_eq f q]
  simp only [Option.bind_some]
  by_cases h : firingCode f = 0
  · have hok := firing_ok h
    simp only [h, decide_true, Bool.not_true, cond_false, R04_isField_eq hok.k, Option.bind_some]
    cases h2 : fieldB f.Kiln x with
    | false => rfl
    | true =>
      simp only [cond_true, Bool.not_true, cond_false, R04_agrees_eq hok ((fieldB_iff hok.k x).1 h2), Option.bind_some]
      cases agB f x <;> rfl
  · simp only [h, decide_false, Bool.not_false, cond_true]
theorem heat_CheckField_eq (f : Firing) (q : Firing.s f) (x : Field) : heat_CheckField KK f x = some (fieldCode f x) := by
  unfold heat_CheckField fieldCode
  rw [heat_Check_eq f q]
  simp only [Option.bind_some]
  by_cases h : firingCode f = 0
  · have hok := firing_ok h
    have hl := hok.l
    simp only [h, decide_true, Bool.not_true, cond_false, heat_isField_eq hok.k, Option.bind_some]
    cases h2 : fieldB f.Kiln x with
    | false => rfl
    | true =>
      have hF := (fieldB_iff hok.k x).1 h2
      simp only [Bool.not_true, cond_false, heat_heats_eq hF, Option.bind_some]
      unfold agB
      rw [whl_allL (l := f.Readings) (p := fun r => rdAg (x.ht (f.Kiln.Falls.length - 1) r.Place.toNat) r) (c := (45 : Int)) (by omega) (by unfold KK; omega) ?_ ?_]
      · cases f.Readings.all fun r => rdAg (x.ht (f.Kiln.Falls.length - 1) r.Place.toNat) r <;> rfl
      · intro i r hr
        have hi : i < f.Readings.length := (List.getElem?_eq_some_iff.1 hr).1
        have hro := hok.r r (List.mem_of_getElem? hr)
        have hp := hro.1
        have hp2 := hro.2.1
        have hpl : ((r.Place.toNat : Nat) : Int) = r.Place := by omega
        have e1 : at? (heatsL f.Kiln x) r.Place = some (x.ht (f.Kiln.Falls.length - 1) r.Place.toNat) := by
          have := at_mapR (x.ht (f.Kiln.Falls.length - 1)) (n := f.Kiln.P) (j := r.Place.toNat) (by omega)
          rw [hpl] at this; exact this
        unfold heat_CheckField.b0 rdAg
        simp only [lt_dec hi, cond_true, at_of hr, Option.bind_some, heat_least_eq, heat_most_eq, e1]
        cases (lo? r).isSome <;> cases (hi? r).isSome <;> cases decide (x.ht (f.Kiln.Falls.length - 1) r.Place.toNat < (lo? r).getD 0) <;> cases decide ((hi? r).getD 0 < x.ht (f.Kiln.Falls.length - 1) r.Place.toNat) <;> rfl
      · unfold heat_CheckField.b0
        rw [lt_dec_self]; rfl
  · simp only [h, decide_false, Bool.not_false, cond_true]
end Go.Abs
namespace Go.Abs
open Go
set_option linter.unusedVariables false
def Firing.w (f : Firing) : Prop := f.Readings.length * 24 + 24 ≤ 140737488355328
theorem Firing.q.w {f : Firing} (q : Firing.q f) : Firing.w f := by
  have := q.2.2.1
  unfold reachBytes at this
  unfold Firing.w; omega
theorem firing_w {f : Firing} (h : f.ok) : Firing.w f := by have := h.l; unfold Firing.w; omega
def soundR (f : Firing) : Bool × Int := bif !decide (firingCode f = 0) then (false, 42) else (soundB (nf f), 0)
theorem heat_Sound_eq (f : Firing) (q : Firing.s f) : heat_Sound KK f = some (soundR f) := by
  unfold heat_Sound soundR
  rw [heat_Check_eq f q]
  simp only [Option.bind_some]
  by_cases h : firingCode f = 0
  · have hok := firing_ok h
    simp only [h, decide_true, Bool.not_true, cond_false, heat_newFurnace_eq f (firing_w hok), Option.bind_some, heat_sound_eq (nf_ok hok)]
  · simp only [h, decide_false, Bool.not_false, cond_true]
theorem R04_Sound_eq (f : Firing) (q : Firing.s f) : R04_Sound KK f = some (soundR f) := by
  unfold R04_Sound soundR
  rw [R04_Check_eq f q]
  simp only [Option.bind_some]
  by_cases h : firingCode f = 0
  · have hok := firing_ok h
    simp only [h, decide_true, Bool.not_true, cond_false, R04_IsSound_eq hok, Option.bind_some]
  · simp only [h, decide_false, Bool.not_false, cond_true]
def noFur : heat_furnace := ⟨⟨⟨[]⟩, []⟩, [], []⟩
def askCode (f : Firing) (p : Int) : Int := bif !decide (firingCode f = 0) then 42 else bif !inB p 0 ((f.Kiln.P : Int) - 1) then 43 else bif !soundB (nf f) then 44 else 0
theorem heat_asks_eq (f : Firing) (q : Firing.s f) (w : Firing.w f) (p : Int) : heat_asks KK f p = some (bif decide (askCode f p = 0) then (nf f, 0) else (noFur, askCode f p)) := by
  unfold heat_asks askCode
  rw [heat_newFurnace_eq f w, heat_Check_eq f q]
  simp only [Option.bind_some]
  by_cases h : firingCode f = 0
  · have hok := firing_ok h
    have hk := kilnB_len hok.k
    obtain ⟨x3, g1, g2, g3⟩ := kilnB_head hok.k
    have hP : x3.length = f.Kiln.P := by unfold Kiln.P; rw [g3]
    simp only [h, decide_true, Bool.not_true, cond_false, g2, Option.bind_some, heat_in_eq, hP, heat_sound_eq (nf_ok hok)]
    rw [w64_of (n := (f.Kiln.P : Int) - 1) (by omega) (by omega)]
    cases inB p 0 ((f.Kiln.P : Int) - 1) with
    | false => rfl
    | true => cases soundB (nf f) <;> rfl
  · simp only [h, decide_false, Bool.not_false, cond_true]
    rfl
def hottestR (f : Firing) : List Int × Int := bif !decide (firingCode f = 0) then ([], 42) else bif !soundB (nf f) then ([], 44) else ((List.range f.Kiln.Falls.length).map (nf f).fur.U, 0)
theorem heat_Hottest_eq (f : Firing) (q : Firing.s f) (w : Firing.w f) : heat_Hottest KK f = some (hottestR f) := by
  unfold heat_Hottest hottestR
  rw [heat_asks_eq f q w]
  simp only [Option.bind_some]
  by_cases h : firingCode f = 0
  · have hok := firing_ok h
    have hk := kilnB_len hok.k
    have hi : inB 0 0 ((f.Kiln.P : Int) - 1) = true := by simp [inB]; omega
    unfold askCode
    simp only [h, hi, decide_true, Bool.not_true, cond_false]
    cases hs : soundB (nf f) with
    | false => rfl
    | true =>
      simp only [Bool.not_true, cond_false, decide_true, cond_true, heat_greatest_eq (nf_ok hok), Option.bind_some]
      rfl
  · unfold askCode
    simp only [h, decide_false, Bool.not_false, cond_true]
    rfl
theorem R04_Hottest_eq (f : Firing) (q : Firing.s f) : R04_Hottest KK f = some (hottestR f) := by
  unfold R04_Hottest hottestR
  rw [R04_Check_eq f q]
  simp only [Option.bind_some]
  by_cases h : firingCode f = 0
  · have hok := firing_ok h
    simp only [h, decide_true, Bool.not_true, cond_false, R04_IsSound_eq hok, Option.bind_some]
    cases hs : soundB (nf f) with
    | false => rfl
    | true => simp only [Bool.not_true, cond_false, R04_hottest_eq hok, Option.bind_some]
  · simp only [h, decide_false, Bool.not_false, cond_true]
def boundR (f : Firing) (p : Int) (r : Range) : Range × Int := bif decide (askCode f p = 0) then (r, 0) else (⟨0, 0⟩, askCode f p)
def IsBound (f : Firing) (p : Int) (r : Range) : Prop := askCode f p = 0 → (∀ t, r.Lo ≤ t ↔ (nf f).fur.Low p.toNat t) ∧ ∀ t, t ≤ r.Hi ↔ (nf f).fur.High p.toNat t
theorem IsBound.one {f : Firing} {p : Int} {r s : Range} (h1 : IsBound f p r) (h2 : IsBound f p s) : boundR f p r = boundR f p s := by
  unfold boundR
  by_cases h : askCode f p = 0
  · have a := h1 h
    have b := h2 h
    rw [bound_same a.1 a.2 b.1 b.2]
  · simp only [h, decide_false, cond_false]
end Go.Abs
namespace Go.Abs
open Go
set_option linter.unusedVariables false
def ringOf (w : Want) : Reading := ⟨1, w.Place, 3, 0, w.Heat⟩
def wf (f : Firing) (l : List Want) : Firing := ⟨f.Kiln, f.Readings ++ l.map ringOf⟩
end Go.Abs
namespace Go.Abs
open Go
set_option linter.unusedVariables false
end Go.Abs
namespace Go.Abs
open Go
set_option linter.unusedVariables false
end Go.Abs
namespace Go.Abs
open Go
set_option linter.unusedVariables false
end Go.Abs
namespace Go.Abs
open Go
set_option linter.unusedVariables false
theorem Fur.High.mono {f : Fur} {q : Nat} {s t : Int} (h : f.High q t) (hst : s ≤ t) : f.High q s := by
  obtain ⟨⟨j, h1, h2⟩, h3⟩ := h
  exact ⟨⟨j, h1, by omega⟩, fun y hy e => by have := h3 y hy e; omega⟩
end Go.Abs
namespace Go.Abs
open Go
set_option linter.unusedVariables false
theorem heatFields_plain (a0 : Firing) (a1 : Field) (q0 : Firing.q a0) (q1 : Field.q a1) : L04_HeatFields KK a0 a1 = some true := by
  have hs := q0.s
  have hw := q0.w
  have hk : ∀ {f : Firing}, firingCode f = 0 → f.Kiln.Falls.length ≤ 6 ∧ f.Kiln.P ≤ 24 := fun h => by have := kilnB_len (firing_ok h).k; omega
  have h1 : R01_Same KK (heatsR a0.Kiln a1).1 (heatsR a0.Kiln a1).1 = some true := by
    refine R01_Same_refl _ ?_
    unfold heatsR
    cases hb : kilnB a0.Kiln with
    | false => simp
    | true =>
      have := kilnB_len hb
      cases fieldB a0.Kiln a1 with
      | false => simp
      | true => simp [heatsL, Go.maxLen]; omega
  have h2 : R01_Same KK (hottestR a0).1 (hottestR a0).1 = some true := by
    refine R01_Same_refl _ ?_
    unfold hottestR
    by_cases h : firingCode a0 = 0
    · have := hk h
      simp only [h, decide_true, Bool.not_true, cond_false]
      cases soundB (nf a0) with
      | false => simp
      | true => simp [Go.maxLen]; omega
    · simp [h]
  unfold L04_HeatFields
  simp only [heat_Heats_eq _ hs.1, R04_Heats_eq _ hs.1, heat_Sound_eq _ hs, R04_Sound_eq _ hs, heat_Hottest_eq _ hs hw, R04_Hottest_eq _ hs, heat_CheckField_eq _ hs, R04_CheckField_eq _ hs, Option.bind_some, h1, h2, cond_true, decide_true, sane_KK, beq_self_eq_true]
end Go.Abs
namespace Go.Proofs.YtafmgcbfmifaeaaGreat.heatFields
open Go.Abs
theorem plain (a0 : Go.Abs.Firing) (a1 : Go.Abs.Field) : Go.Abs.Firing.q a0 → Go.Abs.Field.q a1 → ∃ k, L04_HeatFields k a0 a1 = some true := by
  intro q0 q1; exact ⟨_, heatFields_plain a0 a1 q0 q1⟩
end Go.Proofs.YtafmgcbfmifaeaaGreat.heatFields
namespace Go.Proofs.YtafmgcbfmifaeaaGreat.heatFields
open Go.ChangeShapes Go.WideShapes Go.ChangeAt Go.RowKit Go.Abs
set_option maxRecDepth 100000
theorem own : ownKnob Tryz.prog.godebug = none := by kernel_rfl
theorem contract (H : Type) (enc : TypeId × Value → H) (W : World) (base : Nat) (args : Array Value) (ds gs : List (DataW H)) (before : List MemPlace)
    (hval : ∀ (j : Nat) t v, Tryz.f7.params[j]? = some t → args[j]? = some v → Value.okWide Tryz.prog W .any base t v)
    (hW : DataW.Whole enc Tryz.prog Tryz.f7.params.toList Rows.heatFieldsSpec.vars false W args.toList ds gs before) (hsz0 : (DataW.weightsEach Tryz.prog (Tryz.f7.params.toList ++ Rows.heatFieldsSpec.plain.varTypes Tryz.prog) (ds ++ gs)).all (· ≤ reachBytes) = true) :
    Calls Tryz.prog 7 args W fun e W' => ∃ v, e = .returned v ∧ Rows.heatFieldsSpec.post enc Tryz.prog Tryz.f7 false true false false W args v W' := by
  have hW' := hW
  obtain ⟨p, q, hA0, hV, rfl, hfz, hnd⟩ := hW
  have hA : DataW.TrodAll enc Tryz.prog W 0 (fun _ => true) true Tryz.f7.params.toList args.toList ds p := hA0
  rw [Tryz.params7] at hA hval
  obtain ⟨v0, vs0, d0, ds0, p0, q0, hargs, rfl, rfl, h0, r0⟩ := trodAll_cons hA
  obtain ⟨v1, vs1, d1, ds1, p1, q1, rfl, rfl, rfl, h1, r1⟩ := trodAll_cons r0
  obtain ⟨rfl, rfl, rfl⟩ := trodAll_nil r1
  have hsz : ∀ (j : Nat) t d, Tryz.f7.params.toList[j]? = some t → [d0, d1][j]? = some d → ∀ n ∈ d.weights Tryz.prog t, n ≤ reachBytes := weights_of (by rw [Tryz.params7]; rfl) hsz0
  rw [Tryz.params7] at hsz
  obtain rfl : args = #[v0, v1] := by cases args; simp_all
  obtain ⟨a0, Q0, V0⟩ := arg_agg reads_27 (by have h := hval 0 27 v0 rfl rfl; unfold Value.okWide at h; rw [Tryz.underlying27] at h; obtain ⟨cs, h, _⟩ := h; exact ⟨cs, h⟩) h0 (hsz 0 27 d0 rfl rfl)
  obtain ⟨a1, Q1, V1⟩ := arg_agg reads_40 (by have h := hval 1 40 v1 rfl rfl; unfold Value.okWide at h; rw [Tryz.underlying40] at h; obtain ⟨cs, h, _⟩ := h; exact ⟨cs, h⟩) h1 (hsz 1 40 d1 rfl rfl)
  obtain ⟨k, hk⟩ := plain a0 a1 Q0 Q1
  have hv : VRs (fmAll W) [] [.agg (Go.Abs.Firing.c a0), .agg (Go.Abs.Field.c a1)] [v0, v1] := ⟨rfl, fun i x v h1 h2 => by
    match i with
    | 0 => cases h1; cases h2; exact V0
    | 1 => cases h1; cases h2; exact V1
    | i + 2 => simp at h1⟩
  refine Calls.mono ((L04_HeatFields_ok k a0 a1 true hk).2 (fmAll W) W _ (fun _ _ _ h => h) hv) ?_
  rintro e W1 ⟨v, y, fm1, rfl, rfl, _, hvr, _, hB⟩
  cases hvr
  exact ⟨_, rfl, law_post (t := 4) (by kernel_rfl) (by kernel_rfl) (by kernel_rfl) hW' rfl hB (by rw [Tryz.params7]; decide +kernel) rfl Tryz.underlying4 (by obtain ⟨rfl, _⟩ := trodVars_none hV; rfl)⟩
theorem lifted (os : Os) (started : os.Started) (H : Type) (enc : TypeId × Value → H) :
    ReturnsInHanded {} Tryz.checked os 7 .any (Rows.heatFieldsSpec.pre6 enc Tryz.prog Tryz.f7 Rows.heatFieldsRow.domain false) (Rows.heatFieldsSpec.post enc Tryz.prog Tryz.f7 false true false false) := by
  refine returnsInHanded_of_change_sized (C := Tryz.checked) own started (by kernel_rfl) Tryz.func7
    (ChangeSpec.witness6 (enc := enc) (C := Tryz.checked) false ⟨#[], #[.agg #[.slice none 0 0, .slice none 0 0], .agg #[.slice none 0 0, .slice none 0 0]], []⟩ 8 (by kernel_rfl) (by kernel_rfl) (by kernel_rfl) (by kernel_rfl)) ?_
  intro W base args ds gs before hval0 hW hcnd hsz _
  exact contract H enc W base args ds gs before hval0 hW hsz
theorem over : Rows.heatFieldsRow.holds Tryz.pinned (OpenSpec.ofChange Rows.heatFieldsSpec) :=
  OpenClaim.holds_of_wide 7 Tryz.f7 rfl rfl rfl rfl rfl rfl rfl ⟨rfl, rfl, rfl, rfl, rfl⟩ rfl rfl rfl rfl rfl (by kernel_rfl) Tryz.func7 (by kernel_rfl)
    (of_decide_eq_true (by kernel_rfl)) (by unfold Func.isWrapper; first | (rw [if_pos (by decide +kernel)]; kernel_rfl) | (rw [if_neg (by decide +kernel)]; exact ⟨rfl, rfl⟩))
    (fun os started H enc _ => lifted os started H enc)
theorem proved : Rows.HeatFieldsSaid := over
end Go.Proofs.YtafmgcbfmifaeaaGreat.heatFields
