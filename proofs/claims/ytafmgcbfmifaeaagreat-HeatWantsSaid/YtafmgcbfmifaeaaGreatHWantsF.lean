/-
  Part 6 of the proof: a machine over named blocks, what each function computes, and what follows. No condition.
-/
import Derived.Test.YtafmgcbfmifaeaaGreatRows
import Derived.WalkKit
import Derived.ProofKit
import Derived.OpenShut
import Derived.Test.YtafmgcbfmifaeaaGreatHWantsE
set_option linter.unusedVariables false
set_option linter.unusedSimpArgs false
set_option linter.all false
set_option maxRecDepth 20000
set_option maxHeartbeats 8000000
namespace Go.Abs
open Go
set_option linter.unusedVariables false
theorem dec_lt_le (a b : Int) : decide (a < b) = !decide (b ≤ a) := by
 by_cases h : a < b
 ·rw [decide_eq_true h, decide_eq_false (by omega)]; rfl
 ·rw [decide_eq_false h, decide_eq_true (by omega)]; rfl
theorem at_mapR {α : Type} (g : Nat → α) {n j : Nat} (h : j < n) : at? ((List.range n).map g) (j : Int) = some (g j) := by
 apply at_of
 rw [List.getElem?_map, List.getElem?_range h]; rfl
theorem Fur.Lims.b_ge {f : Fur} {P : Nat} {a b : Nat → Int} (h : f.Lims P a b) {p : Nat} (hp : p < P) : -3000 ≤ b p := by
 rw [h.B p _ hp]
 exact ⟨by omega, fun y hy _ => (h.sm.2 y hy).2.1⟩
theorem Fur.Lims.a_le {f : Fur} {P : Nat} {a b : Nat → Int} (h : f.Lims P a b) {p : Nat} (hp : p < P) : a p ≤ 3000 := by
 rw [h.A p _ hp]
 exact ⟨by omega, fun y hy _ => (h.sm.1 y hy).2.2⟩
theorem R04_hottest_eq {f : Firing} (h : f.ok) : R04_hottest KK f = some ((List.range f.Kiln.Falls.length).map (nf f).fur.U) := by
 have hk := kilnB_len h.k
 obtain ⟨l, e1, e2, e3⟩ := R04_limits_eq h
 unfold R04_hottest
 rw [e1]
 simp only [Option.bind_some]
 have h1 := (whl_foldN (n := f.Kiln.Falls.length) (body := R04_hottest.b0 KK f l) (k := KK) (fun i s => (i, s)) (fun s j => s ++ [(nf f).fur.U j]) (fun i s => s.length = i) (s0 := []) (by omega) (by unfold KK; omega) rfl ?_ ?_).1
 ·rw [h1, foldl_pushN]; rfl
 ·intro j s hj hI
  refine ⟨?_, by simp [hI]⟩
  unfold R04_hottest.b0
  simp only [lt_dec hj, cond_true]
  obtain ⟨h2, h3⟩ := whl_foldN (n := l.length) (body := R04_hottest.b1 KK f l (j : Int)) (k := KK) (fun i s => (s, i)) (fun s p => bif decide ((l.getD p R0).Hi < 1000000) then min s ((l.getD p R0).Hi + (nf f).fur.hi j p) else s)
   (fun i s => ∀ t, t ≤ s ↔ t ≤ 3000 ∧ ∀ p, p < i → (l.getD p R0).Hi < 1000000 → t ≤ (l.getD p R0).Hi + (nf f).fur.hi j p) (s0 := 3000) (by omega) (by unfold KK; omega) (by intro t; simp) (fun p s hp hI2 => by
    have g1 := kilnB_at h.k j p
    have g2 : -3000 ≤ (l.getD p R0).Hi := e3.b_ge (show p < f.Kiln.P by omega)
    have g3 : (nf f).fur.hi j p = (f.Kiln.at j p).Hi := rfl
    refine ⟨?_, fun t => ?_⟩
    ·unfold R04_hottest.b1
     simp only [lt_dec hp, cond_true, at_nat R0 hp, Option.bind_some, at_row h.k hj, at_cellN h.k hj (show p < f.Kiln.P by omega)]
     by_cases hc : (l.getD p R0).Hi < 1000000
     ·simp only [hc, decide_true, cond_true, g3]
      rw [w64_of (n := (l.getD p R0).Hi + (f.Kiln.at j p).Hi) (by omega) (by omega)]
     ·simp only [hc, decide_false, cond_false]
    ·by_cases hc : (l.getD p R0).Hi < 1000000
     ·simp only [hc, decide_true, cond_true]
      rw [Int.le_min, hI2 t]
      constructor
      ·rintro ⟨⟨k1, k2⟩, k3⟩
       refine ⟨k1, fun q hq hb => ?_⟩
       by_cases hqp : q = p
       ·subst hqp; exact k3
       ·exact k2 q (by omega) hb
      ·rintro ⟨k1, k2⟩
       exact ⟨⟨k1, fun q hq hb => k2 q (by omega) hb⟩, k2 p (by omega) hc⟩
     ·simp only [hc, decide_false, cond_false]
      rw [hI2 t]
      constructor
      ·rintro ⟨k1, k2⟩
       refine ⟨k1, fun q hq hb => ?_⟩
       by_cases hqp : q = p
       ·subst hqp; exact absurd hb hc
       ·exact k2 q (by omega) hb
      ·rintro ⟨k1, k2⟩
       exact ⟨k1, fun q hq hb => k2 q (by omega) hb⟩) (fun s _ => by
    unfold R04_hottest.b1
    simp only [lt_dec_self]; rfl)
  rw [h2]
  have : (List.range l.length).foldl (fun s p => bif decide ((l.getD p R0).Hi < 1000000) then min s ((l.getD p R0).Hi + (nf f).fur.hi j p) else s) 3000 = (nf f).fur.U j := by
   refine eq_of_le_iff fun t => ?_
   rw [h3 t, e3.U_iff j t, e2]
  rw [this]
  simp only [Option.bind_some]
  rw [push_of (by omega) (by omega)]
  rfl
 ·intro s _
  unfold R04_hottest.b0
  simp only [lt_dec_self]; rfl
theorem R04_reaches_eq {f : Firing} (h : f.ok) {j : Nat} (hj : j < f.Kiln.Falls.length) {p : Nat} (hp : p < f.Kiln.P) (n : Int) (hn : -1000000 ≤ n ∧ n ≤ 1000000) :
  R04_reaches KK f ((List.range f.Kiln.Falls.length).map (nf f).fur.U) (j : Int) (p : Int) n = some (decide (n + (nf f).fur.lo j p ≤ (nf f).fur.U j)) := by
 have g1 := kilnB_at h.k j p
 unfold R04_reaches
 simp only [at_row h.k hj, at_cellN h.k hj hp, Option.bind_some, at_mapR _ hj]
 rw [w64_of (n := n + (f.Kiln.at j p).Lo) (by omega) (by omega)]
 rfl
theorem R04_IsSound_eq {f : Firing} (h : f.ok) : R04_IsSound KK f = some (soundB (nf f)) := by
 have hk := kilnB_len h.k
 obtain ⟨l, e1, e2, e3⟩ := R04_limits_eq h
 have hm : (nf f).fur.m = f.Kiln.Falls.length - 1 := rfl
 unfold R04_IsSound
 rw [e1, R04_hottest_eq h]
 simp only [Option.bind_some]
 have hl : ((List.range f.Kiln.Falls.length).map (nf f).fur.U).length = f.Kiln.Falls.length := by simp
 rw [whl_allN (n := f.Kiln.Falls.length) (p := fun j => !decide ((nf f).fur.U j < 0)) (c := false) (by omega) (by unfold KK; omega) (fun j hj => by
  unfold R04_IsSound.b0
  rw [hl]
  simp only [lt_dec hj, cond_true, at_mapR _ hj, Option.bind_some]
  cases decide ((nf f).fur.U j < 0) <;> rfl) (by
  unfold R04_IsSound.b0
  rw [hl, lt_dec_self]; rfl)]
 have hb : ∀ p, p < f.Kiln.P → ∀ c : Int, -1000000 ≤ c ∧ c ≤ 1000000 → whl (R04_IsSound.b2 KK f ((List.range f.Kiln.Falls.length).map (nf f).fur.U) (p : Int) ⟨c, (l.getD p R0).Hi⟩) KK (decide (c = (-1000000 : Int)), 0) = some (.brk (decide (c = (-1000000 : Int)) || (List.range f.Kiln.Falls.length).any fun j => decide (c + (nf f).fur.lo j p ≤ (nf f).fur.U j))) := by
  intro p hp c hc
  have h1 := (whl_foldN (n := f.Kiln.Falls.length) (body := R04_IsSound.b2 KK f ((List.range f.Kiln.Falls.length).map (nf f).fur.U) (p : Int) ⟨c, (l.getD p R0).Hi⟩) (k := KK) (fun i s => (s, i)) (fun s j => s || decide (c + (nf f).fur.lo j p ≤ (nf f).fur.U j)) (fun _ _ => True) (s0 := decide (c = (-1000000 : Int))) (by omega) (by unfold KK; omega) trivial (fun j s hj _ => by
   refine ⟨?_, trivial⟩
   unfold R04_IsSound.b2
   simp only [hl, lt_dec hj, cond_true]
   cases s with
   | true => rfl
   | false =>
    simp only [Bool.not_false, cond_true, R04_reaches_eq h hj hp c hc, Option.bind_some, Bool.false_or]) (fun s _ => by
   unfold R04_IsSound.b2
   simp only [hl, lt_dec_self]; rfl)).1
  rw [h1]
  have : ∀ (m : List Nat) (s : Bool), m.foldl (fun s j => s || decide (c + (nf f).fur.lo j p ≤ (nf f).fur.U j)) s = (s || m.any fun j => decide (c + (nf f).fur.lo j p ≤ (nf f).fur.U j)) := by
   intro m
   induction m with
   | nil => simp
   | cons j m ih => intro s; rw [List.foldl_cons, ih, List.any_cons, Bool.or_assoc]
  rw [this]
 have hs2 : whl (R04_IsSound.b1 KK f l ((List.range f.Kiln.Falls.length).map (nf f).fur.U)) KK 0 = some (bif (List.range l.length).all (fun p => decide ((l.getD p R0).Lo ≤ (l.getD p R0).Hi) && (decide ((l.getD p R0).Lo = (-1000000 : Int)) || (List.range f.Kiln.Falls.length).any fun j => decide ((l.getD p R0).Lo + (nf f).fur.lo j p ≤ (nf f).fur.U j))) then .brk () else .ret false) := by
  refine whl_allN (n := l.length) (by omega) (by unfold KK; omega) (fun p hp => ?_) ?_
  ·unfold R04_IsSound.b1
   have g1 := e3.a_ge (show p < f.Kiln.P by omega)
   have g2 := e3.a_le (show p < f.Kiln.P by omega)
   have g3 := hb p (by omega) (l.getD p R0).Lo ⟨g1, by omega⟩
   have g4 : (⟨(l.getD p R0).Lo, (l.getD p R0).Hi⟩ : Range) = l.getD p R0 := rfl
   rw [g4] at g3
   simp only [lt_dec hp, cond_true, at_nat R0 hp, Option.bind_some, g3]
   have : decide ((l.getD p R0).Hi < (l.getD p R0).Lo) = !decide ((l.getD p R0).Lo ≤ (l.getD p R0).Hi) := dec_lt_le _ _
   rw [this]
   cases decide ((l.getD p R0).Lo ≤ (l.getD p R0).Hi) <;> cases (decide ((l.getD p R0).Lo = (-1000000 : Int)) || (List.range f.Kiln.Falls.length).any fun j => decide ((l.getD p R0).Lo + (nf f).fur.lo j p ≤ (nf f).fur.U j)) <;> rfl
  ·unfold R04_IsSound.b1
   rw [lt_dec_self]; rfl
 have hfin : soundB (nf f) = ((List.range f.Kiln.Falls.length).all (fun j => !decide ((nf f).fur.U j < 0)) && (List.range l.length).all (fun p => decide ((l.getD p R0).Lo ≤ (l.getD p R0).Hi) && (decide ((l.getD p R0).Lo = (-1000000 : Int)) || (List.range f.Kiln.Falls.length).any fun j => decide ((l.getD p R0).Lo + (nf f).fur.lo j p ≤ (nf f).fur.U j)))) := by
  rw [Bool.eq_iff_iff, soundB_iff (nf_ok h), e3.sound_iff, Bool.and_eq_true, List.all_eq_true, List.all_eq_true]
  constructor
  ·rintro ⟨k1, k2⟩
   refine ⟨fun j hj => ?_, fun p hp => ?_⟩
   ·simp only [List.mem_range] at hj
    have := k1 j (by omega)
    simp; omega
   ·simp only [List.mem_range] at hp
    obtain ⟨k3, k4⟩ := k2 p (by omega)
    simp only [Bool.and_eq_true, Bool.or_eq_true, decide_eq_true_eq, List.any_eq_true, List.mem_range]
    refine ⟨k3, ?_⟩
    rcases k4 with k4 | ⟨j, k4, k5⟩
    ·exact .inl k4
    ·exact .inr ⟨j, by omega, k5⟩
  ·rintro ⟨k1, k2⟩
   refine ⟨fun j hj => ?_, fun p hp => ?_⟩
   ·have := k1 j (by simp only [List.mem_range]; omega)
    simp at this; omega
   ·have := k2 p (by simp only [List.mem_range]; omega)
    simp only [Bool.and_eq_true, Bool.or_eq_true, decide_eq_true_eq, List.any_eq_true, List.mem_range] at this
    obtain ⟨k3, k4⟩ := this
    refine ⟨k3, ?_⟩
    rcases k4 with k4 | ⟨j, k4, k5⟩
    ·exact .inl k4
    ·exact .inr ⟨j, by omega, k5⟩
 rw [hfin, hs2]
 cases (List.range f.Kiln.Falls.length).all (fun j => !decide ((nf f).fur.U j < 0)) with
 | false => rfl
 | true =>
  simp only [cond_true, Option.bind_some, Bool.true_and]
  cases (List.range l.length).all (fun p => decide ((l.getD p R0).Lo ≤ (l.getD p R0).Hi) && (decide ((l.getD p R0).Lo = (-1000000 : Int)) || (List.range f.Kiln.Falls.length).any fun j => decide ((l.getD p R0).Lo + (nf f).fur.lo j p ≤ (nf f).fur.U j))) <;> rfl
theorem R04_bound_eq {f : Firing} (h : f.ok) (hs : (nf f).fur.Sound) {q : Nat} (hq : q < f.Kiln.P) : ∃ r, R04_bound KK f (q : Int) = some r ∧ (∀ t, r.Lo ≤ t ↔ (nf f).fur.Low q t) ∧ ∀ t, t ≤ r.Hi ↔ (nf f).fur.High q t := by
 have hk := kilnB_len h.k
 obtain ⟨l, e1, e2, e3⟩ := R04_limits_eq h
 have hm : (nf f).fur.m = f.Kiln.Falls.length - 1 := rfl
 have hl : ((List.range f.Kiln.Falls.length).map (nf f).fur.U).length = f.Kiln.Falls.length := by simp
 unfold R04_bound
 rw [e1, R04_hottest_eq h]
 simp only [Option.bind_some]
 rw [at_nat R0 (show q < l.length by omega)]
 simp only [Option.bind_some]
 obtain ⟨h1, h2⟩ := whl_foldN (n := f.Kiln.Falls.length) (body := R04_bound.b0 KK f (q : Int) ((List.range f.Kiln.Falls.length).map (nf f).fur.U)) (k := KK) (fun i s => (s, i))
  (fun s j => (⟨max s.Lo (0 - (nf f).fur.hi j q), max s.Hi ((nf f).fur.U j - (nf f).fur.lo j q)⟩ : Range))
  (fun i s => (∀ t, s.Lo ≤ t ↔ (l.getD q R0).Lo ≤ t ∧ ∀ j, j < i → -(nf f).fur.hi j q ≤ t) ∧ ∀ t, t ≤ s.Hi ↔ t ≤ -1000000 ∨ ∃ j, j < i ∧ t + (nf f).fur.lo j q ≤ (nf f).fur.U j)
  (s0 := ⟨(l.getD q R0).Lo, -1000000⟩) (by omega) (by unfold KK; omega) ⟨by intro t; simp, by intro t; simp⟩ (fun j s hj hI => by
   have g1 := kilnB_at h.k j q
   have g2 := U_ge (nf_ok h) j
   have g3 : (nf f).fur.hi j q = (f.Kiln.at j q).Hi := rfl
   have g4 : (nf f).fur.lo j q = (f.Kiln.at j q).Lo := rfl
   refine ⟨?_, fun t => ?_, fun t => ?_⟩
   ·unfold R04_bound.b0
    simp only [lt_dec hj, cond_true, at_row h.k hj, at_cellN h.k hj hq, Option.bind_some, at_mapR _ hj, g3, g4]
    rw [w64_of (n := 0 - (f.Kiln.at j q).Hi) (by omega) (by omega), w64_of (n := (nf f).fur.U j - (f.Kiln.at j q).Lo) (by omega) (by omega)]
   ·show max _ _ ≤ t ↔ _
    rw [Int.max_le, hI.1 t]
    constructor
    ·rintro ⟨⟨k1, k2⟩, k3⟩
     refine ⟨k1, fun i hi => ?_⟩
     by_cases hij : i = j
     ·subst hij; omega
     ·exact k2 i (by omega)
    ·rintro ⟨k1, k2⟩
     exact ⟨⟨k1, fun i hi => k2 i (by omega)⟩, by have := k2 j (by omega); omega⟩
   ·show t ≤ max _ _ ↔ _
    rw [show ∀ a b : Int, t ≤ max a b ↔ t ≤ a ∨ t ≤ b by intro a b; omega, hI.2 t]
    constructor
    ·rintro ((k1 | ⟨i, k1, k2⟩) | k1)
     ·exact .inl k1
     ·exact .inr ⟨i, by omega, k2⟩
     ·exact .inr ⟨j, by omega, by omega⟩
    ·rintro (k1 | ⟨i, k1, k2⟩)
     ·exact .inl (.inl k1)
     ·by_cases hij : i = j
      ·subst hij; exact .inr (by omega)
      ·exact .inl (.inr ⟨i, by omega, k2⟩)) (fun s _ => by
   unfold R04_bound.b0
   simp only [lt_dec_self]; rfl)
 rw [h1]
 simp only [Option.bind_some]
 generalize (List.range f.Kiln.Falls.length).foldl (fun s j => (⟨max s.Lo (0 - (nf f).fur.hi j q), max s.Hi ((nf f).fur.U j - (nf f).fur.lo j q)⟩ : Range)) ⟨(l.getD q R0).Lo, -1000000⟩ = r0 at h2
 have hin : ∀ p, p < f.Kiln.P → ∃ v, whl (R04_bound.b2 KK f (q : Int) ((List.range f.Kiln.Falls.length).map (nf f).fur.U) (p : Int) (l.getD p R0)) KK (1000000, 0) = some (.brk v) ∧ ∀ t, v ≤ t ↔ 1000000 ≤ t ∨ ∃ j, j < f.Kiln.Falls.length ∧ (l.getD p R0).Lo + (nf f).fur.lo j p ≤ (nf f).fur.U j ∧ (l.getD p R0).Lo + (nf f).fur.lo j p - (nf f).fur.hi j q ≤ t := by
  intro p hp
  have a1 : -1000000 ≤ (l.getD p R0).Lo := e3.a_ge hp
  have a2 : (l.getD p R0).Lo ≤ 3000 := e3.a_le hp
  obtain ⟨k1, k2⟩ := whl_foldN (n := f.Kiln.Falls.length) (body := R04_bound.b2 KK f (q : Int) ((List.range f.Kiln.Falls.length).map (nf f).fur.U) (p : Int) (l.getD p R0)) (k := KK) (fun i s => (s, i))
   (fun s j => bif decide ((l.getD p R0).Lo + (nf f).fur.lo j p ≤ (nf f).fur.U j) then min s ((l.getD p R0).Lo + (nf f).fur.lo j p - (nf f).fur.hi j q) else s)
   (fun i s => ∀ t, s ≤ t ↔ 1000000 ≤ t ∨ ∃ j, j < i ∧ (l.getD p R0).Lo + (nf f).fur.lo j p ≤ (nf f).fur.U j ∧ (l.getD p R0).Lo + (nf f).fur.lo j p - (nf f).fur.hi j q ≤ t) (s0 := 1000000) (by omega) (by unfold KK; omega) (by intro t; simp) (fun j s hj hI => by
    have g1 := kilnB_at h.k j q
    have g2 := kilnB_at h.k j p
    have g3 : (nf f).fur.hi j q = (f.Kiln.at j q).Hi := rfl
    have g4 : (nf f).fur.lo j p = (f.Kiln.at j p).Lo := rfl
    refine ⟨?_, fun t => ?_⟩
    ·unfold R04_bound.b2
     simp only [lt_dec hj, cond_true, R04_reaches_eq h hj hp (l.getD p R0).Lo ⟨a1, by omega⟩, Option.bind_some, at_row h.k hj, at_cellN h.k hj hp, at_cellN h.k hj hq]
     cases decide ((l.getD p R0).Lo + (nf f).fur.lo j p ≤ (nf f).fur.U j) with
     | false => rfl
     | true =>
      simp only [cond_true, g3, g4]
      rw [w64_of (n := (l.getD p R0).Lo + (f.Kiln.at j p).Lo) (by omega) (by omega), w64_of (n := (l.getD p R0).Lo + (f.Kiln.at j p).Lo - (f.Kiln.at j q).Hi) (by omega) (by omega)]
    ·by_cases hc : (l.getD p R0).Lo + (nf f).fur.lo j p ≤ (nf f).fur.U j
     ·simp only [hc, decide_true, cond_true]
      rw [show ∀ a b : Int, min a b ≤ t ↔ a ≤ t ∨ b ≤ t by intro a b; omega, hI t]
      constructor
      ·rintro ((k1 | ⟨i, k1, k2⟩) | k1)
       ·exact .inl k1
       ·exact .inr ⟨i, by omega, k2⟩
       ·exact .inr ⟨j, by omega, hc, k1⟩
      ·rintro (k1 | ⟨i, k1, k2, k3⟩)
       ·exact .inl (.inl k1)
       ·by_cases hij : i = j
        ·subst hij; exact .inr k3
        ·exact .inl (.inr ⟨i, by omega, k2, k3⟩)
     ·simp only [hc, decide_false, cond_false]
      rw [hI t]
      constructor
      ·rintro (k1 | ⟨i, k1, k2⟩)
       ·exact .inl k1
       ·exact .inr ⟨i, by omega, k2⟩
      ·rintro (k1 | ⟨i, k1, k2, k3⟩)
       ·exact .inl k1
       ·by_cases hij : i = j
        ·subst hij; exact absurd k2 hc
        ·exact .inr ⟨i, by omega, k2, k3⟩) (fun s _ => by
    unfold R04_bound.b2
    simp only [lt_dec_self]; rfl)
  exact ⟨_, k1, k2⟩
 have hpl : ∀ p, p < f.Kiln.P → ∀ s : Range, ∃ s', R04_bound.b1 KK f (q : Int) l ((List.range f.Kiln.Falls.length).map (nf f).fur.U) (s, (p : Int)) = some (.next (s', w64 ((p : Int) + 1))) ∧ s'.Hi = s.Hi ∧ ∀ t, s'.Lo ≤ t ↔ s.Lo ≤ t ∧ (p ≠ q → (l.getD p R0).Lo ≠ -1000000 → 1000000 ≤ t ∨ ∃ j, j < f.Kiln.Falls.length ∧ (l.getD p R0).Lo + (nf f).fur.lo j p ≤ (nf f).fur.U j ∧ (l.getD p R0).Lo + (nf f).fur.lo j p - (nf f).fur.hi j q ≤ t) := by
  intro p hp s
  unfold R04_bound.b1
  simp only [lt_dec (show p < l.length by omega), cond_true]
  by_cases hpq : p = q
  ·subst hpq
   simp only [decide_true, Bool.not_true, cond_false]
   exact ⟨s, rfl, rfl, fun t => ⟨fun k => ⟨k, fun k2 => absurd rfl k2⟩, fun k => k.1⟩⟩
  ·have : ¬ ((p : Int) = (q : Int)) := by omega
   simp only [this, decide_false, Bool.not_false, cond_true, at_nat R0 (show p < l.length by omega), Option.bind_some]
   by_cases hn : (l.getD p R0).Lo = -1000000
   ·simp only [hn, decide_true, cond_true]
    exact ⟨s, rfl, rfl, fun t => ⟨fun k => ⟨k, fun _ k2 => absurd rfl k2⟩, fun k => k.1⟩⟩
   ·simp only [hn, decide_false, cond_false]
    obtain ⟨v, hv1, hv2⟩ := hin p hp
    rw [hv1]
    simp only [Option.bind_some]
    refine ⟨⟨max s.Lo v, s.Hi⟩, rfl, rfl, fun t => ?_⟩
    show max _ _ ≤ t ↔ _
    rw [Int.max_le, hv2 t]
    constructor
    ·exact fun k => ⟨k.1, fun _ _ => k.2⟩
    ·exact fun k => ⟨k.1, k.2 hpq hn⟩
 have hw := whl_ok (body := R04_bound.b1 KK f (q : Int) l ((List.range f.Kiln.Falls.length).map (nf f).fur.U))
  (fun t => ∃ (i : Nat) (s : Range), t = (s, (i : Int)) ∧ i ≤ l.length ∧ s.Hi = min r0.Hi (l.getD q R0).Hi ∧ ∀ t, s.Lo ≤ t ↔ r0.Lo ≤ t ∧ ∀ p, p < i → p ≠ q → (l.getD p R0).Lo ≠ -1000000 → 1000000 ≤ t ∨ ∃ j, j < f.Kiln.Falls.length ∧ (l.getD p R0).Lo + (nf f).fur.lo j p ≤ (nf f).fur.U j ∧ (l.getD p R0).Lo + (nf f).fur.lo j p - (nf f).fur.hi j q ≤ t)
  (fun r => ∃ s : Range, r = .brk s ∧ s.Hi = min r0.Hi (l.getD q R0).Hi ∧ ∀ t, s.Lo ≤ t ↔ r0.Lo ≤ t ∧ ∀ p, p < l.length → p ≠ q → (l.getD p R0).Lo ≠ -1000000 → 1000000 ≤ t ∨ ∃ j, j < f.Kiln.Falls.length ∧ (l.getD p R0).Lo + (nf f).fur.lo j p ≤ (nf f).fur.U j ∧ (l.getD p R0).Lo + (nf f).fur.lo j p - (nf f).fur.hi j q ≤ t)
  (fun t => l.length - t.2.toNat) ?_ KK ((⟨r0.Lo, min r0.Hi (l.getD q R0).Hi⟩ : Range), 0) ⟨0, _, rfl, Nat.zero_le _, rfl, fun t => by simp⟩ (by unfold KK; omega)
 ·obtain ⟨r, k1, ⟨s, k2, k3, k4⟩, _⟩ := hw
  rw [k1, k2]
  refine ⟨s, rfl, fun t => ?_, fun t => ?_⟩
  ·rw [k4, h2.1, e3.low_iff hs hq t]
   constructor
   ·rintro ⟨⟨m1, m2⟩, m3⟩
    refine ⟨fun j hj => m2 j (by omega), m1, fun p hp hpq hn => ?_⟩
    rcases m3 p (by omega) hpq hn with m4 | ⟨j, m4, m5⟩
    ·exact .inl m4
    ·exact .inr ⟨j, by omega, m5⟩
   ·rintro ⟨m1, m2, m3⟩
    refine ⟨⟨m2, fun j hj => m1 j (by omega)⟩, fun p hp hpq hn => ?_⟩
    rcases m3 p (by omega) hpq hn with m4 | ⟨j, m4, m5⟩
    ·exact .inl m4
    ·exact .inr ⟨j, by omega, m5⟩
  ·rw [k3, Int.le_min, h2.2, e3.high_iff hq t]
   constructor
   ·rintro ⟨m1 | ⟨j, m1, m2⟩, m3⟩
    ·refine ⟨⟨0, Nat.zero_le _, ?_⟩, m3⟩
     have a1 := hs.1 0 (Nat.zero_le _)
     have a2 := kilnB_at h.k 0 q
     have a3 : (nf f).fur.lo 0 q = (f.Kiln.at 0 q).Lo := rfl
     omega
    ·exact ⟨⟨j, by omega, m2⟩, m3⟩
   ·rintro ⟨⟨j, m1, m2⟩, m3⟩
    exact ⟨.inr ⟨j, by omega, m2⟩, m3⟩
 ·rintro t ⟨i, s, rfl, g1, g2, g3⟩
  by_cases hi : i = l.length
  ·right; left
   refine ⟨s, ?_, s, rfl, g2, fun t => by rw [g3 t, hi]⟩
   unfold R04_bound.b1
   simp only [hi, lt_dec_self]; rfl
  ·left
   obtain ⟨s', k1, k2, k3⟩ := hpl i (by omega) s
   rw [w64_succ (n := l.length) (by omega) (by omega)] at k1
   refine ⟨_, k1, ⟨i + 1, s', rfl, by omega, by rw [k2, g2], fun t => ?_⟩, by simp only [Int.toNat_natCast]; omega⟩
   rw [k3 t, g3 t]
   constructor
   ·rintro ⟨⟨m1, m2⟩, m3⟩
    refine ⟨m1, fun p hp hpq hn => ?_⟩
    by_cases hpi : p = i
    ·subst hpi; exact m3 hpq hn
    ·exact m2 p (by omega) hpq hn
   ·rintro ⟨m1, m2⟩
    exact ⟨⟨m1, fun p hp => m2 p (by omega)⟩, m2 i (by omega)⟩
end Go.Abs
namespace Go.Abs
open Go
set_option linter.unusedVariables false
def shownP (x : heat_furnace) (y : heat_limit) (q : Nat) (n : Int) : Prop :=
 (∃ j, j < x.Firing.Kiln.Falls.length ∧ y.heat + x.fur.lo j y.place.toNat ≤ x.fur.U j) ∧ ∀ t, n ≤ t ↔ ∃ j, j < x.Firing.Kiln.Falls.length ∧ y.heat + x.fur.lo j y.place.toNat ≤ x.fur.U j ∧ y.heat + x.fur.lo j y.place.toNat - x.fur.hi j q ≤ t
theorem heat_shownLow_eq {x : heat_furnace} (h : x.ok) {y : heat_limit} (hy : limOk x.Firing.Kiln.P y) {q : Nat} (hq : q < x.Firing.Kiln.P) :
  ∃ r, heat_furnace_shownLow KK x y (q : Int) = some r ∧ (r.2 = true ↔ ∃ j, j < x.Firing.Kiln.Falls.length ∧ y.heat + x.fur.lo j y.place.toNat ≤ x.fur.U j) ∧ (r.2 = true → shownP x y q r.1) := by
 have hk := kilnB_len h.k
 obtain ⟨y1, y2, y3, y4⟩ := hy
 unfold heat_furnace_shownLow
 obtain ⟨h1, h2⟩ := whl_foldN (n := x.Firing.Kiln.Falls.length) (body := heat_furnace_shownLow.b0 KK x y (q : Int)) (k := KK) (fun i (s : Int × Bool) => (s.1, s.2, i))
  (fun s j => bif decide (y.heat + x.fur.lo j y.place.toNat ≤ x.fur.U j) then (bif s.2 then (bif decide (y.heat + x.fur.lo j y.place.toNat - x.fur.hi j q < s.1) then (y.heat + x.fur.lo j y.place.toNat - x.fur.hi j q, true) else s) else (y.heat + x.fur.lo j y.place.toNat - x.fur.hi j q, true)) else s)
  (fun i s => (s.2 = true ↔ ∃ j, j < i ∧ y.heat + x.fur.lo j y.place.toNat ≤ x.fur.U j) ∧ (s.2 = true → ∀ t, s.1 ≤ t ↔ ∃ j, j < i ∧ y.heat + x.fur.lo j y.place.toNat ≤ x.fur.U j ∧ y.heat + x.fur.lo j y.place.toNat - x.fur.hi j q ≤ t)) (s0 := (0, false)) (by omega) (by unfold KK; omega) ⟨by simp, by simp⟩ (fun j s hj hI => by
   have g1 := kilnB_at h.k j q
   have g2 := kilnB_at h.k j y.place.toNat
   have g3 : x.fur.hi j q = (x.Firing.Kiln.at j q).Hi := rfl
   have g4 : x.fur.lo j y.place.toNat = (x.Firing.Kiln.at j y.place.toNat).Lo := rfl
   obtain ⟨s1, s2⟩ := s
   obtain ⟨I1, I2⟩ := hI
   simp only at I1 I2
   refine ⟨?_, ?_⟩
   ·unfold heat_furnace_shownLow.b0
    simp only [lt_dec hj, cond_true, at_row h.k hj, at_cell h.k hj y1 y2, at_cellN h.k hj hq, heat_hottest_eq h hj, hot_U, Option.bind_some, g3, g4]
    rw [w64_of (n := y.heat + (x.Firing.Kiln.at j y.place.toNat).Lo) (by omega) (by omega), w64_of (n := y.heat + (x.Firing.Kiln.at j y.place.toNat).Lo - (x.Firing.Kiln.at j q).Hi) (by omega) (by omega)]
    cases decide (y.heat + (x.Firing.Kiln.at j y.place.toNat).Lo ≤ x.fur.U j) <;> cases s2 <;> cases decide (y.heat + (x.Firing.Kiln.at j y.place.toNat).Lo - (x.Firing.Kiln.at j q).Hi < s1) <;> rfl
   ·by_cases hc : y.heat + x.fur.lo j y.place.toNat ≤ x.fur.U j
    ·simp only [hc, decide_true, cond_true]
     cases s2 with
     | false =>
      simp only [cond_false]
      refine ⟨⟨fun _ => ⟨j, by omega, hc⟩, fun _ => trivial⟩, fun _ t => ⟨fun k => ⟨j, by omega, hc, k⟩, ?_⟩⟩
      rintro ⟨i, k1, k2, k3⟩
      by_cases hij : i = j
      ·subst hij; exact k3
      ·have := I1.2 ⟨i, by omega, k2⟩; cases this
     | true =>
      have I3 := I2 rfl
      simp only [cond_true]
      by_cases hd : y.heat + x.fur.lo j y.place.toNat - x.fur.hi j q < s1
      ·simp only [hd, decide_true, cond_true]
       refine ⟨⟨fun _ => ⟨j, by omega, hc⟩, fun _ => trivial⟩, fun _ t => ⟨fun k => ⟨j, by omega, hc, k⟩, ?_⟩⟩
       rintro ⟨i, k1, k2, k3⟩
       by_cases hij : i = j
       ·subst hij; exact k3
       ·have := (I3 t).2 ⟨i, by omega, k2, k3⟩
        omega
      ·simp only [hd, decide_false, cond_false]
       refine ⟨⟨fun _ => ⟨j, by omega, hc⟩, fun _ => trivial⟩, fun _ t => ⟨fun k => ?_, ?_⟩⟩
       ·obtain ⟨i, k1, k2⟩ := (I3 t).1 k
        exact ⟨i, by omega, k2⟩
       ·rintro ⟨i, k1, k2, k3⟩
        by_cases hij : i = j
        ·subst hij; omega
        ·exact (I3 t).2 ⟨i, by omega, k2, k3⟩
    ·simp only [hc, decide_false, cond_false]
     refine ⟨?_, fun k t => ?_⟩
     ·rw [I1]
      constructor
      ·rintro ⟨i, k1, k2⟩; exact ⟨i, by omega, k2⟩
      ·rintro ⟨i, k1, k2⟩
       by_cases hij : i = j
       ·subst hij; exact absurd k2 hc
       ·exact ⟨i, by omega, k2⟩
     ·rw [I2 k t]
      constructor
      ·rintro ⟨i, k1, k2⟩; exact ⟨i, by omega, k2⟩
      ·rintro ⟨i, k1, k2, k3⟩
       by_cases hij : i = j
       ·subst hij; exact absurd k2 hc
       ·exact ⟨i, by omega, k2, k3⟩) (fun s _ => by
   unfold heat_furnace_shownLow.b0
   simp only [lt_dec_self]; rfl)
 rw [h1]
 exact ⟨_, rfl, h2.1, fun k => ⟨h2.1.1 k, h2.2 k⟩⟩
def cannotL (x : heat_furnace) (y : heat_limit) : List Int := (List.range x.Firing.Kiln.Falls.length).map fun j => bif decide (y.heat + x.fur.lo j y.place.toNat ≤ x.fur.U j) then -1 else bif decide (3000 < y.heat + x.fur.lo j y.place.toNat) then -2 else (hot x j).2
theorem heat_cannot_eq {x : heat_furnace} (h : x.ok) {y : heat_limit} (hy : limOk x.Firing.Kiln.P y) : heat_furnace_cannot KK x y = some (cannotL x y) := by
 have hk := kilnB_len h.k
 obtain ⟨y1, y2, y3, y4⟩ := hy
 unfold heat_furnace_cannot
 have h1 := (whl_foldN (n := x.Firing.Kiln.Falls.length) (body := heat_furnace_cannot.b0 KK x y) (k := KK) (fun i s => (i, s)) (fun s j => s ++ [bif decide (y.heat + x.fur.lo j y.place.toNat ≤ x.fur.U j) then -1 else bif decide (3000 < y.heat + x.fur.lo j y.place.toNat) then -2 else (hot x j).2]) (fun i s => s.length = i) (s0 := []) (by omega) (by unfold KK; omega) rfl ?_ ?_).1
 ·rw [h1, foldl_pushN]; rfl
 ·intro j s hj hI
  refine ⟨?_, by simp [hI]⟩
  have g2 := kilnB_at h.k j y.place.toNat
  have g4 : x.fur.lo j y.place.toNat = (x.Firing.Kiln.at j y.place.toNat).Lo := rfl
  unfold heat_furnace_cannot.b0
  simp only [lt_dec hj, cond_true, at_row h.k hj, at_cell h.k hj y1 y2, heat_hottest_eq h hj, hot_U, Option.bind_some, g4]
  rw [w64_of (n := y.heat + (x.Firing.Kiln.at j y.place.toNat).Lo) (by omega) (by omega)]
  cases decide (y.heat + (x.Firing.Kiln.at j y.place.toNat).Lo ≤ x.fur.U j) with
  | true => simp only [cond_true]; rw [push_of (by omega) (by omega)]; rfl
  | false =>
   cases decide ((3000 : Int) < y.heat + (x.Firing.Kiln.at j y.place.toNat).Lo) with
   | true => simp only [cond_true, cond_false]; rw [push_of (by omega) (by omega)]; rfl
   | false => simp only [cond_false]; rw [push_of (by omega) (by omega)]; rfl
 ·intro s _
  unfold heat_furnace_cannot.b0
  simp only [lt_dec_self]; rfl
def LowPf (x : heat_furnace) (q : Nat) (n : Int) (p : HeatProof) : Prop :=
 (∃ j : Nat, j < x.Firing.Kiln.Falls.length ∧ p = ⟨-2, [(j : Int)]⟩ ∧ n = -x.fur.hi j q) ∨
 (∃ y ∈ x.least, y.place = (q : Int) ∧ p = ⟨y.by_, []⟩ ∧ n = y.heat) ∨
 ∃ y ∈ x.least, y.place ≠ (q : Int) ∧ p = ⟨y.by_, cannotL x y⟩ ∧ shownP x y q n
theorem heat_lowest_eq {x : heat_furnace} (h : x.ok) (hs : x.fur.Sound) {q : Nat} (hq : q < x.Firing.Kiln.P) :
  ∃ n p, heat_furnace_lowest KK x (q : Int) = some (n, p) ∧ (∀ t, n ≤ t ↔ x.fur.Low q t) ∧ LowPf x q n p := by
 have hk := kilnB_len h.k
 have hll := h.ll
 have hm : x.fur.m = x.Firing.Kiln.Falls.length - 1 := rfl
 unfold heat_furnace_lowest
 obtain ⟨h1, h2⟩ := whl_foldN (n := x.Firing.Kiln.Falls.length) (body := heat_furnace_lowest.b0 KK x (q : Int)) (k := KK) (fun i (s : Int × Int × List Int) => (s.1, i, s.2.1, s.2.2))
  (fun s j => bif !decide ((j : Int) = 0) then (bif decide (s.1 < 0 - x.fur.hi j q) then (0 - x.fur.hi j q, -2, [(j : Int)]) else s) else (0 - x.fur.hi j q, -2, [(j : Int)]))
  (fun i s => (i = 0 ∨ (∀ t, s.1 ≤ t ↔ ∀ j, j < i → -x.fur.hi j q ≤ t) ∧ ∃ j : Nat, j < i ∧ s = (-x.fur.hi j q, -2, [(j : Int)]))) (s0 := (-3000, 0, [])) (by omega) (by unfold KK; omega) (.inl rfl) (fun j s hj hI => by
   have g1 := kilnB_at h.k j q
   have g3 : x.fur.hi j q = (x.Firing.Kiln.at j q).Hi := rfl
   obtain ⟨s1, s2, s3⟩ := s
   refine ⟨?_, .inr ?_⟩
   ·unfold heat_furnace_lowest.b0
    simp only [lt_dec hj, cond_true, at_row h.k hj, at_cellN h.k hj hq, Option.bind_some, g3]
    rw [w64_of (n := 0 - (x.Firing.Kiln.at j q).Hi) (by omega) (by omega)]
    cases decide ((j : Int) = 0) <;> cases decide (s1 < 0 - (x.Firing.Kiln.at j q).Hi) <;> rfl
   ·have e0 : (0 : Int) - x.fur.hi j q = -x.fur.hi j q := by omega
    by_cases hj0 : j = 0
    ·subst hj0
     simp only [Int.natCast_zero, decide_true, Bool.not_true, cond_false, e0]
     refine ⟨fun t => ⟨fun k i hi => ?_, fun k => k 0 (by omega)⟩, 0, by omega, rfl⟩
     have : i = 0 := by omega
     subst this; exact k
    ·have hj1 : ¬ ((j : Int) = 0) := by omega
     simp only [hj1, decide_false, Bool.not_false, cond_true, e0]
     rcases hI with hI | ⟨I1, i, I2, I3⟩
     ·exact absurd hI hj0
     ·simp only at I1
      by_cases hc : s1 < -x.fur.hi j q
      ·simp only [hc, decide_true, cond_true]
       refine ⟨fun t => ⟨fun k i hi => ?_, fun k => k j (by omega)⟩, j, by omega, rfl⟩
       by_cases hij : i = j
       ·subst hij; exact k
       ·exact (I1 t).1 (by omega) i (by omega)
      ·simp only [hc, decide_false, cond_false]
       refine ⟨fun t => ⟨fun k i hi => ?_, fun k => (I1 t).2 fun i hi => k i (by omega)⟩, i, by omega, I3⟩
       by_cases hij : i = j
       ·subst hij; omega
       ·exact (I1 t).1 k i (by omega)) (fun s _ => by
   unfold heat_furnace_lowest.b0
   simp only [lt_dec_self]; rfl)
 rw [h1]
 rcases h2 with h2 | ⟨h2, j0, h3, h4⟩
 ·omega
 rw [h4] at h2
 rw [h4]
 simp only [Option.bind_some]
 simp only at h2
 have hw := whl_ok (body := heat_furnace_lowest.b1 KK x (q : Int))
  (fun t => ∃ (i : Nat) (p : HeatProof) (n : Int), t = (p, n, (i : Int)) ∧ i ≤ x.least.length ∧ LowPf x q n p ∧ ∀ t, n ≤ t ↔ (∀ j, j < x.Firing.Kiln.Falls.length → -x.fur.hi j q ≤ t) ∧ ∀ y ∈ x.least.take i, if y.place = (q : Int) then y.heat ≤ t else ∃ j, j < x.Firing.Kiln.Falls.length ∧ y.heat + x.fur.lo j y.place.toNat ≤ x.fur.U j ∧ y.heat + x.fur.lo j y.place.toNat - x.fur.hi j q ≤ t)
  (fun r => ∃ (p : HeatProof) (n : Int), r = .brk (p, n) ∧ LowPf x q n p ∧ ∀ t, n ≤ t ↔ (∀ j, j < x.Firing.Kiln.Falls.length → -x.fur.hi j q ≤ t) ∧ ∀ y ∈ x.least, if y.place = (q : Int) then y.heat ≤ t else ∃ j, j < x.Firing.Kiln.Falls.length ∧ y.heat + x.fur.lo j y.place.toNat ≤ x.fur.U j ∧ y.heat + x.fur.lo j y.place.toNat - x.fur.hi j q ≤ t)
  (fun t => x.least.length - t.2.2.toNat) ?_ KK (⟨-2, [(j0 : Int)]⟩, -x.fur.hi j0 q, 0) ⟨0, _, _, rfl, Nat.zero_le _, .inl ⟨j0, h3, rfl, rfl⟩, fun t => by rw [h2 t]; simp⟩ (by unfold KK; simp only; omega)
 ·obtain ⟨r, k1, ⟨p, n, k2, k3, k4⟩, _⟩ := hw
  rw [k1, k2]
  refine ⟨n, p, rfl, fun t => ?_, k3⟩
  rw [k4 t]
  unfold Fur.Low
  constructor
  ·rintro ⟨m1, m2⟩
   refine ⟨fun j hj => m1 j (by omega), fun z hz e => ?_, fun z hz e => ?_⟩
   ·obtain ⟨y, hy, rfl⟩ := List.mem_map.1 hz
    have := m2 y hy
    have hp := h.l y hy
    have e2 : y.place = (q : Int) := by have e' : y.place.toNat = q := e; have := hp.1; omega
    rw [if_pos e2] at this
    exact this
   ·obtain ⟨y, hy, rfl⟩ := List.mem_map.1 hz
    have := m2 y hy
    have hp := h.l y hy
    have e2 : ¬ y.place = (q : Int) := by intro e2; apply e; show y.place.toNat = q; omega
    rw [if_neg e2] at this
    obtain ⟨j, m3, m4⟩ := this
    exact ⟨j, by omega, m4⟩
  ·rintro ⟨m1, m2, m3⟩
   refine ⟨fun j hj => m1 j (by omega), fun y hy => ?_⟩
   have hp := h.l y hy
   by_cases e2 : y.place = (q : Int)
   ·rw [if_pos e2]
    exact m2 (lp y) (List.mem_map.2 ⟨y, hy, rfl⟩) (by show y.place.toNat = q; omega)
   ·rw [if_neg e2]
    obtain ⟨j, m4, m5⟩ := m3 (lp y) (List.mem_map.2 ⟨y, hy, rfl⟩) (by intro e'; have e'' : y.place.toNat = q := e'; have := hp.1; omega)
    exact ⟨j, by omega, m5⟩
 ·rintro t ⟨i, p, n, rfl, g1, g2, g3⟩
  by_cases hi : i = x.least.length
  ·right; left
   refine ⟨(p, n), ?_, p, n, rfl, g2, fun t => by rw [g3 t, hi, List.take_length]⟩
   unfold heat_furnace_lowest.b1
   simp only [hi, lt_dec_self]; rfl
  ·left
   have hx : x.least[i]? = some x.least[i] := List.getElem?_eq_getElem (by omega)
   generalize x.least[i] = y at hx
   have hym : y ∈ x.least := List.mem_of_getElem? hx
   have hy := h.l y hym
   have hwi : w64 ((i : Int) + 1) = ((i + 1 : Nat) : Int) := w64_succ (n := x.least.length) (by omega) (by omega)
   have hbody : heat_furnace_lowest.b1 KK x (q : Int) (p, n, (i : Int)) = bif decide (y.place = (q : Int)) then (bif decide (n < y.heat) then some (.next ((⟨y.by_, []⟩ : HeatProof), y.heat, ((i + 1 : Nat) : Int))) else some (.next (p, n, ((i + 1 : Nat) : Int)))) else
     (heat_furnace_shownLow KK x y (q : Int)).bind fun r => bif r.2 then (bif decide (n < r.1) then some (.next ((⟨y.by_, cannotL x y⟩ : HeatProof), r.1, ((i + 1 : Nat) : Int))) else some (.next (p, n, ((i + 1 : Nat) : Int)))) else some (.next (p, n, ((i + 1 : Nat) : Int))) := by
    unfold heat_furnace_lowest.b1
    simp only [lt_dec (show i < x.least.length by omega), cond_true, at_of hx, Option.bind_some, heat_cannot_eq h hy, hwi]
   have fin : ∀ (p' : HeatProof) (n' : Int), LowPf x q n' p' → (∀ t, n' ≤ t ↔ n ≤ t ∧ if y.place = (q : Int) then y.heat ≤ t else ∃ j, j < x.Firing.Kiln.Falls.length ∧ y.heat + x.fur.lo j y.place.toNat ≤ x.fur.U j ∧ y.heat + x.fur.lo j y.place.toNat - x.fur.hi j q ≤ t) →
     ∃ (i' : Nat) (p'' : HeatProof) (n'' : Int), ((p', n', ((i + 1 : Nat) : Int)) : HeatProof × Int × Int) = (p'', n'', (i' : Int)) ∧ i' ≤ x.least.length ∧ LowPf x q n'' p'' ∧ ∀ t, n'' ≤ t ↔ (∀ j, j < x.Firing.Kiln.Falls.length → -x.fur.hi j q ≤ t) ∧ ∀ y ∈ x.least.take i', if y.place = (q : Int) then y.heat ≤ t else ∃ j, j < x.Firing.Kiln.Falls.length ∧ y.heat + x.fur.lo j y.place.toNat ≤ x.fur.U j ∧ y.heat + x.fur.lo j y.place.toNat - x.fur.hi j q ≤ t := by
    intro p' n' k1 k2
    refine ⟨i + 1, p', n', rfl, by omega, k1, fun t => ?_⟩
    rw [k2 t, g3 t, take_succ_of hx]
    constructor
    ·rintro ⟨⟨m1, m2⟩, m3⟩
     refine ⟨m1, fun z hz => ?_⟩
     rcases List.mem_append.1 hz with hz | hz
     ·exact m2 z hz
     ·simp only [List.mem_singleton] at hz; subst hz; exact m3
    ·rintro ⟨m1, m2⟩
     exact ⟨⟨m1, fun z hz => m2 z (List.mem_append.2 (.inl hz))⟩, m2 y (List.mem_append.2 (.inr (by simp)))⟩
   have hmeas : ∀ (p' : HeatProof) (n' : Int), x.least.length - ((p', n', ((i + 1 : Nat) : Int)) : HeatProof × Int × Int).2.2.toNat < x.least.length - ((p, n, (i : Int)) : HeatProof × Int × Int).2.2.toNat := by intro p' n'; simp only [Int.toNat_natCast]; omega
   by_cases e2 : y.place = (q : Int)
   ·by_cases hc : n < y.heat
    ·refine ⟨_, by rw [hbody]; simp only [e2, hc, decide_true, cond_true], fin _ _ (.inr (.inl ⟨y, hym, e2, rfl, rfl⟩)) fun t => ?_, hmeas _ _⟩
     rw [if_pos e2]; omega
    ·refine ⟨_, by rw [hbody]; simp only [e2, hc, decide_true, decide_false, cond_true, cond_false], fin _ _ g2 fun t => ?_, hmeas _ _⟩
     rw [if_pos e2]; omega
   ·obtain ⟨r, r1, r2, r3⟩ := heat_shownLow_eq h hy hq
    have hreach : r.2 = true := by
     rw [r2]
     obtain ⟨_, j, k1, k2⟩ := hs.2 (lp y) (List.mem_map.2 ⟨y, hym, rfl⟩)
     exact ⟨j, by omega, k2⟩
    obtain ⟨r4, r5⟩ := r3 hreach
    by_cases hc : n < r.1
    ·refine ⟨_, by rw [hbody, r1]; simp only [e2, hc, hreach, decide_true, decide_false, cond_true, cond_false, Option.bind_some], fin _ _ (.inr (.inr ⟨y, hym, e2, rfl, r4, r5⟩)) fun t => ?_, hmeas _ _⟩
     rw [if_neg e2, ← r5 t]; omega
    ·refine ⟨_, by rw [hbody, r1]; simp only [e2, hc, hreach, decide_true, decide_false, cond_true, cond_false, Option.bind_some], fin _ _ g2 fun t => ?_, hmeas _ _⟩
     rw [if_neg e2, ← r5 t]; omega
def HighPf (x : heat_furnace) (q : Nat) (n : Int) (p : HeatProof) : Prop :=
 (∃ y ∈ x.most, y.place = (q : Int) ∧ p = ⟨y.by_, []⟩ ∧ n = y.heat) ∨
 (p = ⟨-1, (List.range x.Firing.Kiln.Falls.length).map fun j => (hot x j).2⟩ ∧ ∀ t, t ≤ n ↔ ∃ j, j < x.Firing.Kiln.Falls.length ∧ t + x.fur.lo j q ≤ x.fur.U j)
theorem heat_highest_eq {x : heat_furnace} (h : x.ok) (hs : x.fur.Sound) {q : Nat} (hq : q < x.Firing.Kiln.P) :
  ∃ n p, heat_furnace_highest KK x (q : Int) = some (n, p) ∧ (∀ t, t ≤ n ↔ x.fur.High q t) ∧ HighPf x q n p := by
 have hk := kilnB_len h.k
 have hm : x.fur.m = x.Firing.Kiln.Falls.length - 1 := rfl
 unfold heat_furnace_highest
 obtain ⟨h1, h2⟩ := whl_foldN (n := x.Firing.Kiln.Falls.length) (body := heat_furnace_highest.b0 KK x (q : Int)) (k := KK) (fun i (s : Int × List Int) => (s.1, i, s.2))
  (fun s j => (max s.1 (x.fur.U j - x.fur.lo j q), s.2 ++ [(hot x j).2]))
  (fun i s => s.2 = (List.range i).map (fun j => (hot x j).2) ∧ ∀ t, t ≤ s.1 ↔ t ≤ -3000 ∨ ∃ j, j < i ∧ t + x.fur.lo j q ≤ x.fur.U j) (s0 := (-3000, [])) (by omega) (by unfold KK; omega) ⟨rfl, by intro t; simp⟩ (fun j s hj hI => by
   have g1 := kilnB_at h.k j q
   have g2 := U_ge h j
   have g4 : x.fur.lo j q = (x.Firing.Kiln.at j q).Lo := rfl
   have hlen : s.2.length = j := by rw [hI.1]; simp
   refine ⟨?_, ?_, fun t => ?_⟩
   ·unfold heat_furnace_highest.b0
    simp only [lt_dec hj, cond_true, at_row h.k hj, at_cellN h.k hj hq, heat_hottest_eq h hj, hot_U, Option.bind_some, g4]
    rw [w64_of (n := x.fur.U j - (x.Firing.Kiln.at j q).Lo) (by omega) (by omega), push_of (by omega) (by omega)]
    rfl
   ·rw [hI.1, List.range_succ, List.map_append]; rfl
   ·show t ≤ max _ _ ↔ _
    rw [show ∀ a b : Int, t ≤ max a b ↔ t ≤ a ∨ t ≤ b by intro a b; omega, hI.2 t]
    constructor
    ·rintro ((k1 | ⟨i, k1, k2⟩) | k1)
     ·exact .inl k1
     ·exact .inr ⟨i, by omega, k2⟩
     ·exact .inr ⟨j, by omega, by omega⟩
    ·rintro (k1 | ⟨i, k1, k2⟩)
     ·exact .inl (.inl k1)
     ·by_cases hij : i = j
      ·subst hij; exact .inr (by omega)
      ·exact .inl (.inr ⟨i, by omega, k2⟩)) (fun s _ => by
   unfold heat_furnace_highest.b0
   simp only [lt_dec_self]; rfl)
 rw [h1]
 generalize (List.range x.Firing.Kiln.Falls.length).foldl (fun (s : Int × List Int) j => (max s.1 (x.fur.U j - x.fur.lo j q), s.2 ++ [(hot x j).2])) (-3000, []) = s at h2
 obtain ⟨n, l⟩ := s
 obtain ⟨h3, h4⟩ := h2
 simp only at h3 h4
 subst h3
 have h5 : ∀ t, t ≤ n ↔ ∃ j, j < x.Firing.Kiln.Falls.length ∧ t + x.fur.lo j q ≤ x.fur.U j := by
  intro t
  rw [h4]
  refine ⟨?_, .inr⟩
  rintro (k | k)
  ·refine ⟨0, by omega, ?_⟩
   have a1 := hs.1 0 (Nat.zero_le _)
   have a2 := kilnB_at h.k 0 q
   have a3 : x.fur.lo 0 q = (x.Firing.Kiln.at 0 q).Lo := rfl
   omega
  ·exact k
 have hb := bestL_some x.most q (fun y hy => (h.m y hy).1)
 have hH : ∀ t, x.fur.High q t ↔ t ≤ n ∧ ∀ y ∈ x.fur.M, y.1 = q → t ≤ y.2 := by
  intro t
  unfold Fur.High
  rw [h5 t]
  constructor
  ·rintro ⟨⟨j, k1, k2⟩, k3⟩; exact ⟨⟨j, by omega, k2⟩, k3⟩
  ·rintro ⟨⟨j, k1, k2⟩, k3⟩; exact ⟨⟨j, by omega, k2⟩, k3⟩
 simp only [Option.bind_some, heat_best_eq _ h.ml]
 cases hb2 : (bestL x.most (q : Int)).2 with
 | false =>
  rw [hb2] at hb
  have hb3 := (Fur.best_iff _ _).1.1 hb
  refine ⟨n, _, rfl, fun t => ?_, .inr ⟨rfl, h5⟩⟩
  rw [hH t]
  exact ⟨fun k => ⟨k, fun y hy e => absurd e (hb3 y hy)⟩, fun k => k.1⟩
 | true =>
  rw [hb2] at hb
  have hb3 := ((Fur.best_iff _ _).2 _ hb).1
  obtain ⟨hb4, hb5⟩ := bestL_mem _ _ hb2
  have hH2 : ∀ t, x.fur.High q t ↔ t ≤ n ∧ t ≤ (bestL x.most (q : Int)).1.heat := by intro t; rw [hH t, hb3 t]; rfl
  simp only [cond_true]
  by_cases hc : (bestL x.most (q : Int)).1.heat ≤ n
  ·simp only [hc, decide_true, cond_true]
   refine ⟨_, _, rfl, fun t => ?_, .inl ⟨_, hb4, hb5, rfl, rfl⟩⟩
   rw [hH2 t]; omega
  ·simp only [hc, decide_false, cond_false]
   refine ⟨_, _, rfl, fun t => ?_, .inr ⟨rfl, h5⟩⟩
   rw [hH2 t]; omega
theorem heat_bound_eq {x : heat_furnace} (h : x.ok) (hs : x.fur.Sound) {q : Nat} (hq : q < x.Firing.Kiln.P) :
  ∃ r, heat_furnace_bound KK x (q : Int) = some r ∧ (∀ t, r.Lo ≤ t ↔ x.fur.Low q t) ∧ ∀ t, t ≤ r.Hi ↔ x.fur.High q t := by
 obtain ⟨n1, p1, a1, a2, _⟩ := heat_lowest_eq h hs hq
 obtain ⟨n2, p2, b1, b2, _⟩ := heat_highest_eq h hs hq
 unfold heat_furnace_bound
 rw [a1, b1]
 exact ⟨_, rfl, a2, b2⟩
theorem bound_same {f : Fur} {q : Nat} {r s : Range} (h1 : ∀ t, r.Lo ≤ t ↔ f.Low q t) (h2 : ∀ t, t ≤ r.Hi ↔ f.High q t) (h3 : ∀ t, s.Lo ≤ t ↔ f.Low q t) (h4 : ∀ t, t ≤ s.Hi ↔ f.High q t) : r = s := by
 have e1 : r.Lo = s.Lo := eq_of_ge_iff fun t => by rw [h1, h3]
 have e2 : r.Hi = s.Hi := eq_of_le_iff fun t => by rw [h2, h4]
 cases r; cases s; simp only at e1 e2; rw [e1, e2]
end Go.Abs
namespace Go.Abs
open Go
set_option linter.unusedVariables false
def Field.u (x : Field) (j : Nat) : Int := x.Mouths.getD j 0
def Field.d (x : Field) (j p : Nat) : Int := (x.Falls.getD j []).getD p 0
def Field.ht (x : Field) (m p : Nat) : Int := mx (fun j => x.u j - x.d j p) m
def rowB (k : Kiln) (x : Field) (j : Nat) : Bool := inB (x.u j) 0 3000 && (decide ((x.Falls.getD j []).length = (k.Falls.getD j []).length) && (List.range (k.Falls.getD j []).length).all fun p => inB (x.d j p) (k.at j p).Lo (k.at j p).Hi)
def fieldB (k : Kiln) (x : Field) : Bool := decide (x.Mouths.length = k.Falls.length) && (decide (x.Falls.length = k.Falls.length) && (List.range k.Falls.length).all (rowB k x))
theorem R04_isField_eq {k : Kiln} (h : kilnB k = true) (x : Field) : R04_isField KK k x = some (fieldB k x) := by
 have hk := kilnB_len h
 unfold R04_isField fieldB
 simp only [len_dec]
 by_cases h1 : x.Mouths.length = k.Falls.length
 ·by_cases h2 : x.Falls.length = k.Falls.length
  ·simp only [h1, h2, decide_true, Bool.not_true, cond_true, cond_false, Bool.true_and]
   rw [whl_allN (n := k.Falls.length) (p := rowB k x) (c := false) (by omega) (by unfold KK; omega) (fun j hj => by
    unfold R04_isField.b0 rowB
    have hr := kilnB_row h hj
    simp only [lt_dec hj, cond_true, at_row h hj, at_nat (0 : Int) (show j < x.Mouths.length by omega), at_nat ([] : List Int) (show j < x.Falls.length by omega), Option.bind_some, R01_In_eq, len_dec]
    show (bif inB (x.u j) 0 3000 then _ else _) = _
    cases inB (x.u j) 0 3000 with
    | false => rfl
    | true =>
     by_cases h3 : (x.Falls.getD j []).length = (k.Falls.getD j []).length
     ·simp only [h3, decide_true, Bool.not_true, cond_true, cond_false, Bool.true_and]
      rw [whl_allN (n := (k.Falls.getD j []).length) (p := fun p => inB (x.d j p) (k.at j p).Lo (k.at j p).Hi) (c := false) (by omega) (by unfold KK; omega) (fun p hp => by
       unfold R04_isField.b1
       simp only [lt_dec hp, cond_true, at_nat R0 hp, at_nat (0 : Int) (show p < (x.Falls.getD j []).length by omega), Option.bind_some, R01_In_eq]
       show (bif !inB (x.d j p) (k.at j p).Lo (k.at j p).Hi then _ else _) = _
       cases inB (x.d j p) (k.at j p).Lo (k.at j p).Hi <;> rfl) (by
       unfold R04_isField.b1
       rw [lt_dec_self]; rfl)]
      cases (List.range (k.Falls.getD j []).length).all fun p => inB (x.d j p) (k.at j p).Lo (k.at j p).Hi <;> rfl
     ·simp only [h3, decide_false, Bool.not_false, cond_true, Bool.false_and, Bool.and_false, cond_false]) (by
    unfold R04_isField.b0
    rw [lt_dec_self]; rfl)]
   cases (List.range k.Falls.length).all (rowB k x) <;> rfl
  ·simp [h1, h2]
 ·simp [h1]
structure FieldOk (k : Kiln) (x : Field) : Prop where
 kv : kilnB k = true
 m : x.Mouths.length = k.Falls.length
 f : x.Falls.length = k.Falls.length
 row : ∀ j, j < k.Falls.length → (x.Falls.getD j []).length = k.P
 u : ∀ j, j < k.Falls.length → 0 ≤ x.u j ∧ x.u j ≤ 3000
 d : ∀ j p, j < k.Falls.length → (k.at j p).Lo ≤ x.d j p ∧ x.d j p ≤ (k.at j p).Hi
theorem fieldB_iff {k : Kiln} (h : kilnB k = true) (x : Field) : fieldB k x = true ↔ FieldOk k x := by
 unfold fieldB
 simp only [Bool.and_eq_true, decide_eq_true_eq, List.all_eq_true, List.mem_range, rowB, inB]
 constructor
 ·rintro ⟨h1, h2, h3⟩
  refine ⟨h, h1, h2, fun j hj => by rw [(h3 j hj).2.1, kilnB_row h hj], fun j hj => (h3 j hj).1, fun j p hj => ?_⟩
  obtain ⟨_, h4, h5⟩ := h3 j hj
  by_cases hp : p < (k.Falls.getD j []).length
  ·exact h5 p hp
  ·unfold Field.d Kiln.at
   rw [getD_none (by omega), getD_none (by omega)]
   exact ⟨Int.le_refl _, Int.le_refl _⟩
 ·intro g
  exact ⟨g.m, g.f, fun j hj => ⟨g.u j hj, by rw [g.row j hj, kilnB_row h hj], fun p _ => g.d j p hj⟩⟩
theorem FieldOk.bounds {k : Kiln} {x : Field} (h : FieldOk k x) {j : Nat} (p : Nat) (hj : j < k.Falls.length) : -3000 ≤ x.u j - x.d j p ∧ x.u j - x.d j p ≤ 3000 := by
 have h1 := h.u j hj
 have h2 := h.d j p hj
 have h3 := kilnB_at h.kv j p
 omega
theorem FieldOk.ht {k : Kiln} {x : Field} (h : FieldOk k x) (p : Nat) : -3000 ≤ x.ht (k.Falls.length - 1) p ∧ x.ht (k.Falls.length - 1) p ≤ 3000 := by
 have hk := kilnB_len h.kv
 unfold Field.ht
 rw [mx_le_iff, le_mx_iff]
 exact ⟨⟨0, Nat.zero_le _, (h.bounds p (by omega)).1⟩, fun j hj => (h.bounds p (by omega)).2⟩
theorem R04_heat_eq {k : Kiln} {x : Field} (h : FieldOk k x) {p : Nat} (hp : p < k.P) : R04_heat KK x (p : Int) = some (x.ht (k.Falls.length - 1) p) := by
 have hk := kilnB_len h.kv
 have hm := h.m
 have hf := h.f
 have hr0 := h.row 0 (by omega)
 unfold R04_heat
 have e0 : at? x.Falls (0 : Int) = some (x.Falls.getD 0 []) := at_nat [] (l := x.Falls) (i := 0) (by omega)
 have e1 : at? x.Mouths (0 : Int) = some (x.u 0) := at_nat 0 (l := x.Mouths) (i := 0) (by omega)
 have e2 : at? (x.Falls.getD 0 []) (p : Int) = some (x.d 0 p) := at_nat 0 (by omega)
 have hb0 := h.bounds p (show 0 < k.Falls.length by omega)
 simp only [e0, e1, e2, Option.bind_some]
 rw [w64_of (by omega) (by omega)]
 have hw := whl_ok (body := R04_heat.b0 KK x (p : Int))
  (fun t => ∃ (i : Nat) (s : Int), t = (s, ((i + 1 : Nat) : Int)) ∧ i + 1 ≤ k.Falls.length ∧ s = x.ht i p)
  (fun r => r = .brk (x.ht (k.Falls.length - 1) p)) (fun t => k.Falls.length - t.2.toNat) ?_ KK (x.u 0 - x.d 0 p, 1) ⟨0, _, rfl, by omega, rfl⟩ (by unfold KK; simp only; omega)
 ·obtain ⟨r, k1, k2, _⟩ := hw
  rw [k1, k2]; rfl
 ·rintro t ⟨i, s, rfl, g1, g2⟩
  by_cases hi : i + 1 = k.Falls.length
  ·right; left
   refine ⟨s, ?_, by rw [g2]; congr 2; omega⟩
   unfold R04_heat.b0
   simp only [hm, hi, lt_dec_self]; rfl
  ·left
   have hj : i + 1 < k.Falls.length := by omega
   have hb := h.bounds p hj
   have hr := h.row _ hj
   have e3 : at? x.Mouths ((i + 1 : Nat) : Int) = some (x.u (i + 1)) := at_nat 0 (by omega)
   have e4 : at? (x.Falls.getD (i + 1) []) (p : Int) = some (x.d (i + 1) p) := at_nat 0 (by omega)
   refine ⟨(max s (x.u (i + 1) - x.d (i + 1) p), ((i + 1 + 1 : Nat) : Int)), ?_, ⟨i + 1, _, rfl, hj, by rw [g2]; rfl⟩, by simp only [Int.toNat_natCast]; omega⟩
   unfold R04_heat.b0
   simp only [hm, lt_dec hj, cond_true, e3, e4, at_nat ([] : List Int) (show i + 1 < x.Falls.length by omega), Option.bind_some]
   rw [w64_of (n := x.u (i + 1) - x.d (i + 1) p) (by omega) (by omega), w64_succ (n := k.Falls.length) hj (by omega)]
def rdAg (h : Int) (r : Reading) : Bool := !((lo? r).isSome && decide (h < (lo? r).getD 0)) && !((hi? r).isSome && decide ((hi? r).getD 0 < h))
def agB (f : Firing) (x : Field) : Bool := f.Readings.all fun r => rdAg (x.ht (f.Kiln.Falls.length - 1) r.Place.toNat) r
theorem R04_agrees_eq {f : Firing} (h : f.ok) {x : Field} (hF : FieldOk f.Kiln x) : R04_agrees KK f x = some (agB f x) := by
 have hl := h.l
 unfold R04_agrees agB
 rw [whl_allL (l := f.Readings) (p := fun r => rdAg (x.ht (f.Kiln.Falls.length - 1) r.Place.toNat) r) (c := false) (by omega) (by unfold KK; omega) ?_ ?_]
 ·cases f.Readings.all fun r => rdAg (x.ht (f.Kiln.Falls.length - 1) r.Place.toNat) r <;> rfl
 ·intro i r hr
  have hi : i < f.Readings.length := (List.getElem?_eq_some_iff.1 hr).1
  have hro := h.r r (List.mem_of_getElem? hr)
  have hp := hro.1
  have hp2 := hro.2.1
  have hpl : ((r.Place.toNat : Nat) : Int) = r.Place := by omega
  have hb := hF.ht r.Place.toNat
  unfold R04_agrees.b0 rdAg
  have e1 := R04_heat_eq hF (p := r.Place.toNat) (by omega)
  rw [hpl] at e1
  simp only [lt_dec hi, cond_true, at_of hr, Option.bind_some, R04_Least_eq hro, e1]
  cases h1 : lo? r with
  | none =>
   have : ¬ x.ht (f.Kiln.Falls.length - 1) r.Place.toNat < -1000000 := by omega
   cases h2 : hi? r with
   | none =>
    have : ¬ (1000000 : Int) < x.ht (f.Kiln.Falls.length - 1) r.Place.toNat := by omega
    simp [*]
   | some b =>
    simp only [Option.getD_none, Option.getD_some, this, decide_false, Bool.not_false, cond_true, Option.isSome_none, Option.isSome_some, Bool.false_and, Bool.true_and]
    cases decide (b < x.ht (f.Kiln.Falls.length - 1) r.Place.toNat) <;> rfl
  | some a =>
   cases h2 : hi? r with
   | none =>
    have : ¬ (1000000 : Int) < x.ht (f.Kiln.Falls.length - 1) r.Place.toNat := by omega
    simp only [Option.getD_none, Option.getD_some, this, decide_false, Bool.not_false, cond_true, Option.isSome_none, Option.isSome_some, Bool.false_and, Bool.true_and]
    cases decide (x.ht (f.Kiln.Falls.length - 1) r.Place.toNat < a) <;> rfl
   | some b =>
    simp only [Option.getD_some, Option.isSome_some, Bool.true_and]
    cases decide (x.ht (f.Kiln.Falls.length - 1) r.Place.toNat < a) <;> cases decide (b < x.ht (f.Kiln.Falls.length - 1) r.Place.toNat) <;> rfl
 ·unfold R04_agrees.b0
  rw [lt_dec_self]; rfl
theorem agB_iff {f : Firing} (h : f.ok) (x : Field) : agB f x = true ↔ (nf f).fur.Agrees x.u x.d := by
 unfold agB Fur.Agrees
 rw [List.all_eq_true]
 have hh : ∀ p, (nf f).fur.heat x.u x.d p = x.ht (f.Kiln.Falls.length - 1) p := fun p => rfl
 have hr : ∀ (n : Int) r, rdAg n r = true ↔ (∀ a, lo? r = some a → a ≤ n) ∧ ∀ b, hi? r = some b → n ≤ b := by
  intro n r
  unfold rdAg
  cases lo? r <;> cases hi? r <;> simp
 constructor
 ·intro g
  refine ⟨fun z hz => ?_, fun z hz => ?_⟩
  ·obtain ⟨r, h1, h2, h3⟩ := limsOf_lp.1 hz
   rw [hh, ← h3]
   exact ((hr _ _).1 (g r h1)).1 _ h2
  ·obtain ⟨r, h1, h2, h3⟩ := limsOf_lp.1 hz
   rw [hh, ← h3]
   exact ((hr _ _).1 (g r h1)).2 _ h2
 ·rintro ⟨g1, g2⟩ r hr'
  rw [hr]
  exact ⟨fun a ha => g1 (r.Place.toNat, a) (limsOf_lp.2 ⟨r, hr', ha, rfl⟩), fun b hb => g2 (r.Place.toNat, b) (limsOf_lp.2 ⟨r, hr', hb, rfl⟩)⟩
def fieldCode (f : Firing) (x : Field) : Int := bif !decide (firingCode f = 0) then 42 else bif !fieldB f.Kiln x then 45 else bif agB f x then 0 else 45
theorem R04_CheckField_eq (f : Firing) (q : Firing.s f) (x : Field) : R04_CheckField KK f x = some (fieldCode f x) := by
 unfold R04_CheckField fieldCode
 rw [R04_Check_eq f q]
 simp only [Option.bind_some]
 by_cases h : firingCode f = 0
 ·have hok := firing_ok h
  simp only [h, decide_true, Bool.not_true, cond_false, R04_isField_eq hok.k, Option.bind_some]
  cases h2 : fieldB f.Kiln x with
  | false => rfl
  | true =>
   simp only [cond_true, Bool.not_true, cond_false, R04_agrees_eq hok ((fieldB_iff hok.k x).1 h2), Option.bind_some]
   cases agB f x <;> rfl
 ·simp only [h, decide_false, Bool.not_false, cond_true]
theorem gField_u (x : heat_furnace) {j : Nat} (hj : j < x.Firing.Kiln.Falls.length) : (gField x).u j = x.fur.U j := by
 unfold Field.u gField
 exact getD_of _ (by rw [List.getElem?_map, List.getElem?_range hj]; rfl)
theorem gField_d (x : heat_furnace) {j p : Nat} (hj : j < x.Firing.Kiln.Falls.length) (hp : p < x.Firing.Kiln.P) : (gField x).d j p = x.fur.gd j p := by
 unfold Field.d gField
 rw [getD_of (x := (List.range x.Firing.Kiln.P).map fun p => x.fur.gd j p) _ (by rw [List.getElem?_map, List.getElem?_range hj]; rfl)]
 exact getD_of _ (by rw [List.getElem?_map, List.getElem?_range hp]; rfl)
theorem gField_ok {x : heat_furnace} (h : x.ok) (hs : x.fur.Sound) : FieldOk x.Firing.Kiln (gField x) := by
 have hk := kilnB_len h.k
 have hF := Fur.gd_isField (fur_ok h) hs
 have hm : x.fur.m = x.Firing.Kiln.Falls.length - 1 := rfl
 refine ⟨h.k, by simp [gField], by simp [gField], fun j hj => ?_, fun j hj => ?_, fun j p hj => ?_⟩
 ·unfold gField
  rw [getD_of (x := (List.range x.Firing.Kiln.P).map fun p => x.fur.gd j p) _ (by rw [List.getElem?_map, List.getElem?_range hj]; rfl)]
  simp
 ·rw [gField_u x hj]
  have := hF j (by omega)
  exact ⟨this.1, this.2.1⟩
 ·by_cases hp : p < x.Firing.Kiln.P
  ·rw [gField_d x hj hp]
   exact (hF j (by omega)).2.2 p
  ·unfold Field.d Kiln.at
   rw [getD_none (l := x.Firing.Kiln.Falls.getD j []) (by rw [kilnB_row h.k hj]; omega)]
   rw [getD_none (l := (gField x).Falls.getD j []) (by
    unfold gField
    rw [getD_of (x := (List.range x.Firing.Kiln.P).map fun p => x.fur.gd j p) _ (by rw [List.getElem?_map, List.getElem?_range hj]; rfl)]
    simp; omega)]
   exact ⟨Int.le_refl _, Int.le_refl _⟩
theorem mx_congr {f g : Nat → Int} : ∀ n, (∀ j, j ≤ n → f j = g j) → mx f n = mx g n
 | 0, h => h 0 (Nat.le_refl _)
 | n + 1, h => by rw [mx, mx, mx_congr n (fun j hj => h j (by omega)), h _ (Nat.le_refl _)]
end Go.Abs
namespace Go.Abs
open Go
set_option linter.unusedVariables false
def Firing.w (f : Firing) : Prop := f.Readings.length * 24 + 24 ≤ 140737488355328
theorem Firing.q.w {f : Firing} (q : Firing.q f) : Firing.w f := by
 have := q.2.2.1
 have := qB_le
 unfold Firing.w; omega
def noFur : heat_furnace := ⟨⟨⟨[]⟩, []⟩, [], []⟩
def askCode (f : Firing) (p : Int) : Int := bif !decide (firingCode f = 0) then 42 else bif !inB p 0 ((f.Kiln.P : Int) - 1) then 43 else bif !soundB (nf f) then 44 else 0
theorem heat_asks_eq (f : Firing) (q : Firing.s f) (w : Firing.w f) (p : Int) : heat_asks KK f p = some (bif decide (askCode f p = 0) then (nf f, 0) else (noFur, askCode f p)) := by
 unfold heat_asks askCode
 rw [heat_newFurnace_eq f w, heat_Check_eq f q]
 simp only [Option.bind_some]
 by_cases h : firingCode f = 0
 ·have hok := firing_ok h
  have hk := kilnB_len hok.k
  obtain ⟨x3, g1, g2, g3⟩ := kilnB_head hok.k
  have hP : x3.length = f.Kiln.P := by unfold Kiln.P; rw [g3]
  simp only [h, decide_true, Bool.not_true, cond_false, g2, Option.bind_some, heat_in_eq, hP, heat_sound_eq (nf_ok hok)]
  rw [w64_of (n := (f.Kiln.P : Int) - 1) (by omega) (by omega)]
  cases inB p 0 ((f.Kiln.P : Int) - 1) with
  | false => rfl
  | true => cases soundB (nf f) <;> rfl
 ·simp only [h, decide_false, Bool.not_false, cond_true]
  rfl
theorem R04_asked_eq (f : Firing) (q : Firing.s f) (p : Int) : R04_asked KK f p = some (bif !decide (firingCode f = 0) then 42 else bif !inB p 0 ((f.Kiln.P : Int) - 1) then 43 else 0) := by
 unfold R04_asked
 rw [R04_Check_eq f q]
 simp only [Option.bind_some]
 by_cases h : firingCode f = 0
 ·have hok := firing_ok h
  have hk := kilnB_len hok.k
  obtain ⟨x3, g1, g2, g3⟩ := kilnB_head hok.k
  have hP : x3.length = f.Kiln.P := by unfold Kiln.P; rw [g3]
  simp only [h, decide_true, Bool.not_true, cond_false, g2, Option.bind_some, R01_In_eq, hP]
  rw [w64_of (n := (f.Kiln.P : Int) - 1) (by omega) (by omega)]
  cases inB p 0 ((f.Kiln.P : Int) - 1) <;> rfl
 ·simp only [h, decide_false, Bool.not_false, cond_true]
def boundR (f : Firing) (p : Int) (r : Range) : Range × Int := bif decide (askCode f p = 0) then (r, 0) else (⟨0, 0⟩, askCode f p)
def IsBound (f : Firing) (p : Int) (r : Range) : Prop := askCode f p = 0 → (∀ t, r.Lo ≤ t ↔ (nf f).fur.Low p.toNat t) ∧ ∀ t, t ≤ r.Hi ↔ (nf f).fur.High p.toNat t
theorem IsBound.one {f : Firing} {p : Int} {r s : Range} (h1 : IsBound f p r) (h2 : IsBound f p s) : boundR f p r = boundR f p s := by
 unfold boundR
 by_cases h : askCode f p = 0
 ·have a := h1 h
  have b := h2 h
  rw [bound_same a.1 a.2 b.1 b.2]
 ·simp only [h, decide_false, cond_false]
end Go.Abs
namespace Go.Abs
open Go
set_option linter.unusedVariables false
def rngX (x : heat_furnace) (q : Nat) : Range := (heat_furnace_bound KK x (q : Int)).getD ⟨0, 0⟩
theorem rngX_spec {x : heat_furnace} (h : x.ok) (hs : x.fur.Sound) {q : Nat} (hq : q < x.Firing.Kiln.P) :
  heat_furnace_bound KK x (q : Int) = some (rngX x q) ∧ (∀ t, (rngX x q).Lo ≤ t ↔ x.fur.Low q t) ∧ ∀ t, t ≤ (rngX x q).Hi ↔ x.fur.High q t := by
 obtain ⟨r, e1, e2, e3⟩ := heat_bound_eq h hs hq
 have : rngX x q = r := by unfold rngX; rw [e1]; rfl
 rw [this]; exact ⟨e1, e2, e3⟩
theorem R04_bound_rng {f : Firing} (h : f.ok) (hs : (nf f).fur.Sound) {q : Nat} (hq : q < f.Kiln.P) : R04_bound KK f (q : Int) = some (rngX (nf f) q) := by
 obtain ⟨r, e1, e2, e3⟩ := R04_bound_eq h hs hq
 obtain ⟨a1, a2, a3⟩ := rngX_spec (nf_ok h) hs hq
 rw [e1, bound_same e2 e3 a2 a3]
def askF (x : heat_furnace) (p : Int) (r : Range) : heat_furnace := ⟨x.Firing, x.least ++ [⟨p, r.Lo, -1⟩], x.most ++ [⟨p, r.Hi, -1⟩]⟩
theorem heat_asked_eq (x : heat_furnace) (h1 : x.least.length ≤ 1000) (h2 : x.most.length ≤ 1000) (p : Int) (r : Range) : heat_furnace_asked KK x p r = some (askF x p r) := by
 unfold heat_furnace_asked slices_Clone_heat_limit
 rw [room_of (by omega) (by omega)]
 simp only [Option.bind_some]
 rw [push_of (by omega) (by omega)]
 simp only [Option.bind_some]
 rw [room_of (by omega) (by omega)]
 simp only [Option.bind_some]
 rw [push_of (by omega) (by omega)]
 rfl
theorem askF_fur (x : heat_furnace) (p : Int) (r : Range) : (askF x p r).fur = x.fur.ask p.toNat r.Lo r.Hi := by
 unfold askF heat_furnace.fur Fur.ask
 simp [lp]
theorem askF_ok {x : heat_furnace} (h : x.ok) (hl : x.least.length < 1000) (hm : x.most.length < 1000) {p : Int} {r : Range} (h0 : 0 ≤ p) (hp : p < x.Firing.Kiln.P) (hlo : -3000 ≤ r.Lo ∧ r.Lo ≤ 3000) (hhi : -3000 ≤ r.Hi ∧ r.Hi ≤ 3000) : (askF x p r).ok := by
 refine ⟨h.k, by simp [askF]; omega, fun y hy => ?_, by simp [askF]; omega, fun y hy => ?_⟩
 ·have hy' : y ∈ x.least ++ [⟨p, r.Lo, -1⟩] := hy
  rcases List.mem_append.1 hy' with hy | hy
  ·exact h.l y hy
  ·simp only [List.mem_singleton] at hy; subst hy; exact ⟨h0, hp, hlo⟩
 ·have hy' : y ∈ x.most ++ [⟨p, r.Hi, -1⟩] := hy
  rcases List.mem_append.1 hy' with hy | hy
  ·exact h.m y hy
  ·simp only [List.mem_singleton] at hy; subst hy; exact ⟨h0, hp, hhi⟩
def wantB (P : Nat) (w : Want) : Bool := inB w.Place 0 ((P : Int) - 1) && (decide ((-3000 : Int) ≤ w.Heat.Lo) && (decide (w.Heat.Lo ≤ w.Heat.Hi) && decide (w.Heat.Hi ≤ (3000 : Int))))
def wantsB (P : Nat) (l : List Want) : Bool := !decide ((24 : Int) < (l.length : Int)) && l.all (wantB P)
theorem wantB_ok {P : Nat} {w : Want} (h : wantB P w = true) : 0 ≤ w.Place ∧ w.Place < P ∧ -3000 ≤ w.Heat.Lo ∧ w.Heat.Lo ≤ w.Heat.Hi ∧ w.Heat.Hi ≤ 3000 := by
 simp only [wantB, inB, Bool.and_eq_true, decide_eq_true_eq] at h
 omega
theorem wantsB_ok {P : Nat} {l : List Want} (h : wantsB P l = true) : l.length ≤ 24 ∧ ∀ w ∈ l, 0 ≤ w.Place ∧ w.Place < P ∧ -3000 ≤ w.Heat.Lo ∧ w.Heat.Lo ≤ w.Heat.Hi ∧ w.Heat.Hi ≤ 3000 := by
 simp only [wantsB, Bool.and_eq_true, Bool.not_eq_true', decide_eq_false_iff_not, List.all_eq_true] at h
 exact ⟨by omega, fun w hw => wantB_ok (h.2 w hw)⟩
theorem contains_Want {l : List Want} (hl : l.length ≤ 100000) {f : Want → Option Bool} {p : Want → Bool} (hf : ∀ x, f x = some (p x)) : slices_ContainsFunc_api_Want KK l f = some (l.any p) := by
 unfold slices_ContainsFunc_api_Want slices_IndexFunc_api_Want
 rw [indexFunc_gen (body := slices_IndexFunc_api_Want.b0 KK f l) (p := p) (fun x _ => hf x) (by omega) (by unfold KK; omega) rfl]
 have : l.any p = (l.findIdx? p).isSome := by rw [List.findIdx?_isSome]
 rw [this]
 cases l.findIdx? p with
 | none => rfl
 | some i => simp
theorem kiln_P {k : Kiln} (h : kilnB k = true) : ∃ x3, at? k.Falls 0 = some x3 ∧ x3.length = k.P := by
 obtain ⟨x3, g1, g2, g3⟩ := kilnB_head h
 exact ⟨x3, g2, by unfold Kiln.P; rw [g3]⟩
theorem heat_wanted_1_eq {f : Firing} (h : kilnB f.Kiln = true) (w : Want) : heat_wanted_1 KK w f = some (wantB f.Kiln.P w) := by
 obtain ⟨x3, g1, g2⟩ := kiln_P h
 have hk := kilnB_len h
 unfold heat_wanted_1 wantB
 simp only [g1, g2, Option.bind_some, heat_in_eq]
 rw [w64_of (n := (f.Kiln.P : Int) - 1) (by omega) (by omega)]
 cases inB w.Place 0 ((f.Kiln.P : Int) - 1) <;> cases decide ((-3000 : Int) ≤ w.Heat.Lo) <;> cases decide (w.Heat.Lo ≤ w.Heat.Hi) <;> rfl
theorem R04_areWants_eq {k : Kiln} (h : kilnB k = true) (l : List Want) : R04_areWants KK k l = some (wantsB k.P l) := by
 obtain ⟨x3, g1, g2⟩ := kiln_P h
 have hk := kilnB_len h
 unfold R04_areWants wantsB
 by_cases hl : (24 : Int) < (l.length : Int)
 ·simp [hl]
 ·simp only [hl, decide_false, cond_false, Bool.not_false, Bool.true_and]
  rw [whl_allL (l := l) (p := wantB k.P) (c := false) (by omega) (by unfold KK; omega) ?_ ?_]
  ·cases l.all (wantB k.P) <;> rfl
  ·intro i w hw
   have hi : i < l.length := (List.getElem?_eq_some_iff.1 hw).1
   unfold R04_areWants.b0 wantB
   simp only [lt_dec hi, cond_true, at_of hw, Option.bind_some, g1, g2, R01_In_eq, R01_Part_eq]
   rw [w64_of (n := (k.P : Int) - 1) (by omega) (by omega)]
   unfold rangeB
   cases inB w.Place 0 ((k.P : Int) - 1) <;> cases decide ((-3000 : Int) ≤ w.Heat.Lo) <;> cases decide (w.Heat.Lo ≤ w.Heat.Hi) <;> cases decide (w.Heat.Hi ≤ (3000 : Int)) <;> rfl
  ·unfold R04_areWants.b0
   rw [lt_dec_self]; rfl
def wantedF (x : heat_furnace) (l : List Want) : heat_furnace := l.foldl (fun s w => askF s w.Place w.Heat) x
theorem wantedF_fur : ∀ (l : List Want) (x : heat_furnace), (wantedF x l).fur = { x.fur with L := x.fur.L ++ l.map (fun w => (w.Place.toNat, w.Heat.Lo)), M := x.fur.M ++ l.map (fun w => (w.Place.toNat, w.Heat.Hi)) }
 | [], x => by simp [wantedF]
 | w :: l, x => by
  have := wantedF_fur l (askF x w.Place w.Heat)
  unfold wantedF at this ⊢
  rw [List.foldl_cons, this, askF_fur]
  simp [Fur.ask]
theorem wantedF_firing : ∀ (l : List Want) (x : heat_furnace), (wantedF x l).Firing = x.Firing
 | [], x => rfl
 | w :: l, x => by
  have := wantedF_firing l (askF x w.Place w.Heat)
  unfold wantedF at this ⊢
  rw [List.foldl_cons, this]; rfl
theorem wantedF_ok : ∀ (l : List Want) {x : heat_furnace}, x.ok → x.least.length + l.length ≤ 1000 → x.most.length + l.length ≤ 1000 → (∀ w ∈ l, 0 ≤ w.Place ∧ w.Place < x.Firing.Kiln.P ∧ -3000 ≤ w.Heat.Lo ∧ w.Heat.Lo ≤ w.Heat.Hi ∧ w.Heat.Hi ≤ 3000) → (wantedF x l).ok
 | [], x, h, _, _, _ => h
 | w :: l, x, h, h1, h2, h3 => by
  simp only [List.length_cons] at h1 h2
  have hw := h3 w (by simp)
  have := wantedF_ok l (x := askF x w.Place w.Heat) (askF_ok h (by omega) (by omega) hw.1 hw.2.1 (by omega) (by omega)) (by simp [askF]; omega) (by simp [askF]; omega) (fun v hv => h3 v (List.mem_cons_of_mem _ hv))
  exact this
theorem heat_wanted_loop (l : List Want) (x : heat_furnace) (hl : l.length ≤ 24) (h1 : x.least.length ≤ 200) (h2 : x.most.length ≤ 200) : whl (heat_wanted.b0 KK l) KK (x, 0) = some (.brk (wantedF x l)) := by
 have h := (whl_fold (l := l) (body := heat_wanted.b0 KK l) (k := KK) (fun i s => (s, i)) (fun s w => askF s w.Place w.Heat) (fun i s => s.least.length ≤ 200 + i ∧ s.most.length ≤ 200 + i) (s0 := x) (by omega) (by unfold KK; omega) ⟨by omega, by omega⟩ (fun i w s hw hI => by
  have hi : i < l.length := (List.getElem?_eq_some_iff.1 hw).1
  refine ⟨?_, by simp [askF]; omega, by simp [askF]; omega⟩
  unfold heat_wanted.b0
  simp only [lt_dec hi, cond_true, at_of hw, Option.bind_some]
  rw [heat_asked_eq s (by omega) (by omega)]
  rfl) (fun s _ => by
  unfold heat_wanted.b0
  simp only [lt_dec_self]; rfl)).1
 rw [h]; rfl
theorem nf_len {f : Firing} (h : f.ok) : (nf f).least.length ≤ 100 ∧ (nf f).most.length ≤ 100 := by
 have h2 := h.l
 have a := limsOf_len f.Readings lo?
 have b := limsOf_len f.Readings hi?
 exact ⟨by show (limsOf f.Readings lo?).length ≤ 100; omega, by show (limsOf f.Readings hi?).length ≤ 100; omega⟩
def wCode (f : Firing) (l : List Want) : Int := bif !decide (firingCode f = 0) then 42 else bif !wantsB f.Kiln.P l then 49 else bif !soundB (nf f) then 44 else 0
theorem heat_wanted_eq (f : Firing) (q : Firing.s f) (w : Firing.w f) (l : List Want) : heat_wanted KK f l = some (bif decide (wCode f l = 0) then (nf f, wantedF (nf f) l, 0) else (noFur, noFur, wCode f l)) := by
 unfold heat_wanted wCode
 rw [heat_Check_eq f q]
 simp only [Option.bind_some]
 by_cases h : firingCode f = 0
 ·have hok := firing_ok h
  have hk := kilnB_len hok.k
  simp only [h, decide_true, Bool.not_true, cond_false]
  unfold wantsB
  by_cases hl : (24 : Int) < (l.length : Int)
  ·simp only [hl, decide_true, Bool.not_true, cond_false, Bool.false_and, Bool.not_false, cond_true]; rfl
  ·simp only [hl, decide_false, Bool.not_false, cond_true, Bool.true_and]
   rw [contains_Want (by omega) (p := fun w => !wantB f.Kiln.P w) (fun w => by unfold heat_wanted_2; simp only [heat_wanted_1_eq hok.k, Option.bind_some])]
   have : (l.any fun w => !wantB f.Kiln.P w) = !l.all (wantB f.Kiln.P) := by simp [List.all_eq_not_any_not]
   rw [this]
   simp only [Option.bind_some]
   cases l.all (wantB f.Kiln.P) with
   | false => rfl
   | true =>
    simp only [Bool.not_true, cond_false, heat_asks_eq f q w, Option.bind_some]
    have hi : inB 0 0 ((f.Kiln.P : Int) - 1) = true := by simp [inB]; omega
    unfold askCode
    simp only [h, hi, decide_true, Bool.not_true, cond_false]
    cases hs : soundB (nf f) with
    | false => rfl
    | true =>
     have hn := nf_len hok
     simp only [Bool.not_true, cond_false, decide_true, cond_true]
     rw [heat_wanted_loop l (nf f) (by omega) (by omega) (by omega)]
     rfl
 ·simp only [h, decide_false, Bool.not_false, cond_true]; rfl
theorem wCode_ok {f : Firing} {l : List Want} (h : wCode f l = 0) : firingCode f = 0 ∧ f.ok ∧ l.length ≤ 24 ∧ (∀ w ∈ l, 0 ≤ w.Place ∧ w.Place < f.Kiln.P ∧ -3000 ≤ w.Heat.Lo ∧ w.Heat.Lo ≤ w.Heat.Hi ∧ w.Heat.Hi ≤ 3000) ∧ (nf f).fur.Sound ∧ soundB (nf f) = true ∧ (wantedF (nf f) l).ok ∧ wantsB f.Kiln.P l = true := by
 unfold wCode at h
 by_cases hc : firingCode f = 0
 ·have hok := firing_ok hc
  simp only [hc, decide_true, Bool.not_true, cond_false] at h
  cases hw : wantsB f.Kiln.P l with
  | false => rw [hw] at h; simp at h
  | true =>
   rw [hw] at h
   cases hs : soundB (nf f) with
   | false => rw [hs] at h; simp at h
   | true =>
    obtain ⟨w1, w2⟩ := wantsB_ok hw
    have hn := nf_len hok
    exact ⟨hc, hok, w1, w2, (soundB_iff (nf_ok hok)).1 hs, rfl, wantedF_ok l (nf_ok hok) (by omega) (by omega) w2, rfl⟩
 ·simp [hc] at h
def ringOf (w : Want) : Reading := ⟨1, w.Place, 3, 0, w.Heat⟩
def wf (f : Firing) (l : List Want) : Firing := ⟨f.Kiln, f.Readings ++ l.map ringOf⟩
def lpOf (g : Reading → Option Int) (r : Reading) : Option (Nat × Int) := (g r).map fun n => (r.Place.toNat, n)
theorem limsOf_map (l : List Reading) (g : Reading → Option Int) : (limsOf l g).map lp = l.filterMap (lpOf g) := by
 have key : ∀ (m : List Reading) (K : List Reading), l = K ++ m → ((List.range' K.length m.length).filterMap (limOf l g)).map lp = m.filterMap (lpOf g) := by
  intro m
  induction m with
  | nil => intro K _; rfl
  | cons r m ih =>
   intro K hK
   have hx : l[K.length]? = some r := by rw [hK]; simp
   have := ih (K ++ [r]) (by rw [hK]; simp)
   rw [List.length_append, List.length_singleton] at this
   rw [List.length_cons, List.range'_succ, List.filterMap_cons, List.filterMap_cons, ← this]
   have e1 : limOf l g K.length = (g r).map fun n => ⟨r.Place, n, K.length⟩ := by unfold limOf; rw [getD_of rd0 hx]
   have e2 : lpOf g r = (g r).map fun n => (r.Place.toNat, n) := rfl
   rw [e1, e2]
   cases g r <;> rfl
 have := key l [] rfl
 rw [List.length_nil, ← List.range_eq_range'] at this
 exact this
theorem wf_fur (f : Firing) (l : List Want) : (nf (wf f l)).fur = (wantedF (nf f) l).fur := by
 rw [wantedF_fur]
 unfold heat_furnace.fur nf wf
 simp only [limsOf_map, List.filterMap_append]
 have h1 : (l.map ringOf).filterMap (lpOf lo?) = l.map (fun w => (w.Place.toNat, w.Heat.Lo)) := by
  rw [List.filterMap_map, ← List.filterMap_eq_map]; rfl
 have h2 : (l.map ringOf).filterMap (lpOf hi?) = l.map (fun w => (w.Place.toNat, w.Heat.Hi)) := by
  rw [List.filterMap_map, ← List.filterMap_eq_map]; rfl
 rw [h1, h2]
theorem wf_ok {f : Firing} (h : f.ok) {l : List Want} (h0 : f.Readings.length ≤ 60) (hl : l.length ≤ 24) (hw : ∀ w ∈ l, 0 ≤ w.Place ∧ w.Place < f.Kiln.P ∧ -3000 ≤ w.Heat.Lo ∧ w.Heat.Lo ≤ w.Heat.Hi ∧ w.Heat.Hi ≤ 3000) : (wf f l).ok := by
 refine ⟨h.k, by simp [wf]; omega, fun r hr => ?_⟩
 have hr' : r ∈ f.Readings ++ l.map ringOf := hr
 rcases List.mem_append.1 hr' with hr | hr
 ·exact h.r r hr
 ·obtain ⟨w, hw2, rfl⟩ := List.mem_map.1 hr
  obtain ⟨a, b, c, d, e⟩ := hw w hw2
  refine ⟨a, b, .inr (.inr rfl), fun n hn => ?_, fun n hn => ?_⟩
  ·have : w.Heat.Lo = n := by simpa [lo?, ringOf] using hn
   omega
  ·have : w.Heat.Hi = n := by simpa [hi?, ringOf] using hn
   omega
theorem wf_soundB {f : Firing} {l : List Want} (h1 : (wf f l).ok) (h2 : (wantedF (nf f) l).ok) : soundB (nf (wf f l)) = soundB (wantedF (nf f) l) := by
 rw [Bool.eq_iff_iff, soundB_iff (nf_ok h1), soundB_iff h2, wf_fur]
theorem R04_wanted_eq {f : Firing} (h : f.ok) (l : List Want) (hl : l.length ≤ 24) : R04_wanted KK f l = some (wf f l) := by
 have h2 := h.l
 obtain ⟨s1, s2, s3⟩ := kilnB_small h.k
 unfold R04_wanted
 rw [R04_kiln_eq f.Kiln (by omega) (fun x hx => by rw [s3 x hx]; omega)]
 simp only [Option.bind_some]
 rw [room_of (by omega) (by omega)]
 simp only [Option.bind_some]
 have h := (whl_fold (l := l) (body := R04_wanted.b0 KK l) (k := KK) (fun i s => (i, s)) (fun s w => s ++ [ringOf w]) (fun i s => s.length ≤ 100 + i) (s0 := f.Readings) (by omega) (by unfold KK; omega) (by omega) (fun i w s hw hI => by
  have hi : i < l.length := (List.getElem?_eq_some_iff.1 hw).1
  refine ⟨?_, by simp; omega⟩
  unfold R04_wanted.b0
  simp only [lt_dec hi, cond_true, at_of hw, Option.bind_some]
  rw [push_of (by omega) (by omega)]
  rfl) (fun s _ => by
  unfold R04_wanted.b0
  simp only [lt_dec_self]; rfl)).1
 rw [h, foldl_map ringOf]; rfl
def inR (f : Firing) (w : Want) : Bool := !decide ((rngX (nf f) w.Place.toNat).Lo < w.Heat.Lo) && !decide (w.Heat.Hi < (rngX (nf f) w.Place.toNat).Hi)
def ansR (f : Firing) (l : List Want) : Int := bif !soundB (wantedF (nf f) l) then 0 else bif l.all (inR f) then 1 else 2
def togR (f : Firing) (l : List Want) : Int × Int := bif !decide (wCode f l = 0) then (0, wCode f l) else (ansR f l, 0)
theorem heat_Together_eq (f : Firing) (q : Firing.s f) (w : Firing.w f) (l : List Want) : heat_Together KK f l = some (togR f l) := by
 unfold heat_Together togR ansR
 rw [heat_wanted_eq f q w]
 simp only [Option.bind_some]
 by_cases h : wCode f l = 0
 ·obtain ⟨h1, h2, h3, h4, h5, h6, h7, _⟩ := wCode_ok h
  simp only [h, decide_true, cond_true, Bool.not_true, cond_false, heat_sound_eq h7, Option.bind_some]
  cases soundB (wantedF (nf f) l) with
  | false => rfl
  | true =>
   simp only [Bool.not_true, cond_false]
   rw [whl_allL (l := l) (p := inR f) (c := ((2, 0) : Int × Int)) (by omega) (by unfold KK; omega) ?_ ?_]
   ·cases l.all (inR f) <;> rfl
   ·intro i v hv
    have hi : i < l.length := (List.getElem?_eq_some_iff.1 hv).1
    obtain ⟨a, b, _⟩ := h4 v (List.mem_of_getElem? hv)
    have hpl : ((v.Place.toNat : Nat) : Int) = v.Place := by omega
    have e1 := (rngX_spec (nf_ok h2) h5 (q := v.Place.toNat) (by show _ < f.Kiln.P; omega)).1
    rw [hpl] at e1
    unfold heat_Together.b0 inR
    simp only [lt_dec hi, cond_true, at_of hv, Option.bind_some, e1]
    cases decide ((rngX (nf f) v.Place.toNat).Lo < v.Heat.Lo) <;> cases decide (v.Heat.Hi < (rngX (nf f) v.Place.toNat).Hi) <;> rfl
   ·unfold heat_Together.b0
    rw [lt_dec_self]; rfl
 ·simp only [h, decide_false, cond_false, Bool.not_false, cond_true]
theorem R04_Together_eq (f : Firing) (q : Firing.s f) (l : List Want) : R04_Together KK f l = some (togR f l) := by
 unfold R04_Together togR
 rw [R04_Check_eq f q]
 simp only [Option.bind_some]
 by_cases h : wCode f l = 0
 ·obtain ⟨h1, h2, h3, h4, h5, h6, h7, h8⟩ := wCode_ok h
  have h9 := (firing_small h1).2.1
  have hwf := wf_ok h2 h9 h3 h4
  simp only [h, h1, h8, h6, decide_true, cond_true, Bool.not_true, cond_false, R04_areWants_eq h2.k, R04_IsSound_eq h2, Option.bind_some]
  unfold R04_answer ansR
  simp only [R04_wanted_eq h2 l h3, R04_IsSound_eq hwf, wf_soundB hwf h7, Option.bind_some]
  cases soundB (wantedF (nf f) l) with
  | false => rfl
  | true =>
   simp only [Bool.not_true, cond_false]
   rw [whl_allL (l := l) (p := inR f) (c := (2 : Int)) (by omega) (by unfold KK; omega) ?_ ?_]
   ·cases l.all (inR f) <;> rfl
   ·intro i v hv
    have hi : i < l.length := (List.getElem?_eq_some_iff.1 hv).1
    obtain ⟨a, b, _⟩ := h4 v (List.mem_of_getElem? hv)
    have hpl : ((v.Place.toNat : Nat) : Int) = v.Place := by omega
    have e1 := R04_bound_rng h2 h5 (q := v.Place.toNat) (by omega)
    rw [hpl] at e1
    unfold R04_answer.b0 inR
    simp only [lt_dec hi, cond_true, at_of hv, Option.bind_some, e1]
    cases decide ((rngX (nf f) v.Place.toNat).Lo < v.Heat.Lo) <;> cases decide (v.Heat.Hi < (rngX (nf f) v.Place.toNat).Hi) <;> rfl
   ·unfold R04_answer.b0
    rw [lt_dec_self]; rfl
 ·simp only [h, decide_false, Bool.not_false, cond_true]
  unfold wCode at h ⊢
  by_cases hc : firingCode f = 0
  ·have hok := firing_ok hc
   simp only [hc, decide_true, Bool.not_true, cond_false, R04_areWants_eq hok.k, Option.bind_some] at h ⊢
   cases hw : wantsB f.Kiln.P l with
   | false => rfl
   | true =>
    rw [hw] at h
    simp only [Bool.not_true, cond_false, R04_IsSound_eq hok, Option.bind_some] at h ⊢
    cases hs : soundB (nf f) with
    | false => rfl
    | true => rw [hs] at h; simp at h
  ·simp only [hc, decide_false, Bool.not_false, cond_true]
def verR (f : Firing) (p : Int) (r : Range) : Int × Int := bif !decide (firingCode f = 0) then (0, 42) else bif !inB p 0 ((f.Kiln.P : Int) - 1) then (0, 43) else togR f [⟨p, r⟩]
theorem heat_Verdict_eq (f : Firing) (q : Firing.s f) (w : Firing.w f) (p : Int) (r : Range) : heat_Verdict KK f p r = some (verR f p r) := by
 unfold heat_Verdict verR
 rw [heat_Check_eq f q]
 simp only [Option.bind_some]
 by_cases h : firingCode f = 0
 ·have hok := firing_ok h
  have hk := kilnB_len hok.k
  obtain ⟨x3, g1, g2⟩ := kiln_P hok.k
  simp only [h, decide_true, Bool.not_true, cond_false, g1, g2, Option.bind_some, heat_in_eq]
  rw [w64_of (n := (f.Kiln.P : Int) - 1) (by omega) (by omega)]
  cases inB p 0 ((f.Kiln.P : Int) - 1) with
  | false => rfl
  | true => simp only [Bool.not_true, cond_false, heat_Together_eq f q w, Option.bind_some]
 ·simp only [h, decide_false, Bool.not_false, cond_true]
theorem R04_Verdict_eq (f : Firing) (q : Firing.s f) (p : Int) (r : Range) : R04_Verdict KK f p r = some (verR f p r) := by
 unfold R04_Verdict verR
 rw [R04_asked_eq f q]
 simp only [Option.bind_some]
 by_cases h : firingCode f = 0
 ·simp only [h, decide_true, Bool.not_true, cond_false]
  cases inB p 0 ((f.Kiln.P : Int) - 1) with
  | false => rfl
  | true => simp only [Bool.not_true, cond_false, decide_true, R04_Together_eq f q, Option.bind_some]
 ·simp only [h, decide_false, Bool.not_false, cond_true]; rfl
def showR (f : Firing) (l : List Want) : Field × Int := bif !decide (wCode f l = 0) then (⟨[], []⟩, wCode f l) else bif !soundB (wantedF (nf f) l) then (⟨[], []⟩, 3) else (gField (wantedF (nf f) l), 0)
theorem heat_Show_eq (f : Firing) (q : Firing.s f) (w : Firing.w f) (l : List Want) : heat_Show KK f l = some (showR f l) := by
 unfold heat_Show showR
 rw [heat_wanted_eq f q w]
 simp only [Option.bind_some]
 by_cases h : wCode f l = 0
 ·obtain ⟨h1, h2, h3, h4, h5, h6, h7, _⟩ := wCode_ok h
  simp only [h, decide_true, cond_true, Bool.not_true, cond_false, heat_sound_eq h7, Option.bind_some]
  cases soundB (wantedF (nf f) l) with
  | false => rfl
  | true => simp only [Bool.not_true, cond_false, heat_greatest_eq h7, Option.bind_some]
 ·simp only [h, decide_false, cond_false, Bool.not_false, cond_true]
theorem gField_wanted {f : Firing} {l : List Want} (h : wCode f l = 0) (hs : soundB (wantedF (nf f) l) = true) : FieldOk f.Kiln (gField (wantedF (nf f) l)) ∧ agB f (gField (wantedF (nf f) l)) = true ∧ agB (wf f l) (gField (wantedF (nf f) l)) = true := by
 obtain ⟨h1, h2, h3, h4, h5, h6, h7, _⟩ := wCode_ok h
 have h9 := (firing_small h1).2.1
 have hwf := wf_ok h2 h9 h3 h4
 have hS := (soundB_iff h7).1 hs
 have hF := gField_ok h7 hS
 have hfi : (wantedF (nf f) l).Firing = f := wantedF_firing l (nf f)
 rw [hfi] at hF
 have hA : (wantedF (nf f) l).fur.Agrees (gField (wantedF (nf f) l)).u (gField (wantedF (nf f) l)).d := by
  have hsm := fur_small h7
  have hg := Fur.gd_agrees hS
  have hk := kilnB_len h2.k
  have e : ∀ p, p < f.Kiln.P → (wantedF (nf f) l).fur.heat (gField (wantedF (nf f) l)).u (gField (wantedF (nf f) l)).d p = (wantedF (nf f) l).fur.heat (wantedF (nf f) l).fur.U (wantedF (nf f) l).fur.gd p := by
   intro p hp
   refine mx_congr _ fun j hj => ?_
   have hm : (wantedF (nf f) l).fur.m = (wantedF (nf f) l).Firing.Kiln.Falls.length - 1 := rfl
   rw [hfi] at hm
   rw [gField_u _ (by rw [hfi]; omega), gField_d _ (by rw [hfi]; omega) (by rw [hfi]; exact hp)]
  rw [hfi] at hsm
  exact ⟨fun z hz => by rw [e _ (hsm.1 z hz).1]; exact hg.1 z hz, fun z hz => by rw [e _ (hsm.2 z hz).1]; exact hg.2 z hz⟩
 refine ⟨hF, ?_, ?_⟩
 ·rw [agB_iff h2]
  have := wantedF_fur l (nf f)
  rw [this] at hA
  exact ⟨fun z hz => hA.1 z (List.mem_append.2 (.inl hz)), fun z hz => hA.2 z (List.mem_append.2 (.inl hz))⟩
 ·rw [agB_iff hwf, wf_fur]; exact hA
theorem fieldCode_ok {f : Firing} {x : Field} (h1 : firingCode f = 0) (h2 : FieldOk f.Kiln x) (h3 : agB f x = true) : fieldCode f x = 0 := by
 unfold fieldCode
 simp [h1, (fieldB_iff h2.kv x).2 h2, h3]
theorem R04_Shows_err (f : Firing) (q : Firing.s f) (l : List Want) (x : Field) (h : (showR f l).2 ≠ 0) : R04_Shows KK f l x = some (showR f l).2 := by
 unfold R04_Shows
 rw [R04_Together_eq f q]
 unfold showR togR ansR at *
 by_cases hw : wCode f l = 0
 ·simp only [hw, decide_true, Bool.not_true, cond_false, Option.bind_some] at h ⊢
  cases hs : soundB (wantedF (nf f) l) with
  | false => rfl
  | true => rw [hs] at h; simp at h
 ·simp only [hw, decide_false, Bool.not_false, cond_true, Option.bind_some]
theorem R04_Shows_due (f : Firing) (q : Firing.s f) (l : List Want) (h : (showR f l).2 = 0) : R04_Shows KK f l (showR f l).1 = some 0 := by
 have hw : wCode f l = 0 := by
  unfold showR at h
  by_cases hw : wCode f l = 0
  ·exact hw
  ·simp [hw] at h
 have hs : soundB (wantedF (nf f) l) = true := by
  unfold showR at h
  cases hs : soundB (wantedF (nf f) l) with
  | false => simp [hw, hs] at h
  | true => rfl
 obtain ⟨h1, h2, h3, h4, h5, h6, h7, _⟩ := wCode_ok hw
 have h9 := (firing_small h1).2.1
 have hwf := wf_ok h2 h9 h3 h4
 obtain ⟨g1, g2, g3⟩ := gField_wanted hw hs
 have hx : (showR f l).1 = gField (wantedF (nf f) l) := by unfold showR; simp [hw, hs]
 have ht : togR f l = (ansR f l, 0) := by unfold togR; simp [hw]
 have ha : ¬ ansR f l = 0 := by
  unfold ansR
  rw [hs]
  cases l.all (inR f) <;> simp
 rw [hx]
 unfold R04_Shows
 rw [R04_Together_eq f q, ht]
 simp only [Option.bind_some, decide_true, Bool.not_true, cond_false, ha, decide_false, R04_CheckField_eq f q, fieldCode_ok h1 g1 g2, cond_true, R04_wanted_eq h2 l h3]
 have := R04_agrees_eq hwf (x := gField (wantedF (nf f) l)) g1
 rw [this, g3]
 rfl
end Go.Abs
namespace Go.Abs
open Go
set_option linter.unusedVariables false
end Go.Abs
namespace Go.Abs
open Go
set_option linter.unusedVariables false
end Go.Abs
namespace Go.Abs
open Go
end Go.Abs
namespace Go.Abs
open Go
set_option linter.unusedVariables false
end Go.Abs
namespace Go.Abs
open Go
set_option linter.unusedVariables false
theorem Fur.High.mono {f : Fur} {q : Nat} {s t : Int} (h : f.High q t) (hst : s ≤ t) : f.High q s := by
 obtain ⟨⟨j, h1, h2⟩, h3⟩ := h
 exact ⟨⟨j, h1, by omega⟩, fun y hy e => by have := h3 y hy e; omega⟩
end Go.Abs
namespace Go.Abs
open Go
set_option linter.unusedVariables false
theorem heatWants_plain (a0 : Firing) (a1 : List Want) (a2 : Want) (q0 : Firing.q a0) : L04_HeatWants KK a0 a1 a2 = some true := by
 have hs := q0.s
 have hw := q0.w
 have hE : R04_Empty KK (⟨[], []⟩ : Field) = some true := rfl
 unfold L04_HeatWants
 simp only [heat_Together_eq _ hs hw, R04_Together_eq _ hs, heat_Verdict_eq _ hs hw, R04_Verdict_eq _ hs, heat_Show_eq _ hs hw, Option.bind_some, cond_true, decide_true, sane_KK, Bool.not_true, cond_false]
 by_cases h0 : wCode a0 a1 = 0
 ·have ht : togR a0 a1 = (ansR a0 a1, 0) := by unfold togR; simp [h0]
  simp only [ht, decide_true, cond_true]
  cases hb : soundB (wantedF (nf a0) a1) with
  | false =>
   have h1 : ansR a0 a1 = 0 := by unfold ansR; simp [hb]
   have h2 : showR a0 a1 = (⟨[], []⟩, 3) := by unfold showR; simp [h0, hb]
   simp only [h1, decide_true, cond_true]
   rw [R04_Shows_err a0 hs a1 _ (by rw [h2]; decide), h2]
   simp only [Option.bind_some, decide_true, cond_true, hE]
  | true =>
   have h1 : ¬ ansR a0 a1 = 0 := by unfold ansR; rw [hb]; cases a1.all (inR a0) <;> simp
   have h2 : (showR a0 a1).2 = 0 := by unfold showR; simp [h0, hb]
   simp only [h1, decide_false, cond_false, h2, decide_true, cond_true, R04_Shows_due a0 hs a1 h2, Option.bind_some]
 ·have ht : togR a0 a1 = (0, wCode a0 a1) := by unfold togR; simp [h0]
  have h2 : showR a0 a1 = (⟨[], []⟩, wCode a0 a1) := by unfold showR; simp [h0]
  simp only [ht, h0, decide_false, cond_false]
  rw [R04_Shows_err a0 hs a1 _ (by rw [h2]; exact h0), h2]
  simp only [Option.bind_some, decide_true, cond_true, hE]
end Go.Abs
namespace Go.Proofs.YtafmgcbfmifaeaaGreat.heatWants
open Go.Abs
theorem plain (a0 : Go.Abs.Firing) (a1 : (List Go.Abs.Want)) (a2 : Go.Abs.Want) : Go.Abs.Firing.q a0 → (fun l => l.length ≤ Go.maxLen ∧ l.length * 24 ≤ qB ∧ ∀ a ∈ l, Go.Abs.Want.q a) a1 → Go.Abs.Want.q a2 → ∃ k, L04_HeatWants k a0 a1 a2 = some true := by
 intro q0 _ _; exact ⟨_, heatWants_plain a0 a1 a2 q0⟩
end Go.Proofs.YtafmgcbfmifaeaaGreat.heatWants
namespace Go.Proofs.YtafmgcbfmifaeaaGreat.heatWants
open Go.ChangeShapes Go.WideShapes Go.ChangeAt Go.RowKit Go.Abs
set_option maxRecDepth 100000
theorem own : ownKnob Tryz.prog.godebug = none := by kernel_rfl
theorem contract (H : Type) (enc : TypeId × Value → H) (W : World) (base : Nat) (args : Array Value) (ds gs : List (DataW H)) (before : List MemPlace)
  (hval : ∀ (j : Nat) t v, Tryz.f3.params[j]? = some t → args[j]? = some v → Value.okWide Tryz.prog W .any base t v)
  (hW : DataW.Whole enc Tryz.prog Tryz.f3.params.toList Rows.heatWantsSpec.vars false W args.toList ds gs before) (hsz0 : (DataW.weightsEach Tryz.prog (Tryz.f3.params.toList ++ Rows.heatWantsSpec.plain.varTypes Tryz.prog) (ds ++ gs)).all (· ≤ reachBytes) = true) :
  Calls Tryz.prog 3 args W fun e W' => ∃ v, e = .returned v ∧ Rows.heatWantsSpec.post enc Tryz.prog Tryz.f3 false true false false W args v W' := by
 have hW' := hW
 obtain ⟨p, q, hA0, hV, rfl, hfz, hnd⟩ := hW
 have hA : DataW.TrodAll enc Tryz.prog W 0 (fun _ => true) true Tryz.f3.params.toList args.toList ds p := hA0
 rw [Tryz.params3] at hA hval
 obtain ⟨v0, vs0, d0, ds0, p0, q0, hargs, rfl, rfl, h0, r0⟩ := trodAll_cons hA
 obtain ⟨v1, vs1, d1, ds1, p1, q1, rfl, rfl, rfl, h1, r1⟩ := trodAll_cons r0
 obtain ⟨v2, vs2, d2, ds2, p2, q2, rfl, rfl, rfl, h2, r2⟩ := trodAll_cons r1
 obtain ⟨rfl, rfl, rfl⟩ := trodAll_nil r2
 have hsz : ∀ (j : Nat) t d, Tryz.f3.params.toList[j]? = some t → [d0, d1, d2][j]? = some d → ∀ n ∈ d.weights Tryz.prog t, n ≤ reachBytes := weights_of (by rw [Tryz.params3]; rfl) hsz0
 rw [Tryz.params3] at hsz
 obtain rfl : args = #[v0, v1, v2] := by cases args; simp_all
 obtain ⟨a0, Q0, V0⟩ := arg_agg reads_27 (by have h := hval 0 27 v0 rfl rfl; unfold Value.okWide at h; rw [Tryz.underlying27] at h; obtain ⟨cs, h, _⟩ := h; exact ⟨cs, h⟩) h0 (hsz 0 27 d0 rfl rfl)
 obtain ⟨a1, Q1, V1⟩ := arg_one reads_28 (by have h := hval 1 28 v1 rfl rfl; unfold Value.okWide at h; rw [Tryz.underlying28] at h; unfold Cell.okWide Cell.ok at h; rw [Tryz.underlying28] at h; cases v1 <;> first | rfl | (simp at h; done)) (fun l => AV.sl 3 (List.map Go.Abs.Want.c l)) (fun _ => rfl) h1 (hsz 1 28 d1 rfl rfl)
 obtain ⟨a2, Q2, V2⟩ := arg_agg reads_32 (by have h := hval 2 32 v2 rfl rfl; unfold Value.okWide at h; rw [Tryz.underlying32] at h; obtain ⟨cs, h, _⟩ := h; exact ⟨cs, h⟩) h2 (hsz 2 32 d2 rfl rfl)
 obtain ⟨k, hk⟩ := plain a0 a1 a2 Q0 Q1 Q2
 have hv : VRs (fmAll W) [] [.agg (Go.Abs.Firing.c a0), .sl 3 (List.map Go.Abs.Want.c a1), .agg (Go.Abs.Want.c a2)] [v0, v1, v2] := ⟨rfl, fun i x v h1 h2 => by
  match i with
  | 0 => cases h1; cases h2; exact V0
  | 1 => cases h1; cases h2; exact V1
  | 2 => cases h1; cases h2; exact V2
  | i + 3 => simp at h1⟩
 refine Calls.mono ((L04_HeatWants_ok k a0 a1 a2 true hk).2 (fmAll W) W _ (fun _ _ _ h => h) hv) ?_
 rintro e W1 ⟨v, y, fm1, rfl, rfl, _, hvr, _, hB⟩
 cases hvr
 exact ⟨_, rfl, law_post (t := 4) (by kernel_rfl) (by kernel_rfl) (by kernel_rfl) hW' rfl hB (by rw [Tryz.params3]; decide +kernel) rfl Tryz.underlying4 (by obtain ⟨rfl, _⟩ := trodVars_none hV; rfl)⟩
theorem lifted (os : Os) (started : os.Started) (H : Type) (enc : TypeId × Value → H) :
  ReturnsInHanded {} Tryz.checked os 3 .any (Rows.heatWantsSpec.pre6 enc Tryz.prog Tryz.f3 Rows.heatWantsRow.domain false) (Rows.heatWantsSpec.post enc Tryz.prog Tryz.f3 false true false false) := by
 refine returnsInHanded_of_change_sized (C := Tryz.checked) own started (by kernel_rfl) Tryz.func3
  (ChangeSpec.witness6 (enc := enc) (C := Tryz.checked) false ⟨#[], #[.agg #[.slice none 0 0, .slice none 0 0], .slice none 0 0, .agg #[.int .i64 0, .int .i64 0, .int .i64 0]], []⟩ 8 (by kernel_rfl) (by kernel_rfl) (by kernel_rfl) (by kernel_rfl)) ?_
 intro W base args ds gs before hval0 hW hcnd hsz _
 exact contract H enc W base args ds gs before hval0 hW hsz
theorem over : Rows.heatWantsRow.holds Tryz.pinned (OpenSpec.ofChange Rows.heatWantsSpec) :=
 OpenClaim.holds_of_wide 3 Tryz.f3 rfl rfl rfl rfl rfl rfl rfl ⟨rfl, rfl, rfl, rfl, rfl⟩ rfl rfl rfl rfl rfl (by kernel_rfl) Tryz.func3 (by kernel_rfl)
  (of_decide_eq_true (by kernel_rfl)) (by unfold Func.isWrapper; first | (rw [if_pos (by decide +kernel)]; kernel_rfl) | (rw [if_neg (by decide +kernel)]; exact ⟨rfl, rfl⟩))
  (fun os started H enc _ => lifted os started H enc)
theorem proved : Rows.HeatWantsSaid := over
end Go.Proofs.YtafmgcbfmifaeaaGreat.heatWants
