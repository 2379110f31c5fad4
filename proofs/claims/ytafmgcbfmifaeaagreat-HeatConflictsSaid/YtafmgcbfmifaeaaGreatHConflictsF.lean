/-
  Part 6 of the proof: a machine over named blocks, what each function computes, and what follows. No condition.
-/
import Derived.Test.YtafmgcbfmifaeaaGreatRows
import Derived.WalkKit
import Derived.ProofKit
import Derived.OpenShut
import Derived.Test.YtafmgcbfmifaeaaGreatHConflictsE
set_option linter.unusedVariables false
set_option linter.unusedSimpArgs false
set_option linter.all false
set_option maxRecDepth 20000
set_option maxHeartbeats 8000000
namespace Go.Abs
open Go
set_option linter.unusedVariables false
theorem dec_lt_le (a b : Int) : decide (a < b) = !decide (b ≤ a) := by
 by_cases h : a < b
 ·rw [decide_eq_true h, decide_eq_false (by omega)]; rfl
 ·rw [decide_eq_false h, decide_eq_true (by omega)]; rfl
theorem at_mapR {α : Type} (g : Nat → α) {n j : Nat} (h : j < n) : at? ((List.range n).map g) (j : Int) = some (g j) := by
 apply at_of
 rw [List.getElem?_map, List.getElem?_range h]; rfl
theorem Fur.Lims.b_ge {f : Fur} {P : Nat} {a b : Nat → Int} (h : f.Lims P a b) {p : Nat} (hp : p < P) : -3000 ≤ b p := by
 rw [h.B p _ hp]
 exact ⟨by omega, fun y hy _ => (h.sm.2 y hy).2.1⟩
theorem Fur.Lims.a_le {f : Fur} {P : Nat} {a b : Nat → Int} (h : f.Lims P a b) {p : Nat} (hp : p < P) : a p ≤ 3000 := by
 rw [h.A p _ hp]
 exact ⟨by omega, fun y hy _ => (h.sm.1 y hy).2.2⟩
theorem R04_hottest_eq {f : Firing} (h : f.ok) : R04_hottest KK f = some ((List.range f.Kiln.Falls.length).map (nf f).fur.U) := by
 have hk := kilnB_len h.k
 obtain ⟨l, e1, e2, e3⟩ := R04_limits_eq h
 unfold R04_hottest
 rw [e1]
 simp only [Option.bind_some]
 have h1 := (whl_foldN (n := f.Kiln.Falls.length) (body := R04_hottest.b0 KK f l) (k := KK) (fun i s => (i, s)) (fun s j => s ++ [(nf f).fur.U j]) (fun i s => s.length = i) (s0 := []) (by omega) (by unfold KK; omega) rfl ?_ ?_).1
 ·rw [h1, foldl_pushN]; rfl
 ·intro j s hj hI
  refine ⟨?_, by simp [hI]⟩
  unfold R04_hottest.b0
  simp only [lt_dec hj, cond_true]
  obtain ⟨h2, h3⟩ := whl_foldN (n := l.length) (body := R04_hottest.b1 KK f l (j : Int)) (k := KK) (fun i s => (s, i)) (fun s p => bif decide ((l.getD p R0).Hi < 1000000) then min s ((l.getD p R0).Hi + (nf f).fur.hi j p) else s)
   (fun i s => ∀ t, t ≤ s ↔ t ≤ 3000 ∧ ∀ p, p < i → (l.getD p R0).Hi < 1000000 → t ≤ (l.getD p R0).Hi + (nf f).fur.hi j p) (s0 := 3000) (by omega) (by unfold KK; omega) (by intro t; simp) (fun p s hp hI2 => by
    have g1 := kilnB_at h.k j p
    have g2 : -3000 ≤ (l.getD p R0).Hi := e3.b_ge (show p < f.Kiln.P by omega)
    have g3 : (nf f).fur.hi j p = (f.Kiln.at j p).Hi := rfl
    refine ⟨?_, fun t => ?_⟩
    ·unfold R04_hottest.b1
     simp only [lt_dec hp, cond_true, at_nat R0 hp, Option.bind_some, at_row h.k hj, at_cellN h.k hj (show p < f.Kiln.P by omega)]
     by_cases hc : (l.getD p R0).Hi < 1000000
     ·simp only [hc, decide_true, cond_true, g3]
      rw [w64_of (n := (l.getD p R0).Hi + (f.Kiln.at j p).Hi) (by omega) (by omega)]
     ·simp only [hc, decide_false, cond_false]
    ·by_cases hc : (l.getD p R0).Hi < 1000000
     ·simp only [hc, decide_true, cond_true]
      rw [Int.le_min, hI2 t]
      constructor
      ·rintro ⟨⟨k1, k2⟩, k3⟩
       refine ⟨k1, fun q hq hb => ?_⟩
       by_cases hqp : q = p
       ·subst hqp; exact k3
       ·exact k2 q (by omega) hb
      ·rintro ⟨k1, k2⟩
       exact ⟨⟨k1, fun q hq hb => k2 q (by omega) hb⟩, k2 p (by omega) hc⟩
     ·simp only [hc, decide_false, cond_false]
      rw [hI2 t]
      constructor
      ·rintro ⟨k1, k2⟩
       refine ⟨k1, fun q hq hb => ?_⟩
       by_cases hqp : q = p
       ·subst hqp; exact absurd hb hc
       ·exact k2 q (by omega) hb
      ·rintro ⟨k1, k2⟩
       exact ⟨k1, fun q hq hb => k2 q (by omega) hb⟩) (fun s _ => by
    unfold R04_hottest.b1
    simp only [lt_dec_self]; rfl)
  rw [h2]
  have : (List.range l.length).foldl (fun s p => bif decide ((l.getD p R0).Hi < 1000000) then min s ((l.getD p R0).Hi + (nf f).fur.hi j p) else s) 3000 = (nf f).fur.U j := by
   refine eq_of_le_iff fun t => ?_
   rw [h3 t, e3.U_iff j t, e2]
  rw [this]
  simp only [Option.bind_some]
  rw [push_of (by omega) (by omega)]
  rfl
 ·intro s _
  unfold R04_hottest.b0
  simp only [lt_dec_self]; rfl
theorem R04_reaches_eq {f : Firing} (h : f.ok) {j : Nat} (hj : j < f.Kiln.Falls.length) {p : Nat} (hp : p < f.Kiln.P) (n : Int) (hn : -1000000 ≤ n ∧ n ≤ 1000000) :
  R04_reaches KK f ((List.range f.Kiln.Falls.length).map (nf f).fur.U) (j : Int) (p : Int) n = some (decide (n + (nf f).fur.lo j p ≤ (nf f).fur.U j)) := by
 have g1 := kilnB_at h.k j p
 unfold R04_reaches
 simp only [at_row h.k hj, at_cellN h.k hj hp, Option.bind_some, at_mapR _ hj]
 rw [w64_of (n := n + (f.Kiln.at j p).Lo) (by omega) (by omega)]
 rfl
theorem R04_IsSound_eq {f : Firing} (h : f.ok) : R04_IsSound KK f = some (soundB (nf f)) := by
 have hk := kilnB_len h.k
 obtain ⟨l, e1, e2, e3⟩ := R04_limits_eq h
 have hm : (nf f).fur.m = f.Kiln.Falls.length - 1 := rfl
 unfold R04_IsSound
 rw [e1, R04_hottest_eq h]
 simp only [Option.bind_some]
 have hl : ((List.range f.Kiln.Falls.length).map (nf f).fur.U).length = f.Kiln.Falls.length := by simp
 rw [whl_allN (n := f.Kiln.Falls.length) (p := fun j => !decide ((nf f).fur.U j < 0)) (c := false) (by omega) (by unfold KK; omega) (fun j hj => by
  unfold R04_IsSound.b0
  rw [hl]
  simp only [lt_dec hj, cond_true, at_mapR _ hj, Option.bind_some]
  cases decide ((nf f).fur.U j < 0) <;> rfl) (by
  unfold R04_IsSound.b0
  rw [hl, lt_dec_self]; rfl)]
 have hb : ∀ p, p < f.Kiln.P → ∀ c : Int, -1000000 ≤ c ∧ c ≤ 1000000 → whl (R04_IsSound.b2 KK f ((List.range f.Kiln.Falls.length).map (nf f).fur.U) (p : Int) ⟨c, (l.getD p R0).Hi⟩) KK (decide (c = (-1000000 : Int)), 0) = some (.brk (decide (c = (-1000000 : Int)) || (List.range f.Kiln.Falls.length).any fun j => decide (c + (nf f).fur.lo j p ≤ (nf f).fur.U j))) := by
  intro p hp c hc
  have h1 := (whl_foldN (n := f.Kiln.Falls.length) (body := R04_IsSound.b2 KK f ((List.range f.Kiln.Falls.length).map (nf f).fur.U) (p : Int) ⟨c, (l.getD p R0).Hi⟩) (k := KK) (fun i s => (s, i)) (fun s j => s || decide (c + (nf f).fur.lo j p ≤ (nf f).fur.U j)) (fun _ _ => True) (s0 := decide (c = (-1000000 : Int))) (by omega) (by unfold KK; omega) trivial (fun j s hj _ => by
   refine ⟨?_, trivial⟩
   unfold R04_IsSound.b2
   simp only [hl, lt_dec hj, cond_true]
   cases s with
   | true => rfl
   | false =>
    simp only [Bool.not_false, cond_true, R04_reaches_eq h hj hp c hc, Option.bind_some, Bool.false_or]) (fun s _ => by
   unfold R04_IsSound.b2
   simp only [hl, lt_dec_self]; rfl)).1
  rw [h1]
  have : ∀ (m : List Nat) (s : Bool), m.foldl (fun s j => s || decide (c + (nf f).fur.lo j p ≤ (nf f).fur.U j)) s = (s || m.any fun j => decide (c + (nf f).fur.lo j p ≤ (nf f).fur.U j)) := by
   intro m
   induction m with
   | nil => simp
   | cons j m ih => intro s; rw [List.foldl_cons, ih, List.any_cons, Bool.or_assoc]
  rw [this]
 have hs2 : whl (R04_IsSound.b1 KK f l ((List.range f.Kiln.Falls.length).map (nf f).fur.U)) KK 0 = some (bif (List.range l.length).all (fun p => decide ((l.getD p R0).Lo ≤ (l.getD p R0).Hi) && (decide ((l.getD p R0).Lo = (-1000000 : Int)) || (List.range f.Kiln.Falls.length).any fun j => decide ((l.getD p R0).Lo + (nf f).fur.lo j p ≤ (nf f).fur.U j))) then .brk () else .ret false) := by
  refine whl_allN (n := l.length) (by omega) (by unfold KK; omega) (fun p hp => ?_) ?_
  ·unfold R04_IsSound.b1
   have g1 := e3.a_ge (show p < f.Kiln.P by omega)
   have g2 := e3.a_le (show p < f.Kiln.P by omega)
   have g3 := hb p (by omega) (l.getD p R0).Lo ⟨g1, by omega⟩
   have g4 : (⟨(l.getD p R0).Lo, (l.getD p R0).Hi⟩ : Range) = l.getD p R0 := rfl
   rw [g4] at g3
   simp only [lt_dec hp, cond_true, at_nat R0 hp, Option.bind_some, g3]
   have : decide ((l.getD p R0).Hi < (l.getD p R0).Lo) = !decide ((l.getD p R0).Lo ≤ (l.getD p R0).Hi) := dec_lt_le _ _
   rw [this]
   cases decide ((l.getD p R0).Lo ≤ (l.getD p R0).Hi) <;> cases (decide ((l.getD p R0).Lo = (-1000000 : Int)) || (List.range f.Kiln.Falls.length).any fun j => decide ((l.getD p R0).Lo + (nf f).fur.lo j p ≤ (nf f).fur.U j)) <;> rfl
  ·unfold R04_IsSound.b1
   rw [lt_dec_self]; rfl
 have hfin : soundB (nf f) = ((List.range f.Kiln.Falls.length).all (fun j => !decide ((nf f).fur.U j < 0)) && (List.range l.length).all (fun p => decide ((l.getD p R0).Lo ≤ (l.getD p R0).Hi) && (decide ((l.getD p R0).Lo = (-1000000 : Int)) || (List.range f.Kiln.Falls.length).any fun j => decide ((l.getD p R0).Lo + (nf f).fur.lo j p ≤ (nf f).fur.U j)))) := by
  rw [Bool.eq_iff_iff, soundB_iff (nf_ok h), e3.sound_iff, Bool.and_eq_true, List.all_eq_true, List.all_eq_true]
  constructor
  ·rintro ⟨k1, k2⟩
   refine ⟨fun j hj => ?_, fun p hp => ?_⟩
   ·simp only [List.mem_range] at hj
    have := k1 j (by omega)
    simp; omega
   ·simp only [List.mem_range] at hp
    obtain ⟨k3, k4⟩ := k2 p (by omega)
    simp only [Bool.and_eq_true, Bool.or_eq_true, decide_eq_true_eq, List.any_eq_true, List.mem_range]
    refine ⟨k3, ?_⟩
    rcases k4 with k4 | ⟨j, k4, k5⟩
    ·exact .inl k4
    ·exact .inr ⟨j, by omega, k5⟩
  ·rintro ⟨k1, k2⟩
   refine ⟨fun j hj => ?_, fun p hp => ?_⟩
   ·have := k1 j (by simp only [List.mem_range]; omega)
    simp at this; omega
   ·have := k2 p (by simp only [List.mem_range]; omega)
    simp only [Bool.and_eq_true, Bool.or_eq_true, decide_eq_true_eq, List.any_eq_true, List.mem_range] at this
    obtain ⟨k3, k4⟩ := this
    refine ⟨k3, ?_⟩
    rcases k4 with k4 | ⟨j, k4, k5⟩
    ·exact .inl k4
    ·exact .inr ⟨j, by omega, k5⟩
 rw [hfin, hs2]
 cases (List.range f.Kiln.Falls.length).all (fun j => !decide ((nf f).fur.U j < 0)) with
 | false => rfl
 | true =>
  simp only [cond_true, Option.bind_some, Bool.true_and]
  cases (List.range l.length).all (fun p => decide ((l.getD p R0).Lo ≤ (l.getD p R0).Hi) && (decide ((l.getD p R0).Lo = (-1000000 : Int)) || (List.range f.Kiln.Falls.length).any fun j => decide ((l.getD p R0).Lo + (nf f).fur.lo j p ≤ (nf f).fur.U j))) <;> rfl
end Go.Abs
namespace Go.Abs
open Go
set_option linter.unusedVariables false
theorem bound_same {f : Fur} {q : Nat} {r s : Range} (h1 : ∀ t, r.Lo ≤ t ↔ f.Low q t) (h2 : ∀ t, t ≤ r.Hi ↔ f.High q t) (h3 : ∀ t, s.Lo ≤ t ↔ f.Low q t) (h4 : ∀ t, t ≤ s.Hi ↔ f.High q t) : r = s := by
 have e1 : r.Lo = s.Lo := eq_of_ge_iff fun t => by rw [h1, h3]
 have e2 : r.Hi = s.Hi := eq_of_le_iff fun t => by rw [h2, h4]
 cases r; cases s; simp only at e1 e2; rw [e1, e2]
end Go.Abs
namespace Go.Abs
open Go
set_option linter.unusedVariables false
def Field.u (x : Field) (j : Nat) : Int := x.Mouths.getD j 0
def Field.d (x : Field) (j p : Nat) : Int := (x.Falls.getD j []).getD p 0
def Field.ht (x : Field) (m p : Nat) : Int := mx (fun j => x.u j - x.d j p) m
structure FieldOk (k : Kiln) (x : Field) : Prop where
 kv : kilnB k = true
 m : x.Mouths.length = k.Falls.length
 f : x.Falls.length = k.Falls.length
 row : ∀ j, j < k.Falls.length → (x.Falls.getD j []).length = k.P
 u : ∀ j, j < k.Falls.length → 0 ≤ x.u j ∧ x.u j ≤ 3000
 d : ∀ j p, j < k.Falls.length → (k.at j p).Lo ≤ x.d j p ∧ x.d j p ≤ (k.at j p).Hi
theorem FieldOk.bounds {k : Kiln} {x : Field} (h : FieldOk k x) {j : Nat} (p : Nat) (hj : j < k.Falls.length) : -3000 ≤ x.u j - x.d j p ∧ x.u j - x.d j p ≤ 3000 := by
 have h1 := h.u j hj
 have h2 := h.d j p hj
 have h3 := kilnB_at h.kv j p
 omega
theorem FieldOk.ht {k : Kiln} {x : Field} (h : FieldOk k x) (p : Nat) : -3000 ≤ x.ht (k.Falls.length - 1) p ∧ x.ht (k.Falls.length - 1) p ≤ 3000 := by
 have hk := kilnB_len h.kv
 unfold Field.ht
 rw [mx_le_iff, le_mx_iff]
 exact ⟨⟨0, Nat.zero_le _, (h.bounds p (by omega)).1⟩, fun j hj => (h.bounds p (by omega)).2⟩
end Go.Abs
namespace Go.Abs
open Go
set_option linter.unusedVariables false
def Firing.w (f : Firing) : Prop := f.Readings.length * 24 + 24 ≤ 140737488355328
theorem Firing.q.w {f : Firing} (q : Firing.q f) : Firing.w f := by
 have := q.2.2.1
 have := qB_le
 unfold Firing.w; omega
theorem firing_w {f : Firing} (h : f.ok) : Firing.w f := by have := h.l; unfold Firing.w; omega
def askCode (f : Firing) (p : Int) : Int := bif !decide (firingCode f = 0) then 42 else bif !inB p 0 ((f.Kiln.P : Int) - 1) then 43 else bif !soundB (nf f) then 44 else 0
def boundR (f : Firing) (p : Int) (r : Range) : Range × Int := bif decide (askCode f p = 0) then (r, 0) else (⟨0, 0⟩, askCode f p)
def IsBound (f : Firing) (p : Int) (r : Range) : Prop := askCode f p = 0 → (∀ t, r.Lo ≤ t ↔ (nf f).fur.Low p.toNat t) ∧ ∀ t, t ≤ r.Hi ↔ (nf f).fur.High p.toNat t
theorem IsBound.one {f : Firing} {p : Int} {r s : Range} (h1 : IsBound f p r) (h2 : IsBound f p s) : boundR f p r = boundR f p s := by
 unfold boundR
 by_cases h : askCode f p = 0
 ·have a := h1 h
  have b := h2 h
  rw [bound_same a.1 a.2 b.1 b.2]
 ·simp only [h, decide_false, cond_false]
end Go.Abs
namespace Go.Abs
open Go
set_option linter.unusedVariables false
def ringOf (w : Want) : Reading := ⟨1, w.Place, 3, 0, w.Heat⟩
def wf (f : Firing) (l : List Want) : Firing := ⟨f.Kiln, f.Readings ++ l.map ringOf⟩
end Go.Abs
namespace Go.Abs
open Go
set_option linter.unusedVariables false
theorem slices_Contains_eq (l : List Int) (hl : l.length ≤ Go.maxLen) (v : Int) : slices_Contains_int KK l v = some (decide (v ∈ l)) := by
 unfold slices_Contains_int slices_Index_int
 rw [whl_eachN (n := l.length) (f := fun i => bif decide (v = l.getD i 0) then some (i : Int) else none) (maxLen_le hl) (KK_big hl) (fun i hi => by
  unfold slices_Index_int.b0
  simp only [lt_dec hi, cond_true, at_nat (0 : Int) hi, Option.bind_some]
  cases decide (v = l.getD i 0) <;> rfl) (by
  unfold slices_Index_int.b0
  rw [lt_dec_self]; rfl)]
 by_cases hv : v ∈ l
 ·cases hf : (List.range l.length).findSome? (fun i => bif decide (v = l.getD i 0) then some (i : Int) else none) with
  | none =>
   exfalso
   obtain ⟨i, hi, rfl⟩ := List.getElem_of_mem hv
   have := List.findSome?_eq_none_iff.1 hf i (by simpa using hi)
   rw [getD_of 0 (List.getElem?_eq_getElem hi)] at this
   simp at this
  | some n =>
   obtain ⟨i, _, h2⟩ := List.exists_of_findSome?_eq_some hf
   have : 0 ≤ n := by
    cases hd : decide (v = l.getD i 0) with
    | false => rw [hd] at h2; cases h2
    | true => rw [hd] at h2; simp only [cond_true, Option.some.injEq] at h2; omega
   simp [hv, this]
 ·have hf : (List.range l.length).findSome? (fun i => bif decide (v = l.getD i 0) then some (i : Int) else none) = none := by
   rw [List.findSome?_eq_none_iff]
   intro i hi
   have : ¬ v = l.getD i 0 := fun e => hv (e ▸ getD_mem 0 (by simpa using hi))
   rw [decide_eq_false this]; rfl
  rw [hf]
  simp [hv]
theorem slices_Delete_eq (l : List Int) {i : Nat} (hi : i < l.length) (hl : l.length ≤ 9223372036854775806) : slices_Delete_int KK l (i : Int) ((i + 1 : Nat) : Int) = some (l.eraseIdx i) := by
 unfold slices_Delete_int
 have e1 : s3? l.length (i : Int) ((i + 1 : Nat) : Int) ((l.length : Nat) : Int) = some () := by unfold s3?; rw [if_pos (by omega)]
 have e2 : ¬ ((i : Int) = ((i + 1 : Nat) : Int)) := by omega
 have hlen : ((l.drop ((i + 1 : Nat) : Int).toNat).take (l.length - ((i + 1 : Nat) : Int).toNat)).length = l.length - (i + 1) := by simp
 rw [e1]
 simp only [Option.bind_some, e2, decide_false, cond_false, hs_of (show i ≤ l.length by omega), ls_of (show i + 1 ≤ l.length by omega), hlen]
 have e3 : ov? l.length (i : Int).toNat (l.length - (i + 1)) = some () := by unfold ov?; rw [if_pos (by simp only [Int.toNat_natCast]; omega)]
 have e4 : rs? l.length 0 (((i : Int).toNat + (l.length - (i + 1)) : Nat) : Int) ((l.length : Nat) : Int) = some () := by unfold rs?; rw [if_pos (by simp only [Int.toNat_natCast]; omega)]
 rw [e3, e4]
 simp only [Option.bind_some, Int.toNat_natCast, Option.some.injEq]
 rw [clr_take _ _ _ _ (by simp only [ovr, List.length_append, List.length_take, List.length_drop]; omega)]
 unfold ovr
 have e5 : (l.drop (i + 1)).take (l.length - (i + 1)) = l.drop (i + 1) := List.take_of_length_le (by simp)
 rw [e5, List.eraseIdx_eq_take_drop_succ, ← List.append_assoc, List.take_append_of_le_length (by simp; omega)]
 exact List.take_of_length_le (by simp; omega)
theorem R01_Less_gen (l : List Int) (n : Int) (hl : l.length * 8 + 8 ≤ 140737488355328) : R01_Less KK l n = some (l.filter fun x => !decide (x = n)) := by
 unfold R01_Less
 have h := (whl_fold (l := l) (body := R01_Less.b0 KK l n) (k := KK) (fun i s => (i, s)) (fun s x => bif !decide (x = n) then s ++ [x] else s) (fun i s => s.length ≤ i) (s0 := []) (by omega) (by unfold KK; omega) (by simp) ?_ ?_).1
 ·rw [h, foldl_filter (fun x => !decide (x = n))]; rfl
 ·intro i x s hx hI
  have hi : i < l.length := (List.getElem?_eq_some_iff.1 hx).1
  unfold R01_Less.b0
  simp only [lt_dec hi, at_of hx, cond_true, Option.bind_some]
  cases !decide (x = n) with
  | true =>
   simp only [cond_true]
   rw [push_of (by omega) (by omega)]
   exact ⟨rfl, by simp; omega⟩
  | false => exact ⟨rfl, by simp; omega⟩
 ·intro s _
  unfold R01_Less.b0
  simp only [lt_dec_self]; rfl
def onlyF (f : Firing) (by1 : List Int) : Firing := ⟨f.Kiln, f.Readings.filter fun r => decide (r.Source ∈ by1)⟩
theorem onlyF_ok {f : Firing} (h : f.ok) (l : List Int) : (onlyF f l).ok := by
 have := List.length_filter_le (fun r : Reading => decide (r.Source ∈ l)) f.Readings
 have h2 := h.l
 exact ⟨h.k, by show (f.Readings.filter _).length ≤ 100; omega, fun r hr => h.r r (List.mem_filter.1 hr).1⟩
theorem heat_only_eq {f : Firing} (h : firingCode f = 0) (l : List Int) (hl : l.length ≤ Go.maxLen) : heat_only KK f l = some (nf (onlyF f l)) := by
 have hok := firing_ok h
 unfold heat_only
 rw [heat_without_eq f h (fun q0 => heat_only_1 KK q0 l) (fun x => !decide (x ∈ l)) (fun x => by unfold heat_only_1; rw [slices_Contains_eq l hl]; rfl)]
 have : (f.Readings.filter fun r => !!decide (r.Source ∈ l)) = f.Readings.filter fun r => decide (r.Source ∈ l) := by simp only [Bool.not_not]
 simp only [Option.bind_some, this]
 have := heat_newFurnace_eq (onlyF f l) (firing_w (onlyF_ok hok l))
 unfold onlyF at this
 rw [this]
 rfl
theorem R04_only_due {f : Firing} (h : firingCode f = 0) (l : List Int) (hl : l.length ≤ Go.maxLen) : R04_only KK f l = some (onlyF f l) := by
 obtain ⟨h1, h2, _⟩ := firing_small h
 obtain ⟨s1, s2, s3⟩ := kilnB_small h1
 exact R04_only_eq f l (by omega) (fun x hx => by rw [s3 x hx]; omega) (by omega) hl
theorem erase_filter : ∀ {l : List Int}, l.Pairwise (· < ·) → ∀ {i : Nat} {x : Int}, l[i]? = some x → l.filter (fun y => !decide (y = x)) = l.eraseIdx i
 | [], _, i, x, h => by simp at h
 | y :: l, hp, 0, x, h => by
  rw [List.pairwise_cons] at hp
  simp only [List.getElem?_cons_zero, Option.some.injEq] at h
  subst h
  simp only [List.filter_cons, decide_true, Bool.not_true, List.eraseIdx_cons_zero]
  simp only [Bool.false_eq_true, if_false]
  exact List.filter_eq_self.2 fun z hz => by have := hp.1 z hz; simp; omega
 | y :: l, hp, i + 1, x, h => by
  rw [List.pairwise_cons] at hp
  simp only [List.getElem?_cons_succ] at h
  have hm : x ∈ l := List.mem_of_getElem? h
  have hne : ¬ y = x := by have := hp.1 x hm; omega
  simp only [List.filter_cons, hne, decide_false, Bool.not_false, if_true, List.eraseIdx_cons_succ]
  rw [erase_filter hp.2 h]
theorem pairwise_erase {l : List Int} (h : l.Pairwise (· < ·)) (i : Nat) : (l.eraseIdx i).Pairwise (· < ·) := h.sublist (List.eraseIdx_sublist l i)
def confStep (f : Firing) (l : List Int) (i : Nat) : List Int := bif !soundB (nf (onlyF f (l.eraseIdx i))) then l.eraseIdx i else l
def conf (f : Firing) : Nat → List Int → List Int
 | 0, l => l
 | i + 1, l => conf f i (confStep f l i)
theorem confStep_len (f : Firing) (l : List Int) {i : Nat} (hi : i < l.length) : i ≤ (confStep f l i).length ∧ (confStep f l i).length ≤ l.length := by
 unfold confStep
 have := List.length_eraseIdx_of_lt hi
 cases !soundB (nf (onlyF f (l.eraseIdx i))) with
 | true => simp only [cond_true]; omega
 | false => simp only [cond_false]; omega
theorem heat_Conflict_loop {f : Firing} (h : firingCode f = 0) : ∀ (i k : Nat) (l : List Int), i ≤ l.length → l.length ≤ 1000 → i < k → whl (heat_Conflict.b0 KK f) k (l, (i : Int) - 1) = some (.brk (conf f i l)) := by
 intro i
 induction i with
 | zero =>
  intro k l _ _ hk
  cases k with
  | zero => omega
  | succ k =>
   rw [whl]
   unfold heat_Conflict.b0
   have : ¬ ((0 : Int) ≤ ((0 : Nat) : Int) - 1) := by omega
   simp only [this, decide_false, cond_false]
   rfl
 | succ i ih =>
  intro k l hi hl hk
  cases k with
  | zero => omega
  | succ k =>
   have hok := firing_ok h
   have e0 : ((i + 1 : Nat) : Int) - 1 = (i : Int) := by omega
   have hs := confStep_len f l (i := i) (by omega)
   rw [whl, e0]
   have hb : heat_Conflict.b0 KK f (l, (i : Int)) = some (.next (confStep f l i, (i : Int) - 1)) := by
    unfold heat_Conflict.b0 slices_Clone_int
    have : (0 : Int) ≤ (i : Int) := by omega
    have hle := List.length_eraseIdx_of_lt (show i < l.length by omega)
    simp only [this, decide_true, cond_true]
    rw [room_of (by omega) (by omega)]
    simp only [Option.bind_some]
    rw [w64_succ (n := l.length) (by omega) (by omega), slices_Delete_eq l (by omega) (by omega)]
    simp only [Option.bind_some]
    rw [heat_only_eq h _ (by unfold Go.maxLen; omega)]
    simp only [Option.bind_some]
    rw [heat_sound_eq (nf_ok (onlyF_ok hok _)), w64_of (n := (i : Int) - 1) (by omega) (by omega)]
    unfold confStep
    cases soundB (nf (onlyF f (l.eraseIdx i))) <;> rfl
   rw [hb]
   simp only
   exact ih k _ hs.1 (by omega) (by omega)
theorem R04_Conflict_loop {f : Firing} (h : firingCode f = 0) : ∀ (i k : Nat) (l : List Int), l.Pairwise (· < ·) → i ≤ l.length → l.length ≤ 1000 → i < k → whl (R04_Conflict.b0 KK f) k (l, (i : Int) - 1) = some (.brk (conf f i l)) := by
 intro i
 induction i with
 | zero =>
  intro k l _ _ _ hk
  cases k with
  | zero => omega
  | succ k =>
   rw [whl]
   unfold R04_Conflict.b0
   have : ¬ ((0 : Int) ≤ ((0 : Nat) : Int) - 1) := by omega
   simp only [this, decide_false, cond_false]
   rfl
 | succ i ih =>
  intro k l hp hi hl hk
  cases k with
  | zero => omega
  | succ k =>
   have hok := firing_ok h
   have e0 : ((i + 1 : Nat) : Int) - 1 = (i : Int) := by omega
   have hs := confStep_len f l (i := i) (by omega)
   have hx : l[i]? = some l[i] := List.getElem?_eq_getElem (by omega)
   rw [whl, e0]
   have hb : R04_Conflict.b0 KK f (l, (i : Int)) = some (.next (confStep f l i, (i : Int) - 1)) := by
    unfold R04_Conflict.b0
    have : (0 : Int) ≤ (i : Int) := by omega
    have hle := List.length_eraseIdx_of_lt (show i < l.length by omega)
    simp only [this, decide_true, cond_true, at_of hx, Option.bind_some]
    rw [R01_Less_gen l _ (by omega), erase_filter hp hx]
    simp only [Option.bind_some]
    rw [R04_only_due h _ (by unfold Go.maxLen; omega)]
    simp only [Option.bind_some]
    rw [R04_IsSound_eq (onlyF_ok hok _), w64_of (n := (i : Int) - 1) (by omega) (by omega)]
    unfold confStep
    cases soundB (nf (onlyF f (l.eraseIdx i))) <;> rfl
   rw [hb]
   simp only
   refine ih k _ ?_ hs.1 (by omega) (by omega)
   unfold confStep
   cases !soundB (nf (onlyF f (l.eraseIdx i))) with
   | true => exact pairwise_erase hp i
   | false => exact hp
def allSrc (f : Firing) : List Int := usort (f.Readings.map fun r => r.Source)
theorem allSrc_len (f : Firing) : (allSrc f).length ≤ f.Readings.length := by
 have := usort_len (f.Readings.map fun r => r.Source)
 simpa [allSrc] using this
theorem allSrc_rising (f : Firing) (hl : f.Readings.length ≤ 1000) : (allSrc f).Pairwise (· < ·) := (R01_Sorted_eq _ (by simp; omega)).2
def conflictR (f : Firing) : List Int × Int := bif !decide (firingCode f = 0) then ([], 42) else bif soundB (nf f) then ([], 3) else (conf f (allSrc f).length (allSrc f), 0)
theorem heat_Conflict_eq (f : Firing) (q : Firing.s f) : heat_Conflict KK f = some (conflictR f) := by
 unfold heat_Conflict conflictR
 rw [heat_Check_eq f q]
 simp only [Option.bind_some]
 by_cases h : firingCode f = 0
 ·have hok := firing_ok h
  have hl := hok.l
  have hs := allSrc_len f
  simp only [h, decide_true, Bool.not_true, cond_false, heat_newFurnace_eq f (firing_w hok), Option.bind_some, heat_sound_eq (nf_ok hok), heat_sources_eq f.Readings (by omega)]
  cases soundB (nf f) with
  | true => rfl
  | false =>
   simp only [cond_false]
   rw [w64_of (by omega) (by unfold allSrc at hs; omega)]
   have := heat_Conflict_loop h (allSrc f).length KK (allSrc f) (Nat.le_refl _) (by omega) (by unfold KK; omega)
   unfold allSrc at this
   rw [this]
   rfl
 ·simp only [h, decide_false, Bool.not_false, cond_true]
theorem R04_Conflict_eq (f : Firing) (q : Firing.s f) : R04_Conflict KK f = some (conflictR f) := by
 unfold R04_Conflict conflictR
 rw [R04_Check_eq f q]
 simp only [Option.bind_some]
 by_cases h : firingCode f = 0
 ·have hok := firing_ok h
  have hl := hok.l
  have hs := allSrc_len f
  simp only [h, decide_true, Bool.not_true, cond_false, R04_IsSound_eq hok, Option.bind_some, R04_sources_eq f.Readings (by omega)]
  cases soundB (nf f) with
  | true => rfl
  | false =>
   simp only [cond_false]
   rw [w64_of (by omega) (by unfold allSrc at hs; omega)]
   have := R04_Conflict_loop h (allSrc f).length KK (allSrc f) (allSrc_rising f (by omega)) (Nat.le_refl _) (by omega) (by unfold KK; omega)
   unfold allSrc at this
   rw [this]
   rfl
 ·simp only [h, decide_false, Bool.not_false, cond_true]
theorem conf_len (f : Firing) : ∀ (i : Nat) (l : List Int), i ≤ l.length → (conf f i l).length ≤ l.length
 | 0, l, _ => Nat.le_refl _
 | i + 1, l, hi => by
  have hs := confStep_len f l (i := i) (by omega)
  have := conf_len f i (confStep f l i) hs.1
  unfold conf; omega
def risAt (l all : List Int) (i : Nat) : Bool := decide (l.getD i 0 ∈ all) && (decide (i = 0) || decide (l.getD (i - 1) 0 < l.getD i 0))
theorem rising_of {l all : List Int} (h : ∀ i, i < l.length → risAt l all i = true) : l.Pairwise (· < ·) := by
 rw [List.pairwise_iff_getElem]
 have step : ∀ i (hi : i + 1 < l.length), l[i] < l[i + 1] := by
  intro i hi
  have := h (i + 1) hi
  simp only [risAt, Bool.and_eq_true, Bool.or_eq_true, decide_eq_true_eq] at this
  rcases this.2 with h | h
  ·omega
  ·rw [show i + 1 - 1 = i by omega, getD_of 0 (List.getElem?_eq_getElem (show i < l.length by omega)), getD_of 0 (List.getElem?_eq_getElem hi)] at h
   exact h
 have key : ∀ d i (hi : i + d + 1 < l.length), l[i] < l[i + d + 1] := by
  intro d
  induction d with
  | zero => intro i hi; exact step i hi
  | succ d ih =>
   intro i hi
   have a := ih i (by omega)
   have b := step (i + d + 1) (by omega)
   exact Int.lt_trans a b
 intro i j hi hj hij
 have := key (j - i - 1) i (by omega)
 have e : i + (j - i - 1) + 1 = j := by omega
 simp only [e] at this
 exact this
def ccR (f : Firing) (l : List Int) : Int := bif !decide (firingCode f = 0) then 42 else bif (List.range l.length).all (fun i => risAt l (allSrc f) i && soundB (nf (onlyF f (l.eraseIdx i)))) then (bif soundB (nf (onlyF f l)) then 48 else 0) else 48
theorem heat_CheckConflict_eq (f : Firing) (q : Firing.s f) (l : List Int) (hl : l.length * 8 + 8 ≤ 140737488355328) : heat_CheckConflict KK f l = some (ccR f l) := by
 have hl2 : l.length ≤ Go.maxLen := by unfold Go.maxLen; omega
 unfold heat_CheckConflict ccR
 rw [heat_Check_eq f q]
 simp only [Option.bind_some]
 by_cases h : firingCode f = 0
 ·have hok := firing_ok h
  have hfl := hok.l
  have hs := allSrc_len f
  simp only [h, decide_true, Bool.not_true, cond_false, Option.bind_some, heat_sources_eq f.Readings (by omega)]
  rw [whl_allN (n := l.length) (p := fun i => risAt l (allSrc f) i && soundB (nf (onlyF f (l.eraseIdx i)))) (c := (48 : Int)) (by omega) (by unfold KK; omega) (fun i hi => by
   have hD : (slices_Clone_int KK l).bind (fun x13 => (slices_Delete_int KK x13 (i : Int) (w64 ((i : Int) + 1))).bind fun x15 => (heat_only KK f x15).bind fun x16 => (heat_furnace_sound KK x16).bind fun x17 => bif (!x17) then some (Stp.ret (48 : Int)) else some (Stp.next (w64 ((i : Int) + 1)))) = some (bif soundB (nf (onlyF f (l.eraseIdx i))) then (Stp.next (w64 ((i : Int) + 1)) : Stp Int Unit Int) else .ret 48) := by
    unfold slices_Clone_int
    have hle := List.length_eraseIdx_of_lt hi
    rw [room_of (by omega) (by omega)]
    simp only [Option.bind_some]
    rw [w64_succ (n := l.length) hi (by omega), slices_Delete_eq l hi (by omega)]
    simp only [Option.bind_some]
    rw [heat_only_eq h _ (by unfold Go.maxLen; omega)]
    simp only [Option.bind_some]
    rw [heat_sound_eq (nf_ok (onlyF_ok hok _))]
    cases soundB (nf (onlyF f (l.eraseIdx i))) <;> rfl
   unfold heat_CheckConflict.b0 risAt
   simp only [lt_dec hi, cond_true, at_nat (0 : Int) hi, Option.bind_some]
   have hc := slices_Contains_eq (usort (f.Readings.map fun r => r.Source)) (by unfold allSrc at hs; unfold Go.maxLen; omega) (l.getD i 0)
   rw [hc]
   show _ = some (bif (decide (l.getD i 0 ∈ usort (f.Readings.map fun r => r.Source)) && _) && _ then _ else _)
   simp only [Option.bind_some]
   cases decide (l.getD i 0 ∈ usort (f.Readings.map fun r => r.Source)) with
   | false => rfl
   | true =>
    simp only [cond_true, Bool.true_and]
    by_cases hi0 : i = 0
    ·subst hi0
     simp only [Int.natCast_zero, Int.lt_irrefl, decide_false, cond_false, decide_true, Bool.true_or, Bool.true_and]
     simpa using hD
    ·have hi1 : (0 : Int) < (i : Int) := by omega
     simp only [hi1, hi0, decide_true, decide_false, cond_true, Bool.false_or]
     rw [w64_of (n := (i : Int) - 1) (by omega) (by omega), show (i : Int) - 1 = ((i - 1 : Nat) : Int) by omega, at_nat (0 : Int) (show i - 1 < l.length by omega)]
     simp only [Option.bind_some]
     have hd : decide (l.getD i 0 ≤ l.getD (i - 1) 0) = !decide (l.getD (i - 1) 0 < l.getD i 0) := by rw [dec_lt_le]; simp
     rw [hd]
     cases decide (l.getD (i - 1) 0 < l.getD i 0) with
     | false => rfl
     | true =>
      simp only [Bool.not_true, Bool.not_false, cond_true, Bool.true_and]
      exact hD) (by
   unfold heat_CheckConflict.b0
   rw [lt_dec_self]; rfl)]
  cases (List.range l.length).all (fun i => risAt l (allSrc f) i && soundB (nf (onlyF f (l.eraseIdx i)))) with
  | false => rfl
  | true =>
   simp only [cond_true, Option.bind_some, heat_only_eq h l hl2, heat_sound_eq (nf_ok (onlyF_ok hok l))]
   cases soundB (nf (onlyF f l)) <;> rfl
 ·simp only [h, decide_false, Bool.not_false, cond_true]
theorem R01_Rising_eq (l all : List Int) (hl : l.length ≤ Go.maxLen) (ha : all.length ≤ Go.maxLen) : R01_Rising KK l all = some ((List.range l.length).all (risAt l all)) := by
 have := maxLen_le hl
 unfold R01_Rising
 rw [whl_allN (n := l.length) (p := risAt l all) (c := false) (maxLen_le hl) (KK_big hl) (fun i hi => by
  unfold R01_Rising.b0 risAt
  simp only [lt_dec hi, cond_true, at_nat (0 : Int) hi, Option.bind_some, R01_Has_eq all _ ha]
  cases decide (l.getD i 0 ∈ all) with
  | false => rfl
  | true =>
   simp only [cond_true, Bool.true_and]
   by_cases hi0 : i = 0
   ·subst hi0; rfl
   ·have hi1 : (0 : Int) < (i : Int) := by omega
    simp only [hi1, hi0, decide_true, decide_false, cond_true, Bool.false_or]
    rw [w64_of (n := (i : Int) - 1) (by omega) (by omega), show (i : Int) - 1 = ((i - 1 : Nat) : Int) by omega, at_nat (0 : Int) (show i - 1 < l.length by omega)]
    simp only [Option.bind_some]
    rw [dec_lt_le]
    cases decide (l.getD i 0 ≤ l.getD (i - 1) 0) <;> rfl) (by
  unfold R01_Rising.b0
  rw [lt_dec_self]; rfl)]
 cases (List.range l.length).all (risAt l all) <;> rfl
theorem R04_CheckConflict_eq (f : Firing) (q : Firing.s f) (l : List Int) (hl : l.length * 8 + 8 ≤ 140737488355328) : R04_CheckConflict KK f l = some (ccR f l) := by
 have hl2 : l.length ≤ Go.maxLen := by unfold Go.maxLen; omega
 unfold R04_CheckConflict ccR
 rw [R04_Check_eq f q]
 simp only [Option.bind_some]
 by_cases h : firingCode f = 0
 ·have hok := firing_ok h
  have hfl := hok.l
  have hs := allSrc_len f
  simp only [h, decide_true, Bool.not_true, cond_false, Option.bind_some, R04_sources_eq f.Readings (by omega)]
  have hR := R01_Rising_eq l (allSrc f) hl2 (by unfold Go.maxLen; omega)
  unfold allSrc at hR
  rw [hR]
  show (some ((List.range l.length).all (risAt l (allSrc f)))).bind _ = _
  simp only [Option.bind_some]
  have hsplit : (List.range l.length).all (fun i => risAt l (allSrc f) i && soundB (nf (onlyF f (l.eraseIdx i)))) = ((List.range l.length).all (risAt l (allSrc f)) && (List.range l.length).all (fun i => soundB (nf (onlyF f (l.eraseIdx i))))) := by
   rw [Bool.eq_iff_iff]
   simp only [Bool.and_eq_true, List.all_eq_true]
   exact ⟨fun k => ⟨fun i hi => (k i hi).1, fun i hi => (k i hi).2⟩, fun k i hi => ⟨k.1 i hi, k.2 i hi⟩⟩
  rw [hsplit]
  cases hr : (List.range l.length).all (risAt l (allSrc f)) with
  | false => rfl
  | true =>
   have hp : l.Pairwise (· < ·) := rising_of (all := allSrc f) fun i hi => List.all_eq_true.1 hr i (by simpa using hi)
   simp only [cond_true, Option.bind_some, Bool.true_and, R04_only_due h l hl2, R04_IsSound_eq (onlyF_ok hok l)]
   rw [whl_allN (n := l.length) (p := fun i => soundB (nf (onlyF f (l.eraseIdx i)))) (c := (48 : Int)) (by omega) (by unfold KK; omega) (fun i hi => by
    have hx : l[i]? = some l[i] := List.getElem?_eq_getElem hi
    have hle := List.length_eraseIdx_of_lt hi
    unfold R04_CheckConflict.b0
    simp only [lt_dec hi, cond_true, at_of hx, Option.bind_some]
    rw [R01_Less_gen l _ hl, erase_filter hp hx]
    simp only [Option.bind_some]
    rw [R04_only_due h _ (by unfold Go.maxLen; omega)]
    simp only [Option.bind_some]
    rw [R04_IsSound_eq (onlyF_ok hok _)]
    cases soundB (nf (onlyF f (l.eraseIdx i))) <;> rfl) (by
    unfold R04_CheckConflict.b0
    rw [lt_dec_self]; rfl)]
   cases soundB (nf (onlyF f l)) <;> cases (List.range l.length).all (fun i => soundB (nf (onlyF f (l.eraseIdx i)))) <;> rfl
 ·simp only [h, decide_false, Bool.not_false, cond_true]
end Go.Abs
namespace Go.Abs
open Go
set_option linter.unusedVariables false
end Go.Abs
namespace Go.Abs
open Go
end Go.Abs
namespace Go.Abs
open Go
set_option linter.unusedVariables false
end Go.Abs
namespace Go.Abs
open Go
set_option linter.unusedVariables false
theorem Fur.High.mono {f : Fur} {q : Nat} {s t : Int} (h : f.High q t) (hst : s ≤ t) : f.High q s := by
 obtain ⟨⟨j, h1, h2⟩, h3⟩ := h
 exact ⟨⟨j, h1, by omega⟩, fun y hy e => by have := h3 y hy e; omega⟩
end Go.Abs
namespace Go.Abs
open Go
set_option linter.unusedVariables false
theorem heatConflicts_plain (a0 : Firing) (a1 : List Int) (q0 : Firing.q a0) (q1 : a1.length ≤ Go.maxLen ∧ a1.length * 8 ≤ qB ∧ ∀ a ∈ a1, i64ok a) : L04_HeatConflicts KK a0 a1 = some true := by
 have hs := q0.s
 have hl : a1.length * 8 + 8 ≤ 140737488355328 := by have := q1.2.1; have := qB_le; omega
 have h1 : R01_Same KK (conflictR a0).1 (conflictR a0).1 = some true := by
  refine R01_Same_refl _ ?_
  unfold conflictR
  by_cases h : firingCode a0 = 0
  ·have hok := firing_ok h
   have hfl := hok.l
   have := allSrc_len a0
   have := conf_len a0 (allSrc a0).length (allSrc a0) (Nat.le_refl _)
   simp only [h, decide_true, Bool.not_true, cond_false]
   cases soundB (nf a0) with
   | true => simp
   | false => simp only [cond_false]; unfold Go.maxLen; omega
  ·simp [h]
 unfold L04_HeatConflicts
 simp only [heat_Conflict_eq _ hs, R04_Conflict_eq _ hs, heat_CheckConflict_eq _ hs _ hl, R04_CheckConflict_eq _ hs _ hl, h1, Option.bind_some, cond_true, decide_true, sane_KK]
end Go.Abs
namespace Go.Proofs.YtafmgcbfmifaeaaGreat.heatConflicts
open Go.Abs
theorem plain (a0 : Go.Abs.Firing) (a1 : (List Int)) : Go.Abs.Firing.q a0 → (fun l => l.length ≤ Go.maxLen ∧ l.length * 8 ≤ qB ∧ ∀ a ∈ l, i64ok a) a1 → ∃ k, L04_HeatConflicts k a0 a1 = some true := by
 intro q0 q1; exact ⟨_, heatConflicts_plain a0 a1 q0 q1⟩
end Go.Proofs.YtafmgcbfmifaeaaGreat.heatConflicts
namespace Go.Proofs.YtafmgcbfmifaeaaGreat.heatConflicts
open Go.ChangeShapes Go.WideShapes Go.ChangeAt Go.RowKit Go.Abs
set_option maxRecDepth 100000
theorem own : ownKnob Tryz.prog.godebug = none := by kernel_rfl
theorem contract (H : Type) (enc : TypeId × Value → H) (W : World) (base : Nat) (args : Array Value) (ds gs : List (DataW H)) (before : List MemPlace)
  (hval : ∀ (j : Nat) t v, Tryz.f4.params[j]? = some t → args[j]? = some v → Value.okWide Tryz.prog W .any base t v)
  (hW : DataW.Whole enc Tryz.prog Tryz.f4.params.toList Rows.heatConflictsSpec.vars false W args.toList ds gs before) (hsz0 : (DataW.weightsEach Tryz.prog (Tryz.f4.params.toList ++ Rows.heatConflictsSpec.plain.varTypes Tryz.prog) (ds ++ gs)).all (· ≤ reachBytes) = true) :
  Calls Tryz.prog 4 args W fun e W' => ∃ v, e = .returned v ∧ Rows.heatConflictsSpec.post enc Tryz.prog Tryz.f4 false true false false W args v W' := by
 have hW' := hW
 obtain ⟨p, q, hA0, hV, rfl, hfz, hnd⟩ := hW
 have hA : DataW.TrodAll enc Tryz.prog W 0 (fun _ => true) true Tryz.f4.params.toList args.toList ds p := hA0
 rw [Tryz.params4] at hA hval
 obtain ⟨v0, vs0, d0, ds0, p0, q0, hargs, rfl, rfl, h0, r0⟩ := trodAll_cons hA
 obtain ⟨v1, vs1, d1, ds1, p1, q1, rfl, rfl, rfl, h1, r1⟩ := trodAll_cons r0
 obtain ⟨rfl, rfl, rfl⟩ := trodAll_nil r1
 have hsz : ∀ (j : Nat) t d, Tryz.f4.params.toList[j]? = some t → [d0, d1][j]? = some d → ∀ n ∈ d.weights Tryz.prog t, n ≤ reachBytes := weights_of (by rw [Tryz.params4]; rfl) hsz0
 rw [Tryz.params4] at hsz
 obtain rfl : args = #[v0, v1] := by cases args; simp_all
 obtain ⟨a0, Q0, V0⟩ := arg_agg reads_27 (by have h := hval 0 27 v0 rfl rfl; unfold Value.okWide at h; rw [Tryz.underlying27] at h; obtain ⟨cs, h, _⟩ := h; exact ⟨cs, h⟩) h0 (hsz 0 27 d0 rfl rfl)
 obtain ⟨a1, Q1, V1⟩ := arg_one reads_37 (by have h := hval 1 37 v1 rfl rfl; unfold Value.okWide at h; rw [Tryz.underlying37] at h; unfold Cell.okWide Cell.ok at h; rw [Tryz.underlying37] at h; cases v1 <;> first | rfl | (simp at h; done)) (fun l => AV.sl 1 (List.map eI l)) (fun _ => rfl) h1 (hsz 1 37 d1 rfl rfl)
 obtain ⟨k, hk⟩ := plain a0 a1 Q0 Q1
 have hv : VRs (fmAll W) [] [.agg (Go.Abs.Firing.c a0), .sl 1 (List.map eI a1)] [v0, v1] := ⟨rfl, fun i x v h1 h2 => by
  match i with
  | 0 => cases h1; cases h2; exact V0
  | 1 => cases h1; cases h2; exact V1
  | i + 2 => simp at h1⟩
 refine Calls.mono ((L04_HeatConflicts_ok k a0 a1 true hk).2 (fmAll W) W _ (fun _ _ _ h => h) hv) ?_
 rintro e W1 ⟨v, y, fm1, rfl, rfl, _, hvr, _, hB⟩
 cases hvr
 exact ⟨_, rfl, law_post (t := 4) (by kernel_rfl) (by kernel_rfl) (by kernel_rfl) hW' rfl hB (by rw [Tryz.params4]; decide +kernel) rfl Tryz.underlying4 (by obtain ⟨rfl, _⟩ := trodVars_none hV; rfl)⟩
theorem lifted (os : Os) (started : os.Started) (H : Type) (enc : TypeId × Value → H) :
  ReturnsInHanded {} Tryz.checked os 4 .any (Rows.heatConflictsSpec.pre6 enc Tryz.prog Tryz.f4 Rows.heatConflictsRow.domain false) (Rows.heatConflictsSpec.post enc Tryz.prog Tryz.f4 false true false false) := by
 refine returnsInHanded_of_change_sized (C := Tryz.checked) own started (by kernel_rfl) Tryz.func4
  (ChangeSpec.witness6 (enc := enc) (C := Tryz.checked) false ⟨#[], #[.agg #[.slice none 0 0, .slice none 0 0], .slice none 0 0], []⟩ 8 (by kernel_rfl) (by kernel_rfl) (by kernel_rfl) (by kernel_rfl)) ?_
 intro W base args ds gs before hval0 hW hcnd hsz _
 exact contract H enc W base args ds gs before hval0 hW hsz
theorem over : Rows.heatConflictsRow.holds Tryz.pinned (OpenSpec.ofChange Rows.heatConflictsSpec) :=
 OpenClaim.holds_of_wide 4 Tryz.f4 rfl rfl rfl rfl rfl rfl rfl ⟨rfl, rfl, rfl, rfl, rfl⟩ rfl rfl rfl rfl rfl (by kernel_rfl) Tryz.func4 (by kernel_rfl)
  (of_decide_eq_true (by kernel_rfl)) (by unfold Func.isWrapper; first | (rw [if_pos (by decide +kernel)]; kernel_rfl) | (rw [if_neg (by decide +kernel)]; exact ⟨rfl, rfl⟩))
  (fun os started H enc _ => lifted os started H enc)
theorem proved : Rows.HeatConflictsSaid := over
end Go.Proofs.YtafmgcbfmifaeaaGreat.heatConflicts
