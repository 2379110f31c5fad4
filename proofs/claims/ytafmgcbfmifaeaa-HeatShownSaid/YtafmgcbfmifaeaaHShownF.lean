/-
  Part 6 of the proof: a machine over named blocks, what each function computes, and what follows. No condition.
-/
import Derived.Test.YtafmgcbfmifaeaaRows
import Derived.WalkKit
import Derived.ProofKit
import Derived.OpenShut
import Derived.JoinedCond
import Derived.Test.YtafmgcbfmifaeaaHShownE
set_option linter.unusedVariables false
set_option linter.unusedSimpArgs false
set_option linter.all false
set_option maxRecDepth 20000
set_option maxHeartbeats 8000000
namespace Go.Abs
open Go
set_option linter.unusedVariables false
theorem hot_by (x : heat_furnace) (j : Nat) : ((hot x j).1 = 3000 ∧ (hot x j).2 = -1) ∨ ∃ y ∈ x.most, (hot x j).2 = y.by_ ∧ (hot x j).1 = y.heat + x.fur.hi j y.place.toNat := by
 have key : ∀ (l K : List heat_limit) (s : Int × Int), ((s.1 = 3000 ∧ s.2 = -1) ∨ ∃ y ∈ K, s.2 = y.by_ ∧ s.1 = y.heat + x.fur.hi j y.place.toNat) →
   (((l.foldl (hotStep x j) s).1 = 3000 ∧ (l.foldl (hotStep x j) s).2 = -1) ∨ ∃ y ∈ K ++ l, (l.foldl (hotStep x j) s).2 = y.by_ ∧ (l.foldl (hotStep x j) s).1 = y.heat + x.fur.hi j y.place.toNat) := by
  intro l
  induction l with
  | nil => intro K s h; simpa using h
  | cons y l ih =>
   intro K s h
   have h2 := ih (K ++ [y]) (hotStep x j s y) ?_
   ·simpa using h2
   ·unfold hotStep
    cases decide (y.heat + (x.Firing.Kiln.at j y.place.toNat).Hi < s.1) with
    | true => right; exact ⟨y, by simp, rfl, rfl⟩
    | false =>
     rcases h with h | ⟨z, h1, h2⟩
     ·exact .inl h
     ·exact .inr ⟨z, by simp [h1], h2⟩
 have := key x.most [] (3000, -1) (.inl ⟨rfl, rfl⟩)
 simpa [hot] using this
def shownP (x : heat_furnace) (y : heat_limit) (q : Nat) (n : Int) : Prop :=
 (∃ j, j < x.Firing.Kiln.Falls.length ∧ y.heat + x.fur.lo j y.place.toNat ≤ x.fur.U j) ∧ ∀ t, n ≤ t ↔ ∃ j, j < x.Firing.Kiln.Falls.length ∧ y.heat + x.fur.lo j y.place.toNat ≤ x.fur.U j ∧ y.heat + x.fur.lo j y.place.toNat - x.fur.hi j q ≤ t
theorem heat_shownLow_eq {x : heat_furnace} (h : x.ok) {y : heat_limit} (hy : limOk x.Firing.Kiln.P y) {q : Nat} (hq : q < x.Firing.Kiln.P) :
  ∃ r, heat_furnace_shownLow KK x y (q : Int) = some r ∧ (r.2 = true ↔ ∃ j, j < x.Firing.Kiln.Falls.length ∧ y.heat + x.fur.lo j y.place.toNat ≤ x.fur.U j) ∧ (r.2 = true → shownP x y q r.1) := by
 have hk := kilnB_len h.k
 obtain ⟨y1, y2, y3, y4⟩ := hy
 unfold heat_furnace_shownLow
 obtain ⟨h1, h2⟩ := whl_foldN (n := x.Firing.Kiln.Falls.length) (body := heat_furnace_shownLow.b0 KK x y (q : Int)) (k := KK) (fun i (s : Int × Bool) => (s.1, s.2, i))
  (fun s j => bif decide (y.heat + x.fur.lo j y.place.toNat ≤ x.fur.U j) then (bif s.2 then (bif decide (y.heat + x.fur.lo j y.place.toNat - x.fur.hi j q < s.1) then (y.heat + x.fur.lo j y.place.toNat - x.fur.hi j q, true) else s) else (y.heat + x.fur.lo j y.place.toNat - x.fur.hi j q, true)) else s)
  (fun i s => (s.2 = true ↔ ∃ j, j < i ∧ y.heat + x.fur.lo j y.place.toNat ≤ x.fur.U j) ∧ (s.2 = true → ∀ t, s.1 ≤ t ↔ ∃ j, j < i ∧ y.heat + x.fur.lo j y.place.toNat ≤ x.fur.U j ∧ y.heat + x.fur.lo j y.place.toNat - x.fur.hi j q ≤ t)) (s0 := (0, false)) (by omega) (by unfold KK; omega) ⟨by simp, by simp⟩ (fun j s hj hI => by
   have g1 := kilnB_at h.k j q
   have g2 := kilnB_at h.k j y.place.toNat
   have g3 : x.fur.hi j q = (x.Firing.Kiln.at j q).Hi := rfl
   have g4 : x.fur.lo j y.place.toNat = (x.Firing.Kiln.at j y.place.toNat).Lo := rfl
   obtain ⟨s1, s2⟩ := s
   obtain ⟨I1, I2⟩ := hI
   simp only at I1 I2
   refine ⟨?_, ?_⟩
   ·unfold heat_furnace_shownLow.b0
    simp only [lt_dec hj, cond_true, at_row h.k hj, at_cell h.k hj y1 y2, at_cellN h.k hj hq, heat_hottest_eq h hj, hot_U, Option.bind_some, g3, g4]
    rw [w64_of (n := y.heat + (x.Firing.Kiln.at j y.place.toNat).Lo) (by omega) (by omega), w64_of (n := y.heat + (x.Firing.Kiln.at j y.place.toNat).Lo - (x.Firing.Kiln.at j q).Hi) (by omega) (by omega)]
    cases decide (y.heat + (x.Firing.Kiln.at j y.place.toNat).Lo ≤ x.fur.U j) <;> cases s2 <;> cases decide (y.heat + (x.Firing.Kiln.at j y.place.toNat).Lo - (x.Firing.Kiln.at j q).Hi < s1) <;> rfl
   ·by_cases hc : y.heat + x.fur.lo j y.place.toNat ≤ x.fur.U j
    ·simp only [hc, decide_true, cond_true]
     cases s2 with
     | false =>
      simp only [cond_false]
      refine ⟨⟨fun _ => ⟨j, by omega, hc⟩, fun _ => trivial⟩, fun _ t => ⟨fun k => ⟨j, by omega, hc, k⟩, ?_⟩⟩
      rintro ⟨i, k1, k2, k3⟩
      by_cases hij : i = j
      ·subst hij; exact k3
      ·have := I1.2 ⟨i, by omega, k2⟩; cases this
     | true =>
      have I3 := I2 rfl
      simp only [cond_true]
      by_cases hd : y.heat + x.fur.lo j y.place.toNat - x.fur.hi j q < s1
      ·simp only [hd, decide_true, cond_true]
       refine ⟨⟨fun _ => ⟨j, by omega, hc⟩, fun _ => trivial⟩, fun _ t => ⟨fun k => ⟨j, by omega, hc, k⟩, ?_⟩⟩
       rintro ⟨i, k1, k2, k3⟩
       by_cases hij : i = j
       ·subst hij; exact k3
       ·have := (I3 t).2 ⟨i, by omega, k2, k3⟩
        omega
      ·simp only [hd, decide_false, cond_false]
       refine ⟨⟨fun _ => ⟨j, by omega, hc⟩, fun _ => trivial⟩, fun _ t => ⟨fun k => ?_, ?_⟩⟩
       ·obtain ⟨i, k1, k2⟩ := (I3 t).1 k
        exact ⟨i, by omega, k2⟩
       ·rintro ⟨i, k1, k2, k3⟩
        by_cases hij : i = j
        ·subst hij; omega
        ·exact (I3 t).2 ⟨i, by omega, k2, k3⟩
    ·simp only [hc, decide_false, cond_false]
     refine ⟨?_, fun k t => ?_⟩
     ·rw [I1]
      constructor
      ·rintro ⟨i, k1, k2⟩; exact ⟨i, by omega, k2⟩
      ·rintro ⟨i, k1, k2⟩
       by_cases hij : i = j
       ·subst hij; exact absurd k2 hc
       ·exact ⟨i, by omega, k2⟩
     ·rw [I2 k t]
      constructor
      ·rintro ⟨i, k1, k2⟩; exact ⟨i, by omega, k2⟩
      ·rintro ⟨i, k1, k2, k3⟩
       by_cases hij : i = j
       ·subst hij; exact absurd k2 hc
       ·exact ⟨i, by omega, k2, k3⟩) (fun s _ => by
   unfold heat_furnace_shownLow.b0
   simp only [lt_dec_self]; rfl)
 rw [h1]
 exact ⟨_, rfl, h2.1, fun k => ⟨h2.1.1 k, h2.2 k⟩⟩
def cannotL (x : heat_furnace) (y : heat_limit) : List Int := (List.range x.Firing.Kiln.Falls.length).map fun j => bif decide (y.heat + x.fur.lo j y.place.toNat ≤ x.fur.U j) then -1 else bif decide (3000 < y.heat + x.fur.lo j y.place.toNat) then -2 else (hot x j).2
theorem heat_cannot_eq {x : heat_furnace} (h : x.ok) {y : heat_limit} (hy : limOk x.Firing.Kiln.P y) : heat_furnace_cannot KK x y = some (cannotL x y) := by
 have hk := kilnB_len h.k
 obtain ⟨y1, y2, y3, y4⟩ := hy
 unfold heat_furnace_cannot
 have h1 := (whl_foldN (n := x.Firing.Kiln.Falls.length) (body := heat_furnace_cannot.b0 KK x y) (k := KK) (fun i s => (i, s)) (fun s j => s ++ [bif decide (y.heat + x.fur.lo j y.place.toNat ≤ x.fur.U j) then -1 else bif decide (3000 < y.heat + x.fur.lo j y.place.toNat) then -2 else (hot x j).2]) (fun i s => s.length = i) (s0 := []) (by omega) (by unfold KK; omega) rfl ?_ ?_).1
 ·rw [h1, foldl_pushN]; rfl
 ·intro j s hj hI
  refine ⟨?_, by simp [hI]⟩
  have g2 := kilnB_at h.k j y.place.toNat
  have g4 : x.fur.lo j y.place.toNat = (x.Firing.Kiln.at j y.place.toNat).Lo := rfl
  unfold heat_furnace_cannot.b0
  simp only [lt_dec hj, cond_true, at_row h.k hj, at_cell h.k hj y1 y2, heat_hottest_eq h hj, hot_U, Option.bind_some, g4]
  rw [w64_of (n := y.heat + (x.Firing.Kiln.at j y.place.toNat).Lo) (by omega) (by omega)]
  cases decide (y.heat + (x.Firing.Kiln.at j y.place.toNat).Lo ≤ x.fur.U j) with
  | true => simp only [cond_true]; rw [push_of (by omega) (by omega)]; rfl
  | false =>
   cases decide ((3000 : Int) < y.heat + (x.Firing.Kiln.at j y.place.toNat).Lo) with
   | true => simp only [cond_true, cond_false]; rw [push_of (by omega) (by omega)]; rfl
   | false => simp only [cond_false]; rw [push_of (by omega) (by omega)]; rfl
 ·intro s _
  unfold heat_furnace_cannot.b0
  simp only [lt_dec_self]; rfl
def LowPf (x : heat_furnace) (q : Nat) (n : Int) (p : HeatProof) : Prop :=
 (∃ j : Nat, j < x.Firing.Kiln.Falls.length ∧ p = ⟨-2, [(j : Int)]⟩ ∧ n = -x.fur.hi j q) ∨
 (∃ y ∈ x.least, y.place = (q : Int) ∧ p = ⟨y.by_, []⟩ ∧ n = y.heat) ∨
 ∃ y ∈ x.least, y.place ≠ (q : Int) ∧ p = ⟨y.by_, cannotL x y⟩ ∧ shownP x y q n
theorem heat_lowest_eq {x : heat_furnace} (h : x.ok) (hs : x.fur.Sound) {q : Nat} (hq : q < x.Firing.Kiln.P) :
  ∃ n p, heat_furnace_lowest KK x (q : Int) = some (n, p) ∧ (∀ t, n ≤ t ↔ x.fur.Low q t) ∧ LowPf x q n p := by
 have hk := kilnB_len h.k
 have hll := h.ll
 have hm : x.fur.m = x.Firing.Kiln.Falls.length - 1 := rfl
 unfold heat_furnace_lowest
 obtain ⟨h1, h2⟩ := whl_foldN (n := x.Firing.Kiln.Falls.length) (body := heat_furnace_lowest.b0 KK x (q : Int)) (k := KK) (fun i (s : Int × Int × List Int) => (s.1, i, s.2.1, s.2.2))
  (fun s j => bif !decide ((j : Int) = 0) then (bif decide (s.1 < 0 - x.fur.hi j q) then (0 - x.fur.hi j q, -2, [(j : Int)]) else s) else (0 - x.fur.hi j q, -2, [(j : Int)]))
  (fun i s => (i = 0 ∨ (∀ t, s.1 ≤ t ↔ ∀ j, j < i → -x.fur.hi j q ≤ t) ∧ ∃ j : Nat, j < i ∧ s = (-x.fur.hi j q, -2, [(j : Int)]))) (s0 := (-3000, 0, [])) (by omega) (by unfold KK; omega) (.inl rfl) (fun j s hj hI => by
   have g1 := kilnB_at h.k j q
   have g3 : x.fur.hi j q = (x.Firing.Kiln.at j q).Hi := rfl
   obtain ⟨s1, s2, s3⟩ := s
   refine ⟨?_, .inr ?_⟩
   ·unfold heat_furnace_lowest.b0
    simp only [lt_dec hj, cond_true, at_row h.k hj, at_cellN h.k hj hq, Option.bind_some, g3]
    rw [w64_of (n := 0 - (x.Firing.Kiln.at j q).Hi) (by omega) (by omega)]
    cases decide ((j : Int) = 0) <;> cases decide (s1 < 0 - (x.Firing.Kiln.at j q).Hi) <;> rfl
   ·have e0 : (0 : Int) - x.fur.hi j q = -x.fur.hi j q := by omega
    by_cases hj0 : j = 0
    ·subst hj0
     simp only [Int.natCast_zero, decide_true, Bool.not_true, cond_false, e0]
     refine ⟨fun t => ⟨fun k i hi => ?_, fun k => k 0 (by omega)⟩, 0, by omega, rfl⟩
     have : i = 0 := by omega
     subst this; exact k
    ·have hj1 : ¬ ((j : Int) = 0) := by omega
     simp only [hj1, decide_false, Bool.not_false, cond_true, e0]
     rcases hI with hI | ⟨I1, i, I2, I3⟩
     ·exact absurd hI hj0
     ·simp only at I1
      by_cases hc : s1 < -x.fur.hi j q
      ·simp only [hc, decide_true, cond_true]
       refine ⟨fun t => ⟨fun k i hi => ?_, fun k => k j (by omega)⟩, j, by omega, rfl⟩
       by_cases hij : i = j
       ·subst hij; exact k
       ·exact (I1 t).1 (by omega) i (by omega)
      ·simp only [hc, decide_false, cond_false]
       refine ⟨fun t => ⟨fun k i hi => ?_, fun k => (I1 t).2 fun i hi => k i (by omega)⟩, i, by omega, I3⟩
       by_cases hij : i = j
       ·subst hij; omega
       ·exact (I1 t).1 k i (by omega)) (fun s _ => by
   unfold heat_furnace_lowest.b0
   simp only [lt_dec_self]; rfl)
 rw [h1]
 rcases h2 with h2 | ⟨h2, j0, h3, h4⟩
 ·omega
 rw [h4] at h2
 rw [h4]
 simp only [Option.bind_some]
 simp only at h2
 have hw := whl_ok (body := heat_furnace_lowest.b1 KK x (q : Int))
  (fun t => ∃ (i : Nat) (p : HeatProof) (n : Int), t = (p, n, (i : Int)) ∧ i ≤ x.least.length ∧ LowPf x q n p ∧ ∀ t, n ≤ t ↔ (∀ j, j < x.Firing.Kiln.Falls.length → -x.fur.hi j q ≤ t) ∧ ∀ y ∈ x.least.take i, if y.place = (q : Int) then y.heat ≤ t else ∃ j, j < x.Firing.Kiln.Falls.length ∧ y.heat + x.fur.lo j y.place.toNat ≤ x.fur.U j ∧ y.heat + x.fur.lo j y.place.toNat - x.fur.hi j q ≤ t)
  (fun r => ∃ (p : HeatProof) (n : Int), r = .brk (p, n) ∧ LowPf x q n p ∧ ∀ t, n ≤ t ↔ (∀ j, j < x.Firing.Kiln.Falls.length → -x.fur.hi j q ≤ t) ∧ ∀ y ∈ x.least, if y.place = (q : Int) then y.heat ≤ t else ∃ j, j < x.Firing.Kiln.Falls.length ∧ y.heat + x.fur.lo j y.place.toNat ≤ x.fur.U j ∧ y.heat + x.fur.lo j y.place.toNat - x.fur.hi j q ≤ t)
  (fun t => x.least.length - t.2.2.toNat) ?_ KK (⟨-2, [(j0 : Int)]⟩, -x.fur.hi j0 q, 0) ⟨0, _, _, rfl, Nat.zero_le _, .inl ⟨j0, h3, rfl, rfl⟩, fun t => by rw [h2 t]; simp⟩ (by unfold KK; simp only; omega)
 ·obtain ⟨r, k1, ⟨p, n, k2, k3, k4⟩, _⟩ := hw
  rw [k1, k2]
  refine ⟨n, p, rfl, fun t => ?_, k3⟩
  rw [k4 t]
  unfold Fur.Low
  constructor
  ·rintro ⟨m1, m2⟩
   refine ⟨fun j hj => m1 j (by omega), fun z hz e => ?_, fun z hz e => ?_⟩
   ·obtain ⟨y, hy, rfl⟩ := List.mem_map.1 hz
    have := m2 y hy
    have hp := h.l y hy
    have e2 : y.place = (q : Int) := by have e' : y.place.toNat = q := e; have := hp.1; omega
    rw [if_pos e2] at this
    exact this
   ·obtain ⟨y, hy, rfl⟩ := List.mem_map.1 hz
    have := m2 y hy
    have hp := h.l y hy
    have e2 : ¬ y.place = (q : Int) := by intro e2; apply e; show y.place.toNat = q; omega
    rw [if_neg e2] at this
    obtain ⟨j, m3, m4⟩ := this
    exact ⟨j, by omega, m4⟩
  ·rintro ⟨m1, m2, m3⟩
   refine ⟨fun j hj => m1 j (by omega), fun y hy => ?_⟩
   have hp := h.l y hy
   by_cases e2 : y.place = (q : Int)
   ·rw [if_pos e2]
    exact m2 (lp y) (List.mem_map.2 ⟨y, hy, rfl⟩) (by show y.place.toNat = q; omega)
   ·rw [if_neg e2]
    obtain ⟨j, m4, m5⟩ := m3 (lp y) (List.mem_map.2 ⟨y, hy, rfl⟩) (by intro e'; have e'' : y.place.toNat = q := e'; have := hp.1; omega)
    exact ⟨j, by omega, m5⟩
 ·rintro t ⟨i, p, n, rfl, g1, g2, g3⟩
  by_cases hi : i = x.least.length
  ·right; left
   refine ⟨(p, n), ?_, p, n, rfl, g2, fun t => by rw [g3 t, hi, List.take_length]⟩
   unfold heat_furnace_lowest.b1
   simp only [hi, lt_dec_self]; rfl
  ·left
   have hx : x.least[i]? = some x.least[i] := List.getElem?_eq_getElem (by omega)
   generalize x.least[i] = y at hx
   have hym : y ∈ x.least := List.mem_of_getElem? hx
   have hy := h.l y hym
   have hwi : w64 ((i : Int) + 1) = ((i + 1 : Nat) : Int) := w64_succ (n := x.least.length) (by omega) (by omega)
   have hbody : heat_furnace_lowest.b1 KK x (q : Int) (p, n, (i : Int)) = bif decide (y.place = (q : Int)) then (bif decide (n < y.heat) then some (.next ((⟨y.by_, []⟩ : HeatProof), y.heat, ((i + 1 : Nat) : Int))) else some (.next (p, n, ((i + 1 : Nat) : Int)))) else
     (heat_furnace_shownLow KK x y (q : Int)).bind fun r => bif r.2 then (bif decide (n < r.1) then some (.next ((⟨y.by_, cannotL x y⟩ : HeatProof), r.1, ((i + 1 : Nat) : Int))) else some (.next (p, n, ((i + 1 : Nat) : Int)))) else some (.next (p, n, ((i + 1 : Nat) : Int))) := by
    unfold heat_furnace_lowest.b1
    simp only [lt_dec (show i < x.least.length by omega), cond_true, at_of hx, Option.bind_some, heat_cannot_eq h hy, hwi]
   have fin : ∀ (p' : HeatProof) (n' : Int), LowPf x q n' p' → (∀ t, n' ≤ t ↔ n ≤ t ∧ if y.place = (q : Int) then y.heat ≤ t else ∃ j, j < x.Firing.Kiln.Falls.length ∧ y.heat + x.fur.lo j y.place.toNat ≤ x.fur.U j ∧ y.heat + x.fur.lo j y.place.toNat - x.fur.hi j q ≤ t) →
     ∃ (i' : Nat) (p'' : HeatProof) (n'' : Int), ((p', n', ((i + 1 : Nat) : Int)) : HeatProof × Int × Int) = (p'', n'', (i' : Int)) ∧ i' ≤ x.least.length ∧ LowPf x q n'' p'' ∧ ∀ t, n'' ≤ t ↔ (∀ j, j < x.Firing.Kiln.Falls.length → -x.fur.hi j q ≤ t) ∧ ∀ y ∈ x.least.take i', if y.place = (q : Int) then y.heat ≤ t else ∃ j, j < x.Firing.Kiln.Falls.length ∧ y.heat + x.fur.lo j y.place.toNat ≤ x.fur.U j ∧ y.heat + x.fur.lo j y.place.toNat - x.fur.hi j q ≤ t := by
    intro p' n' k1 k2
    refine ⟨i + 1, p', n', rfl, by omega, k1, fun t => ?_⟩
    rw [k2 t, g3 t, take_succ_of hx]
    constructor
    ·rintro ⟨⟨m1, m2⟩, m3⟩
     refine ⟨m1, fun z hz => ?_⟩
     rcases List.mem_append.1 hz with hz | hz
     ·exact m2 z hz
     ·simp only [List.mem_singleton] at hz; subst hz; exact m3
    ·rintro ⟨m1, m2⟩
     exact ⟨⟨m1, fun z hz => m2 z (List.mem_append.2 (.inl hz))⟩, m2 y (List.mem_append.2 (.inr (by simp)))⟩
   have hmeas : ∀ (p' : HeatProof) (n' : Int), x.least.length - ((p', n', ((i + 1 : Nat) : Int)) : HeatProof × Int × Int).2.2.toNat < x.least.length - ((p, n, (i : Int)) : HeatProof × Int × Int).2.2.toNat := by intro p' n'; simp only [Int.toNat_natCast]; omega
   by_cases e2 : y.place = (q : Int)
   ·by_cases hc : n < y.heat
    ·refine ⟨_, by rw [hbody]; simp only [e2, hc, decide_true, cond_true], fin _ _ (.inr (.inl ⟨y, hym, e2, rfl, rfl⟩)) fun t => ?_, hmeas _ _⟩
     rw [if_pos e2]; omega
    ·refine ⟨_, by rw [hbody]; simp only [e2, hc, decide_true, decide_false, cond_true, cond_false], fin _ _ g2 fun t => ?_, hmeas _ _⟩
     rw [if_pos e2]; omega
   ·obtain ⟨r, r1, r2, r3⟩ := heat_shownLow_eq h hy hq
    have hreach : r.2 = true := by
     rw [r2]
     obtain ⟨_, j, k1, k2⟩ := hs.2 (lp y) (List.mem_map.2 ⟨y, hym, rfl⟩)
     exact ⟨j, by omega, k2⟩
    obtain ⟨r4, r5⟩ := r3 hreach
    by_cases hc : n < r.1
    ·refine ⟨_, by rw [hbody, r1]; simp only [e2, hc, hreach, decide_true, decide_false, cond_true, cond_false, Option.bind_some], fin _ _ (.inr (.inr ⟨y, hym, e2, rfl, r4, r5⟩)) fun t => ?_, hmeas _ _⟩
     rw [if_neg e2, ← r5 t]; omega
    ·refine ⟨_, by rw [hbody, r1]; simp only [e2, hc, hreach, decide_true, decide_false, cond_true, cond_false, Option.bind_some], fin _ _ g2 fun t => ?_, hmeas _ _⟩
     rw [if_neg e2, ← r5 t]; omega
def HighPf (x : heat_furnace) (q : Nat) (n : Int) (p : HeatProof) : Prop :=
 (∃ y ∈ x.most, y.place = (q : Int) ∧ p = ⟨y.by_, []⟩ ∧ n = y.heat) ∨
 (p = ⟨-1, (List.range x.Firing.Kiln.Falls.length).map fun j => (hot x j).2⟩ ∧ ∀ t, t ≤ n ↔ ∃ j, j < x.Firing.Kiln.Falls.length ∧ t + x.fur.lo j q ≤ x.fur.U j)
theorem heat_highest_eq {x : heat_furnace} (h : x.ok) (hs : x.fur.Sound) {q : Nat} (hq : q < x.Firing.Kiln.P) :
  ∃ n p, heat_furnace_highest KK x (q : Int) = some (n, p) ∧ (∀ t, t ≤ n ↔ x.fur.High q t) ∧ HighPf x q n p := by
 have hk := kilnB_len h.k
 have hm : x.fur.m = x.Firing.Kiln.Falls.length - 1 := rfl
 unfold heat_furnace_highest
 obtain ⟨h1, h2⟩ := whl_foldN (n := x.Firing.Kiln.Falls.length) (body := heat_furnace_highest.b0 KK x (q : Int)) (k := KK) (fun i (s : Int × List Int) => (s.1, i, s.2))
  (fun s j => (max s.1 (x.fur.U j - x.fur.lo j q), s.2 ++ [(hot x j).2]))
  (fun i s => s.2 = (List.range i).map (fun j => (hot x j).2) ∧ ∀ t, t ≤ s.1 ↔ t ≤ -3000 ∨ ∃ j, j < i ∧ t + x.fur.lo j q ≤ x.fur.U j) (s0 := (-3000, [])) (by omega) (by unfold KK; omega) ⟨rfl, by intro t; simp⟩ (fun j s hj hI => by
   have g1 := kilnB_at h.k j q
   have g2 := U_ge h j
   have g4 : x.fur.lo j q = (x.Firing.Kiln.at j q).Lo := rfl
   have hlen : s.2.length = j := by rw [hI.1]; simp
   refine ⟨?_, ?_, fun t => ?_⟩
   ·unfold heat_furnace_highest.b0
    simp only [lt_dec hj, cond_true, at_row h.k hj, at_cellN h.k hj hq, heat_hottest_eq h hj, hot_U, Option.bind_some, g4]
    rw [w64_of (n := x.fur.U j - (x.Firing.Kiln.at j q).Lo) (by omega) (by omega), push_of (by omega) (by omega)]
    rfl
   ·rw [hI.1, List.range_succ, List.map_append]; rfl
   ·show t ≤ max _ _ ↔ _
    rw [show ∀ a b : Int, t ≤ max a b ↔ t ≤ a ∨ t ≤ b by intro a b; omega, hI.2 t]
    constructor
    ·rintro ((k1 | ⟨i, k1, k2⟩) | k1)
     ·exact .inl k1
     ·exact .inr ⟨i, by omega, k2⟩
     ·exact .inr ⟨j, by omega, by omega⟩
    ·rintro (k1 | ⟨i, k1, k2⟩)
     ·exact .inl (.inl k1)
     ·by_cases hij : i = j
      ·subst hij; exact .inr (by omega)
      ·exact .inl (.inr ⟨i, by omega, k2⟩)) (fun s _ => by
   unfold heat_furnace_highest.b0
   simp only [lt_dec_self]; rfl)
 rw [h1]
 generalize (List.range x.Firing.Kiln.Falls.length).foldl (fun (s : Int × List Int) j => (max s.1 (x.fur.U j - x.fur.lo j q), s.2 ++ [(hot x j).2])) (-3000, []) = s at h2
 obtain ⟨n, l⟩ := s
 obtain ⟨h3, h4⟩ := h2
 simp only at h3 h4
 subst h3
 have h5 : ∀ t, t ≤ n ↔ ∃ j, j < x.Firing.Kiln.Falls.length ∧ t + x.fur.lo j q ≤ x.fur.U j := by
  intro t
  rw [h4]
  refine ⟨?_, .inr⟩
  rintro (k | k)
  ·refine ⟨0, by omega, ?_⟩
   have a1 := hs.1 0 (Nat.zero_le _)
   have a2 := kilnB_at h.k 0 q
   have a3 : x.fur.lo 0 q = (x.Firing.Kiln.at 0 q).Lo := rfl
   omega
  ·exact k
 have hb := bestL_some x.most q (fun y hy => (h.m y hy).1)
 have hH : ∀ t, x.fur.High q t ↔ t ≤ n ∧ ∀ y ∈ x.fur.M, y.1 = q → t ≤ y.2 := by
  intro t
  unfold Fur.High
  rw [h5 t]
  constructor
  ·rintro ⟨⟨j, k1, k2⟩, k3⟩; exact ⟨⟨j, by omega, k2⟩, k3⟩
  ·rintro ⟨⟨j, k1, k2⟩, k3⟩; exact ⟨⟨j, by omega, k2⟩, k3⟩
 simp only [Option.bind_some, heat_best_eq _ h.ml]
 cases hb2 : (bestL x.most (q : Int)).2 with
 | false =>
  rw [hb2] at hb
  have hb3 := (Fur.best_iff _ _).1.1 hb
  refine ⟨n, _, rfl, fun t => ?_, .inr ⟨rfl, h5⟩⟩
  rw [hH t]
  exact ⟨fun k => ⟨k, fun y hy e => absurd e (hb3 y hy)⟩, fun k => k.1⟩
 | true =>
  rw [hb2] at hb
  have hb3 := ((Fur.best_iff _ _).2 _ hb).1
  obtain ⟨hb4, hb5⟩ := bestL_mem _ _ hb2
  have hH2 : ∀ t, x.fur.High q t ↔ t ≤ n ∧ t ≤ (bestL x.most (q : Int)).1.heat := by intro t; rw [hH t, hb3 t]; rfl
  simp only [cond_true]
  by_cases hc : (bestL x.most (q : Int)).1.heat ≤ n
  ·simp only [hc, decide_true, cond_true]
   refine ⟨_, _, rfl, fun t => ?_, .inl ⟨_, hb4, hb5, rfl, rfl⟩⟩
   rw [hH2 t]; omega
  ·simp only [hc, decide_false, cond_false]
   refine ⟨_, _, rfl, fun t => ?_, .inr ⟨rfl, h5⟩⟩
   rw [hH2 t]; omega
theorem heat_bound_eq {x : heat_furnace} (h : x.ok) (hs : x.fur.Sound) {q : Nat} (hq : q < x.Firing.Kiln.P) :
  ∃ r, heat_furnace_bound KK x (q : Int) = some r ∧ (∀ t, r.Lo ≤ t ↔ x.fur.Low q t) ∧ ∀ t, t ≤ r.Hi ↔ x.fur.High q t := by
 obtain ⟨n1, p1, a1, a2, _⟩ := heat_lowest_eq h hs hq
 obtain ⟨n2, p2, b1, b2, _⟩ := heat_highest_eq h hs hq
 unfold heat_furnace_bound
 rw [a1, b1]
 exact ⟨_, rfl, a2, b2⟩
theorem bound_same {f : Fur} {q : Nat} {r s : Range} (h1 : ∀ t, r.Lo ≤ t ↔ f.Low q t) (h2 : ∀ t, t ≤ r.Hi ↔ f.High q t) (h3 : ∀ t, s.Lo ≤ t ↔ f.Low q t) (h4 : ∀ t, t ≤ s.Hi ↔ f.High q t) : r = s := by
 have e1 : r.Lo = s.Lo := eq_of_ge_iff fun t => by rw [h1, h3]
 have e2 : r.Hi = s.Hi := eq_of_le_iff fun t => by rw [h2, h4]
 cases r; cases s; simp only at e1 e2; rw [e1, e2]
end Go.Abs
namespace Go.Abs
open Go
set_option linter.unusedVariables false
def Field.u (x : Field) (j : Nat) : Int := x.Mouths.getD j 0
def Field.d (x : Field) (j p : Nat) : Int := (x.Falls.getD j []).getD p 0
def Field.ht (x : Field) (m p : Nat) : Int := mx (fun j => x.u j - x.d j p) m
def rowB (k : Kiln) (x : Field) (j : Nat) : Bool := inB (x.u j) 0 3000 && (decide ((x.Falls.getD j []).length = (k.Falls.getD j []).length) && (List.range (k.Falls.getD j []).length).all fun p => inB (x.d j p) (k.at j p).Lo (k.at j p).Hi)
def fieldB (k : Kiln) (x : Field) : Bool := decide (x.Mouths.length = k.Falls.length) && (decide (x.Falls.length = k.Falls.length) && (List.range k.Falls.length).all (rowB k x))
theorem heat_isField_eq {k : Kiln} (h : kilnB k = true) (x : Field) : heat_isField KK k x = some (fieldB k x) := by
 have hk := kilnB_len h
 unfold heat_isField fieldB
 simp only [len_dec]
 by_cases h1 : x.Mouths.length = k.Falls.length
 ·by_cases h2 : x.Falls.length = k.Falls.length
  ·simp only [h1, h2, decide_true, Bool.not_true, cond_true, cond_false, Bool.true_and]
   rw [whl_allN (n := k.Falls.length) (p := rowB k x) (c := false) (by omega) (by unfold KK; omega) (fun j hj => by
    unfold heat_isField.b0 rowB
    have hr := kilnB_row h hj
    simp only [lt_dec hj, cond_true, at_row h hj, at_nat (0 : Int) (show j < x.Mouths.length by omega), at_nat ([] : List Int) (show j < x.Falls.length by omega), Option.bind_some, heat_in_eq, len_dec]
    show (bif inB (x.u j) 0 3000 then _ else _) = _
    cases inB (x.u j) 0 3000 with
    | false => rfl
    | true =>
     by_cases h3 : (x.Falls.getD j []).length = (k.Falls.getD j []).length
     ·simp only [h3, decide_true, Bool.not_true, cond_true, cond_false, Bool.true_and]
      rw [whl_allN (n := (k.Falls.getD j []).length) (p := fun p => inB (x.d j p) (k.at j p).Lo (k.at j p).Hi) (c := false) (by omega) (by unfold KK; omega) (fun p hp => by
       unfold heat_isField.b1
       simp only [lt_dec hp, cond_true, at_nat R0 hp, at_nat (0 : Int) (show p < (x.Falls.getD j []).length by omega), Option.bind_some, heat_in_eq]
       show (bif !inB (x.d j p) (k.at j p).Lo (k.at j p).Hi then _ else _) = _
       cases inB (x.d j p) (k.at j p).Lo (k.at j p).Hi <;> rfl) (by
       unfold heat_isField.b1
       rw [lt_dec_self]; rfl)]
      cases (List.range (k.Falls.getD j []).length).all fun p => inB (x.d j p) (k.at j p).Lo (k.at j p).Hi <;> rfl
     ·simp only [h3, decide_false, Bool.not_false, cond_true, Bool.false_and, Bool.and_false, cond_false]) (by
    unfold heat_isField.b0
    rw [lt_dec_self]; rfl)]
   cases (List.range k.Falls.length).all (rowB k x) <;> rfl
  ·simp [h1, h2]
 ·simp [h1]
structure FieldOk (k : Kiln) (x : Field) : Prop where
 kv : kilnB k = true
 m : x.Mouths.length = k.Falls.length
 f : x.Falls.length = k.Falls.length
 row : ∀ j, j < k.Falls.length → (x.Falls.getD j []).length = k.P
 u : ∀ j, j < k.Falls.length → 0 ≤ x.u j ∧ x.u j ≤ 3000
 d : ∀ j p, j < k.Falls.length → (k.at j p).Lo ≤ x.d j p ∧ x.d j p ≤ (k.at j p).Hi
theorem fieldB_iff {k : Kiln} (h : kilnB k = true) (x : Field) : fieldB k x = true ↔ FieldOk k x := by
 unfold fieldB
 simp only [Bool.and_eq_true, decide_eq_true_eq, List.all_eq_true, List.mem_range, rowB, inB]
 constructor
 ·rintro ⟨h1, h2, h3⟩
  refine ⟨h, h1, h2, fun j hj => by rw [(h3 j hj).2.1, kilnB_row h hj], fun j hj => (h3 j hj).1, fun j p hj => ?_⟩
  obtain ⟨_, h4, h5⟩ := h3 j hj
  by_cases hp : p < (k.Falls.getD j []).length
  ·exact h5 p hp
  ·unfold Field.d Kiln.at
   rw [getD_none (by omega), getD_none (by omega)]
   exact ⟨Int.le_refl _, Int.le_refl _⟩
 ·intro g
  exact ⟨g.m, g.f, fun j hj => ⟨g.u j hj, by rw [g.row j hj, kilnB_row h hj], fun p _ => g.d j p hj⟩⟩
theorem FieldOk.isField {k : Kiln} {x : Field} (h : FieldOk k x) {f : Fur} (hm : f.m = k.Falls.length - 1) (hlo : ∀ j p, f.lo j p = (k.at j p).Lo) (hhi : ∀ j p, f.hi j p = (k.at j p).Hi) : f.IsField x.u x.d := by
 have hk := kilnB_len h.kv
 intro j hj
 have h1 := h.u j (by omega)
 refine ⟨h1.1, h1.2, fun p => ?_⟩
 rw [hlo, hhi]; exact h.d j p (by omega)
theorem FieldOk.bounds {k : Kiln} {x : Field} (h : FieldOk k x) {j : Nat} (p : Nat) (hj : j < k.Falls.length) : -3000 ≤ x.u j - x.d j p ∧ x.u j - x.d j p ≤ 3000 := by
 have h1 := h.u j hj
 have h2 := h.d j p hj
 have h3 := kilnB_at h.kv j p
 omega
theorem FieldOk.ht {k : Kiln} {x : Field} (h : FieldOk k x) (p : Nat) : -3000 ≤ x.ht (k.Falls.length - 1) p ∧ x.ht (k.Falls.length - 1) p ≤ 3000 := by
 have hk := kilnB_len h.kv
 unfold Field.ht
 rw [mx_le_iff, le_mx_iff]
 exact ⟨⟨0, Nat.zero_le _, (h.bounds p (by omega)).1⟩, fun j hj => (h.bounds p (by omega)).2⟩
def heatsL (k : Kiln) (x : Field) : List Int := (List.range k.P).map (x.ht (k.Falls.length - 1))
theorem heat_heats_eq {k : Kiln} {x : Field} (h : FieldOk k x) : heat_heats KK x = some (heatsL k x) := by
 have hk := kilnB_len h.kv
 have hm := h.m
 have hf := h.f
 have hr0 := h.row 0 (by omega)
 unfold heat_heats
 have e0 : at? x.Falls (0 : Int) = some (x.Falls.getD 0 []) := at_nat [] (l := x.Falls) (i := 0) (by omega)
 rw [e0]
 simp only [Option.bind_some]
 have h1 := (whl_foldN (n := (x.Falls.getD 0 []).length) (body := heat_heats.b0 KK x (x.Falls.getD 0 [])) (k := KK) (fun i s => (i, s)) (fun s p => s ++ [x.ht (k.Falls.length - 1) p]) (fun i s => s.length = i) (s0 := []) (by omega) (by unfold KK; omega) rfl ?_ ?_).1
 ·rw [h1, foldl_pushN, hr0]; rfl
 ·intro p s hp hI
  refine ⟨?_, by simp [hI]⟩
  unfold heat_heats.b0
  have e1 : at? x.Mouths (0 : Int) = some (x.u 0) := at_nat 0 (l := x.Mouths) (i := 0) (by omega)
  have e2 : at? (x.Falls.getD 0 []) (p : Int) = some (x.d 0 p) := at_nat 0 hp
  have hb0 := h.bounds p (show 0 < k.Falls.length by omega)
  simp only [lt_dec hp, cond_true, e1, e2, Option.bind_some]
  obtain ⟨h2, h3⟩ := whl_foldN (n := k.Falls.length) (body := heat_heats.b1 KK x (p : Int)) (k := KK) (fun i s => (s, i)) (fun s j => max s (x.u j - x.d j p)) (fun i s => ∀ t, t ≤ s ↔ t ≤ x.u 0 - x.d 0 p ∨ ∃ j, j < i ∧ t ≤ x.u j - x.d j p) (s0 := w64 (x.u 0 - x.d 0 p)) (by omega) (by unfold KK; omega) (by intro t; rw [w64_of (by omega) (by omega)]; simp) (fun j s hj hI2 => by
   have hb := h.bounds p hj
   have hr := h.row j hj
   have e3 : at? x.Mouths (j : Int) = some (x.u j) := at_nat 0 (by omega)
   have e4 : at? (x.Falls.getD j []) (p : Int) = some (x.d j p) := at_nat 0 (by omega)
   refine ⟨?_, fun t => ?_⟩
   ·unfold heat_heats.b1
    simp only [hm, lt_dec hj, cond_true, e3, e4, at_nat ([] : List Int) (show j < x.Falls.length by omega), Option.bind_some]
    rw [w64_of (n := x.u j - x.d j p) (by omega) (by omega)]
   ·rw [show ∀ a b : Int, t ≤ max a b ↔ t ≤ a ∨ t ≤ b by intro a b; omega, hI2 t]
    constructor
    ·rintro ((k1 | ⟨i, k1, k2⟩) | k1)
     ·exact .inl k1
     ·exact .inr ⟨i, by omega, k2⟩
     ·exact .inr ⟨j, by omega, by omega⟩
    ·rintro (k1 | ⟨i, k1, k2⟩)
     ·exact .inl (.inl k1)
     ·by_cases hij : i = j
      ·subst hij; exact .inr (by omega)
      ·exact .inl (.inr ⟨i, by omega, k2⟩)) (fun s _ => by
   unfold heat_heats.b1
   simp only [hm, lt_dec_self]; rfl)
  rw [h2]
  have : (List.range k.Falls.length).foldl (fun s j => max s (x.u j - x.d j p)) (w64 (x.u 0 - x.d 0 p)) = x.ht (k.Falls.length - 1) p := by
   refine eq_of_le_iff fun t => ?_
   unfold Field.ht
   rw [h3 t, le_mx_iff]
   constructor
   ·rintro (k1 | ⟨j, k1, k2⟩)
    ·exact ⟨0, Nat.zero_le _, k1⟩
    ·exact ⟨j, by omega, k2⟩
   ·rintro ⟨j, k1, k2⟩; exact .inr ⟨j, by omega, k2⟩
  rw [this]
  simp only [Option.bind_some]
  rw [push_of (by omega) (by omega)]
  rfl
 ·intro s _
  unfold heat_heats.b0
  simp only [lt_dec_self]; rfl
theorem R04_heat_eq {k : Kiln} {x : Field} (h : FieldOk k x) {p : Nat} (hp : p < k.P) : R04_heat KK x (p : Int) = some (x.ht (k.Falls.length - 1) p) := by
 have hk := kilnB_len h.kv
 have hm := h.m
 have hf := h.f
 have hr0 := h.row 0 (by omega)
 unfold R04_heat
 have e0 : at? x.Falls (0 : Int) = some (x.Falls.getD 0 []) := at_nat [] (l := x.Falls) (i := 0) (by omega)
 have e1 : at? x.Mouths (0 : Int) = some (x.u 0) := at_nat 0 (l := x.Mouths) (i := 0) (by omega)
 have e2 : at? (x.Falls.getD 0 []) (p : Int) = some (x.d 0 p) := at_nat 0 (by omega)
 have hb0 := h.bounds p (show 0 < k.Falls.length by omega)
 simp only [e0, e1, e2, Option.bind_some]
 rw [w64_of (by omega) (by omega)]
 have hw := whl_ok (body := R04_heat.b0 KK x (p : Int))
  (fun t => ∃ (i : Nat) (s : Int), t = (s, ((i + 1 : Nat) : Int)) ∧ i + 1 ≤ k.Falls.length ∧ s = x.ht i p)
  (fun r => r = .brk (x.ht (k.Falls.length - 1) p)) (fun t => k.Falls.length - t.2.toNat) ?_ KK (x.u 0 - x.d 0 p, 1) ⟨0, _, rfl, by omega, rfl⟩ (by unfold KK; simp only; omega)
 ·obtain ⟨r, k1, k2, _⟩ := hw
  rw [k1, k2]; rfl
 ·rintro t ⟨i, s, rfl, g1, g2⟩
  by_cases hi : i + 1 = k.Falls.length
  ·right; left
   refine ⟨s, ?_, by rw [g2]; congr 2; omega⟩
   unfold R04_heat.b0
   simp only [hm, hi, lt_dec_self]; rfl
  ·left
   have hj : i + 1 < k.Falls.length := by omega
   have hb := h.bounds p hj
   have hr := h.row _ hj
   have e3 : at? x.Mouths ((i + 1 : Nat) : Int) = some (x.u (i + 1)) := at_nat 0 (by omega)
   have e4 : at? (x.Falls.getD (i + 1) []) (p : Int) = some (x.d (i + 1) p) := at_nat 0 (by omega)
   refine ⟨(max s (x.u (i + 1) - x.d (i + 1) p), ((i + 1 + 1 : Nat) : Int)), ?_, ⟨i + 1, _, rfl, hj, by rw [g2]; rfl⟩, by simp only [Int.toNat_natCast]; omega⟩
   unfold R04_heat.b0
   simp only [hm, lt_dec hj, cond_true, e3, e4, at_nat ([] : List Int) (show i + 1 < x.Falls.length by omega), Option.bind_some]
   rw [w64_of (n := x.u (i + 1) - x.d (i + 1) p) (by omega) (by omega), w64_succ (n := k.Falls.length) hj (by omega)]
def heatsR (k : Kiln) (x : Field) : List Int × Int := bif !kilnB k then ([], 40) else bif !fieldB k x then ([], 45) else (heatsL k x, 0)
theorem heat_Heats_eq (k : Kiln) (q : Kiln.s k) (x : Field) : heat_Heats KK k x = some (heatsR k x) := by
 unfold heat_Heats heatsR
 rw [heat_CheckKiln_eq k q]
 cases h : kilnB k with
 | false => rfl
 | true =>
  simp only [Option.bind_some, cond_true, decide_true, Bool.not_true, cond_false, heat_isField_eq h]
  cases h2 : fieldB k x with
  | false => rfl
  | true => simp only [Bool.not_true, cond_false, heat_heats_eq ((fieldB_iff h x).1 h2)]; rfl
def rdAg (h : Int) (r : Reading) : Bool := !((lo? r).isSome && decide (h < (lo? r).getD 0)) && !((hi? r).isSome && decide ((hi? r).getD 0 < h))
def agB (f : Firing) (x : Field) : Bool := f.Readings.all fun r => rdAg (x.ht (f.Kiln.Falls.length - 1) r.Place.toNat) r
theorem agB_iff {f : Firing} (h : f.ok) (x : Field) : agB f x = true ↔ (nf f).fur.Agrees x.u x.d := by
 unfold agB Fur.Agrees
 rw [List.all_eq_true]
 have hh : ∀ p, (nf f).fur.heat x.u x.d p = x.ht (f.Kiln.Falls.length - 1) p := fun p => rfl
 have hr : ∀ (n : Int) r, rdAg n r = true ↔ (∀ a, lo? r = some a → a ≤ n) ∧ ∀ b, hi? r = some b → n ≤ b := by
  intro n r
  unfold rdAg
  cases lo? r <;> cases hi? r <;> simp
 constructor
 ·intro g
  refine ⟨fun z hz => ?_, fun z hz => ?_⟩
  ·obtain ⟨r, h1, h2, h3⟩ := limsOf_lp.1 hz
   rw [hh, ← h3]
   exact ((hr _ _).1 (g r h1)).1 _ h2
  ·obtain ⟨r, h1, h2, h3⟩ := limsOf_lp.1 hz
   rw [hh, ← h3]
   exact ((hr _ _).1 (g r h1)).2 _ h2
 ·rintro ⟨g1, g2⟩ r hr'
  rw [hr]
  exact ⟨fun a ha => g1 (r.Place.toNat, a) (limsOf_lp.2 ⟨r, hr', ha, rfl⟩), fun b hb => g2 (r.Place.toNat, b) (limsOf_lp.2 ⟨r, hr', hb, rfl⟩)⟩
end Go.Abs
namespace Go.Abs
open Go
set_option linter.unusedVariables false
def Firing.w (f : Firing) : Prop := f.Readings.length * 24 + 24 ≤ 140737488355328
theorem Firing.q.w {f : Firing} (q : Firing.q f) : Firing.w f := by
 have := q.2.2.1
 have := qB_le
 unfold Firing.w; omega
theorem firing_w {f : Firing} (h : f.ok) : Firing.w f := by have := h.l; unfold Firing.w; omega
theorem firing_s {f : Firing} (h : f.ok) : Firing.s f := by
 obtain ⟨s1, s2, s3⟩ := kilnB_small h.k
 have := h.l
 exact ⟨⟨by unfold Go.maxLen; omega, fun x hx => by rw [s3 x hx]; unfold Go.maxLen; omega⟩, by unfold Go.maxLen; omega⟩
def noFur : heat_furnace := ⟨⟨⟨[]⟩, []⟩, [], []⟩
def askCode (f : Firing) (p : Int) : Int := bif !decide (firingCode f = 0) then 42 else bif !inB p 0 ((f.Kiln.P : Int) - 1) then 43 else bif !soundB (nf f) then 44 else 0
theorem heat_asks_eq (f : Firing) (q : Firing.s f) (w : Firing.w f) (p : Int) : heat_asks KK f p = some (bif decide (askCode f p = 0) then (nf f, 0) else (noFur, askCode f p)) := by
 unfold heat_asks askCode
 rw [heat_newFurnace_eq f w, heat_Check_eq f q]
 simp only [Option.bind_some]
 by_cases h : firingCode f = 0
 ·have hok := firing_ok h
  have hk := kilnB_len hok.k
  obtain ⟨x3, g1, g2, g3⟩ := kilnB_head hok.k
  have hP : x3.length = f.Kiln.P := by unfold Kiln.P; rw [g3]
  simp only [h, decide_true, Bool.not_true, cond_false, g2, Option.bind_some, heat_in_eq, hP, heat_sound_eq (nf_ok hok)]
  rw [w64_of (n := (f.Kiln.P : Int) - 1) (by omega) (by omega)]
  cases inB p 0 ((f.Kiln.P : Int) - 1) with
  | false => rfl
  | true => cases soundB (nf f) <;> rfl
 ·simp only [h, decide_false, Bool.not_false, cond_true]
  rfl
theorem askCode_ok {f : Firing} {p : Int} (h : askCode f p = 0) : firingCode f = 0 ∧ f.ok ∧ 0 ≤ p ∧ p < f.Kiln.P ∧ (nf f).fur.Sound ∧ soundB (nf f) = true := by
 unfold askCode at h
 by_cases hc : firingCode f = 0
 ·have hok := firing_ok hc
  simp only [hc, decide_true, Bool.not_true, cond_false] at h
  cases hi : inB p 0 ((f.Kiln.P : Int) - 1) with
  | false => rw [hi] at h; simp at h
  | true =>
   rw [hi] at h
   cases hs : soundB (nf f) with
   | false => rw [hs] at h; simp at h
   | true =>
    simp only [inB, Bool.and_eq_true, decide_eq_true_eq] at hi
    exact ⟨hc, hok, hi.1, by omega, (soundB_iff (nf_ok hok)).1 hs, rfl⟩
 ·simp [hc] at h
def boundR (f : Firing) (p : Int) (r : Range) : Range × Int := bif decide (askCode f p = 0) then (r, 0) else (⟨0, 0⟩, askCode f p)
def IsBound (f : Firing) (p : Int) (r : Range) : Prop := askCode f p = 0 → (∀ t, r.Lo ≤ t ↔ (nf f).fur.Low p.toNat t) ∧ ∀ t, t ≤ r.Hi ↔ (nf f).fur.High p.toNat t
theorem heat_Bound_eq (f : Firing) (q : Firing.s f) (w : Firing.w f) (p : Int) : ∃ r, IsBound f p r ∧ heat_Bound KK f p = some (boundR f p r) := by
 unfold heat_Bound boundR
 rw [heat_asks_eq f q w]
 simp only [Option.bind_some]
 by_cases h : askCode f p = 0
 ·obtain ⟨h1, h2, h3, h4, h5, h6⟩ := askCode_ok h
  have hpl : ((p.toNat : Nat) : Int) = p := by omega
  obtain ⟨r, e1, e2, e3⟩ := heat_bound_eq (nf_ok h2) h5 (q := p.toNat) (by show p.toNat < f.Kiln.P; omega)
  rw [hpl] at e1
  simp only [h, decide_true, cond_true, Bool.not_true, cond_false, e1, Option.bind_some]
  exact ⟨r, fun _ => ⟨e2, e3⟩, rfl⟩
 ·simp only [h, decide_false, cond_false, Bool.not_false, cond_true]
  exact ⟨⟨0, 0⟩, fun k => absurd k h, trivial⟩
theorem IsBound.one {f : Firing} {p : Int} {r s : Range} (h1 : IsBound f p r) (h2 : IsBound f p s) : boundR f p r = boundR f p s := by
 unfold boundR
 by_cases h : askCode f p = 0
 ·have a := h1 h
  have b := h2 h
  rw [bound_same a.1 a.2 b.1 b.2]
 ·simp only [h, decide_false, cond_false]
end Go.Abs
namespace Go.Abs
open Go
set_option linter.unusedVariables false
def rngX (x : heat_furnace) (q : Nat) : Range := (heat_furnace_bound KK x (q : Int)).getD ⟨0, 0⟩
theorem rngX_spec {x : heat_furnace} (h : x.ok) (hs : x.fur.Sound) {q : Nat} (hq : q < x.Firing.Kiln.P) :
  heat_furnace_bound KK x (q : Int) = some (rngX x q) ∧ (∀ t, (rngX x q).Lo ≤ t ↔ x.fur.Low q t) ∧ ∀ t, t ≤ (rngX x q).Hi ↔ x.fur.High q t := by
 obtain ⟨r, e1, e2, e3⟩ := heat_bound_eq h hs hq
 have : rngX x q = r := by unfold rngX; rw [e1]; rfl
 rw [this]; exact ⟨e1, e2, e3⟩
theorem kiln_P {k : Kiln} (h : kilnB k = true) : ∃ x3, at? k.Falls 0 = some x3 ∧ x3.length = k.P := by
 obtain ⟨x3, g1, g2, g3⟩ := kilnB_head h
 exact ⟨x3, g2, by unfold Kiln.P; rw [g3]⟩
theorem nf_len {f : Firing} (h : f.ok) : (nf f).least.length ≤ 100 ∧ (nf f).most.length ≤ 100 := by
 have h2 := h.l
 have a := limsOf_len f.Readings lo?
 have b := limsOf_len f.Readings hi?
 exact ⟨by show (limsOf f.Readings lo?).length ≤ 100; omega, by show (limsOf f.Readings hi?).length ≤ 100; omega⟩
def ringOf (w : Want) : Reading := ⟨1, w.Place, 3, 0, w.Heat⟩
def wf (f : Firing) (l : List Want) : Firing := ⟨f.Kiln, f.Readings ++ l.map ringOf⟩
end Go.Abs
namespace Go.Abs
open Go
set_option linter.unusedVariables false
def allSrc (f : Firing) : List Int := usort (f.Readings.map fun r => r.Source)
theorem allSrc_len (f : Firing) : (allSrc f).length ≤ f.Readings.length := by
 have := usort_len (f.Readings.map fun r => r.Source)
 simpa [allSrc] using this
end Go.Abs
namespace Go.Abs
open Go
set_option linter.unusedVariables false
theorem whl_foldM {S E R τ : Type} {n : Nat} {body : τ → Option (Stp τ E R)} (mk : Int → S → τ) (g : S → E) (f : S → Nat → Option S) (c : R) (Inv : Nat → S → Prop) (hn : n ≤ 9223372036854775807) {k : Nat} (hk : n < k) {s0 : S} (h0 : Inv 0 s0)
  (h1 : ∀ i s, i < n → Inv i s → body (mk (i : Int) s) = some (match f s i with | some s' => .next (mk (w64 ((i : Int) + 1)) s') | none => .ret c) ∧ ∀ s', f s i = some s' → Inv (i + 1) s') (h2 : ∀ s, Inv n s → body (mk (n : Int) s) = some (.brk (g s))) :
  whl body k (mk 0 s0) = some (match (List.range n).foldlM f s0 with | some s => .brk (g s) | none => .ret c) ∧ ∀ s, (List.range n).foldlM f s0 = some s → Inv n s := by
 have key : ∀ (d i k : Nat) (s : S), i + d = n → d < k → Inv i s → whl body k (mk (i : Int) s) = some (match (List.range' i d).foldlM f s with | some s => .brk (g s) | none => .ret c) ∧ ∀ s', (List.range' i d).foldlM f s = some s' → Inv n s' := by
  intro d
  induction d with
  | zero =>
   intro i k s hi hk hI
   cases k with
   | zero => omega
   | succ k =>
    have : i = n := by omega
    subst this
    refine ⟨?_, fun s' hs => ?_⟩
    ·rw [whl, h2 s hI]; rfl
    ·have : s = s' := Option.some.inj hs
     exact this ▸ hI
  | succ d ih =>
   intro i k s hi hk hI
   cases k with
   | zero => omega
   | succ k =>
    obtain ⟨g1, g2⟩ := h1 i s (by omega) hI
    rw [List.range'_succ, List.foldlM_cons, whl, g1]
    cases hf : f s i with
    | none => exact ⟨rfl, fun s' hs => by cases hs⟩
    | some s1 =>
     have : w64 ((i : Int) + 1) = ((i + 1 : Nat) : Int) := by rw [w64_of (by omega) (by omega)]; omega
     simp only [this]
     exact ih (i + 1) k s1 (by omega) (by omega) (g2 s1 hf)
 have := key n 0 k s0 (by omega) hk h0
 rw [List.range_eq_range']
 exact this
end Go.Abs
namespace Go.Abs
open Go
theorem whl_foldML {α S E R τ : Type} {l : List α} {body : τ → Option (Stp τ E R)} (mk : Int → S → τ) (g : S → E) (f : S → α → Option S) (c : R) (Inv : Nat → S → Prop) (hn : l.length ≤ 9223372036854775807) {k : Nat} (hk : l.length < k) {s0 : S} (h0 : Inv 0 s0)
  (h1 : ∀ (i : Nat) x s, l[i]? = some x → Inv i s → body (mk (i : Int) s) = some (match f s x with | some s' => .next (mk (w64 ((i : Int) + 1)) s') | none => .ret c) ∧ ∀ s', f s x = some s' → Inv (i + 1) s') (h2 : ∀ s, Inv l.length s → body (mk (l.length : Int) s) = some (.brk (g s))) :
  whl body k (mk 0 s0) = some (match l.foldlM f s0 with | some s => .brk (g s) | none => .ret c) ∧ ∀ s, l.foldlM f s0 = some s → Inv l.length s := by
 have key : ∀ (m : List α) (i k : Nat) (s : S), l.drop i = m → i + m.length = l.length → m.length < k → Inv i s → whl body k (mk (i : Int) s) = some (match m.foldlM f s with | some s => .brk (g s) | none => .ret c) ∧ ∀ s', m.foldlM f s = some s' → Inv l.length s' := by
  intro m
  induction m with
  | nil =>
   intro i k s _ h3 h4 hI
   cases k with
   | zero => omega
   | succ k =>
    have : i = l.length := by simpa using h3
    subst this
    refine ⟨by rw [whl, h2 s hI]; rfl, fun s' hs => ?_⟩
    have : s = s' := Option.some.inj hs
    exact this ▸ hI
  | cons x m ih =>
   intro i k s h5 h3 h4 hI
   cases k with
   | zero => omega
   | succ k =>
    simp only [List.length_cons] at h3 h4
    have hx : l[i]? = some x := by
     have := congrArg (fun q => q[0]?) h5
     simpa using this
    obtain ⟨h6, h7⟩ := h1 i x s hx hI
    rw [List.foldlM_cons, whl, h6]
    cases hf : f s x with
    | none => exact ⟨rfl, fun s' hs => by cases hs⟩
    | some s1 =>
     have : w64 ((i : Int) + 1) = ((i + 1 : Nat) : Int) := by rw [w64_of (by omega) (by omega)]; omega
     simp only [this]
     exact ih (i + 1) k s1 (by rw [← List.drop_drop, h5]; rfl) (by omega) (by omega) (h7 s1 hf)
 exact key l 0 k s0 rfl (by simp) hk h0
end Go.Abs
namespace Go.Abs
open Go
set_option linter.unusedVariables false
def hiAt (f : Firing) (i : Int) : Option heat_limit := if 0 ≤ i ∧ i < f.Readings.length then limOf f.Readings hi? i.toNat else none
def loAt (f : Firing) (i : Int) : Option heat_limit := if 0 ≤ i ∧ i < f.Readings.length then limOf f.Readings lo? i.toNat else none
theorem limOf_by {l : List Reading} {g : Reading → Option Int} {i : Nat} {y : heat_limit} (h : limOf l g i = some y) : y.by_ = (i : Int) ∧ y.place = (l.getD i rd0).Place ∧ g (l.getD i rd0) = some y.heat := by
 unfold limOf at h
 cases hg : g (l.getD i rd0) with
 | none => rw [hg] at h; cases h
 | some n => rw [hg] at h; cases h; exact ⟨rfl, rfl, rfl⟩
theorem find_lims (l : List Reading) (g : Reading → Option Int) (hl : l.length ≤ 9223372036854775807) (i : Int) :
  (match (limsOf l g).findIdx? (fun y => decide (y.by_ = i)) with | some k => at? (limsOf l g) (k : Int) | none => none) = if 0 ≤ i ∧ i < l.length then limOf l g i.toNat else none := by
 cases hf : (limsOf l g).findIdx? (fun y => decide (y.by_ = i)) with
 | none =>
  rw [List.findIdx?_eq_none_iff] at hf
  simp only
  split
  ·rename_i hi
   cases hy : limOf l g i.toNat with
   | none => rfl
   | some y =>
    exfalso
    have h1 := limOf_by hy
    have hm : y ∈ limsOf l g := List.mem_filterMap.2 ⟨i.toNat, by simp only [List.mem_range]; omega, hy⟩
    have := hf y hm
    simp only [decide_eq_false_iff_not] at this
    exact this (by rw [h1.1]; omega)
  ·rfl
 | some k =>
  rw [List.findIdx?_eq_some_iff_getElem] at hf
  obtain ⟨hk, h1, _⟩ := hf
  simp only [decide_eq_true_eq] at h1
  simp only
  rw [at_of (List.getElem?_eq_getElem hk)]
  have hm : (limsOf l g)[k] ∈ limsOf l g := List.getElem_mem hk
  obtain ⟨j, hj, hy⟩ := List.mem_filterMap.1 hm
  simp only [List.mem_range] at hj
  have h2 := limOf_by hy
  have hij : i = (j : Int) := by rw [← h1, h2.1]
  subst hij
  rw [if_pos (by omega), Int.toNat_natCast, hy]
theorem index_limit {l : List heat_limit} (hl : l.length ≤ 100000) {f : heat_limit → Option Bool} {p : heat_limit → Bool} (hf : ∀ x, f x = some (p x)) : slices_IndexFunc_heat_limit KK l f = some (match l.findIdx? p with | some i => (i : Int) | none => -1) := by
 unfold slices_IndexFunc_heat_limit
 rw [indexFunc_gen (body := slices_IndexFunc_heat_limit.b0 KK f l) (p := p) (fun x _ => hf x) (by omega) (by unfold KK; omega) rfl]
 cases l.findIdx? p <;> rfl
def lim0 : heat_limit := ⟨0, 0, 0⟩
theorem heat_told_eq {f : Firing} (h : f.ok) (i : Int) : heat_furnace_told KK (nf f) i = some ((hiAt f i).getD lim0, (hiAt f i).isSome) := by
 have hn := nf_len h
 have hl := h.l
 have := find_lims f.Readings hi? (by omega) i
 unfold heat_furnace_told
 rw [index_limit (f := fun q0 => heat_furnace_told_1 KK q0 i) (by omega) (p := fun y => decide (y.by_ = i)) (fun y => rfl)]
 unfold hiAt
 rw [← this]
 have e : (nf f).most = limsOf f.Readings hi? := rfl
 rw [e]
 cases hf : (limsOf f.Readings hi?).findIdx? (fun y => decide (y.by_ = i)) with
 | none => rfl
 | some k =>
  rw [List.findIdx?_eq_some_iff_getElem] at hf
  obtain ⟨hk, _⟩ := hf
  have : ¬ ((k : Int) < 0) := by omega
  simp only [Option.bind_some, this, decide_false, cond_false]
  rw [at_of (List.getElem?_eq_getElem hk)]
  rfl
theorem hiAt_ok {f : Firing} (h : f.ok) {i : Int} {y : heat_limit} (hy : hiAt f i = some y) : limOk f.Kiln.P y ∧ y ∈ (nf f).most ∧ y.by_ = i ∧ 0 ≤ i ∧ i < f.Readings.length := by
 unfold hiAt at hy
 split at hy
 ·rename_i hi
  have hm : y ∈ limsOf f.Readings hi? := List.mem_filterMap.2 ⟨i.toNat, by simp only [List.mem_range]; omega, hy⟩
  exact ⟨(nf_ok h).m y hm, hm, by rw [(limOf_by hy).1]; omega, hi⟩
 ·cases hy
theorem loAt_ok {f : Firing} (h : f.ok) {i : Int} {y : heat_limit} (hy : loAt f i = some y) : limOk f.Kiln.P y ∧ y ∈ (nf f).least ∧ y.by_ = i ∧ 0 ≤ i ∧ i < f.Readings.length := by
 unfold loAt at hy
 split at hy
 ·rename_i hi
  have hm : y ∈ limsOf f.Readings lo? := List.mem_filterMap.2 ⟨i.toNat, by simp only [List.mem_range]; omega, hy⟩
  exact ⟨(nf_ok h).l y hm, hm, by rw [(limOf_by hy).1]; omega, hi⟩
 ·cases hy
def uAt (f : Firing) (j : Nat) (b : Int) : Option Int := if b = -1 then some 3000 else (hiAt f b).map fun y => y.heat + (f.Kiln.at j y.place.toNat).Hi
def maxO (s : Option Int) (n : Int) : Int := match s with | none => n | some m => max m n
def highStep (f : Firing) (q : Nat) (l : List Int) (s : Option Int) (j : Nat) : Option (Option Int) := (uAt f j (l.getD j 0)).map fun u => some (maxO s (u - (f.Kiln.at j q).Lo))
def showHigh (f : Firing) (q : Nat) (p : HeatProof) : Option Int :=
 if p.Reading = -1 then (if p.By.length = f.Kiln.Falls.length then ((List.range f.Kiln.Falls.length).foldlM (highStep f q p.By) none).map (·.getD (-3000)) else none)
 else match hiAt f p.Reading with
  | some y => if y.place = (q : Int) ∧ p.By.length = 0 then some y.heat else none
  | none => none
theorem heat_showsHigh_eq {f : Firing} (h : f.ok) {q : Nat} (hq : q < f.Kiln.P) (p : HeatProof) : ∃ v, heat_furnace_showsHigh KK (nf f) (q : Int) p = some (v, (showHigh f q p).isSome) ∧ ∀ m, showHigh f q p = some m → v = m := by
 have hk := kilnB_len h.k
 unfold heat_furnace_showsHigh showHigh
 by_cases h1 : p.Reading = -1
 ·simp only [h1, decide_true, Bool.not_true, cond_false, if_true]
  by_cases h2 : p.By.length = f.Kiln.Falls.length
  ·have h2' : decide ((p.By.length : Int) = ((nf f).Firing.Kiln.Falls.length : Int)) = true := by rw [len_dec]; exact decide_eq_true h2
   simp only [h2', Bool.not_true, cond_false]
   rw [if_pos h2]
   obtain ⟨e1, e2⟩ := whl_foldM (n := f.Kiln.Falls.length) (body := heat_furnace_showsHigh.b0 KK (nf f) (q : Int) p) (k := KK) (fun i (s : Option Int) => (s.getD (-3000), i)) (fun s => s.getD (-3000)) (highStep f q p.By) ((0, false) : Int × Bool) (fun i s => (s = none ↔ i = 0)) (by omega) (by unfold KK; omega) (s0 := none) (by simp) (fun j s hj hI => by
    have hcell := kilnB_at h.k j q
    refine ⟨?_, fun s' hs => ?_⟩
    ·unfold heat_furnace_showsHigh.b0 highStep uAt
     have hfir : (nf f).Firing = f := rfl
     simp only [h2, lt_dec hj, cond_true, at_nat (0 : Int) (show j < p.By.length by omega), Option.bind_some, hfir, at_row h.k hj, at_cellN h.k hj hq, heat_told_eq h]
     have hstep : ∀ u : Int, -3000 ≤ u ∧ u ≤ 6000 → (bif !decide ((j : Int) = 0) then (bif decide (s.getD (-3000) < w64 (u - (f.Kiln.at j q).Lo)) then some (Stp.next (w64 (u - (f.Kiln.at j q).Lo), w64 ((j : Int) + 1))) else some (Stp.next (s.getD (-3000), w64 ((j : Int) + 1)))) else some (Stp.next (w64 (u - (f.Kiln.at j q).Lo), w64 ((j : Int) + 1)))) = (some (Stp.next ((some (maxO s (u - (f.Kiln.at j q).Lo))).getD (-3000), w64 ((j : Int) + 1))) : Option (Stp (Int × Int) Int (Int × Bool))) := by
      intro u hu
      rw [w64_of (n := u - (f.Kiln.at j q).Lo) (by omega) (by omega)]
      cases s with
      | none =>
       have : j = 0 := hI.1 rfl
       subst this
       rfl
      | some n =>
       have hj0 : ¬ ((j : Int) = 0) := by
        intro e
        have := hI.2 (by omega)
        cases this
       simp only [hj0, decide_false, Bool.not_false, cond_true, Option.getD_some, maxO]
       by_cases hc : n < u - (f.Kiln.at j q).Lo
       ·simp only [hc, decide_true, cond_true]; rw [Int.max_eq_right (by omega)]
       ·simp only [hc, decide_false, cond_false]; rw [Int.max_eq_left (by omega)]
     by_cases hb : p.By.getD j 0 = -1
     ·simp only [hb, decide_true, Bool.not_true, cond_false, if_true, Option.map_some]
      exact hstep 3000 (by omega)
     ·simp only [hb, decide_false, Bool.not_false, cond_true, if_false]
      cases hy : hiAt f (p.By.getD j 0) with
      | none => rfl
      | some y =>
       obtain ⟨⟨y1, y2, y3, y4⟩, _⟩ := hiAt_ok h hy
       have hc2 := kilnB_at h.k j y.place.toNat
       have hw := w64_of (n := y.heat + (f.Kiln.at j y.place.toNat).Hi) (by omega) (by omega)
       simp only [Option.isSome_some, Bool.not_true, cond_false, Option.getD_some, at_cell h.k hj y1 y2, Option.bind_some, Option.map_some, hw]
       exact hstep _ (by omega)
    ·unfold highStep at hs
     cases hu : uAt f j (p.By.getD j 0) with
     | none => rw [hu] at hs; cases hs
     | some u => rw [hu] at hs; cases hs; simp) (fun s _ => by
    unfold heat_furnace_showsHigh.b0
    simp only [h2, lt_dec_self]; rfl)
   rw [show ((-3000, 0) : Int × Int) = (((none : Option Int).getD (-3000), 0) : Int × Int) from rfl, e1]
   cases (List.range f.Kiln.Falls.length).foldlM (highStep f q p.By) none with
   | none => exact ⟨0, rfl, fun m hm => by cases hm⟩
   | some s => exact ⟨s.getD (-3000), rfl, fun m hm => by simpa using hm⟩
  ·have h2' : decide ((p.By.length : Int) = ((nf f).Firing.Kiln.Falls.length : Int)) = false := by rw [len_dec]; exact decide_eq_false h2
   simp only [h2', Bool.not_false, cond_true]
   rw [if_neg h2]
   exact ⟨0, rfl, fun m hm => by cases hm⟩
 ·simp only [h1, decide_false, Bool.not_false, cond_true, if_false, heat_told_eq h, Option.bind_some]
  cases hy : hiAt f p.Reading with
  | none => exact ⟨0, rfl, fun m hm => by cases hm⟩
  | some y =>
   simp only [Option.isSome_some, cond_true, Option.getD_some]
   by_cases hp : y.place = (q : Int)
   ·by_cases hb : p.By.length = 0
    ·refine ⟨y.heat, ?_, fun m hm => ?_⟩
     ·simp [hp, hb]
     ·simpa [hp, hb] using hm
    ·refine ⟨y.heat, ?_, fun m hm => ?_⟩
     ·have : ¬ ((p.By.length : Int) = 0) := by omega
      simp only [hp, hb, this, decide_true, decide_false, cond_true, and_false, if_false, Option.isSome_none]
     ·simp only [hp, hb, and_false, if_false] at hm; cases hm
   ·refine ⟨y.heat, ?_, fun m hm => ?_⟩
    ·simp only [hp, decide_false, cond_false, false_and, if_false, Option.isSome_none]
    ·simp only [hp, false_and, if_false] at hm; cases hm
def minO (s : Option Int) (n : Int) : Int := match s with | none => n | some m => min m n
def lowStep (f : Firing) (q : Nat) (y : heat_limit) (l : List Int) (s : Option Int) (j : Nat) : Option (Option Int) :=
 if l.getD j 0 = -1 then some (some (minO s (y.heat + (f.Kiln.at j y.place.toNat).Lo - (f.Kiln.at j q).Hi)))
 else if l.getD j 0 = -2 then (if y.heat + (f.Kiln.at j y.place.toNat).Lo ≤ 3000 then none else some s)
 else match hiAt f (l.getD j 0) with
  | some z => if y.heat + (f.Kiln.at j y.place.toNat).Lo ≤ z.heat + (f.Kiln.at j z.place.toNat).Hi then none else some s
  | none => none
def showLow (f : Firing) (q : Nat) (p : HeatProof) : Option (Option Int) :=
 if p.Reading = -2 then (if p.By.length = 1 ∧ 0 ≤ p.By.getD 0 0 ∧ p.By.getD 0 0 < f.Kiln.Falls.length then some (some (-(f.Kiln.at (p.By.getD 0 0).toNat q).Hi)) else none)
 else match loAt f p.Reading with
  | some y => if y.place = (q : Int) then (if p.By.length = 0 then some (some y.heat) else none)
   else if p.By.length = f.Kiln.Falls.length then (List.range f.Kiln.Falls.length).foldlM (lowStep f q y p.By) none else none
  | none => none
theorem heat_showsLow_eq {f : Firing} (h : f.ok) {q : Nat} (hq : q < f.Kiln.P) (p : HeatProof) : ∃ v e, heat_furnace_showsLow KK (nf f) (q : Int) p = some (v, e, (showLow f q p).isSome) ∧ ∀ m, showLow f q p = some m → e = m.isNone ∧ ∀ n, m = some n → v = n := by
 have hk := kilnB_len h.k
 have hfir : (nf f).Firing = f := rfl
 unfold heat_furnace_showsLow showLow
 by_cases h1 : p.Reading = -2
 ·simp only [h1, decide_true, cond_true, if_true]
  by_cases h2 : p.By.length = 1
  ·have h2' : (p.By.length : Int) = 1 := by omega
   have e0 : at? p.By (0 : Int) = some (p.By.getD 0 0) := at_nat 0 (l := p.By) (i := 0) (by omega)
   simp only [h2', decide_true, cond_true, e0, Option.bind_some, heat_in_eq, hfir]
   rw [w64_of (n := (f.Kiln.Falls.length : Int) - 1) (by omega) (by omega)]
   by_cases h3 : 0 ≤ p.By.getD 0 0 ∧ p.By.getD 0 0 < f.Kiln.Falls.length
   ·have hi : inB (p.By.getD 0 0) 0 ((f.Kiln.Falls.length : Int) - 1) = true := by simp only [inB, Bool.and_eq_true, decide_eq_true_eq]; omega
    have hjl : (p.By.getD 0 0).toNat < f.Kiln.Falls.length := by omega
    have hjj : (((p.By.getD 0 0).toNat : Nat) : Int) = p.By.getD 0 0 := by omega
    have e1 := at_row h.k hjl
    rw [hjj] at e1
    have hc := kilnB_at h.k (p.By.getD 0 0).toNat q
    rw [if_pos ⟨h2, h3⟩]
    simp only [hi, Bool.not_true, cond_false, e1, Option.bind_some, at_cellN h.k hjl hq]
    rw [w64_of (n := 0 - (f.Kiln.at (p.By.getD 0 0).toNat q).Hi) (by omega) (by omega)]
    refine ⟨_, _, rfl, fun m hm => ?_⟩
    simp only [Option.some.injEq] at hm
    subst hm
    exact ⟨rfl, fun n hn => by simp only [Option.some.injEq] at hn; omega⟩
   ·have hi : inB (p.By.getD 0 0) 0 ((f.Kiln.Falls.length : Int) - 1) = false := by
     simp only [inB, Bool.and_eq_false_iff, decide_eq_false_iff_not]; omega
    rw [if_neg (fun k => h3 k.2)]
    simp only [hi, Bool.not_false, cond_true]
    exact ⟨_, _, rfl, fun m hm => by cases hm⟩
  ·have h2' : ¬ ((p.By.length : Int) = 1) := by omega
   rw [if_neg (fun k => h2 k.1)]
   simp only [h2', decide_false, cond_false]
   exact ⟨_, _, rfl, fun m hm => by cases hm⟩
 ·simp only [h1, decide_false, cond_false, if_false]
  have hn := nf_len h
  have hl := h.l
  have hfind := find_lims f.Readings lo? (by omega) p.Reading
  rw [index_limit (f := fun q0 => heat_furnace_showsLow_1 KK q0 p) (by omega) (p := fun y => decide (y.by_ = p.Reading)) (fun y => rfl)]
  have e : (nf f).least = limsOf f.Readings lo? := rfl
  have hlo : loAt f p.Reading = if 0 ≤ p.Reading ∧ p.Reading < f.Readings.length then limOf f.Readings lo? p.Reading.toNat else none := rfl
  rw [← hfind] at hlo
  rw [e]
  cases hf : (limsOf f.Readings lo?).findIdx? (fun y => decide (y.by_ = p.Reading)) with
  | none =>
   rw [hf] at hlo
   rw [hlo]
   exact ⟨_, _, rfl, fun m hm => by cases hm⟩
  | some k =>
   rw [hf] at hlo
   rw [List.findIdx?_eq_some_iff_getElem] at hf
   obtain ⟨hk2, _⟩ := hf
   have : ¬ ((k : Int) < 0) := by omega
   have hak := at_of (List.getElem?_eq_getElem hk2)
   simp only [Option.bind_some, this, decide_false, cond_false]
   simp only [hak] at hlo ⊢
   generalize (limsOf f.Readings lo?)[k] = y at hlo hak
   obtain ⟨⟨y1, y2, y3, y4⟩, _⟩ := loAt_ok h hlo
   rw [hlo]
   simp only [Option.bind_some]
   by_cases hp : y.place = (q : Int)
   ·simp only [hp, decide_true, cond_true, if_true]
    by_cases hb : p.By.length = 0
    ·refine ⟨y.heat, false, by simp [hb], fun m hm => ?_⟩
     rw [if_pos hb] at hm
     simp only [Option.some.injEq] at hm
     subst hm
     exact ⟨rfl, fun n hn => by simpa using hn⟩
    ·have hb' : ¬ ((p.By.length : Int) = 0) := by omega
     refine ⟨y.heat, false, by simp only [hb, hb', decide_false, if_false, Option.isSome_none], fun m hm => ?_⟩
     rw [if_neg hb] at hm; cases hm
   ·simp only [hp, decide_false, cond_false, if_false]
    by_cases h2 : p.By.length = f.Kiln.Falls.length
    ·have h2' : decide ((p.By.length : Int) = ((nf f).Firing.Kiln.Falls.length : Int)) = true := by rw [len_dec]; exact decide_eq_true h2
     simp only [h2', Bool.not_true, cond_false]
     rw [if_pos h2]
     obtain ⟨e1, e2⟩ := whl_foldM (n := f.Kiln.Falls.length) (body := heat_furnace_showsLow.b0 KK (nf f) (q : Int) p y) (k := KK) (fun i (s : Option Int) => (s.getD 0, s.isNone, i)) (fun s => (s.getD 0, s.isNone)) (lowStep f q y p.By) ((0, false, false) : Int × Bool × Bool) (fun i s => True) (by omega) (by unfold KK; omega) (s0 := none) trivial (fun j s hj hI => by
      have hcell := kilnB_at h.k j q
      have hcell2 := kilnB_at h.k j y.place.toNat
      refine ⟨?_, fun s' hs => trivial⟩
      unfold heat_furnace_showsLow.b0 lowStep
      simp only [h2, lt_dec hj, cond_true, at_nat (0 : Int) (show j < p.By.length by omega), Option.bind_some, hfir, at_row h.k hj, at_cellN h.k hj hq, at_cell h.k hj y1 y2, heat_told_eq h]
      rw [w64_of (n := y.heat + (f.Kiln.at j y.place.toNat).Lo) (by omega) (by omega)]
      by_cases hb : p.By.getD j 0 = -1
      ·simp only [hb, decide_true, cond_true, if_true]
       rw [w64_of (n := y.heat + (f.Kiln.at j y.place.toNat).Lo - (f.Kiln.at j q).Hi) (by omega) (by omega)]
       cases s with
       | none => rfl
       | some n =>
        simp only [Option.isNone_some, Bool.not_false, cond_true, Option.getD_some, minO]
        by_cases hc : y.heat + (f.Kiln.at j y.place.toNat).Lo - (f.Kiln.at j q).Hi < n
        ·simp only [hc, decide_true, cond_true]; rw [Int.min_eq_right (by omega)]
        ·simp only [hc, decide_false, cond_false]; rw [Int.min_eq_left (by omega)]
      ·simp only [hb, decide_false, cond_false, if_false]
       by_cases hb2 : p.By.getD j 0 = -2
       ·simp only [hb2, decide_true, cond_true, if_true]
        by_cases hc : y.heat + (f.Kiln.at j y.place.toNat).Lo ≤ 3000
        ·simp only [hc, decide_true, cond_true, if_true]
        ·simp only [hc, decide_false, cond_false, if_false]
       ·simp only [hb2, decide_false, cond_false, if_false]
        cases hy : hiAt f (p.By.getD j 0) with
        | none => rfl
        | some z =>
         obtain ⟨⟨z1, z2, z3, z4⟩, _⟩ := hiAt_ok h hy
         have hc2 := kilnB_at h.k j z.place.toNat
         have hw := w64_of (n := z.heat + (f.Kiln.at j z.place.toNat).Hi) (by omega) (by omega)
         simp only [Option.isSome_some, cond_true, Option.getD_some, at_cell h.k hj z1 z2, Option.bind_some, hw]
         by_cases hc : y.heat + (f.Kiln.at j y.place.toNat).Lo ≤ z.heat + (f.Kiln.at j z.place.toNat).Hi
         ·simp only [hc, decide_true, cond_true, if_true]
         ·simp only [hc, decide_false, cond_false, if_false]) (fun s _ => by
      unfold heat_furnace_showsLow.b0
      simp only [h2, lt_dec_self]; rfl)
     rw [show ((0, true, 0) : Int × Bool × Int) = (((none : Option Int).getD 0, (none : Option Int).isNone, 0) : Int × Bool × Int) from rfl, e1]
     cases (List.range f.Kiln.Falls.length).foldlM (lowStep f q y p.By) none with
     | none => exact ⟨0, false, rfl, fun m hm => by cases hm⟩
     | some s =>
      refine ⟨s.getD 0, s.isNone, rfl, fun m hm => ?_⟩
      simp only [Option.some.injEq] at hm
      subst hm
      exact ⟨rfl, fun n hn => by rw [hn]; rfl⟩
    ·have h2' : decide ((p.By.length : Int) = ((nf f).Firing.Kiln.Falls.length : Int)) = false := by rw [len_dec]; exact decide_eq_false h2
     simp only [h2', Bool.not_false, cond_true]
     rw [if_neg h2]
     exact ⟨_, _, rfl, fun m hm => by cases hm⟩
def proofCode (f : Firing) (q : Int) (high : Bool) (n : Int) (p : HeatProof) : Int :=
 bif !decide (firingCode f = 0) then 42 else bif !inB q 0 ((f.Kiln.P : Int) - 1) then 43 else
  bif high then (match showHigh f q.toNat p with | none => 46 | some m => if n < m then 47 else 0)
  else match showLow f q.toNat p with | none => 46 | some none => 0 | some (some m) => if m < n then 47 else 0
theorem heat_CheckProof_eq (f : Firing) (s : Firing.s f) (q : Int) (high : Bool) (n : Int) (p : HeatProof) : heat_CheckProof KK f q high n p = some (proofCode f q high n p) := by
 unfold heat_CheckProof proofCode
 rw [heat_Check_eq f s]
 simp only [Option.bind_some]
 by_cases h : firingCode f = 0
 ·have hok := firing_ok h
  have hk := kilnB_len hok.k
  obtain ⟨x3, g1, g2⟩ := kiln_P hok.k
  simp only [h, decide_true, Bool.not_true, cond_false, g1, g2, Option.bind_some, heat_in_eq]
  rw [w64_of (n := (f.Kiln.P : Int) - 1) (by omega) (by omega)]
  cases hi : inB q 0 ((f.Kiln.P : Int) - 1) with
  | false => rfl
  | true =>
   simp only [inB, Bool.and_eq_true, decide_eq_true_eq] at hi
   have hqq : ((q.toNat : Nat) : Int) = q := by omega
   obtain ⟨v1, a1, a2⟩ := heat_showsHigh_eq hok (q := q.toNat) (by omega) p
   obtain ⟨v2, e2, b1, b2⟩ := heat_showsLow_eq hok (q := q.toNat) (by omega) p
   rw [hqq] at a1 b1
   simp only [Bool.not_true, cond_false, heat_newFurnace_eq f (firing_w hok), Option.bind_some, a1, b1]
   cases high with
   | true =>
    simp only [Bool.not_true, cond_false, cond_true]
    cases hs : showHigh f q.toNat p with
    | none => rfl
    | some m =>
     have := a2 m hs
     subst this
     simp only [Option.isSome_some, Bool.not_true, cond_false]
     by_cases hc : v1 ≤ n
     ·have : ¬ n < v1 := by omega
      simp only [hc, this, decide_true, Bool.not_true, cond_false, if_false]
     ·have : n < v1 := by omega
      simp only [hc, this, decide_false, Bool.not_false, cond_true, if_true]
   | false =>
    simp only [Bool.not_false, cond_true, cond_false]
    cases hs : showLow f q.toNat p with
    | none => cases e2 <;> rfl
    | some m =>
     obtain ⟨b3, b4⟩ := b2 m hs
     subst b3
     cases m with
     | none => rfl
     | some m =>
      have := b4 m rfl
      subst this
      simp only [Option.isSome_some, Option.isNone_some, Bool.not_true, Bool.not_false, cond_true, cond_false]
      by_cases hc : n ≤ v2
      ·have : ¬ v2 < n := by omega
       simp only [hc, this, decide_true, Bool.not_true, cond_false, if_false]
      ·have : v2 < n := by omega
       simp only [hc, this, decide_false, Bool.not_false, cond_true, if_true]
 ·simp only [h, decide_false, Bool.not_false, cond_true]
end Go.Abs
namespace Go.Abs
open Go
set_option linter.unusedVariables false
def bndR (f : Firing) (p : Int) : Range × Int := bif decide (askCode f p = 0) then (rngX (nf f) p.toNat, 0) else (⟨0, 0⟩, askCode f p)
theorem rng_isBound (f : Firing) (p : Int) : IsBound f p (rngX (nf f) p.toNat) := by
 intro h
 obtain ⟨h1, h2, h3, h4, h5, h6⟩ := askCode_ok h
 exact (rngX_spec (nf_ok h2) h5 (q := p.toNat) (by show p.toNat < f.Kiln.P; omega)).2
theorem heat_Bound_rng (f : Firing) (q : Firing.s f) (w : Firing.w f) (p : Int) : heat_Bound KK f p = some (bndR f p) := by
 obtain ⟨r, h1, h2⟩ := heat_Bound_eq f q w p
 rw [h2, h1.one (rng_isBound f p)]; rfl
theorem agree_facts {f : Firing} (h : f.ok) {x : Field} (hF : FieldOk f.Kiln x) (ha : agB f x = true) :
  (nf f).fur.Sound ∧ ∀ p, (nf f).fur.High p (x.ht (f.Kiln.Falls.length - 1) p) ∧ (nf f).fur.Low p (x.ht (f.Kiln.Falls.length - 1) p) := by
 have hA := (agB_iff h x).1 ha
 have hI : (nf f).fur.IsField x.u x.d := hF.isField rfl (fun _ _ => rfl) (fun _ _ => rfl)
 exact ⟨hA.sound hI, fun p => ⟨hA.high hI p, hA.low hI p⟩⟩
theorem Fur.High.mono {f : Fur} {q : Nat} {s t : Int} (h : f.High q t) (hst : s ≤ t) : f.High q s := by
 obtain ⟨⟨j, h1, h2⟩, h3⟩ := h
 exact ⟨⟨j, h1, by omega⟩, fun y hy e => by have := h3 y hy e; omega⟩
theorem heat_lowest_rng {f : Firing} {p : Int} (h : askCode f p = 0) : ∃ pf, heat_furnace_lowest KK (nf f) p = some ((rngX (nf f) p.toNat).Lo, pf) ∧ LowPf (nf f) p.toNat (rngX (nf f) p.toNat).Lo pf := by
 obtain ⟨h1, h2, h3, h4, h5, h6⟩ := askCode_ok h
 have hpp : ((p.toNat : Nat) : Int) = p := by omega
 obtain ⟨n, pf, a, b, c⟩ := heat_lowest_eq (nf_ok h2) h5 (q := p.toNat) (by show p.toNat < f.Kiln.P; omega)
 rw [hpp] at a
 have : n = (rngX (nf f) p.toNat).Lo := eq_of_ge_iff fun t => by rw [b t, (rng_isBound f p h).1 t]
 subst this
 exact ⟨pf, a, c⟩
theorem heat_highest_rng {f : Firing} {p : Int} (h : askCode f p = 0) : ∃ pf, heat_furnace_highest KK (nf f) p = some ((rngX (nf f) p.toNat).Hi, pf) ∧ HighPf (nf f) p.toNat (rngX (nf f) p.toNat).Hi pf := by
 obtain ⟨h1, h2, h3, h4, h5, h6⟩ := askCode_ok h
 have hpp : ((p.toNat : Nat) : Int) = p := by omega
 obtain ⟨n, pf, a, b, c⟩ := heat_highest_eq (nf_ok h2) h5 (q := p.toNat) (by show p.toNat < f.Kiln.P; omega)
 rw [hpp] at a
 have : n = (rngX (nf f) p.toNat).Hi := eq_of_le_iff fun t => by rw [b t, (rng_isBound f p h).2 t]
 subst this
 exact ⟨pf, a, c⟩
theorem highFold (f : Firing) (q : Nat) (l : List Int) : ∀ n,
  ((∀ j, j < n → ∃ u, uAt f j (l.getD j 0) = some u) → ∃ s, (List.range n).foldlM (highStep f q l) none = some s ∧ (n = 0 → s = none) ∧ (0 < n → ∃ m, s = some m ∧ ∀ t, t ≤ m ↔ ∃ j u, j < n ∧ uAt f j (l.getD j 0) = some u ∧ t ≤ u - (f.Kiln.at j q).Lo)) ∧
  (∀ s, (List.range n).foldlM (highStep f q l) none = some s → ∀ j, j < n → ∃ u, uAt f j (l.getD j 0) = some u)
 | 0 => ⟨fun _ => ⟨none, rfl, fun _ => rfl, fun h => by omega⟩, fun s _ j hj => by omega⟩
 | n + 1 => by
  obtain ⟨ih1, ih2⟩ := highFold f q l n
  rw [List.range_succ, List.foldlM_append]
  constructor
  ·intro h
   obtain ⟨s, e1, e2, e3⟩ := ih1 fun j hj => h j (by omega)
   obtain ⟨u, hu⟩ := h n (by omega)
   have hst : highStep f q l s n = some (some (maxO s (u - (f.Kiln.at n q).Lo))) := by unfold highStep; rw [hu]; rfl
   have e : ((some s).bind fun s => (List.foldlM (highStep f q l) s [n])) = highStep f q l s n := by simp
   refine ⟨some (maxO s (u - (f.Kiln.at n q).Lo)), by rw [e1, ← hst, ← e]; rfl, fun k => by omega, fun _ => ⟨_, rfl, fun t => ?_⟩⟩
   by_cases hn : n = 0
   ·subst hn
    rw [e2 rfl]
    constructor
    ·intro k; exact ⟨0, u, by omega, hu, k⟩
    ·rintro ⟨j, v, hj, hv, k⟩
     obtain rfl : j = 0 := by omega
     rw [hu] at hv; cases hv; exact k
   ·obtain ⟨m, e4, e5⟩ := e3 (by omega)
    rw [e4]
    show t ≤ max m _ ↔ _
    rw [show ∀ a b : Int, t ≤ max a b ↔ t ≤ a ∨ t ≤ b by intro a b; omega, e5]
    constructor
    ·rintro (⟨j, v, k1, k2⟩ | k)
     ·exact ⟨j, v, by omega, k2⟩
     ·exact ⟨n, u, by omega, hu, k⟩
    ·rintro ⟨j, v, k1, k2, k3⟩
     by_cases hj : j = n
     ·subst hj; rw [hu] at k2; cases k2; exact .inr k3
     ·exact .inl ⟨j, v, by omega, k2, k3⟩
  ·intro s hs j hj
   cases hF : (List.range n).foldlM (highStep f q l) none with
   | none => rw [hF] at hs; cases hs
   | some s0 =>
    rw [hF] at hs
    by_cases hjn : j = n
    ·subst hjn
     cases hu : uAt f j (l.getD j 0) with
     | none =>
      have hst : highStep f q l s0 j = none := by unfold highStep; rw [hu]; rfl
      have e : ((some s0).bind fun s => (List.foldlM (highStep f q l) s [j])) = highStep f q l s0 j := by simp
      have hs' : ((some s0).bind fun s => (List.foldlM (highStep f q l) s [j])) = some s := hs
      rw [e, hst] at hs'; cases hs'
     | some u => exact ⟨u, rfl⟩
    ·exact ih2 s0 hF j (by omega)
theorem hiAt_of {f : Firing} (h : f.ok) {y : heat_limit} (hy : y ∈ (nf f).most) : hiAt f y.by_ = some y ∧ 0 ≤ y.by_ := by
 obtain ⟨i, hi, e⟩ := List.mem_filterMap.1 hy
 simp only [List.mem_range] at hi
 have h1 := (limOf_by e).1
 unfold hiAt
 rw [h1, if_pos (by omega), Int.toNat_natCast]
 exact ⟨e, by omega⟩
theorem loAt_of {f : Firing} (h : f.ok) {y : heat_limit} (hy : y ∈ (nf f).least) : loAt f y.by_ = some y ∧ 0 ≤ y.by_ := by
 obtain ⟨i, hi, e⟩ := List.mem_filterMap.1 hy
 simp only [List.mem_range] at hi
 have h1 := (limOf_by e).1
 unfold loAt
 rw [h1, if_pos (by omega), Int.toNat_natCast]
 exact ⟨e, by omega⟩
theorem uAt_hot {f : Firing} (h : f.ok) (j : Nat) : uAt f j (hot (nf f) j).2 = some ((nf f).fur.U j) := by
 rw [← hot_U]
 rcases hot_by (nf f) j with ⟨h1, h2⟩ | ⟨y, hy, h1, h2⟩
 ·unfold uAt; rw [h2, if_pos rfl, h1]
 ·obtain ⟨a, b⟩ := hiAt_of h hy
  unfold uAt
  rw [h1, if_neg (by omega), a, h2]
  rfl
theorem uAt_ge {f : Firing} (h : f.ok) {j : Nat} {b u : Int} (hu : uAt f j b = some u) : (nf f).fur.U j ≤ u := by
 unfold uAt at hu
 split at hu
 ·simp only [Option.some.injEq] at hu; subst hu; exact (nf f).fur.U_le j
 ·cases hy : hiAt f b with
  | none => rw [hy] at hu; cases hu
  | some y =>
   rw [hy] at hu
   simp only [Option.map_some, Option.some.injEq] at hu
   subst hu
   exact (nf f).fur.U_lim j (List.mem_map.2 ⟨y, (hiAt_ok h hy).2.1, rfl⟩)
theorem showHigh_of {f : Firing} (h : f.ok) {q : Nat} (hq : q < f.Kiln.P) {n : Int} {p : HeatProof} (hp : HighPf (nf f) q n p) : showHigh f q p = some n := by
 have hk := kilnB_len h.k
 rcases hp with ⟨y, hy, h1, h2, h3⟩ | ⟨h2, h3⟩
 ·obtain ⟨a, b⟩ := hiAt_of h hy
  subst h2
  unfold showHigh
  simp only
  rw [if_neg (by omega), a]
  simp [h1, h3]
 ·subst h2
  have hlen : ((List.range (nf f).Firing.Kiln.Falls.length).map fun j => (hot (nf f) j).2).length = f.Kiln.Falls.length := by simp; rfl
  unfold showHigh
  simp only [if_true, hlen]
  have hget : ∀ j, j < f.Kiln.Falls.length → ((List.range (nf f).Firing.Kiln.Falls.length).map fun j => (hot (nf f) j).2).getD j 0 = (hot (nf f) j).2 := by
   intro j hj
   have hj' : j < (nf f).Firing.Kiln.Falls.length := hj
   exact getD_of 0 (by rw [List.getElem?_map, List.getElem?_range hj']; rfl)
  obtain ⟨s, e1, _, e3⟩ := (highFold f q _ f.Kiln.Falls.length).1 fun j hj => ⟨_, by rw [hget j hj]; exact uAt_hot h j⟩
  obtain ⟨m, e4, e5⟩ := e3 (by omega)
  rw [e1, e4]
  simp only [Option.map_some, Option.getD_some, Option.some.injEq]
  refine eq_of_le_iff fun t => ?_
  rw [e5 t, h3 t]
  constructor
  ·rintro ⟨j, u, k1, k2, k3⟩
   rw [hget j k1, uAt_hot h j] at k2
   cases k2
   exact ⟨j, k1, by show t + (f.Kiln.at j q).Lo ≤ _; omega⟩
  ·rintro ⟨j, k1, k2⟩
   have k2' : t + (f.Kiln.at j q).Lo ≤ (nf f).fur.U j := k2
   exact ⟨j, _, k1, by rw [hget j k1]; exact uAt_hot h j, by omega⟩
theorem showHigh_sound {f : Firing} (h : f.ok) {q : Nat} {p : HeatProof} {m : Int} (hp : showHigh f q p = some m) {t : Int} (ht : (nf f).fur.High q t) : t ≤ m := by
 have hk := kilnB_len h.k
 obtain ⟨⟨j, h1, h2⟩, h3⟩ := ht
 have hm : (nf f).fur.m = f.Kiln.Falls.length - 1 := rfl
 unfold showHigh at hp
 split at hp
 ·split at hp
  ·cases hF : (List.range f.Kiln.Falls.length).foldlM (highStep f q p.By) none with
   | none => rw [hF] at hp; cases hp
   | some s =>
    have a := (highFold f q p.By f.Kiln.Falls.length).2 s hF
    obtain ⟨s', e1, _, e3⟩ := (highFold f q p.By f.Kiln.Falls.length).1 a
    rw [hF] at e1 hp
    cases e1
    obtain ⟨n, e4, e5⟩ := e3 (by omega)
    subst e4
    simp only [Option.map_some, Option.getD_some, Option.some.injEq] at hp
    subst hp
    rw [e5]
    obtain ⟨u, hu⟩ := a j (by omega)
    have := uAt_ge h hu
    have h2' : t + (f.Kiln.at j q).Lo ≤ (nf f).fur.U j := h2
    exact ⟨j, u, by omega, hu, by omega⟩
  ·cases hp
 ·cases hy : hiAt f p.Reading with
  | none => rw [hy] at hp; cases hp
  | some y =>
   rw [hy] at hp
   simp only at hp
   split at hp
   ·rename_i hc
    simp only [Option.some.injEq] at hp
    subst hp
    exact h3 (lp y) (List.mem_map.2 ⟨y, (hiAt_ok h hy).2.1, rfl⟩) (by show y.place.toNat = q; omega)
   ·cases hp
def lowOk (f : Firing) (y : heat_limit) (l : List Int) (j : Nat) : Prop :=
 l.getD j 0 = -1 ∨ (l.getD j 0 = -2 ∧ 3000 < y.heat + (f.Kiln.at j y.place.toNat).Lo) ∨ (l.getD j 0 ≠ -1 ∧ l.getD j 0 ≠ -2 ∧ ∃ z, hiAt f (l.getD j 0) = some z ∧ z.heat + (f.Kiln.at j z.place.toNat).Hi < y.heat + (f.Kiln.at j y.place.toNat).Lo)
theorem lowStep_some {f : Firing} {q : Nat} {y : heat_limit} {l : List Int} {s s' : Option Int} {j : Nat} : lowStep f q y l s j = some s' ↔ lowOk f y l j ∧ s' = if l.getD j 0 = -1 then some (minO s (y.heat + (f.Kiln.at j y.place.toNat).Lo - (f.Kiln.at j q).Hi)) else s := by
 unfold lowStep lowOk
 by_cases h1 : l.getD j 0 = -1
 ·simp only [h1, if_true, true_or, true_and, Option.some.injEq]; exact eq_comm
 ·by_cases h2 : l.getD j 0 = -2
  ·simp only [h2, show ¬ ((-2 : Int) = -1) by omega, if_false, if_true, false_or, true_and, ne_eq, not_true_eq_false, false_and, and_false, or_false]
   by_cases h3 : y.heat + (f.Kiln.at j y.place.toNat).Lo ≤ 3000
   ·rw [if_pos h3]
    constructor
    ·intro k; cases k
    ·rintro ⟨k, _⟩; omega
   ·rw [if_neg h3, Option.some.injEq]
    constructor
    ·intro k; exact ⟨by omega, k.symm⟩
    ·rintro ⟨_, k⟩; exact k.symm
  ·simp only [h1, h2, if_false, false_or, false_and, ne_eq, not_false_eq_true, true_and]
   cases hy : hiAt f (l.getD j 0) with
   | none => simp
   | some z =>
    simp only [Option.some.injEq]
    by_cases h3 : y.heat + (f.Kiln.at j y.place.toNat).Lo ≤ z.heat + (f.Kiln.at j z.place.toNat).Hi
    ·rw [if_pos h3]
     constructor
     ·intro k; cases k
     ·rintro ⟨⟨w, k1, k2⟩, _⟩; subst k1; omega
    ·rw [if_neg h3, Option.some.injEq]
     constructor
     ·intro k; exact ⟨⟨z, rfl, by omega⟩, k.symm⟩
     ·rintro ⟨_, k⟩; exact k.symm
theorem lowFold (f : Firing) (q : Nat) (y : heat_limit) (l : List Int) : ∀ n s, (List.range n).foldlM (lowStep f q y l) none = some s ↔
  (∀ j, j < n → lowOk f y l j) ∧ (match s with | none => ∀ j, j < n → l.getD j 0 ≠ -1 | some m => ∀ t, m ≤ t ↔ ∃ j, j < n ∧ l.getD j 0 = -1 ∧ y.heat + (f.Kiln.at j y.place.toNat).Lo - (f.Kiln.at j q).Hi ≤ t)
 | 0, s => by
  constructor
  ·intro h
   have : none = s := Option.some.inj h
   subst this
   exact ⟨fun j hj => by omega, fun j hj => by omega⟩
  ·rintro ⟨_, h⟩
   cases s with
   | none => rfl
   | some m =>
    have := (h m).1 (Int.le_refl _)
    obtain ⟨j, hj, _⟩ := this
    omega
 | n + 1, s => by
  have ih := lowFold f q y l n
  rw [List.range_succ, List.foldlM_append]
  cases hF : (List.range n).foldlM (lowStep f q y l) none with
  | none =>
   constructor
   ·intro h; cases h
   ·rintro ⟨h, _⟩
    exfalso
    have key : ∀ n, (∀ j, j < n → lowOk f y l j) → ∃ s, (List.range n).foldlM (lowStep f q y l) none = some s := by
     intro n
     induction n with
     | zero => intro _; exact ⟨none, rfl⟩
     | succ n ih2 =>
      intro h
      obtain ⟨s, e⟩ := ih2 fun j hj => h j (by omega)
      rw [List.range_succ, List.foldlM_append, e]
      exact ⟨_, by simpa using lowStep_some.2 ⟨h n (by omega), rfl⟩⟩
    obtain ⟨s, e⟩ := key n fun j hj => h j (by omega)
    rw [hF] at e; cases e
  | some s0 =>
   obtain ⟨a1, a2⟩ := (ih s0).1 hF
   have e : ((some s0).bind fun s => (List.foldlM (lowStep f q y l) s [n])) = lowStep f q y l s0 n := by simp
   show ((some s0).bind fun s => (List.foldlM (lowStep f q y l) s [n])) = some s ↔ _
   rw [e, lowStep_some]
   have hall : (∀ j, j < n + 1 → lowOk f y l j) ↔ lowOk f y l n := ⟨fun h => h n (by omega), fun h j hj => by
    by_cases hjn : j = n
    ·subst hjn; exact h
    ·exact a1 j (by omega)⟩
   rw [hall]
   refine and_congr_right fun hok => ?_
   by_cases hb : l.getD n 0 = -1
   ·rw [if_pos hb]
    have hM : ∀ t, minO s0 (y.heat + (f.Kiln.at n y.place.toNat).Lo - (f.Kiln.at n q).Hi) ≤ t ↔ ∃ j, j < n + 1 ∧ l.getD j 0 = -1 ∧ y.heat + (f.Kiln.at j y.place.toNat).Lo - (f.Kiln.at j q).Hi ≤ t := by
     intro t
     cases s0 with
     | none =>
      constructor
      ·intro k; exact ⟨n, by omega, hb, k⟩
      ·rintro ⟨j, k1, k2, k3⟩
       by_cases hjn : j = n
       ·subst hjn; exact k3
       ·exact absurd k2 (a2 j (by omega))
     | some m =>
      show min m _ ≤ t ↔ _
      rw [show ∀ a b : Int, min a b ≤ t ↔ a ≤ t ∨ b ≤ t by intro a b; omega, a2 t]
      constructor
      ·rintro (⟨j, k1, k2⟩ | k)
       ·exact ⟨j, by omega, k2⟩
       ·exact ⟨n, by omega, hb, k⟩
      ·rintro ⟨j, k1, k2, k3⟩
       by_cases hjn : j = n
       ·subst hjn; exact .inr k3
       ·exact .inl ⟨j, by omega, k2, k3⟩
    constructor
    ·intro k; subst k; exact hM
    ·intro k
     cases s with
     | none => exact absurd hb (k n (by omega))
     | some m => rw [Option.some.injEq]; exact eq_of_ge_iff fun t => by rw [k t, hM t]
   ·rw [if_neg hb]
    constructor
    ·intro k
     subst k
     cases s with
     | none =>
      intro j hj
      by_cases hjn : j = n
      ·subst hjn; exact hb
      ·exact a2 j (by omega)
     | some m =>
      intro t
      rw [a2 t]
      constructor
      ·rintro ⟨j, k1, k2⟩; exact ⟨j, by omega, k2⟩
      ·rintro ⟨j, k1, k2⟩
       by_cases hjn : j = n
       ·subst hjn; exact absurd k2.1 hb
       ·exact ⟨j, by omega, k2⟩
    ·intro k
     cases s with
     | none =>
      cases s0 with
      | none => rfl
      | some m =>
       obtain ⟨j, k1, k2, _⟩ := (a2 m).1 (Int.le_refl _)
       exact absurd k2 (k j (by omega))
     | some m =>
      cases s0 with
      | none =>
       obtain ⟨j, k1, k2, _⟩ := (k m).1 (Int.le_refl _)
       by_cases hjn : j = n
       ·subst hjn; exact absurd k2 hb
       ·exact absurd k2 (a2 j (by omega))
      | some m0 =>
       rw [Option.some.injEq]
       refine eq_of_ge_iff fun t => ?_
       rw [k t, a2 t]
       constructor
       ·rintro ⟨j, k1, k2⟩
        by_cases hjn : j = n
        ·subst hjn; exact absurd k2.1 hb
        ·exact ⟨j, by omega, k2⟩
       ·rintro ⟨j, k1, k2⟩; exact ⟨j, by omega, k2⟩
theorem showLow_of {f : Firing} (h : f.ok) {q : Nat} (hq : q < f.Kiln.P) {n : Int} {p : HeatProof} (hp : LowPf (nf f) q n p) : showLow f q p = some (some n) := by
 have hk := kilnB_len h.k
 rcases hp with ⟨j, h1, h2, h3⟩ | ⟨y, hy, h1, h2, h3⟩ | ⟨y, hy, h1, h2, h3⟩
 ·subst h2
  have h1' : j < f.Kiln.Falls.length := h1
  unfold showLow
  simp only [if_true, List.length_singleton, List.getD_cons_zero, Int.toNat_natCast]
  rw [if_pos ⟨trivial, by omega, by omega⟩, h3]
  rfl
 ·obtain ⟨a, b⟩ := loAt_of h hy
  subst h2
  unfold showLow
  simp only
  rw [if_neg (by omega), a]
  simp [h1, h3]
 ·obtain ⟨a, b⟩ := loAt_of h hy
  subst h2
  have hlen : (cannotL (nf f) y).length = f.Kiln.Falls.length := by unfold cannotL; simp; rfl
  unfold showLow
  simp only [hlen]
  rw [if_neg (by omega), a]
  simp only [h1, if_false, if_true]
  have hget : ∀ j, j < f.Kiln.Falls.length → (cannotL (nf f) y).getD j 0 = bif decide (y.heat + (nf f).fur.lo j y.place.toNat ≤ (nf f).fur.U j) then -1 else bif decide (3000 < y.heat + (nf f).fur.lo j y.place.toNat) then -2 else (hot (nf f) j).2 := by
   intro j hj
   have hj' : j < (nf f).Firing.Kiln.Falls.length := hj
   exact getD_of 0 (by unfold cannotL; rw [List.getElem?_map, List.getElem?_range hj']; rfl)
  have hlo : ∀ j, (nf f).fur.lo j y.place.toNat = (f.Kiln.at j y.place.toNat).Lo := fun _ => rfl
  have hget3 : ∀ j, ¬ y.heat + (nf f).fur.lo j y.place.toNat ≤ (nf f).fur.U j → ¬ 3000 < y.heat + (nf f).fur.lo j y.place.toNat → ∃ z, hiAt f (hot (nf f) j).2 = some z ∧ 0 ≤ (hot (nf f) j).2 ∧ (nf f).fur.U j = z.heat + (f.Kiln.at j z.place.toNat).Hi := by
   intro j c1 c2
   rcases hot_by (nf f) j with ⟨g1, g2⟩ | ⟨z, hz, g1, g2⟩
   ·rw [hot_U] at g1; omega
   ·obtain ⟨a', b'⟩ := hiAt_of h hz
    refine ⟨z, by rw [g1]; exact a', by omega, by rw [← hot_U]; exact g2⟩
  have hm1 : ∀ j, j < f.Kiln.Falls.length → ((cannotL (nf f) y).getD j 0 = -1 ↔ y.heat + (nf f).fur.lo j y.place.toNat ≤ (nf f).fur.U j) := by
   intro j hj
   rw [hget j hj]
   by_cases c1 : y.heat + (nf f).fur.lo j y.place.toNat ≤ (nf f).fur.U j
   ·simp [c1]
   ·by_cases c2 : 3000 < y.heat + (nf f).fur.lo j y.place.toNat
    ·simp [c1, c2]
    ·obtain ⟨z, _, k, _⟩ := hget3 j c1 c2
     simp only [c1, c2, decide_false, cond_false, iff_false]
     omega
  rw [lowFold]
  refine ⟨fun j hj => ?_, fun t => ?_⟩
  ·unfold lowOk
   rw [hget j hj]
   by_cases c1 : y.heat + (nf f).fur.lo j y.place.toNat ≤ (nf f).fur.U j
   ·left; simp [c1]
   ·by_cases c2 : 3000 < y.heat + (nf f).fur.lo j y.place.toNat
    ·right; left
     simp only [c1, c2, decide_false, decide_true, cond_false, cond_true, true_and]
     exact c2
    ·right; right
     obtain ⟨z, k1, k2, k3⟩ := hget3 j c1 c2
     simp only [c1, c2, decide_false, cond_false]
     refine ⟨by omega, by omega, z, k1, ?_⟩
     rw [← k3]
     rw [hlo] at c1
     omega
  ·rw [h3.2 t]
   constructor
   ·rintro ⟨j, k1, k2, k3⟩
    exact ⟨j, k1, (hm1 j k1).2 k2, k3⟩
   ·rintro ⟨j, k1, k2, k3⟩
    exact ⟨j, k1, (hm1 j k1).1 k2, k3⟩
theorem showLow_sound {f : Firing} (h : f.ok) (hs : (nf f).fur.Sound) {q : Nat} {p : HeatProof} {s : Option Int} (hp : showLow f q p = some s) {t : Int} (ht : (nf f).fur.Low q t) : ∃ m, s = some m ∧ m ≤ t := by
 have hk := kilnB_len h.k
 have hm : (nf f).fur.m = f.Kiln.Falls.length - 1 := rfl
 obtain ⟨h1, h2, h3⟩ := ht
 unfold showLow at hp
 split at hp
 ·split at hp
  ·rename_i hc
   simp only [Option.some.injEq] at hp
   subst hp
   exact ⟨_, rfl, h1 (p.By.getD 0 0).toNat (by omega)⟩
  ·cases hp
 ·cases hy : loAt f p.Reading with
  | none => rw [hy] at hp; cases hp
  | some y =>
   rw [hy] at hp
   simp only at hp
   have hyo := loAt_ok h hy
   have hmem : lp y ∈ (nf f).fur.L := List.mem_map.2 ⟨y, hyo.2.1, rfl⟩
   split at hp
   ·rename_i hc
    split at hp
    ·simp only [Option.some.injEq] at hp
     subst hp
     exact ⟨_, rfl, h2 (lp y) hmem (by show y.place.toNat = q; omega)⟩
    ·cases hp
   ·rename_i hc
    split at hp
    ·obtain ⟨k1, k2⟩ := (lowFold f q y p.By _ s).1 hp
     obtain ⟨j, j1, j2, j3⟩ := h3 (lp y) hmem (by intro e; apply hc; have e' : y.place.toNat = q := e; have := hyo.1.1; omega)
     have j2' : y.heat + (f.Kiln.at j y.place.toNat).Lo ≤ (nf f).fur.U j := j2
     have j3' : y.heat + (f.Kiln.at j y.place.toNat).Lo - (f.Kiln.at j q).Hi ≤ t := j3
     have hj1 : p.By.getD j 0 = -1 := by
      rcases k1 j (by omega) with g | ⟨_, g⟩ | ⟨_, _, z, g1, g2⟩
      ·exact g
      ·have := (nf f).fur.U_le j; omega
      ·have := (nf f).fur.U_lim j (List.mem_map.2 ⟨z, (hiAt_ok h g1).2.1, rfl⟩ : lp z ∈ (nf f).fur.M)
       have this' : (nf f).fur.U j ≤ z.heat + (f.Kiln.at j z.place.toNat).Hi := this
       omega
     cases s with
     | none => exact absurd hj1 (k2 j (by omega))
     | some m => exact ⟨m, rfl, (k2 t).2 ⟨j, by omega, hj1, j3'⟩⟩
    ·cases hp
theorem heat_Prove_eq (f : Firing) (q : Firing.s f) (w : Firing.w f) (p : Int) (high : Bool) : ∃ pf, heat_Prove KK f p high = some (pf, askCode f p) ∧ (askCode f p ≠ 0 → pf = ⟨0, []⟩) ∧ (askCode f p = 0 → proofCode f p high (bif high then (rngX (nf f) p.toNat).Hi else (rngX (nf f) p.toNat).Lo) pf = 0) := by
 unfold heat_Prove
 rw [heat_asks_eq f q w]
 simp only [Option.bind_some]
 by_cases h : askCode f p = 0
 ·obtain ⟨h1, h2, h3, h4, h5, h6⟩ := askCode_ok h
  have hi : inB p 0 ((f.Kiln.P : Int) - 1) = true := by simp [inB]; omega
  simp only [h, decide_true, cond_true, Bool.not_true, cond_false]
  cases high with
  | true =>
   obtain ⟨pf, e1, e2⟩ := heat_highest_rng h
   simp only [cond_true, e1, Option.bind_some]
   refine ⟨pf, rfl, fun k => absurd rfl k, fun _ => ?_⟩
   unfold proofCode
   simp only [h1, hi, decide_true, Bool.not_true, cond_false, cond_true, showHigh_of h2 (q := p.toNat) (by omega) e2, Int.lt_irrefl, if_false]
  | false =>
   obtain ⟨pf, e1, e2⟩ := heat_lowest_rng h
   simp only [cond_false, e1, Option.bind_some]
   refine ⟨pf, rfl, fun k => absurd rfl k, fun _ => ?_⟩
   unfold proofCode
   simp only [h1, hi, decide_true, Bool.not_true, cond_false, showLow_of h2 (q := p.toNat) (by omega) e2, Int.lt_irrefl, if_false]
 ·simp only [h, decide_false, cond_false, Bool.not_false, cond_true]
  exact ⟨_, rfl, fun _ => rfl, fun k => absurd k id⟩
theorem Fur.sub_sound {f g : Fur} (hm : g.m = f.m) (hlo : g.lo = f.lo) (hhi : g.hi = f.hi) (hL : ∀ x ∈ g.L, x ∈ f.L) (hM : ∀ x ∈ g.M, x ∈ f.M) (hs : f.Sound) : g.Sound ∧ ∀ j, f.U j ≤ g.U j := by
 have hU : ∀ j, f.U j ≤ g.U j := by
  intro j
  rw [Fur.U_iff]
  refine ⟨f.U_le j, fun x hx => ?_⟩
  rw [hhi]
  exact f.U_lim j (hM x hx)
 refine ⟨⟨fun j hj => ?_, fun x hx => ⟨fun y hy e => (hs.2 x (hL x hx)).1 y (hM y hy) e, ?_⟩⟩, hU⟩
 ·have := hs.1 j (by omega)
  have := hU j
  omega
 ·obtain ⟨j, h1, h2⟩ := (hs.2 x (hL x hx)).2
  have := hU j
  exact ⟨j, by omega, by rw [hlo]; omega⟩
theorem sub_sound {f g : Firing} (hk : g.Kiln = f.Kiln) (hr : ∀ r ∈ g.Readings, r ∈ f.Readings) (hs : (nf f).fur.Sound) : (nf g).fur.Sound := by
 refine (Fur.sub_sound (f := (nf f).fur) (g := (nf g).fur) ?_ ?_ ?_ ?_ ?_ hs).1
 ·show g.Kiln.Falls.length - 1 = f.Kiln.Falls.length - 1; rw [hk]
 ·show (fun j p => (g.Kiln.at j p).Lo) = fun j p => (f.Kiln.at j p).Lo; rw [hk]
 ·show (fun j p => (g.Kiln.at j p).Hi) = fun j p => (f.Kiln.at j p).Hi; rw [hk]
 ·intro z hz
  obtain ⟨r, h1, h2⟩ := limsOf_lp.1 hz
  exact limsOf_lp.2 ⟨r, hr r h1, h2⟩
 ·intro z hz
  obtain ⟨r, h1, h2⟩ := limsOf_lp.1 hz
  exact limsOf_lp.2 ⟨r, hr r h1, h2⟩
def woF (f : Firing) (s : Int) : Firing := ⟨f.Kiln, f.Readings.filter fun r => !decide (r.Source = s)⟩
theorem woF_sound {f : Firing} (hs : (nf f).fur.Sound) (s : Int) : (nf (woF f s)).fur.Sound := sub_sound (f := f) (g := woF f s) rfl (fun r hr => (List.mem_filter.1 hr).1) hs
end Go.Abs
namespace Go.Abs
open Go
set_option linter.unusedVariables false
def rest (f : Firing) : List Int → Option (List Reading)
 | [] => some []
 | n :: l => if n < 0 then rest f l else if n < f.Readings.length then (rest f l).map ((f.Readings.getD n.toNat rd0) :: ·) else none
def restStep (f : Firing) (s : List Reading) (n : Int) : Option (List Reading) := if n < 0 then some s else if n < f.Readings.length then some (s ++ [f.Readings.getD n.toNat rd0]) else none
theorem rest_fold (f : Firing) : ∀ (l : List Int) (s : List Reading), l.foldlM (restStep f) s = (rest f l).map (s ++ ·)
 | [], s => by simp [rest]
 | n :: l, s => by
  rw [List.foldlM_cons]
  unfold rest restStep
  by_cases h1 : n < 0
  ·simp only [h1, if_true]; exact rest_fold f l s
  ·by_cases h2 : n < f.Readings.length
   ·simp only [h1, h2, if_true, if_false]
    have := rest_fold f l (s ++ [f.Readings.getD n.toNat rd0])
    show List.foldlM (restStep f) (s ++ [f.Readings.getD n.toNat rd0]) l = _
    rw [this]
    cases rest f l <;> simp
   ·simp only [h1, h2, if_false]; rfl
theorem rest_len (f : Firing) : ∀ (l : List Int) (r : List Reading), rest f l = some r → r.length ≤ l.length
 | [], r, h => by cases h; simp
 | n :: l, r, h => by
  unfold rest at h
  split at h
  ·have := rest_len f l r h; simp only [List.length_cons]; omega
  ·split at h
   ·cases hr : rest f l with
    | none => rw [hr] at h; cases h
    | some r' =>
     rw [hr] at h
     simp only [Option.map_some, Option.some.injEq] at h
     subst h
     have := rest_len f l r' hr
     simp only [List.length_cons]; omega
   ·cases h
def restsR (f : Firing) (p : HeatProof) : List Int × Int :=
 bif !decide (firingCode f = 0) then ([], 42) else bif decide (p.Reading < -2) then ([], 46) else bif decide (p.Reading = -2) then ([], 0) else
  match rest f (p.Reading :: p.By) with | some r => (usort (r.map (·.Source)), 0) | none => ([], 46)
theorem heat_Rests_eq (f : Firing) (q : Firing.s f) (p : HeatProof) (hl : p.By.length ≤ 1073741824) : heat_Rests KK f p = some (restsR f p) := by
 unfold heat_Rests restsR
 rw [heat_Check_eq f q]
 simp only [Option.bind_some]
 by_cases h : firingCode f = 0
 ·have hok := firing_ok h
  have hfl := hok.l
  simp only [h, decide_true, Bool.not_true, cond_false]
  by_cases h1 : p.Reading < -2
  ·simp only [h1, decide_true, cond_true]
  ·by_cases h2 : p.Reading = -2
   ·simp only [h1, h2, decide_true, decide_false, cond_true, cond_false]; simp
   ·simp only [h1, h2, decide_false, cond_false]
    have ha : app? 8 [p.Reading] p.By = some (p.Reading :: p.By) := by
     unfold app?
     rw [if_pos (by simp [room]; omega)]; rfl
    rw [ha]
    simp only [Option.bind_some]
    have hlen : (p.Reading :: p.By).length = 1 + p.By.length := by simp; omega
    obtain ⟨e1, e2⟩ := whl_foldML (l := p.Reading :: p.By) (body := heat_Rests.b0 KK f p (p.Reading :: p.By)) (k := KK) (fun i s => (i, s)) id (restStep f) (([], 46) : List Int × Int) (fun i s => s.length ≤ i) (by rw [hlen]; omega) (by rw [hlen]; unfold KK; omega) (s0 := []) (by simp) (fun i n s hn hI => by
     have hi : i < (p.Reading :: p.By).length := (List.getElem?_eq_some_iff.1 hn).1
     rw [hlen] at hi
     refine ⟨?_, fun s' hs => ?_⟩
     ·unfold heat_Rests.b0 restStep
      simp only [show decide ((i : Int) < ((1 + p.By.length : Nat) : Int)) = true by simp; omega, cond_true, at_of hn, Option.bind_some, heat_in_eq]
      rw [w64_of (n := (f.Readings.length : Int) - 1) (by omega) (by omega)]
      by_cases c1 : n < 0
      ·simp only [c1, decide_true, cond_true, if_true]
      ·by_cases c2 : n < f.Readings.length
       ·have hin : inB n 0 ((f.Readings.length : Int) - 1) = true := by simp only [inB, Bool.and_eq_true, decide_eq_true_eq]; omega
        simp only [c1, c2, decide_false, cond_false, if_true, if_false, hin, Bool.not_true]
        rw [at_getD rd0 (by omega) c2]
        simp only [Option.bind_some]
        rw [push_of (by omega) (by omega)]
        rfl
       ·have hin : inB n 0 ((f.Readings.length : Int) - 1) = false := by simp only [inB, Bool.and_eq_false_iff, decide_eq_false_iff_not]; omega
        simp only [c1, c2, decide_false, cond_false, if_false, hin, Bool.not_false, cond_true]
     ·unfold restStep at hs
      split at hs
      ·cases hs; omega
      ·split at hs
       ·cases hs; simp; omega
       ·cases hs) (fun s _ => by
     unfold heat_Rests.b0
     simp only [hlen, lt_dec_self]; rfl)
    rw [e1, rest_fold]
    cases hr : rest f (p.Reading :: p.By) with
    | none => rfl
    | some r =>
     have := rest_len f _ r hr
     simp only [List.length_cons] at this
     simp only [Option.map_some, Option.bind_some, List.nil_append, id]
     rw [heat_sources_eq r (by omega)]
     rfl
 ·simp only [h, decide_false, Bool.not_false, cond_true]
theorem restsR_len (f : Firing) (p : HeatProof) : (restsR f p).1.length ≤ p.By.length + 1 := by
 unfold restsR
 cases !decide (firingCode f = 0) with
 | true => simp
 | false =>
  cases decide (p.Reading < -2) with
  | true => simp
  | false =>
   cases decide (p.Reading = -2) with
   | true => simp
   | false =>
    simp only [cond_false]
    cases hr : rest f (p.Reading :: p.By) with
    | none => simp
    | some r =>
     have h1 := rest_len f _ r hr
     have h2 := usort_len (r.map (·.Source))
     simp only [List.length_map, List.length_cons] at h1 h2
     simp only
     omega
end Go.Abs
namespace Go.Abs
open Go
set_option linter.unusedVariables false
theorem whl_inv {S E R τ : Type} {n : Nat} {body : τ → Option (Stp τ E R)} (mk : Int → S → τ) (g : S → E) (Inv : Nat → S → Prop) (hn : n ≤ 9223372036854775807) {k : Nat} (hk : n < k) {s0 : S} (h0 : Inv 0 s0)
  (h1 : ∀ i s, i < n → Inv i s → ∃ s', body (mk (i : Int) s) = some (.next (mk (w64 ((i : Int) + 1)) s')) ∧ Inv (i + 1) s') (h2 : ∀ s, Inv n s → body (mk (n : Int) s) = some (.brk (g s))) :
  ∃ s, whl body k (mk 0 s0) = some (.brk (g s)) ∧ Inv n s := by
 have key : ∀ (d i k : Nat) (s : S), i + d = n → d < k → Inv i s → ∃ s1, whl body k (mk (i : Int) s) = some (.brk (g s1)) ∧ Inv n s1 := by
  intro d
  induction d with
  | zero =>
   intro i k s hi hk hI
   cases k with
   | zero => omega
   | succ k =>
    have : i = n := by omega
    subst this
    exact ⟨s, by rw [whl, h2 s hI], hI⟩
  | succ d ih =>
   intro i k s hi hk hI
   cases k with
   | zero => omega
   | succ k =>
    obtain ⟨s', g1, g2⟩ := h1 i s (by omega) hI
    have : w64 ((i : Int) + 1) = ((i + 1 : Nat) : Int) := by rw [w64_of (by omega) (by omega)]; omega
    rw [this] at g1
    obtain ⟨s'', g3, g4⟩ := ih (i + 1) k s' (by omega) (by omega) g2
    exact ⟨s'', by rw [whl, g1]; exact g3, g4⟩
 exact key n 0 k s0 (by omega) hk h0
theorem tmod_bd (a : Int) {m : Int} (h : 0 < m) : -m < Int.tmod a m ∧ Int.tmod a m < m := by
 have h1 := Int.tmod_lt_of_pos a h
 have h2 := Int.lt_tmod_of_pos a h
 exact ⟨h2, h1⟩
theorem R01_Mod_eq (n : Int) {m : Int} (h : 0 < m) (hm : m ≤ 4611686018427387904) : ∃ v, R01_Mod KK n m = some v ∧ 0 ≤ v ∧ v < m := by
 unfold R01_Mod nz?
 rw [if_neg (by omega)]
 simp only [Option.bind_some]
 have h1 := tmod_bd n h
 rw [w64_of (by omega) (by omega)]
 have h2 := tmod_bd (Int.tmod n m + m) h
 refine ⟨_, rfl, Int.tmod_nonneg _ (by omega), h2.2⟩
theorem R01_At_eq (l : List Int) (hl : l.length ≤ Go.maxLen) (i : Int) (hs : l.length * 8 ≤ 140737488355328) : ∃ v, R01_At KK l i = some v := by
 unfold R01_At
 by_cases h : (l.length : Int) = 0
 ·simp [h]
 ·simp only [h, decide_false, cond_false]
  obtain ⟨v, e, h1, h2⟩ := R01_Mod_eq i (m := (l.length : Int)) (by omega) (by omega)
  rw [e]
  simp only [Option.bind_some]
  rw [at_getD 0 h1 h2]
  exact ⟨_, rfl⟩
def rowOk (n : Nat) (s : List Range × List Int) : Prop := s.1.length = n ∧ s.2.length = n ∧ ∀ q, q < n → 20 ≤ (s.1.getD q R0).Lo ∧ (s.1.getD q R0).Lo ≤ s.2.getD q 0 ∧ s.2.getD q 0 ≤ (s.1.getD q R0).Hi ∧ (s.1.getD q R0).Hi ≤ 700
theorem rowOk_push {n : Nat} {s : List Range × List Int} (h : rowOk n s) {r : Range} {v : Int} (h1 : 20 ≤ r.Lo) (h2 : r.Lo ≤ v) (h3 : v ≤ r.Hi) (h4 : r.Hi ≤ 700) : rowOk (n + 1) (s.1 ++ [r], s.2 ++ [v]) := by
 obtain ⟨g1, g2, g3⟩ := h
 refine ⟨by simp [g1], by simp [g2], fun q hq => ?_⟩
 by_cases hqn : q < n
 ·have e1 : (s.1 ++ [r]).getD q R0 = s.1.getD q R0 := by rw [List.getD_eq_getElem?_getD, List.getD_eq_getElem?_getD, List.getElem?_append_left (by omega)]
  have e2 : (s.2 ++ [v]).getD q 0 = s.2.getD q 0 := by rw [List.getD_eq_getElem?_getD, List.getD_eq_getElem?_getD, List.getElem?_append_left (by omega)]
  simp only [e1, e2]; exact g3 q hqn
 ·have hq' : q = n := by omega
  have e1 : (s.1 ++ [r]).getD q R0 = r := by rw [List.getD_eq_getElem?_getD, List.getElem?_append_right (by omega)]; simp [hq', g1]
  have e2 : (s.2 ++ [v]).getD q 0 = v := by rw [List.getD_eq_getElem?_getD, List.getElem?_append_right (by omega)]; simp [hq', g2]
  simp only [e1, e2]; exact ⟨h1, h2, h3, h4⟩
structure RawS (r : R04_Raw) : Prop where
 f : r.Falls.length * 16 ≤ 140737488355328
 h : r.Heats.length * 8 ≤ 140737488355328
 r : r.Readings.length * 32 ≤ 140737488355328
theorem R04_Raw.q.s {r : R04_Raw} (q : R04_Raw.q r) : RawS r := by
 have := qB_le
 obtain ⟨_, _, ⟨_, h1, _⟩, ⟨_, h2, _⟩, ⟨_, h3, _⟩⟩ := q
 exact ⟨by omega, by omega, by omega⟩
theorem made_row (r : R04_Raw) (hr : RawS r) (x1 x2 : Int) (h1 : 0 ≤ x1 ∧ x1 < 4) (h2 : 0 ≤ x2 ∧ x2 < 7) {j : Nat} (hj : j < 4) :
  ∃ s : List Range × List Int, whl (R04_Made.b1 KK r x1 x2 (j : Int)) KK (0, [], []) = some (.brk s) ∧ rowOk (x2.toNat + 1) s := by
 have hf := hr.f
 have e2 : w64 (1 + x2) = ((x2.toNat + 1 : Nat) : Int) := by rw [w64_of (by omega) (by omega)]; omega
 refine whl_inv (n := x2.toNat + 1) (fun i (s : List Range × List Int) => (i, s.1, s.2)) (fun s => s) rowOk (by omega) (by unfold KK; omega) (s0 := ([], [])) ⟨rfl, rfl, fun q hq => by omega⟩ (fun i s hi hI => ?_) (fun s _ => ?_)
 ·obtain ⟨g1, g2, g3⟩ := hI
  have hlt : decide ((i : Int) < w64 (1 + x2)) = true := by rw [e2]; exact lt_dec hi
  have fin : ∀ a b : Int, ∃ s', (R01_Mod KK (w64 ((w64 ((w64 ((j : Int) * 3)) + (w64 ((i : Int) * 2)))) + (w64 (Int.tdiv a 7)))) 6).bind (fun x20 => (R01_Mod KK a 120).bind fun x21 => (push? 16 s.1 (⟨w64 (20 + (w64 (110 * x20))), w64 ((w64 (20 + (w64 (110 * x20)))) + x21)⟩ : Range)).bind fun l22 => (R01_Mod KK b (w64 (x21 + 1))).bind fun x23 => (push? 8 s.2 (w64 ((w64 (20 + (w64 (110 * x20)))) + x23))).bind fun l24 => some (Stp.next (w64 ((i : Int) + 1), l22, l24))) = (some (.next (w64 ((i : Int) + 1), s'.1, s'.2)) : Option (Stp (Int × (List Range) × (List Int)) ((List Range) × (List Int)) (Firing × Field))) ∧ rowOk (i + 1) s' := by
   intro a b
   obtain ⟨v20, m1, m2, m3⟩ := R01_Mod_eq (w64 ((w64 ((w64 ((j : Int) * 3)) + (w64 ((i : Int) * 2)))) + (w64 (Int.tdiv a 7)))) (m := 6) (by omega) (by omega)
   obtain ⟨v21, n1, n2, n3⟩ := R01_Mod_eq a (m := 120) (by omega) (by omega)
   obtain ⟨v23, o1, o2, o3⟩ := R01_Mod_eq b (m := v21 + 1) (by omega) (by omega)
   have w1 : w64 (110 * v20) = 110 * v20 := w64_of (by omega) (by omega)
   have w2 : w64 (20 + 110 * v20) = 20 + 110 * v20 := w64_of (by omega) (by omega)
   have w3 : w64 (20 + 110 * v20 + v21) = 20 + 110 * v20 + v21 := w64_of (by omega) (by omega)
   have w4 : w64 (v21 + 1) = v21 + 1 := w64_of (by omega) (by omega)
   have w5 : w64 (20 + 110 * v20 + v23) = 20 + 110 * v20 + v23 := w64_of (by omega) (by omega)
   simp only [m1, n1, Option.bind_some, w1, w2, w3, w4]
   rw [push_of (by omega) (by omega)]
   simp only [Option.bind_some, o1, w5]
   rw [push_of (by omega) (by omega)]
   exact ⟨(s.1 ++ [⟨20 + 110 * v20, 20 + 110 * v20 + v21⟩], s.2 ++ [20 + 110 * v20 + v23]), rfl, rowOk_push ⟨g1, g2, g3⟩ (by show 20 ≤ 20 + 110 * v20; omega) (by show 20 + 110 * v20 ≤ _; omega) (by show _ ≤ 20 + 110 * v20 + v21; omega) (by show 20 + 110 * v20 + v21 ≤ 700; omega)⟩
  unfold R04_Made.b1
  simp only [hlt, cond_true]
  by_cases hF : (0 : Int) < (r.Falls.length : Int)
  ·have hn : nz? (r.Falls.length : Int) = some () := by unfold nz?; rw [if_neg (by omega)]
   have e3 : w64 ((j : Int) * w64 (1 + x2)) = (j : Int) * ((x2.toNat + 1 : Nat) : Int) := by
    rw [e2]
    have hb : (j : Int) * ((x2.toNat + 1 : Nat) : Int) ≤ 3 * 7 := Int.mul_le_mul (by omega) (by omega) (by omega) (by omega)
    have hb0 : 0 ≤ (j : Int) * ((x2.toNat + 1 : Nat) : Int) := Int.mul_nonneg (by omega) (by omega)
    exact w64_of (by omega) (by omega)
   have hb : (j : Int) * ((x2.toNat + 1 : Nat) : Int) ≤ 3 * 7 := Int.mul_le_mul (by omega) (by omega) (by omega) (by omega)
   have hb0 : 0 ≤ (j : Int) * ((x2.toNat + 1 : Nat) : Int) := Int.mul_nonneg (by omega) (by omega)
   have e4 : w64 ((j : Int) * ((x2.toNat + 1 : Nat) : Int) + (i : Int)) = (j : Int) * ((x2.toNat + 1 : Nat) : Int) + (i : Int) := w64_of (by omega) (by omega)
   have t1 : 0 ≤ Int.tmod ((j : Int) * ((x2.toNat + 1 : Nat) : Int) + (i : Int)) (r.Falls.length : Int) := Int.tmod_nonneg _ (by omega)
   have t2 := (tmod_bd ((j : Int) * ((x2.toNat + 1 : Nat) : Int) + (i : Int)) hF).2
   simp only [hF, decide_true, cond_true, hn, Option.bind_some, e3, e4]
   rw [at_getD (⟨0, 0⟩ : A2 Int) t1 t2]
   simp only [Option.bind_some]
   exact fin _ _
  ·simp only [hF, decide_false, cond_false]
   exact fin 0 0
 ·unfold R04_Made.b1
  simp only [e2, lt_dec_self]; rfl
def kilOk (P n : Nat) (s : List (List Range) × List Int × List (List Int)) : Prop := s.1.length = n ∧ s.2.1.length = n ∧ s.2.2.length = n ∧ ∀ q, q < n → rowOk P (s.1.getD q [], s.2.2.getD q []) ∧ 1000 ≤ s.2.1.getD q 0 ∧ s.2.1.getD q 0 < 1600
theorem getD_app {α : Type} (d : α) (l : List α) (x : α) (q : Nat) : (l ++ [x]).getD q d = if q < l.length then l.getD q d else if q = l.length then x else d := by
 rw [List.getD_eq_getElem?_getD, List.getD_eq_getElem?_getD]
 by_cases h : q < l.length
 ·rw [List.getElem?_append_left h, if_pos h]
 ·rw [List.getElem?_append_right (by omega), if_neg h]
  by_cases h2 : q = l.length
  ·rw [if_pos h2]; simp [h2]
  ·rw [if_neg h2, List.getElem?_eq_none (by simp; omega)]; rfl
theorem made_kiln (r : R04_Raw) (hr : RawS r) (hh : r.Heats.length ≤ Go.maxLen) (x1 x2 : Int) (h1 : 0 ≤ x1 ∧ x1 < 4) (h2 : 0 ≤ x2 ∧ x2 < 7) :
  ∃ s : List (List Range) × List Int × List (List Int), whl (R04_Made.b0 KK r x1 x2) KK (0, [], [], []) = some (.brk s) ∧ kilOk (x2.toNat + 1) (x1.toNat + 1) s := by
 have e1 : w64 (1 + x1) = ((x1.toNat + 1 : Nat) : Int) := by rw [w64_of (by omega) (by omega)]; omega
 refine whl_inv (n := x1.toNat + 1) (fun i (s : List (List Range) × List Int × List (List Int)) => (i, s.1, s.2.1, s.2.2)) (fun s => s) (kilOk (x2.toNat + 1)) (by omega) (by unfold KK; omega) (s0 := ([], [], [])) ⟨rfl, rfl, rfl, fun q hq => by omega⟩ (fun j s hj hI => ?_) (fun s _ => ?_)
 ·obtain ⟨g1, g2, g3, g4⟩ := hI
  have hlt : decide ((j : Int) < w64 (1 + x1)) = true := by rw [e1]; exact lt_dec hj
  obtain ⟨t, t1, t2⟩ := made_row r hr x1 x2 h1 h2 (j := j) (by omega)
  obtain ⟨v, v1⟩ := R01_At_eq r.Heats hh (j : Int) hr.h
  obtain ⟨u, u1, u2, u3⟩ := R01_Mod_eq v (m := 600) (by omega) (by omega)
  have w1 : w64 (1000 + u) = 1000 + u := w64_of (by omega) (by omega)
  refine ⟨(s.1 ++ [t.1], s.2.1 ++ [1000 + u], s.2.2 ++ [t.2]), ?_, by simp [g1], by simp [g2], by simp [g3], fun q hq => ?_⟩
  ·unfold R04_Made.b0
   simp only [hlt, cond_true, t1, Option.bind_some]
   rw [push_of (by omega) (by omega)]
   simp only [Option.bind_some]
   rw [push_of (by omega) (by omega)]
   simp only [Option.bind_some, v1, u1, w1]
   rw [push_of (by omega) (by omega)]
   rfl
  ·simp only [getD_app, g1, g2, g3]
   by_cases hqj : q < j
   ·simp only [hqj, if_true]; exact g4 q hqj
   ·have : q = j := by omega
    subst this
    simp only [Nat.lt_irrefl, if_false, if_true]
    exact ⟨t2, by omega, by omega⟩
 ·unfold R04_Made.b0
  simp only [e1, lt_dec_self]; rfl
theorem kil_field {P m : Nat} (hP : 1 ≤ P ∧ P ≤ 7) (hm : 1 ≤ m ∧ m ≤ 4) {s : List (List Range) × List Int × List (List Int)} (h : kilOk P m s) : FieldOk ⟨s.1⟩ ⟨s.2.1, s.2.2⟩ ∧ (⟨s.1⟩ : Kiln).P = P ∧ (∀ j p, j < m → p < P → ((⟨s.1⟩ : Kiln).at j p).Hi ≤ 700) ∧ ∀ p, p < P → 300 ≤ (⟨s.2.1, s.2.2⟩ : Field).ht (m - 1) p ∧ (⟨s.2.1, s.2.2⟩ : Field).ht (m - 1) p ≤ 1580 := by
 obtain ⟨g1, g2, g3, g4⟩ := h
 have hrow : ∀ j, j < m → (s.1.getD j []).length = P := fun j hj => (g4 j hj).1.1
 have hhead : (s.1.headD []).length = P := by
  have := hrow 0 (by omega)
  cases hs : s.1 with
  | nil => rw [hs] at g1; simp at g1; omega
  | cons a l => rw [hs] at this; simpa using this
 have hat : ∀ j p, (⟨s.1⟩ : Kiln).at j p = (s.1.getD j []).getD p R0 := fun _ _ => rfl
 have hk : kilnB ⟨s.1⟩ = true := by
  simp only [kilnB, inB, Bool.and_eq_true, decide_eq_true_eq, List.all_eq_true, hhead, g1]
  refine ⟨by omega, by omega, fun x hx => ?_⟩
  obtain ⟨j, hj, rfl⟩ := List.getElem_of_mem hx
  have hx' : s.1.getD j [] = s.1[j] := getD_of _ (List.getElem?_eq_getElem hj)
  have hjm : j < m := by omega
  refine ⟨by rw [← hx']; exact hrow j hjm, fun y hy => ?_⟩
  obtain ⟨p, hp, rfl⟩ := List.getElem_of_mem hy
  have h5 := (g4 j hjm).1.2.2 p (by rw [← hrow j hjm, hx']; exact hp)
  simp only [hx'] at h5
  rw [getD_of R0 (List.getElem?_eq_getElem hp)] at h5
  rw [rangeB_iff]
  omega
 have hP2 : (⟨s.1⟩ : Kiln).P = P := hhead
 have hd : ∀ j p, (⟨s.2.1, s.2.2⟩ : Field).d j p = (s.2.2.getD j []).getD p 0 := fun _ _ => rfl
 have hu : ∀ j, (⟨s.2.1, s.2.2⟩ : Field).u j = s.2.1.getD j 0 := fun _ => rfl
 refine ⟨⟨hk, by show s.2.1.length = s.1.length; omega, by show s.2.2.length = s.1.length; omega, fun j hj => ?_, fun j hj => ?_, fun j p hj => ?_⟩, hP2, fun j p hj hp => ?_, fun p hp => ?_⟩
 ·have hj' : j < m := by have : j < s.1.length := hj; omega
  rw [hP2]; exact (g4 j hj').1.2.1
 ·have hj' : j < m := by have : j < s.1.length := hj; omega
  have := g4 j hj'
  rw [hu]; omega
 ·have hj' : j < m := by have : j < s.1.length := hj; omega
  rw [hat, hd]
  by_cases hp : p < P
  ·have := (g4 j hj').1.2.2 p hp
   simp only at this
   omega
  ·have l1 := hrow j hj'
   have l2 := (g4 j hj').1.2.1
   simp only at l2
   rw [getD_none (by omega), getD_none (by omega)]
   exact ⟨Int.le_refl _, Int.le_refl _⟩
 ·rw [hat]
  have := (g4 j hj).1.2.2 p hp
  simp only at this
  omega
 ·unfold Field.ht
  rw [mx_le_iff, le_mx_iff]
  refine ⟨⟨0, Nat.zero_le _, ?_⟩, fun j hj => ?_⟩
  ·have a := g4 0 (by omega)
   have b := a.1.2.2 p hp
   simp only at b
   rw [hu, hd]; omega
  ·have a := g4 j (by omega)
   have b := a.1.2.2 p hp
   simp only at b
   rw [hu, hd]; omega
def madeRd (P : Nat) (x : Field) (m : Nat) (r : Reading) : Prop := readB (P : Int) r = true ∧ rdAg (x.ht m r.Place.toNat) r = true
theorem made_read {P : Nat} (hP : 1 ≤ P ∧ P ≤ 7) {h pl off src kd : Int} (hh : 300 ≤ h ∧ h ≤ 1580) (hp : 0 ≤ pl ∧ pl < P) (ho : 0 ≤ off ∧ off < 90) (hs : 0 ≤ src ∧ src < 12) :
  (readB (P : Int) ⟨w64 (1 + src), pl, 1, min (max (w64 (h - off)) 1) 2000, ⟨0, 0⟩⟩ = true ∧ rdAg h ⟨w64 (1 + src), pl, 1, min (max (w64 (h - off)) 1) 2000, ⟨0, 0⟩⟩ = true) ∧
  (readB (P : Int) ⟨w64 (1 + src), pl, 2, min (max (w64 ((w64 (h + 1)) + off)) 1) 2000, ⟨0, 0⟩⟩ = true ∧ rdAg h ⟨w64 (1 + src), pl, 2, min (max (w64 ((w64 (h + 1)) + off)) 1) 2000, ⟨0, 0⟩⟩ = true) ∧
  (readB (P : Int) ⟨w64 (1 + src), pl, 3, 0, ⟨max (w64 (h - (w64 (Int.tdiv off 2)))) 1, min (w64 (h + off)) 2000⟩⟩ = true ∧ rdAg h ⟨w64 (1 + src), pl, 3, 0, ⟨max (w64 (h - (w64 (Int.tdiv off 2)))) 1, min (w64 (h + off)) 2000⟩⟩ = true) := by
 have w0 : w64 ((P : Int) - 1) = (P : Int) - 1 := w64_of (by omega) (by omega)
 have w1 : w64 (1 + src) = 1 + src := w64_of (by omega) (by omega)
 have w2 : w64 (h - off) = h - off := w64_of (by omega) (by omega)
 have w3 : w64 (h + 1) = h + 1 := w64_of (by omega) (by omega)
 have w4 : w64 (h + 1 + off) = h + 1 + off := w64_of (by omega) (by omega)
 have td : Int.tdiv off 2 = off / 2 := Int.tdiv_eq_ediv_of_nonneg ho.1
 have w5 : w64 (off / 2) = off / 2 := w64_of (by omega) (by omega)
 have w6 : w64 (h - off / 2) = h - off / 2 := w64_of (by omega) (by omega)
 have w7 : w64 (h + off) = h + off := w64_of (by omega) (by omega)
 have k12 : decide ((2 : Int) = 1) = false := by decide
 have k13 : decide ((3 : Int) = 1) = false := by decide
 have k23 : decide ((3 : Int) = 2) = false := by decide
 have k32 : decide ((1 : Int) = 3) = false := by decide
 have k21 : decide ((1 : Int) = 2) = false := by decide
 have k31 : decide ((2 : Int) = 3) = false := by decide
 have w8 : w64 (h + 1 + off - 1) = h + off := by rw [w64_of (by omega) (by omega)]; omega
 refine ⟨⟨?_, ?_⟩, ⟨?_, ?_⟩, ?_, ?_⟩
 ·simp only [readB, inB, w0, w1, w2, decide_true, cond_true, Bool.and_eq_true, decide_eq_true_eq, and_true, true_and]; omega
 ·simp only [rdAg, lo?, hi?, w1, w2, decide_true, cond_true, k21, k32, cond_false, Option.isSome_some, Option.isSome_none, Option.getD_some, Bool.true_and, Bool.false_and, Bool.not_false, Bool.and_true, Bool.not_eq_true', decide_eq_false_iff_not]; omega
 ·simp only [readB, inB, w0, w1, w3, w4, k12, decide_true, cond_true, cond_false, Bool.and_eq_true, decide_eq_true_eq, and_true, true_and]; omega
 ·have e : min (max (h + 1 + off) 1) 2000 = h + 1 + off := by omega
  simp only [rdAg, lo?, hi?, w1, w3, w4, e, w8, decide_true, cond_true, k12, k31, cond_false, Option.isSome_some, Option.isSome_none, Option.getD_some, Bool.true_and, Bool.false_and, Bool.not_false, Bool.not_eq_true', decide_eq_false_iff_not]; omega
 ·simp only [readB, inB, rangeB, w0, w1, td, w5, w6, w7, k13, k23, decide_true, cond_true, cond_false, Bool.and_eq_true, decide_eq_true_eq, and_true, true_and]; omega
 ·simp only [rdAg, lo?, hi?, w1, td, w5, w6, w7, decide_true, cond_true, k13, k23, cond_false, Option.isSome_some, Option.getD_some, Bool.true_and, Bool.and_eq_true, Bool.not_eq_true', decide_eq_false_iff_not]; omega
structure IsMade (f : Firing) (x : Field) : Prop where
 c : firingCode f = 0
 fld : FieldOk f.Kiln x
 a : agB f x = true
 r : f.Readings.length ≤ 14
 P : f.Kiln.P ≤ 7
 m : f.Kiln.Falls.length ≤ 4
 hi : ∀ j p, j < f.Kiln.Falls.length → p < f.Kiln.P → (f.Kiln.at j p).Hi ≤ 700
 ht : ∀ p, p < f.Kiln.P → 300 ≤ x.ht (f.Kiln.Falls.length - 1) p ∧ x.ht (f.Kiln.Falls.length - 1) p ≤ 1580
theorem R04_Made_eq (r : R04_Raw) (q : R04_Raw.q r) : ∃ f x, R04_Made KK r = some (f, x) ∧ IsMade f x := by
 have hr := q.s
 have hh : r.Heats.length ≤ Go.maxLen := q.2.2.2.1.1
 have hrl := hr.r
 unfold R04_Made
 obtain ⟨x1, a1, a2, a3⟩ := R01_Mod_eq r.Mouths (m := 4) (by omega) (by omega)
 obtain ⟨x2, b1, b2, b3⟩ := R01_Mod_eq r.Places (m := 7) (by omega) (by omega)
 obtain ⟨s, c1, c2⟩ := made_kiln r hr hh x1 x2 ⟨a2, a3⟩ ⟨b2, b3⟩
 obtain ⟨s1, s2, s3⟩ := s
 simp only [a1, b1, Option.bind_some, c1]
 obtain ⟨d1, d2, d3, d4⟩ := kil_field (P := x2.toNat + 1) (m := x1.toNat + 1) (by omega) (by omega) c2
 simp only at d1 d2 d3 d4
 have e2 : w64 (1 + x2) = ((x2.toNat + 1 : Nat) : Int) := by rw [w64_of (by omega) (by omega)]; omega
 have hm : s1.length = x1.toNat + 1 := c2.1
 obtain ⟨l, e3, e4, e5⟩ := whl_inv (n := min r.Readings.length 14) (body := R04_Made.b2 KK r x1 x2 s2 s3) (k := KK) (fun i s => (i, s)) id (fun i (s : List Reading) => s.length = i ∧ ∀ y ∈ s, madeRd (x2.toNat + 1) ⟨s2, s3⟩ x1.toNat y) (by omega) (by unfold KK; omega) (s0 := []) ⟨rfl, by simp⟩ (fun i s hi hI => by
  obtain ⟨I1, I2⟩ := hI
  have hi1 : i < r.Readings.length := by omega
  have hi2 : decide ((i : Int) < 14) = true := by simp; omega
  have hx : r.Readings[i]? = some r.Readings[i] := List.getElem?_eq_getElem hi1
  generalize r.Readings[i] = n at hx
  obtain ⟨pl, f1, f2, f3⟩ := R01_Mod_eq n.x0 (m := ((x2.toNat + 1 : Nat) : Int)) (by omega) (by omega)
  obtain ⟨off, g1, g2, g3⟩ := R01_Mod_eq n.x2 (m := 90) (by omega) (by omega)
  obtain ⟨src, h1, h2, h3⟩ := R01_Mod_eq n.x3 (m := 12) (by omega) (by omega)
  obtain ⟨kd, k1, k2, k3⟩ := R01_Mod_eq n.x1 (m := 3) (by omega) (by omega)
  have hpp : ((pl.toNat : Nat) : Int) = pl := by omega
  have eh := R04_heat_eq d1 (p := pl.toNat) (by rw [d2]; omega)
  rw [hpp] at eh
  have hms : (⟨s1⟩ : Kiln).Falls.length - 1 = x1.toNat := by show s1.length - 1 = _; omega
  rw [hms] at eh
  have hb := d4 pl.toNat (by omega)
  rw [show x1.toNat + 1 - 1 = x1.toNat by omega] at hb
  obtain ⟨r1, r2, r3⟩ := made_read (P := x2.toNat + 1) (by omega) (kd := 0) (h := (⟨s2, s3⟩ : Field).ht x1.toNat pl.toNat) hb (pl := pl) ⟨f2, f3⟩ (off := off) ⟨g2, g3⟩ (src := src) ⟨h2, h3⟩
  have wk : w64 (1 + kd) = 1 + kd := w64_of (by omega) (by omega)
  have hall : ∀ y, madeRd (x2.toNat + 1) ⟨s2, s3⟩ x1.toNat y → ∀ z ∈ s ++ [y], madeRd (x2.toNat + 1) ⟨s2, s3⟩ x1.toNat z := by
   intro y hy z hz
   rcases List.mem_append.1 hz with hz | hz
   ·exact I2 z hz
   ·simp only [List.mem_singleton] at hz; subst hz; exact hy
  unfold R04_Made.b2
  simp only [lt_dec hi1, hi2, cond_true, at_of hx, Option.bind_some, e2, f1, g1, h1, k1, eh, wk]
  by_cases q1 : 1 + kd = 1
  ·simp only [q1, decide_true, cond_true]
   rw [push_of (by omega) (by omega)]
   exact ⟨_, rfl, by simp [I1], hall _ r1⟩
  ·simp only [q1, decide_false, cond_false]
   by_cases q2 : 1 + kd = 2
   ·simp only [q2, decide_true, cond_true]
    rw [push_of (by omega) (by omega)]
    exact ⟨_, rfl, by simp [I1], hall _ r2⟩
   ·have q3 : 1 + kd = 3 := by omega
    simp only [q3, show decide ((3 : Int) = 2) = false by decide, cond_false]
    rw [push_of (by omega) (by omega)]
    exact ⟨_, rfl, by simp [I1], hall _ r3⟩) (fun s _ => by
  unfold R04_Made.b2
  by_cases h14 : r.Readings.length ≤ 14
  ·have : min r.Readings.length 14 = r.Readings.length := by omega
   simp only [this, lt_dec_self]; rfl
  ·have : min r.Readings.length 14 = 14 := by omega
   have h15 : decide (((14 : Nat) : Int) < (r.Readings.length : Int)) = true := by simp; omega
   simp only [this, h15, cond_true]; rfl)
 rw [e3]
 refine ⟨⟨⟨s1⟩, l⟩, ⟨s2, s3⟩, rfl, ?_, d1, ?_, by show l.length ≤ 14; omega, by show (⟨s1⟩ : Kiln).P ≤ 7; omega, by show s1.length ≤ 4; omega, fun j p hj hp => d3 j p (by have : j < s1.length := hj; omega) (by rw [← d2]; exact hp), fun p hp => ?_⟩
 ·have hPh : ((⟨s1⟩ : Kiln).Falls.headD []).length = x2.toNat + 1 := d2
  have hlen : ¬ ((60 : Int) < (l.length : Int)) := by omega
  unfold firingCode
  simp only [d1.kv, cond_true]
  have hall : l.all (readB ((((⟨s1⟩ : Kiln).Falls.headD []).length : Nat) : Int)) = true := by
   rw [List.all_eq_true, hPh]
   exact fun y hy => (e5 y hy).1
  rw [hall, decide_eq_false hlen]
  rfl
 ·unfold agB
  rw [List.all_eq_true]
  intro y hy
  have : (⟨s1⟩ : Kiln).Falls.length - 1 = x1.toNat := by show s1.length - 1 = _; omega
  rw [this]
  exact (e5 y hy).2
 ·have : (⟨s1⟩ : Kiln).Falls.length - 1 = x1.toNat + 1 - 1 := by show s1.length - 1 = _; omega
  rw [this]
  exact d4 p (by rw [← d2]; exact hp)
end Go.Abs
namespace Go.Abs
open Go
set_option linter.unusedVariables false
structure Fur.Sub (g f : Fur) : Prop where
 m : g.m = f.m
 lo : g.lo = f.lo
 hi : g.hi = f.hi
 L : ∀ x ∈ g.L, x ∈ f.L
 M : ∀ x ∈ g.M, x ∈ f.M
namespace Fur.Sub
variable {g f : Fur}
theorem U (h : Sub g f) (j : Nat) : f.U j ≤ g.U j := by
 rw [Fur.U_iff]
 refine ⟨f.U_le j, fun x hx => ?_⟩
 rw [h.hi]
 exact f.U_lim j (h.M x hx)
theorem sound (h : Sub g f) (hs : f.Sound) : g.Sound := (Fur.sub_sound h.m h.lo h.hi h.L h.M hs).1
theorem high (h : Sub g f) {q : Nat} {t : Int} (ht : f.High q t) : g.High q t := by
 obtain ⟨⟨j, h1, h2⟩, h3⟩ := ht
 have := h.U j
 exact ⟨⟨j, by rw [h.m]; exact h1, by rw [h.lo]; omega⟩, fun y hy e => h3 y (h.M y hy) e⟩
theorem low (h : Sub g f) {q : Nat} {t : Int} (ht : f.Low q t) : g.Low q t := by
 obtain ⟨h1, h2, h3⟩ := ht
 refine ⟨fun j hj => by rw [h.hi]; exact h1 j (by rw [← h.m]; exact hj), fun x hx e => h2 x (h.L x hx) e, fun x hx e => ?_⟩
 obtain ⟨j, k1, k2, k3⟩ := h3 x (h.L x hx) e
 have := h.U j
 exact ⟨j, by rw [h.m]; exact k1, by rw [h.lo]; omega, by rw [h.lo, h.hi]; exact k3⟩
end Fur.Sub
theorem nf_sub {g f : Firing} (hk : g.Kiln = f.Kiln) (hr : ∀ r ∈ g.Readings, r ∈ f.Readings) : (nf g).fur.Sub (nf f).fur := by
 refine ⟨?_, ?_, ?_, ?_, ?_⟩
 ·show g.Kiln.Falls.length - 1 = f.Kiln.Falls.length - 1; rw [hk]
 ·show (fun j p => (g.Kiln.at j p).Lo) = fun j p => (f.Kiln.at j p).Lo; rw [hk]
 ·show (fun j p => (g.Kiln.at j p).Hi) = fun j p => (f.Kiln.at j p).Hi; rw [hk]
 ·intro z hz
  obtain ⟨r, h1, h2⟩ := limsOf_lp.1 hz
  exact limsOf_lp.2 ⟨r, hr r h1, h2⟩
 ·intro z hz
  obtain ⟨r, h1, h2⟩ := limsOf_lp.1 hz
  exact limsOf_lp.2 ⟨r, hr r h1, h2⟩
theorem firingCode_of {f : Firing} (h1 : kilnB f.Kiln = true) (h2 : f.Readings.length ≤ 60) (h3 : ∀ r ∈ f.Readings, readB (f.Kiln.P : Int) r = true) : firingCode f = 0 := by
 unfold firingCode
 have : ¬ ((60 : Int) < (f.Readings.length : Int)) := by omega
 have h4 : f.Readings.all (readB ((f.Kiln.Falls.headD []).length : Int)) = true := by
  rw [List.all_eq_true]; exact h3
 rw [h1, decide_eq_false this, h4]; rfl
theorem woF_code {f : Firing} (h : firingCode f = 0) (s : Int) : firingCode (woF f s) = 0 := by
 obtain ⟨h1, h2, h3⟩ := firing_small h
 have := List.length_filter_le (fun r : Reading => !decide (r.Source = s)) f.Readings
 exact firingCode_of h1 (by show (f.Readings.filter _).length ≤ 60; omega) (fun r hr => h3 r (List.mem_filter.1 hr).1)
theorem askCode_of {f : Firing} (h : firingCode f = 0) (hs : (nf f).fur.Sound) {p : Int} (h0 : 0 ≤ p) (hp : p < f.Kiln.P) : askCode f p = 0 := by
 have hi : inB p 0 ((f.Kiln.P : Int) - 1) = true := by simp [inB]; omega
 have hb : soundB (nf f) = true := (soundB_iff (nf_ok (firing_ok h))).2 hs
 unfold askCode
 simp [h, hi, hb]
theorem bndR_of {f : Firing} {p : Int} (h : askCode f p = 0) : bndR f p = (rngX (nf f) p.toNat, 0) := by unfold bndR; simp [h]
theorem rng_sub {g f : Firing} {p : Int} (hg : askCode g p = 0) (hf : askCode f p = 0) (h : (nf g).fur.Sub (nf f).fur) : (rngX (nf g) p.toNat).Lo ≤ (rngX (nf f) p.toNat).Lo ∧ (rngX (nf f) p.toNat).Hi ≤ (rngX (nf g) p.toNat).Hi := by
 obtain ⟨a1, a2⟩ := rng_isBound g p hg
 obtain ⟨b1, b2⟩ := rng_isBound f p hf
 exact ⟨(a1 _).2 (h.low ((b1 _).1 (Int.le_refl _))), (a2 _).2 (h.high ((b2 _).1 (Int.le_refl _)))⟩
theorem heatsR_made {f : Firing} {x : Field} (h : IsMade f x) : heatsR f.Kiln x = (heatsL f.Kiln x, 0) := by
 unfold heatsR
 simp [h.fld.kv, (fieldB_iff h.fld.kv x).2 h.fld]
theorem heatsL_len (k : Kiln) (x : Field) : (heatsL k x).length = k.P := by simp [heatsL]
theorem heatsL_at {k : Kiln} (x : Field) {p : Int} (h0 : 0 ≤ p) (hp : p < k.P) : at? (heatsL k x) p = some (x.ht (k.Falls.length - 1) p.toNat) := by
 have := at_mapR (x.ht (k.Falls.length - 1)) (n := k.P) (j := p.toNat) (by omega)
 rw [show ((p.toNat : Nat) : Int) = p by omega] at this
 exact this
theorem sourcesR_of {f : Firing} (h : firingCode f = 0) : sourcesR f = (allSrc f, 0) := by unfold sourcesR allSrc; simp [h]
theorem allSrc_mem (f : Firing) (s : Int) : s ∈ allSrc f ↔ ∃ r ∈ f.Readings, r.Source = s := by
 unfold allSrc
 rw [usort_mem, List.mem_map]
theorem withoutR_of {f : Firing} (h : firingCode f = 0) {s : Int} (hs : s ∈ allSrc f) : withoutR f s = (woF f s, 0) := by
 unfold withoutR woF
 have : s ∈ f.Readings.map fun r => r.Source := by rw [List.mem_map]; exact (allSrc_mem f s).1 hs
 simp only [h, this, decide_true, Bool.not_true, cond_false]
theorem uAt_ge2 {f g : Firing} (h : f.ok) (hk : g.Kiln = f.Kiln) {j : Nat} {b u : Int} (hn : ∀ y, hiAt f b = some y → lp y ∈ (nf g).fur.M) (hu : uAt f j b = some u) : (nf g).fur.U j ≤ u := by
 unfold uAt at hu
 split at hu
 ·simp only [Option.some.injEq] at hu; subst hu; exact (nf g).fur.U_le j
 ·cases hy : hiAt f b with
  | none => rw [hy] at hu; cases hu
  | some y =>
   rw [hy] at hu
   simp only [Option.map_some, Option.some.injEq] at hu
   subst hu
   have := (nf g).fur.U_lim j (hn y hy)
   have e : (nf g).fur.hi j (lp y).1 = (f.Kiln.at j y.place.toNat).Hi := by show (g.Kiln.at j y.place.toNat).Hi = _; rw [hk]
   rw [e] at this
   exact this
theorem showHigh_sound2 {f g : Firing} (h : f.ok) (hk : g.Kiln = f.Kiln) {q : Nat} {p : HeatProof} {m : Int} (hn : ∀ i, (i = p.Reading ∨ i ∈ p.By) → ∀ y, hiAt f i = some y → lp y ∈ (nf g).fur.M) (hp : showHigh f q p = some m) {t : Int} (ht : (nf g).fur.High q t) : t ≤ m := by
 have hkl := kilnB_len h.k
 obtain ⟨⟨j, h1, h2⟩, h3⟩ := ht
 have hm : (nf g).fur.m = f.Kiln.Falls.length - 1 := by show g.Kiln.Falls.length - 1 = _; rw [hk]
 unfold showHigh at hp
 split at hp
 ·split at hp
  ·rename_i hlen
   cases hF : (List.range f.Kiln.Falls.length).foldlM (highStep f q p.By) none with
   | none => rw [hF] at hp; cases hp
   | some s =>
    have a := (highFold f q p.By f.Kiln.Falls.length).2 s hF
    obtain ⟨s', e1, _, e3⟩ := (highFold f q p.By f.Kiln.Falls.length).1 a
    rw [hF] at e1 hp
    cases e1
    obtain ⟨n, e4, e5⟩ := e3 (by omega)
    subst e4
    simp only [Option.map_some, Option.getD_some, Option.some.injEq] at hp
    subst hp
    rw [e5]
    obtain ⟨u, hu⟩ := a j (by omega)
    have := uAt_ge2 h hk (hn _ (.inr (getD_mem 0 (by omega)))) hu
    have e : (nf g).fur.lo j q = (f.Kiln.at j q).Lo := by show (g.Kiln.at j q).Lo = _; rw [hk]
    have h2' : t + (f.Kiln.at j q).Lo ≤ (nf g).fur.U j := by rw [← e]; exact h2
    exact ⟨j, u, by omega, hu, by omega⟩
  ·cases hp
 ·cases hy : hiAt f p.Reading with
  | none => rw [hy] at hp; cases hp
  | some y =>
   rw [hy] at hp
   simp only at hp
   split at hp
   ·rename_i hc
    simp only [Option.some.injEq] at hp
    subst hp
    exact h3 (lp y) (hn _ (.inl rfl) y hy) (by show y.place.toNat = q; omega)
   ·cases hp
theorem showLow_sound2 {f g : Firing} (h : f.ok) (hk : g.Kiln = f.Kiln) {q : Nat} {p : HeatProof} {s : Option Int} (hn : p.Reading ≠ -2 → ∀ i, (i = p.Reading ∨ i ∈ p.By) → (∀ y, hiAt f i = some y → lp y ∈ (nf g).fur.M) ∧ ∀ y, loAt f i = some y → lp y ∈ (nf g).fur.L) (hp : showLow f q p = some s) {t : Int} (ht : (nf g).fur.Low q t) : ∃ m, s = some m ∧ m ≤ t := by
 have hkl := kilnB_len h.k
 have hm : (nf g).fur.m = f.Kiln.Falls.length - 1 := by show g.Kiln.Falls.length - 1 = _; rw [hk]
 have elo : ∀ j p, (nf g).fur.lo j p = (f.Kiln.at j p).Lo := fun j p => by show (g.Kiln.at j p).Lo = _; rw [hk]
 have ehi : ∀ j p, (nf g).fur.hi j p = (f.Kiln.at j p).Hi := fun j p => by show (g.Kiln.at j p).Hi = _; rw [hk]
 obtain ⟨h1, h2, h3⟩ := ht
 unfold showLow at hp
 split at hp
 ·split at hp
  ·rename_i hc
   simp only [Option.some.injEq] at hp
   subst hp
   have := h1 (p.By.getD 0 0).toNat (by omega)
   rw [ehi] at this
   exact ⟨_, rfl, this⟩
  ·cases hp
 ·rename_i hr2
  cases hy : loAt f p.Reading with
  | none => rw [hy] at hp; cases hp
  | some y =>
   rw [hy] at hp
   simp only at hp
   have hyo := loAt_ok h hy
   have hmem : lp y ∈ (nf g).fur.L := (hn hr2 _ (.inl rfl)).2 y hy
   split at hp
   ·rename_i hc
    split at hp
    ·simp only [Option.some.injEq] at hp
     subst hp
     exact ⟨_, rfl, h2 (lp y) hmem (by show y.place.toNat = q; omega)⟩
    ·cases hp
   ·rename_i hc
    split at hp
    ·rename_i hlen
     obtain ⟨k1, k2⟩ := (lowFold f q y p.By _ s).1 hp
     obtain ⟨j, j1, j2, j3⟩ := h3 (lp y) hmem (by intro e; apply hc; have e' : y.place.toNat = q := e; have := hyo.1.1; omega)
     rw [elo] at j2 j3
     rw [ehi] at j3
     have j2' : y.heat + (f.Kiln.at j y.place.toNat).Lo ≤ (nf g).fur.U j := j2
     have j3' : y.heat + (f.Kiln.at j y.place.toNat).Lo - (f.Kiln.at j q).Hi ≤ t := j3
     have hj1 : p.By.getD j 0 = -1 := by
      rcases k1 j (by omega) with c | ⟨_, c⟩ | ⟨_, _, z, g1, g2⟩
      ·exact c
      ·have := (nf g).fur.U_le j; omega
      ·have := (nf g).fur.U_lim j ((hn hr2 _ (.inr (getD_mem 0 (by omega)))).1 z g1)
       rw [ehi] at this
       have this' : (nf g).fur.U j ≤ z.heat + (f.Kiln.at j z.place.toNat).Hi := this
       omega
     cases s with
     | none => exact absurd hj1 (k2 j (by omega))
     | some m => exact ⟨m, rfl, (k2 t).2 ⟨j, by omega, hj1, j3'⟩⟩
    ·cases hp
theorem rest_some {f : Firing} : ∀ {l : List Int}, (∀ n ∈ l, n < 0 ∨ n < f.Readings.length) → ∃ r, rest f l = some r ∧ ∀ n ∈ l, 0 ≤ n → f.Readings.getD n.toNat rd0 ∈ r
 | [], _ => ⟨[], rfl, fun n hn => by simp at hn⟩
 | n :: l, h => by
  obtain ⟨r, h1, h2⟩ := rest_some (f := f) (l := l) (fun m hm => h m (List.mem_cons_of_mem _ hm))
  unfold rest
  by_cases c : n < 0
  ·rw [if_pos c, h1]
   refine ⟨r, rfl, fun m hm h0 => ?_⟩
   rcases List.mem_cons.1 hm with rfl | hm
   ·omega
   ·exact h2 m hm h0
  ·have c2 : n < f.Readings.length := by rcases h n (by simp) with k | k; omega; exact k
   rw [if_neg c, if_pos c2, h1]
   refine ⟨_, rfl, fun m hm h0 => ?_⟩
   rcases List.mem_cons.1 hm with rfl | hm
   ·exact List.mem_cons_self ..
   ·exact List.mem_cons_of_mem _ (h2 m hm h0)
theorem hiAt_idx {f : Firing} {i : Int} {y : heat_limit} (h : hiAt f i = some y) : 0 ≤ i ∧ i < f.Readings.length ∧ hi? (f.Readings.getD i.toNat rd0) = some y.heat ∧ y.place = (f.Readings.getD i.toNat rd0).Place := by
 unfold hiAt at h
 split at h
 ·rename_i hi
  have := limOf_by h
  exact ⟨hi.1, hi.2, this.2.2, this.2.1⟩
 ·cases h
theorem loAt_idx {f : Firing} {i : Int} {y : heat_limit} (h : loAt f i = some y) : 0 ≤ i ∧ i < f.Readings.length ∧ lo? (f.Readings.getD i.toNat rd0) = some y.heat ∧ y.place = (f.Readings.getD i.toNat rd0).Place := by
 unfold loAt at h
 split at h
 ·rename_i hi
  have := limOf_by h
  exact ⟨hi.1, hi.2, this.2.2, this.2.1⟩
 ·cases h
def named (f : Firing) (p : HeatProof) : Prop := p.Reading = -2 ∨ (-2 ≤ p.Reading ∧ ∀ n ∈ p.Reading :: p.By, n < 0 ∨ n < f.Readings.length)
theorem showHigh_named {f : Firing} (h : f.ok) {q : Nat} {p : HeatProof} {m : Int} (hp : showHigh f q p = some m) : named f p ∧ p.By.length ≤ 6 := by
 have hk := kilnB_len h.k
 unfold showHigh at hp
 split at hp
 ·rename_i hr
  split at hp
  ·rename_i hl
   refine ⟨.inr ⟨by omega, fun n hn => ?_⟩, by omega⟩
   rcases List.mem_cons.1 hn with rfl | hn
   ·left; omega
   ·cases hF : (List.range f.Kiln.Falls.length).foldlM (highStep f q p.By) none with
    | none => rw [hF] at hp; cases hp
    | some s =>
     have a := (highFold f q p.By f.Kiln.Falls.length).2 s hF
     obtain ⟨j, hj, rfl⟩ := List.getElem_of_mem hn
     obtain ⟨u, hu⟩ := a j (by omega)
     rw [getD_of 0 (List.getElem?_eq_getElem hj)] at hu
     unfold uAt at hu
     split at hu
     ·left; omega
     ·cases hy : hiAt f p.By[j] with
      | none => rw [hy] at hu; cases hu
      | some y => right; exact (hiAt_idx hy).2.1
  ·cases hp
 ·cases hy : hiAt f p.Reading with
  | none => rw [hy] at hp; cases hp
  | some y =>
   rw [hy] at hp
   simp only at hp
   have hi := hiAt_idx hy
   split at hp
   ·rename_i hc
    refine ⟨.inr ⟨by omega, fun n hn => ?_⟩, by omega⟩
    have : p.By = [] := List.eq_nil_of_length_eq_zero hc.2
    rw [this] at hn
    simp only [List.mem_singleton] at hn
    subst hn; right; exact hi.2.1
   ·cases hp
theorem showLow_named {f : Firing} (h : f.ok) {q : Nat} {p : HeatProof} {s : Option Int} (hp : showLow f q p = some s) : named f p ∧ p.By.length ≤ 6 := by
 have hk := kilnB_len h.k
 unfold showLow at hp
 split at hp
 ·rename_i hr
  split at hp
  ·rename_i hl; exact ⟨.inl hr, by omega⟩
  ·cases hp
 ·cases hy : loAt f p.Reading with
  | none => rw [hy] at hp; cases hp
  | some y =>
   rw [hy] at hp
   simp only at hp
   have hi := loAt_idx hy
   split at hp
   ·split at hp
    ·rename_i hc
     refine ⟨.inr ⟨by omega, fun n hn => ?_⟩, by omega⟩
     have : p.By = [] := List.eq_nil_of_length_eq_zero hc
     rw [this] at hn
     simp only [List.mem_singleton] at hn
     subst hn; right; exact hi.2.1
    ·cases hp
   ·split at hp
    ·rename_i hl
     obtain ⟨k1, _⟩ := (lowFold f q y p.By _ s).1 hp
     refine ⟨.inr ⟨by omega, fun n hn => ?_⟩, by omega⟩
     rcases List.mem_cons.1 hn with rfl | hn
     ·right; exact hi.2.1
     ·obtain ⟨j, hj, rfl⟩ := List.getElem_of_mem hn
      have := k1 j (by omega)
      unfold lowOk at this
      rw [getD_of 0 (List.getElem?_eq_getElem hj)] at this
      rcases this with c | ⟨c, _⟩ | ⟨_, _, z, c, _⟩
      ·left; omega
      ·left; omega
      ·right; exact (hiAt_idx c).2.1
    ·cases hp
theorem rests_named {f : Firing} (h : firingCode f = 0) {p : HeatProof} (hn : named f p) : ∃ by1, restsR f p = (by1, 0) ∧ ∀ s, s ∉ by1 → p.Reading ≠ -2 → ∀ i, (i = p.Reading ∨ i ∈ p.By) → (∀ y, hiAt f i = some y → lp y ∈ (nf (woF f s)).fur.M) ∧ ∀ y, loAt f i = some y → lp y ∈ (nf (woF f s)).fur.L := by
 unfold restsR
 rcases hn with hr | ⟨hr, hn⟩
 ·refine ⟨[], by simp [h, hr], fun s _ k => absurd hr k⟩
 ·by_cases h2 : p.Reading = -2
  ·exact ⟨[], by simp [h, h2], fun s _ k => absurd h2 k⟩
  ·obtain ⟨r, e1, e2⟩ := rest_some hn
   have h3 : ¬ p.Reading < -2 := by omega
   refine ⟨usort (r.map (·.Source)), by simp only [h, h2, h3, e1, decide_true, decide_false, Bool.not_true, cond_false], fun s hs _ i hi => ?_⟩
   have hmem : i ∈ p.Reading :: p.By := by rcases hi with rfl | hi; exact List.mem_cons_self ..; exact List.mem_cons_of_mem _ hi
   have hin : 0 ≤ i → i < f.Readings.length → f.Readings.getD i.toNat rd0 ∈ (woF f s).Readings := by
    intro h0 hlt
    have a := e2 i hmem h0
    refine List.mem_filter.2 ⟨getD_mem rd0 (by omega), ?_⟩
    have : ¬ (f.Readings.getD i.toNat rd0).Source = s := by
     intro e
     exact hs ((usort_mem _ _).2 (List.mem_map.2 ⟨_, a, e⟩))
    rw [decide_eq_false this]; rfl
   constructor
   ·intro y hy
    obtain ⟨a, b, c, d⟩ := hiAt_idx hy
    exact limsOf_lp.2 ⟨_, hin a b, c, by show _ = y.place.toNat; rw [d]⟩
   ·intro y hy
    obtain ⟨a, b, c, d⟩ := loAt_idx hy
    exact limsOf_lp.2 ⟨_, hin a b, c, by show _ = y.place.toNat; rw [d]⟩
end Go.Abs
namespace Go.Abs
open Go
set_option linter.unusedVariables false
end Go.Abs
namespace Go.Abs
open Go
set_option linter.unusedVariables false
theorem heatShown_plain (a0 : R04_Raw) (a1 : HeatProof) (a2 : A2 Int) (q0 : R04_Raw.q a0) : L04_HeatShown KK a0 a1 a2 = some true := by
 obtain ⟨f, x, e0, hm⟩ := R04_Made_eq a0 q0
 have hok := firing_ok hm.c
 have hs := firing_s hok
 have hw := firing_w hok
 have hk := kilnB_len hok.k
 have hfl := hok.l
 have hsl := allSrc_len f
 obtain ⟨hS, hag⟩ := agree_facts hok hm.fld hm.a
 obtain ⟨q, m1, m2, m3⟩ := R01_Mod_eq a2.x0 (m := (f.Kiln.P : Int)) (by omega) (by omega)
 have hqn : q.toNat < f.Kiln.P := by omega
 have hask : askCode f q = 0 := askCode_of hm.c hS m2 m3
 have hin : inB q 0 ((f.Kiln.P : Int) - 1) = true := by simp [inB]; omega
 have hb := hm.ht q.toNat hqn
 obtain ⟨hH, hL⟩ := hag q.toNat
 generalize hht : x.ht (f.Kiln.Falls.length - 1) q.toNat = t at hb hH hL
 have w1 : w64 (t - 1) = t - 1 := w64_of (by omega) (by omega)
 have w2 : w64 (t + 1) = t + 1 := w64_of (by omega) (by omega)
 have p1 : ¬ proofCode f q true (t - 1) a1 = 0 := by
  unfold proofCode
  simp only [hm.c, hin, decide_true, Bool.not_true, cond_false, cond_true]
  cases hp : showHigh f q.toNat a1 with
  | none => simp
  | some m =>
   have := showHigh_sound hok hp hH
   have h2 : t - 1 < m := by omega
   simp [h2]
 have p2 : ¬ proofCode f q false (t + 1) a1 = 0 := by
  unfold proofCode
  simp only [hm.c, hin, decide_true, Bool.not_true, cond_false]
  cases hp : showLow f q.toNat a1 with
  | none => simp
  | some s =>
   obtain ⟨m, hm1, hm2⟩ := showLow_sound hok hS hp hL
   subst hm1
   have h2 : m < t + 1 := by omega
   simp [h2]
 have hlen : (heatsL f.Kiln x).length = f.Kiln.P := heatsL_len _ _
 have hl0 : ¬ ((f.Kiln.P : Int) = 0) := by omega
 unfold L04_HeatShown
 simp only [e0, Option.bind_some, heat_Heats_eq f.Kiln hs.1, heatsR_made hm, decide_true, cond_true, hlen, hl0, decide_false, cond_false, m1, heatsL_at x m2 m3, hht, w1, w2, heat_CheckProof_eq f hs, p1, p2, Bool.not_false, heat_Bound_rng f hs hw, bndR_of hask, heat_Sources_eq f hs, sourcesR_of hm.c, Bool.not_true]
 rw [whl_allN (n := 2) (p := fun _ => true) (c := false) (by omega) (by unfold KK; omega) (fun i hi => ?_) ?_]
 ·have : (List.range 2).all (fun _ => true) = true := rfl
  simp only [this, cond_true, Option.bind_some, sane_KK]
 ·unfold L04_HeatShown.b0
  rfl
 ·have hd0 : decide ((0 : Int) < 2) = true := by decide
  have hd1 : decide ((1 : Int) < 2) = true := by decide
  unfold L04_HeatShown.b0
  have hrest : ∀ high : Bool, ∃ pf by1, heat_Prove KK f q high = some (pf, 0) ∧ proofCode f q high (bif high then (rngX (nf f) q.toNat).Hi else (rngX (nf f) q.toNat).Lo) pf = 0 ∧ heat_Rests KK f pf = some (by1, 0) ∧
    ∀ s, s ∈ allSrc f → s ∉ by1 → bif high then (rngX (nf (woF f s)) q.toNat).Hi = (rngX (nf f) q.toNat).Hi else (rngX (nf (woF f s)) q.toNat).Lo = (rngX (nf f) q.toNat).Lo := by
   intro high
   obtain ⟨pf, k1, k2, k3⟩ := heat_Prove_eq f hs hw q high
   rw [hask] at k1
   have k4 := k3 hask
   have hnm : named f pf ∧ pf.By.length ≤ 6 := by
    have k5 := k4
    unfold proofCode at k5
    simp only [hm.c, hin, decide_true, Bool.not_true, cond_false] at k5
    cases high with
    | true =>
     simp only [cond_true] at k5
     cases hp : showHigh f q.toNat pf with
     | none => rw [hp] at k5; cases k5
     | some m => exact showHigh_named hok hp
    | false =>
     simp only [cond_false] at k5
     cases hp : showLow f q.toNat pf with
     | none => rw [hp] at k5; cases k5
     | some m => exact showLow_named hok hp
   obtain ⟨by1, r1, r2⟩ := rests_named hm.c hnm.1
   refine ⟨pf, by1, k1, k4, by rw [heat_Rests_eq f hs pf (by omega), r1], fun s hsrc hsb => ?_⟩
   have hg : askCode (woF f s) q = 0 := askCode_of (woF_code hm.c s) (woF_sound hS s) m2 m3
   have hsub : (nf (woF f s)).fur.Sub (nf f).fur := nf_sub rfl (fun r hr => (List.mem_filter.1 hr).1)
   obtain ⟨b1, b2⟩ := rng_sub hg hask hsub
   obtain ⟨c1, c2⟩ := rng_isBound (woF f s) q hg
   have k5 := k4
   unfold proofCode at k5
   simp only [hm.c, hin, decide_true, Bool.not_true, cond_false] at k5
   cases high with
   | true =>
    simp only [cond_true] at k5 ⊢
    cases hp : showHigh f q.toNat pf with
    | none => rw [hp] at k5; cases k5
    | some m =>
     rw [hp] at k5
     simp only at k5
     by_cases hlt : (rngX (nf f) q.toNat).Hi < m
     ·rw [if_pos hlt] at k5; cases k5
     ·have hnr : ∀ i, (i = pf.Reading ∨ i ∈ pf.By) → ∀ y, hiAt f i = some y → lp y ∈ (nf (woF f s)).fur.M := by
       by_cases hr2 : pf.Reading = -2
       ·exfalso
        unfold showHigh at hp
        rw [if_neg (by omega)] at hp
        have : hiAt f pf.Reading = none := by unfold hiAt; rw [if_neg (by omega)]
        rw [this] at hp; cases hp
       ·exact fun i hi => (r2 s hsb hr2 i hi).1
      have := showHigh_sound2 hok (g := woF f s) rfl hnr hp ((c2 _).1 (Int.le_refl _))
      omega
   | false =>
    simp only [cond_false] at k5 ⊢
    cases hp : showLow f q.toNat pf with
    | none => rw [hp] at k5; cases k5
    | some o =>
     obtain ⟨m, hm1, hm2⟩ := showLow_sound2 hok (g := woF f s) rfl (fun hr2 i hi => r2 s hsb hr2 i hi) hp ((c1 _).1 (Int.le_refl _))
     subst hm1
     rw [hp] at k5
     simp only at k5
     by_cases hlt : m < (rngX (nf f) q.toNat).Lo
     ·rw [if_pos hlt] at k5; cases k5
     ·omega
  have hsrc : ∀ c : Int, ∃ s, (allSrc f).length = 0 ∨ (R01_Mod KK c ((allSrc f).length : Int) = some s ∧ ∃ v, at? (allSrc f) s = some v ∧ v ∈ allSrc f) := by
   intro c
   by_cases h0 : (allSrc f).length = 0
   ·exact ⟨0, .inl h0⟩
   ·obtain ⟨v, n1, n2, n3⟩ := R01_Mod_eq c (m := ((allSrc f).length : Int)) (by omega) (by omega)
    refine ⟨v, .inr ⟨n1, _, at_getD 0 n2 n3, getD_mem 0 (by omega)⟩⟩
  obtain ⟨s, hs0⟩ := hsrc a2.x1
  rcases (by omega : i = 0 ∨ i = 1) with rfl | rfl
  ·obtain ⟨pf, by1, k1, k2, k3, k4⟩ := hrest false
   simp only [cond_false] at k2
   simp only [hd0, cond_true, Int.natCast_zero, show decide ((0 : Int) = 1) = false by decide, cond_false, k1, k3, Option.bind_some, decide_true, heat_CheckProof_eq f hs, k2, Bool.not_true]
   rcases hs0 with h0 | ⟨h1, v, h2, h3⟩
   ·simp only [h0, Int.natCast_zero, decide_true, Bool.not_true, cond_false]
   ·have h0 : ¬ (((allSrc f).length : Int) = 0) := by
     have := List.length_pos_of_mem h3; omega
    have hby : by1.length ≤ Go.maxLen := by
     have hx := heat_Rests_eq f hs pf
     have : (restsR f pf) = (by1, 0) := by
      have hp6 : pf.By.length ≤ 1073741824 := by
       have k5 := k2
       unfold proofCode at k5
       simp only [hm.c, hin, decide_true, Bool.not_true, cond_false] at k5
       cases hp : showLow f q.toNat pf with
       | none => rw [hp] at k5; cases k5
       | some o => have := (showLow_named hok hp).2; omega
      have := hx hp6
      rw [k3] at this
      exact (Option.some.inj this).symm
     have h5 := restsR_len f pf
     rw [this] at h5
     have hp6 : pf.By.length ≤ 6 := by
      have k5 := k2
      unfold proofCode at k5
      simp only [hm.c, hin, decide_true, Bool.not_true, cond_false] at k5
      cases hp : showLow f q.toNat pf with
      | none => rw [hp] at k5; cases k5
      | some o => exact (showLow_named hok hp).2
     simp only at h5
     unfold Go.maxLen; omega
    simp only [h0, decide_false, Bool.not_false, cond_true, h1, h2, Option.bind_some, R01_Has_eq by1 v hby]
    by_cases hv : v ∈ by1
    ·simp only [hv, decide_true, cond_true]
    ·have hg : askCode (woF f v) q = 0 := askCode_of (woF_code hm.c v) (woF_sound hS v) m2 m3
     have hwo := firing_ok (woF_code hm.c v)
     have := k4 v h3 hv
     simp only [cond_false] at this
     simp only [hv, decide_false, cond_false, heat_Without_eq f hs, withoutR_of hm.c h3, heat_Bound_rng (woF f v) (firing_s hwo) (firing_w hwo), bndR_of hg, Option.bind_some, decide_true, cond_true, this]
  ·obtain ⟨pf, by1, k1, k2, k3, k4⟩ := hrest true
   simp only [cond_true] at k2
   have hii : ((1 : Nat) : Int) = 1 := rfl
   simp only [hd1, cond_true, hii, decide_true, k1, k3, Option.bind_some, heat_CheckProof_eq f hs, k2, Bool.not_true, cond_false]
   rcases hs0 with h0 | ⟨h1, v, h2, h3⟩
   ·simp only [h0, Int.natCast_zero, decide_true, Bool.not_true, cond_false]
   ·have h0 : ¬ (((allSrc f).length : Int) = 0) := by
     have := List.length_pos_of_mem h3; omega
    have hp6 : pf.By.length ≤ 6 := by
     have k5 := k2
     unfold proofCode at k5
     simp only [hm.c, hin, decide_true, Bool.not_true, cond_false, cond_true] at k5
     cases hp : showHigh f q.toNat pf with
     | none => rw [hp] at k5; cases k5
     | some o => exact (showHigh_named hok hp).2
    have hby : by1.length ≤ Go.maxLen := by
     have := heat_Rests_eq f hs pf (by omega)
     rw [k3] at this
     have h6 := (Option.some.inj this).symm
     have h5 := restsR_len f pf
     rw [h6] at h5
     simp only at h5
     unfold Go.maxLen; omega
    simp only [h0, decide_false, Bool.not_false, cond_true, h1, h2, Option.bind_some, R01_Has_eq by1 v hby]
    by_cases hv : v ∈ by1
    ·simp only [hv, decide_true, cond_true]
    ·have hg : askCode (woF f v) q = 0 := askCode_of (woF_code hm.c v) (woF_sound hS v) m2 m3
     have hwo := firing_ok (woF_code hm.c v)
     have := k4 v h3 hv
     simp only [cond_true] at this
     simp only [hv, decide_false, cond_false, heat_Without_eq f hs, withoutR_of hm.c h3, heat_Bound_rng (woF f v) (firing_s hwo) (firing_w hwo), bndR_of hg, Option.bind_some, decide_true, cond_true, this, show decide ((1 : Int) = 0) = false by decide, Bool.not_true]
end Go.Abs
namespace Go.Proofs.Ytafmgcbfmifaeaa.heatShown
open Go.Abs
theorem plain (a0 : Go.Abs.R04_Raw) (a1 : Go.Abs.HeatProof) (a2 : (A2 Int)) : Go.Abs.R04_Raw.q a0 → Go.Abs.HeatProof.q a1 → (fun x : (A2 Int) => i64ok x.x0 ∧ i64ok x.x1) a2 → ∃ k, L04_HeatShown k a0 a1 a2 = some true := by
 intro q0 _ _; exact ⟨_, heatShown_plain a0 a1 a2 q0⟩
end Go.Proofs.Ytafmgcbfmifaeaa.heatShown
namespace Go.Proofs.Ytafmgcbfmifaeaa.heatShown
open Go.ChangeShapes Go.WideShapes Go.ChangeAt Go.RowKit Go.Abs
set_option maxRecDepth 100000
theorem own : ownKnob Try.prog.godebug = none := by kernel_rfl
theorem contract (H : Type) (enc : TypeId × Value → H) (W : World) (base : Nat) (args : Array Value) (ds gs : List (DataW H)) (before : List MemPlace)
  (hval : ∀ (j : Nat) t v, Try.f9.params[j]? = some t → args[j]? = some v → Value.okWide Try.prog W .any base t v)
  (hW : DataW.Whole enc Try.prog Try.f9.params.toList Rows.heatShownSpec.vars false W args.toList ds gs before) (hsz0 : (DataW.weightsEach Try.prog (Try.f9.params.toList ++ Rows.heatShownSpec.plain.varTypes Try.prog) (ds ++ gs)).all (· ≤ reachBytes) = true) :
  Calls Try.prog 9 args W fun e W' => ∃ v, e = .returned v ∧ Rows.heatShownSpec.post enc Try.prog Try.f9 false true false false W args v W' := by
 have hW' := hW
 obtain ⟨p, q, hA0, hV, rfl, hfz, hnd⟩ := hW
 have hA : DataW.TrodAll enc Try.prog W 0 (fun _ => true) true Try.f9.params.toList args.toList ds p := hA0
 rw [Try.params9] at hA hval
 obtain ⟨v0, vs0, d0, ds0, p0, q0, hargs, rfl, rfl, h0, r0⟩ := trodAll_cons hA
 obtain ⟨v1, vs1, d1, ds1, p1, q1, rfl, rfl, rfl, h1, r1⟩ := trodAll_cons r0
 obtain ⟨v2, vs2, d2, ds2, p2, q2, rfl, rfl, rfl, h2, r2⟩ := trodAll_cons r1
 obtain ⟨rfl, rfl, rfl⟩ := trodAll_nil r2
 have hsz : ∀ (j : Nat) t d, Try.f9.params.toList[j]? = some t → [d0, d1, d2][j]? = some d → ∀ n ∈ d.weights Try.prog t, n ≤ reachBytes := weights_of (by rw [Try.params9]; rfl) hsz0
 rw [Try.params9] at hsz
 obtain rfl : args = #[v0, v1, v2] := by cases args; simp_all
 obtain ⟨a0, Q0, V0⟩ := arg_agg reads_26 (by have h := hval 0 26 v0 rfl rfl; unfold Value.okWide at h; rw [Try.underlying26] at h; obtain ⟨cs, h, _⟩ := h; exact ⟨cs, h⟩) h0 (hsz 0 26 d0 rfl rfl)
 obtain ⟨a1, Q1, V1⟩ := arg_agg reads_51 (by have h := hval 1 51 v1 rfl rfl; unfold Value.okWide at h; rw [Try.underlying51] at h; obtain ⟨cs, h, _⟩ := h; exact ⟨cs, h⟩) h1 (hsz 1 51 d1 rfl rfl)
 obtain ⟨a2, Q2, V2⟩ := arg_agg reads_52 (by have h := hval 2 52 v2 rfl rfl; unfold Value.okWide at h; rw [Try.underlying52] at h; obtain ⟨cs, h, _⟩ := h; exact ⟨cs, h⟩) h2 (hsz 2 52 d2 rfl rfl)
 obtain ⟨k, hk⟩ := plain a0 a1 a2 Q0 Q1 Q2
 have hv : VRs (fmAll W) [] [.agg (Go.Abs.R04_Raw.c a0), .agg (Go.Abs.HeatProof.c a1), .agg ((A2.c eI) a2)] [v0, v1, v2] := ⟨rfl, fun i x v h1 h2 => by
  match i with
  | 0 => cases h1; cases h2; exact V0
  | 1 => cases h1; cases h2; exact V1
  | 2 => cases h1; cases h2; exact V2
  | i + 3 => simp at h1⟩
 refine Calls.mono ((L04_HeatShown_ok k a0 a1 a2 true hk).2 (fmAll W) W _ (fun _ _ _ h => h) hv) ?_
 rintro e W1 ⟨v, y, fm1, rfl, rfl, _, hvr, _, hB⟩
 cases hvr
 exact ⟨_, rfl, law_post (t := 4) (by kernel_rfl) (by kernel_rfl) (by kernel_rfl) hW' rfl hB (by rw [Try.params9]; decide +kernel) rfl Try.underlying4 (by obtain ⟨rfl, _⟩ := trodVars_none hV; rfl)⟩
theorem lifted (os : Os) (started : os.Started) (H : Type) (enc : TypeId × Value → H) :
  ReturnsInHanded {} Try.checked os 9 .any (Rows.heatShownSpec.pre6 enc Try.prog Try.f9 Rows.heatShownRow.domain false) (Rows.heatShownSpec.post enc Try.prog Try.f9 false true false false) := by
 refine returnsInHanded_of_change_sized (C := Try.checked) own started (by kernel_rfl) Try.func9
  (ChangeSpec.witness6 (enc := enc) (C := Try.checked) false ⟨#[], #[.agg #[.int .i64 0, .int .i64 0, .slice none 0 0, .slice none 0 0, .slice none 0 0], .agg #[.int .i64 0, .slice none 0 0], .agg #[.int .i64 0, .int .i64 0]], []⟩ 8 (by kernel_rfl) (by kernel_rfl) (by kernel_rfl) (by kernel_rfl)) ?_
 intro W base args ds gs before hval0 hW hcnd hsz _
 exact contract H enc W base args ds gs before hval0 hW hsz
theorem over : Rows.heatShownRow.holds Try.pinned (OpenSpec.ofChange Rows.heatShownSpec) :=
 OpenClaim.holds_of_wide 9 Try.f9 rfl rfl rfl rfl rfl rfl rfl ⟨rfl, rfl, rfl, rfl, rfl⟩ rfl rfl rfl rfl rfl (by kernel_rfl) Try.func9 (by kernel_rfl)
  (of_decide_eq_true (by kernel_rfl)) (by unfold Func.isWrapper; first | (rw [if_pos (by decide +kernel)]; kernel_rfl) | (rw [if_neg (by decide +kernel)]; exact ⟨rfl, rfl⟩))
  (fun os started H enc _ => lifted os started H enc)
theorem proved : Rows.HeatShownSaid := over
end Go.Proofs.Ytafmgcbfmifaeaa.heatShown
