/-
  Part 6 of the proof: a machine over named blocks, what each function computes, and what follows. No condition.
-/
import Derived.Test.YtafmgcbfmifaeaaRows
import Derived.WalkKit
import Derived.ProofKit
import Derived.OpenShut
import Derived.JoinedCond
import Derived.Test.YtafmgcbfmifaeaaHNarrowsE
set_option linter.unusedVariables false
set_option linter.unusedSimpArgs false
set_option linter.all false
set_option maxRecDepth 20000
set_option maxHeartbeats 8000000
namespace Go.Abs
open Go
set_option linter.unusedVariables false
def shownP (x : heat_furnace) (y : heat_limit) (q : Nat) (n : Int) : Prop :=
 (∃ j, j < x.Firing.Kiln.Falls.length ∧ y.heat + x.fur.lo j y.place.toNat ≤ x.fur.U j) ∧ ∀ t, n ≤ t ↔ ∃ j, j < x.Firing.Kiln.Falls.length ∧ y.heat + x.fur.lo j y.place.toNat ≤ x.fur.U j ∧ y.heat + x.fur.lo j y.place.toNat - x.fur.hi j q ≤ t
theorem heat_shownLow_eq {x : heat_furnace} (h : x.ok) {y : heat_limit} (hy : limOk x.Firing.Kiln.P y) {q : Nat} (hq : q < x.Firing.Kiln.P) :
  ∃ r, heat_furnace_shownLow KK x y (q : Int) = some r ∧ (r.2 = true ↔ ∃ j, j < x.Firing.Kiln.Falls.length ∧ y.heat + x.fur.lo j y.place.toNat ≤ x.fur.U j) ∧ (r.2 = true → shownP x y q r.1) := by
 have hk := kilnB_len h.k
 obtain ⟨y1, y2, y3, y4⟩ := hy
 unfold heat_furnace_shownLow
 obtain ⟨h1, h2⟩ := whl_foldN (n := x.Firing.Kiln.Falls.length) (body := heat_furnace_shownLow.b0 KK x y (q : Int)) (k := KK) (fun i (s : Int × Bool) => (s.1, s.2, i))
  (fun s j => bif decide (y.heat + x.fur.lo j y.place.toNat ≤ x.fur.U j) then (bif s.2 then (bif decide (y.heat + x.fur.lo j y.place.toNat - x.fur.hi j q < s.1) then (y.heat + x.fur.lo j y.place.toNat - x.fur.hi j q, true) else s) else (y.heat + x.fur.lo j y.place.toNat - x.fur.hi j q, true)) else s)
  (fun i s => (s.2 = true ↔ ∃ j, j < i ∧ y.heat + x.fur.lo j y.place.toNat ≤ x.fur.U j) ∧ (s.2 = true → ∀ t, s.1 ≤ t ↔ ∃ j, j < i ∧ y.heat + x.fur.lo j y.place.toNat ≤ x.fur.U j ∧ y.heat + x.fur.lo j y.place.toNat - x.fur.hi j q ≤ t)) (s0 := (0, false)) (by omega) (by unfold KK; omega) ⟨by simp, by simp⟩ (fun j s hj hI => by
   have g1 := kilnB_at h.k j q
   have g2 := kilnB_at h.k j y.place.toNat
   have g3 : x.fur.hi j q = (x.Firing.Kiln.at j q).Hi := rfl
   have g4 : x.fur.lo j y.place.toNat = (x.Firing.Kiln.at j y.place.toNat).Lo := rfl
   obtain ⟨s1, s2⟩ := s
   obtain ⟨I1, I2⟩ := hI
   simp only at I1 I2
   refine ⟨?_, ?_⟩
   ·unfold heat_furnace_shownLow.b0
    simp only [lt_dec hj, cond_true, at_row h.k hj, at_cell h.k hj y1 y2, at_cellN h.k hj hq, heat_hottest_eq h hj, hot_U, Option.bind_some, g3, g4]
    rw [w64_of (n := y.heat + (x.Firing.Kiln.at j y.place.toNat).Lo) (by omega) (by omega), w64_of (n := y.heat + (x.Firing.Kiln.at j y.place.toNat).Lo - (x.Firing.Kiln.at j q).Hi) (by omega) (by omega)]
    cases decide (y.heat + (x.Firing.Kiln.at j y.place.toNat).Lo ≤ x.fur.U j) <;> cases s2 <;> cases decide (y.heat + (x.Firing.Kiln.at j y.place.toNat).Lo - (x.Firing.Kiln.at j q).Hi < s1) <;> rfl
   ·by_cases hc : y.heat + x.fur.lo j y.place.toNat ≤ x.fur.U j
    ·simp only [hc, decide_true, cond_true]
     cases s2 with
     | false =>
      simp only [cond_false]
      refine ⟨⟨fun _ => ⟨j, by omega, hc⟩, fun _ => trivial⟩, fun _ t => ⟨fun k => ⟨j, by omega, hc, k⟩, ?_⟩⟩
      rintro ⟨i, k1, k2, k3⟩
      by_cases hij : i = j
      ·subst hij; exact k3
      ·have := I1.2 ⟨i, by omega, k2⟩; cases this
     | true =>
      have I3 := I2 rfl
      simp only [cond_true]
      by_cases hd : y.heat + x.fur.lo j y.place.toNat - x.fur.hi j q < s1
      ·simp only [hd, decide_true, cond_true]
       refine ⟨⟨fun _ => ⟨j, by omega, hc⟩, fun _ => trivial⟩, fun _ t => ⟨fun k => ⟨j, by omega, hc, k⟩, ?_⟩⟩
       rintro ⟨i, k1, k2, k3⟩
       by_cases hij : i = j
       ·subst hij; exact k3
       ·have := (I3 t).2 ⟨i, by omega, k2, k3⟩
        omega
      ·simp only [hd, decide_false, cond_false]
       refine ⟨⟨fun _ => ⟨j, by omega, hc⟩, fun _ => trivial⟩, fun _ t => ⟨fun k => ?_, ?_⟩⟩
       ·obtain ⟨i, k1, k2⟩ := (I3 t).1 k
        exact ⟨i, by omega, k2⟩
       ·rintro ⟨i, k1, k2, k3⟩
        by_cases hij : i = j
        ·subst hij; omega
        ·exact (I3 t).2 ⟨i, by omega, k2, k3⟩
    ·simp only [hc, decide_false, cond_false]
     refine ⟨?_, fun k t => ?_⟩
     ·rw [I1]
      constructor
      ·rintro ⟨i, k1, k2⟩; exact ⟨i, by omega, k2⟩
      ·rintro ⟨i, k1, k2⟩
       by_cases hij : i = j
       ·subst hij; exact absurd k2 hc
       ·exact ⟨i, by omega, k2⟩
     ·rw [I2 k t]
      constructor
      ·rintro ⟨i, k1, k2⟩; exact ⟨i, by omega, k2⟩
      ·rintro ⟨i, k1, k2, k3⟩
       by_cases hij : i = j
       ·subst hij; exact absurd k2 hc
       ·exact ⟨i, by omega, k2, k3⟩) (fun s _ => by
   unfold heat_furnace_shownLow.b0
   simp only [lt_dec_self]; rfl)
 rw [h1]
 exact ⟨_, rfl, h2.1, fun k => ⟨h2.1.1 k, h2.2 k⟩⟩
def cannotL (x : heat_furnace) (y : heat_limit) : List Int := (List.range x.Firing.Kiln.Falls.length).map fun j => bif decide (y.heat + x.fur.lo j y.place.toNat ≤ x.fur.U j) then -1 else bif decide (3000 < y.heat + x.fur.lo j y.place.toNat) then -2 else (hot x j).2
theorem heat_cannot_eq {x : heat_furnace} (h : x.ok) {y : heat_limit} (hy : limOk x.Firing.Kiln.P y) : heat_furnace_cannot KK x y = some (cannotL x y) := by
 have hk := kilnB_len h.k
 obtain ⟨y1, y2, y3, y4⟩ := hy
 unfold heat_furnace_cannot
 have h1 := (whl_foldN (n := x.Firing.Kiln.Falls.length) (body := heat_furnace_cannot.b0 KK x y) (k := KK) (fun i s => (i, s)) (fun s j => s ++ [bif decide (y.heat + x.fur.lo j y.place.toNat ≤ x.fur.U j) then -1 else bif decide (3000 < y.heat + x.fur.lo j y.place.toNat) then -2 else (hot x j).2]) (fun i s => s.length = i) (s0 := []) (by omega) (by unfold KK; omega) rfl ?_ ?_).1
 ·rw [h1, foldl_pushN]; rfl
 ·intro j s hj hI
  refine ⟨?_, by simp [hI]⟩
  have g2 := kilnB_at h.k j y.place.toNat
  have g4 : x.fur.lo j y.place.toNat = (x.Firing.Kiln.at j y.place.toNat).Lo := rfl
  unfold heat_furnace_cannot.b0
  simp only [lt_dec hj, cond_true, at_row h.k hj, at_cell h.k hj y1 y2, heat_hottest_eq h hj, hot_U, Option.bind_some, g4]
  rw [w64_of (n := y.heat + (x.Firing.Kiln.at j y.place.toNat).Lo) (by omega) (by omega)]
  cases decide (y.heat + (x.Firing.Kiln.at j y.place.toNat).Lo ≤ x.fur.U j) with
  | true => simp only [cond_true]; rw [push_of (by omega) (by omega)]; rfl
  | false =>
   cases decide ((3000 : Int) < y.heat + (x.Firing.Kiln.at j y.place.toNat).Lo) with
   | true => simp only [cond_true, cond_false]; rw [push_of (by omega) (by omega)]; rfl
   | false => simp only [cond_false]; rw [push_of (by omega) (by omega)]; rfl
 ·intro s _
  unfold heat_furnace_cannot.b0
  simp only [lt_dec_self]; rfl
def LowPf (x : heat_furnace) (q : Nat) (n : Int) (p : HeatProof) : Prop :=
 (∃ j : Nat, j < x.Firing.Kiln.Falls.length ∧ p = ⟨-2, [(j : Int)]⟩ ∧ n = -x.fur.hi j q) ∨
 (∃ y ∈ x.least, y.place = (q : Int) ∧ p = ⟨y.by_, []⟩ ∧ n = y.heat) ∨
 ∃ y ∈ x.least, y.place ≠ (q : Int) ∧ p = ⟨y.by_, cannotL x y⟩ ∧ shownP x y q n
theorem heat_lowest_eq {x : heat_furnace} (h : x.ok) (hs : x.fur.Sound) {q : Nat} (hq : q < x.Firing.Kiln.P) :
  ∃ n p, heat_furnace_lowest KK x (q : Int) = some (n, p) ∧ (∀ t, n ≤ t ↔ x.fur.Low q t) ∧ LowPf x q n p := by
 have hk := kilnB_len h.k
 have hll := h.ll
 have hm : x.fur.m = x.Firing.Kiln.Falls.length - 1 := rfl
 unfold heat_furnace_lowest
 obtain ⟨h1, h2⟩ := whl_foldN (n := x.Firing.Kiln.Falls.length) (body := heat_furnace_lowest.b0 KK x (q : Int)) (k := KK) (fun i (s : Int × Int × List Int) => (s.1, i, s.2.1, s.2.2))
  (fun s j => bif !decide ((j : Int) = 0) then (bif decide (s.1 < 0 - x.fur.hi j q) then (0 - x.fur.hi j q, -2, [(j : Int)]) else s) else (0 - x.fur.hi j q, -2, [(j : Int)]))
  (fun i s => (i = 0 ∨ (∀ t, s.1 ≤ t ↔ ∀ j, j < i → -x.fur.hi j q ≤ t) ∧ ∃ j : Nat, j < i ∧ s = (-x.fur.hi j q, -2, [(j : Int)]))) (s0 := (-3000, 0, [])) (by omega) (by unfold KK; omega) (.inl rfl) (fun j s hj hI => by
   have g1 := kilnB_at h.k j q
   have g3 : x.fur.hi j q = (x.Firing.Kiln.at j q).Hi := rfl
   obtain ⟨s1, s2, s3⟩ := s
   refine ⟨?_, .inr ?_⟩
   ·unfold heat_furnace_lowest.b0
    simp only [lt_dec hj, cond_true, at_row h.k hj, at_cellN h.k hj hq, Option.bind_some, g3]
    rw [w64_of (n := 0 - (x.Firing.Kiln.at j q).Hi) (by omega) (by omega)]
    cases decide ((j : Int) = 0) <;> cases decide (s1 < 0 - (x.Firing.Kiln.at j q).Hi) <;> rfl
   ·have e0 : (0 : Int) - x.fur.hi j q = -x.fur.hi j q := by omega
    by_cases hj0 : j = 0
    ·subst hj0
     simp only [Int.natCast_zero, decide_true, Bool.not_true, cond_false, e0]
     refine ⟨fun t => ⟨fun k i hi => ?_, fun k => k 0 (by omega)⟩, 0, by omega, rfl⟩
     have : i = 0 := by omega
     subst this; exact k
    ·have hj1 : ¬ ((j : Int) = 0) := by omega
     simp only [hj1, decide_false, Bool.not_false, cond_true, e0]
     rcases hI with hI | ⟨I1, i, I2, I3⟩
     ·exact absurd hI hj0
     ·simp only at I1
      by_cases hc : s1 < -x.fur.hi j q
      ·simp only [hc, decide_true, cond_true]
       refine ⟨fun t => ⟨fun k i hi => ?_, fun k => k j (by omega)⟩, j, by omega, rfl⟩
       by_cases hij : i = j
       ·subst hij; exact k
       ·exact (I1 t).1 (by omega) i (by omega)
      ·simp only [hc, decide_false, cond_false]
       refine ⟨fun t => ⟨fun k i hi => ?_, fun k => (I1 t).2 fun i hi => k i (by omega)⟩, i, by omega, I3⟩
       by_cases hij : i = j
       ·subst hij; omega
       ·exact (I1 t).1 k i (by omega)) (fun s _ => by
   unfold heat_furnace_lowest.b0
   simp only [lt_dec_self]; rfl)
 rw [h1]
 rcases h2 with h2 | ⟨h2, j0, h3, h4⟩
 ·omega
 rw [h4] at h2
 rw [h4]
 simp only [Option.bind_some]
 simp only at h2
 have hw := whl_ok (body := heat_furnace_lowest.b1 KK x (q : Int))
  (fun t => ∃ (i : Nat) (p : HeatProof) (n : Int), t = (p, n, (i : Int)) ∧ i ≤ x.least.length ∧ LowPf x q n p ∧ ∀ t, n ≤ t ↔ (∀ j, j < x.Firing.Kiln.Falls.length → -x.fur.hi j q ≤ t) ∧ ∀ y ∈ x.least.take i, if y.place = (q : Int) then y.heat ≤ t else ∃ j, j < x.Firing.Kiln.Falls.length ∧ y.heat + x.fur.lo j y.place.toNat ≤ x.fur.U j ∧ y.heat + x.fur.lo j y.place.toNat - x.fur.hi j q ≤ t)
  (fun r => ∃ (p : HeatProof) (n : Int), r = .brk (p, n) ∧ LowPf x q n p ∧ ∀ t, n ≤ t ↔ (∀ j, j < x.Firing.Kiln.Falls.length → -x.fur.hi j q ≤ t) ∧ ∀ y ∈ x.least, if y.place = (q : Int) then y.heat ≤ t else ∃ j, j < x.Firing.Kiln.Falls.length ∧ y.heat + x.fur.lo j y.place.toNat ≤ x.fur.U j ∧ y.heat + x.fur.lo j y.place.toNat - x.fur.hi j q ≤ t)
  (fun t => x.least.length - t.2.2.toNat) ?_ KK (⟨-2, [(j0 : Int)]⟩, -x.fur.hi j0 q, 0) ⟨0, _, _, rfl, Nat.zero_le _, .inl ⟨j0, h3, rfl, rfl⟩, fun t => by rw [h2 t]; simp⟩ (by unfold KK; simp only; omega)
 ·obtain ⟨r, k1, ⟨p, n, k2, k3, k4⟩, _⟩ := hw
  rw [k1, k2]
  refine ⟨n, p, rfl, fun t => ?_, k3⟩
  rw [k4 t]
  unfold Fur.Low
  constructor
  ·rintro ⟨m1, m2⟩
   refine ⟨fun j hj => m1 j (by omega), fun z hz e => ?_, fun z hz e => ?_⟩
   ·obtain ⟨y, hy, rfl⟩ := List.mem_map.1 hz
    have := m2 y hy
    have hp := h.l y hy
    have e2 : y.place = (q : Int) := by have e' : y.place.toNat = q := e; have := hp.1; omega
    rw [if_pos e2] at this
    exact this
   ·obtain ⟨y, hy, rfl⟩ := List.mem_map.1 hz
    have := m2 y hy
    have hp := h.l y hy
    have e2 : ¬ y.place = (q : Int) := by intro e2; apply e; show y.place.toNat = q; omega
    rw [if_neg e2] at this
    obtain ⟨j, m3, m4⟩ := this
    exact ⟨j, by omega, m4⟩
  ·rintro ⟨m1, m2, m3⟩
   refine ⟨fun j hj => m1 j (by omega), fun y hy => ?_⟩
   have hp := h.l y hy
   by_cases e2 : y.place = (q : Int)
   ·rw [if_pos e2]
    exact m2 (lp y) (List.mem_map.2 ⟨y, hy, rfl⟩) (by show y.place.toNat = q; omega)
   ·rw [if_neg e2]
    obtain ⟨j, m4, m5⟩ := m3 (lp y) (List.mem_map.2 ⟨y, hy, rfl⟩) (by intro e'; have e'' : y.place.toNat = q := e'; have := hp.1; omega)
    exact ⟨j, by omega, m5⟩
 ·rintro t ⟨i, p, n, rfl, g1, g2, g3⟩
  by_cases hi : i = x.least.length
  ·right; left
   refine ⟨(p, n), ?_, p, n, rfl, g2, fun t => by rw [g3 t, hi, List.take_length]⟩
   unfold heat_furnace_lowest.b1
   simp only [hi, lt_dec_self]; rfl
  ·left
   have hx : x.least[i]? = some x.least[i] := List.getElem?_eq_getElem (by omega)
   generalize x.least[i] = y at hx
   have hym : y ∈ x.least := List.mem_of_getElem? hx
   have hy := h.l y hym
   have hwi : w64 ((i : Int) + 1) = ((i + 1 : Nat) : Int) := w64_succ (n := x.least.length) (by omega) (by omega)
   have hbody : heat_furnace_lowest.b1 KK x (q : Int) (p, n, (i : Int)) = bif decide (y.place = (q : Int)) then (bif decide (n < y.heat) then some (.next ((⟨y.by_, []⟩ : HeatProof), y.heat, ((i + 1 : Nat) : Int))) else some (.next (p, n, ((i + 1 : Nat) : Int)))) else
     (heat_furnace_shownLow KK x y (q : Int)).bind fun r => bif r.2 then (bif decide (n < r.1) then some (.next ((⟨y.by_, cannotL x y⟩ : HeatProof), r.1, ((i + 1 : Nat) : Int))) else some (.next (p, n, ((i + 1 : Nat) : Int)))) else some (.next (p, n, ((i + 1 : Nat) : Int))) := by
    unfold heat_furnace_lowest.b1
    simp only [lt_dec (show i < x.least.length by omega), cond_true, at_of hx, Option.bind_some, heat_cannot_eq h hy, hwi]
   have fin : ∀ (p' : HeatProof) (n' : Int), LowPf x q n' p' → (∀ t, n' ≤ t ↔ n ≤ t ∧ if y.place = (q : Int) then y.heat ≤ t else ∃ j, j < x.Firing.Kiln.Falls.length ∧ y.heat + x.fur.lo j y.place.toNat ≤ x.fur.U j ∧ y.heat + x.fur.lo j y.place.toNat - x.fur.hi j q ≤ t) →
     ∃ (i' : Nat) (p'' : HeatProof) (n'' : Int), ((p', n', ((i + 1 : Nat) : Int)) : HeatProof × Int × Int) = (p'', n'', (i' : Int)) ∧ i' ≤ x.least.length ∧ LowPf x q n'' p'' ∧ ∀ t, n'' ≤ t ↔ (∀ j, j < x.Firing.Kiln.Falls.length → -x.fur.hi j q ≤ t) ∧ ∀ y ∈ x.least.take i', if y.place = (q : Int) then y.heat ≤ t else ∃ j, j < x.Firing.Kiln.Falls.length ∧ y.heat + x.fur.lo j y.place.toNat ≤ x.fur.U j ∧ y.heat + x.fur.lo j y.place.toNat - x.fur.hi j q ≤ t := by
    intro p' n' k1 k2
    refine ⟨i + 1, p', n', rfl, by omega, k1, fun t => ?_⟩
    rw [k2 t, g3 t, take_succ_of hx]
    constructor
    ·rintro ⟨⟨m1, m2⟩, m3⟩
     refine ⟨m1, fun z hz => ?_⟩
     rcases List.mem_append.1 hz with hz | hz
     ·exact m2 z hz
     ·simp only [List.mem_singleton] at hz; subst hz; exact m3
    ·rintro ⟨m1, m2⟩
     exact ⟨⟨m1, fun z hz => m2 z (List.mem_append.2 (.inl hz))⟩, m2 y (List.mem_append.2 (.inr (by simp)))⟩
   have hmeas : ∀ (p' : HeatProof) (n' : Int), x.least.length - ((p', n', ((i + 1 : Nat) : Int)) : HeatProof × Int × Int).2.2.toNat < x.least.length - ((p, n, (i : Int)) : HeatProof × Int × Int).2.2.toNat := by intro p' n'; simp only [Int.toNat_natCast]; omega
   by_cases e2 : y.place = (q : Int)
   ·by_cases hc : n < y.heat
    ·refine ⟨_, by rw [hbody]; simp only [e2, hc, decide_true, cond_true], fin _ _ (.inr (.inl ⟨y, hym, e2, rfl, rfl⟩)) fun t => ?_, hmeas _ _⟩
     rw [if_pos e2]; omega
    ·refine ⟨_, by rw [hbody]; simp only [e2, hc, decide_true, decide_false, cond_true, cond_false], fin _ _ g2 fun t => ?_, hmeas _ _⟩
     rw [if_pos e2]; omega
   ·obtain ⟨r, r1, r2, r3⟩ := heat_shownLow_eq h hy hq
    have hreach : r.2 = true := by
     rw [r2]
     obtain ⟨_, j, k1, k2⟩ := hs.2 (lp y) (List.mem_map.2 ⟨y, hym, rfl⟩)
     exact ⟨j, by omega, k2⟩
    obtain ⟨r4, r5⟩ := r3 hreach
    by_cases hc : n < r.1
    ·refine ⟨_, by rw [hbody, r1]; simp only [e2, hc, hreach, decide_true, decide_false, cond_true, cond_false, Option.bind_some], fin _ _ (.inr (.inr ⟨y, hym, e2, rfl, r4, r5⟩)) fun t => ?_, hmeas _ _⟩
     rw [if_neg e2, ← r5 t]; omega
    ·refine ⟨_, by rw [hbody, r1]; simp only [e2, hc, hreach, decide_true, decide_false, cond_true, cond_false, Option.bind_some], fin _ _ g2 fun t => ?_, hmeas _ _⟩
     rw [if_neg e2, ← r5 t]; omega
def HighPf (x : heat_furnace) (q : Nat) (n : Int) (p : HeatProof) : Prop :=
 (∃ y ∈ x.most, y.place = (q : Int) ∧ p = ⟨y.by_, []⟩ ∧ n = y.heat) ∨
 (p = ⟨-1, (List.range x.Firing.Kiln.Falls.length).map fun j => (hot x j).2⟩ ∧ ∀ t, t ≤ n ↔ ∃ j, j < x.Firing.Kiln.Falls.length ∧ t + x.fur.lo j q ≤ x.fur.U j)
theorem heat_highest_eq {x : heat_furnace} (h : x.ok) (hs : x.fur.Sound) {q : Nat} (hq : q < x.Firing.Kiln.P) :
  ∃ n p, heat_furnace_highest KK x (q : Int) = some (n, p) ∧ (∀ t, t ≤ n ↔ x.fur.High q t) ∧ HighPf x q n p := by
 have hk := kilnB_len h.k
 have hm : x.fur.m = x.Firing.Kiln.Falls.length - 1 := rfl
 unfold heat_furnace_highest
 obtain ⟨h1, h2⟩ := whl_foldN (n := x.Firing.Kiln.Falls.length) (body := heat_furnace_highest.b0 KK x (q : Int)) (k := KK) (fun i (s : Int × List Int) => (s.1, i, s.2))
  (fun s j => (max s.1 (x.fur.U j - x.fur.lo j q), s.2 ++ [(hot x j).2]))
  (fun i s => s.2 = (List.range i).map (fun j => (hot x j).2) ∧ ∀ t, t ≤ s.1 ↔ t ≤ -3000 ∨ ∃ j, j < i ∧ t + x.fur.lo j q ≤ x.fur.U j) (s0 := (-3000, [])) (by omega) (by unfold KK; omega) ⟨rfl, by intro t; simp⟩ (fun j s hj hI => by
   have g1 := kilnB_at h.k j q
   have g2 := U_ge h j
   have g4 : x.fur.lo j q = (x.Firing.Kiln.at j q).Lo := rfl
   have hlen : s.2.length = j := by rw [hI.1]; simp
   refine ⟨?_, ?_, fun t => ?_⟩
   ·unfold heat_furnace_highest.b0
    simp only [lt_dec hj, cond_true, at_row h.k hj, at_cellN h.k hj hq, heat_hottest_eq h hj, hot_U, Option.bind_some, g4]
    rw [w64_of (n := x.fur.U j - (x.Firing.Kiln.at j q).Lo) (by omega) (by omega), push_of (by omega) (by omega)]
    rfl
   ·rw [hI.1, List.range_succ, List.map_append]; rfl
   ·show t ≤ max _ _ ↔ _
    rw [show ∀ a b : Int, t ≤ max a b ↔ t ≤ a ∨ t ≤ b by intro a b; omega, hI.2 t]
    constructor
    ·rintro ((k1 | ⟨i, k1, k2⟩) | k1)
     ·exact .inl k1
     ·exact .inr ⟨i, by omega, k2⟩
     ·exact .inr ⟨j, by omega, by omega⟩
    ·rintro (k1 | ⟨i, k1, k2⟩)
     ·exact .inl (.inl k1)
     ·by_cases hij : i = j
      ·subst hij; exact .inr (by omega)
      ·exact .inl (.inr ⟨i, by omega, k2⟩)) (fun s _ => by
   unfold heat_furnace_highest.b0
   simp only [lt_dec_self]; rfl)
 rw [h1]
 generalize (List.range x.Firing.Kiln.Falls.length).foldl (fun (s : Int × List Int) j => (max s.1 (x.fur.U j - x.fur.lo j q), s.2 ++ [(hot x j).2])) (-3000, []) = s at h2
 obtain ⟨n, l⟩ := s
 obtain ⟨h3, h4⟩ := h2
 simp only at h3 h4
 subst h3
 have h5 : ∀ t, t ≤ n ↔ ∃ j, j < x.Firing.Kiln.Falls.length ∧ t + x.fur.lo j q ≤ x.fur.U j := by
  intro t
  rw [h4]
  refine ⟨?_, .inr⟩
  rintro (k | k)
  ·refine ⟨0, by omega, ?_⟩
   have a1 := hs.1 0 (Nat.zero_le _)
   have a2 := kilnB_at h.k 0 q
   have a3 : x.fur.lo 0 q = (x.Firing.Kiln.at 0 q).Lo := rfl
   omega
  ·exact k
 have hb := bestL_some x.most q (fun y hy => (h.m y hy).1)
 have hH : ∀ t, x.fur.High q t ↔ t ≤ n ∧ ∀ y ∈ x.fur.M, y.1 = q → t ≤ y.2 := by
  intro t
  unfold Fur.High
  rw [h5 t]
  constructor
  ·rintro ⟨⟨j, k1, k2⟩, k3⟩; exact ⟨⟨j, by omega, k2⟩, k3⟩
  ·rintro ⟨⟨j, k1, k2⟩, k3⟩; exact ⟨⟨j, by omega, k2⟩, k3⟩
 simp only [Option.bind_some, heat_best_eq _ h.ml]
 cases hb2 : (bestL x.most (q : Int)).2 with
 | false =>
  rw [hb2] at hb
  have hb3 := (Fur.best_iff _ _).1.1 hb
  refine ⟨n, _, rfl, fun t => ?_, .inr ⟨rfl, h5⟩⟩
  rw [hH t]
  exact ⟨fun k => ⟨k, fun y hy e => absurd e (hb3 y hy)⟩, fun k => k.1⟩
 | true =>
  rw [hb2] at hb
  have hb3 := ((Fur.best_iff _ _).2 _ hb).1
  obtain ⟨hb4, hb5⟩ := bestL_mem _ _ hb2
  have hH2 : ∀ t, x.fur.High q t ↔ t ≤ n ∧ t ≤ (bestL x.most (q : Int)).1.heat := by intro t; rw [hH t, hb3 t]; rfl
  simp only [cond_true]
  by_cases hc : (bestL x.most (q : Int)).1.heat ≤ n
  ·simp only [hc, decide_true, cond_true]
   refine ⟨_, _, rfl, fun t => ?_, .inl ⟨_, hb4, hb5, rfl, rfl⟩⟩
   rw [hH2 t]; omega
  ·simp only [hc, decide_false, cond_false]
   refine ⟨_, _, rfl, fun t => ?_, .inr ⟨rfl, h5⟩⟩
   rw [hH2 t]; omega
theorem heat_bound_eq {x : heat_furnace} (h : x.ok) (hs : x.fur.Sound) {q : Nat} (hq : q < x.Firing.Kiln.P) :
  ∃ r, heat_furnace_bound KK x (q : Int) = some r ∧ (∀ t, r.Lo ≤ t ↔ x.fur.Low q t) ∧ ∀ t, t ≤ r.Hi ↔ x.fur.High q t := by
 obtain ⟨n1, p1, a1, a2, _⟩ := heat_lowest_eq h hs hq
 obtain ⟨n2, p2, b1, b2, _⟩ := heat_highest_eq h hs hq
 unfold heat_furnace_bound
 rw [a1, b1]
 exact ⟨_, rfl, a2, b2⟩
theorem bound_same {f : Fur} {q : Nat} {r s : Range} (h1 : ∀ t, r.Lo ≤ t ↔ f.Low q t) (h2 : ∀ t, t ≤ r.Hi ↔ f.High q t) (h3 : ∀ t, s.Lo ≤ t ↔ f.Low q t) (h4 : ∀ t, t ≤ s.Hi ↔ f.High q t) : r = s := by
 have e1 : r.Lo = s.Lo := eq_of_ge_iff fun t => by rw [h1, h3]
 have e2 : r.Hi = s.Hi := eq_of_le_iff fun t => by rw [h2, h4]
 cases r; cases s; simp only at e1 e2; rw [e1, e2]
end Go.Abs
namespace Go.Abs
open Go
set_option linter.unusedVariables false
def Field.u (x : Field) (j : Nat) : Int := x.Mouths.getD j 0
def Field.d (x : Field) (j p : Nat) : Int := (x.Falls.getD j []).getD p 0
def Field.ht (x : Field) (m p : Nat) : Int := mx (fun j => x.u j - x.d j p) m
def rowB (k : Kiln) (x : Field) (j : Nat) : Bool := inB (x.u j) 0 3000 && (decide ((x.Falls.getD j []).length = (k.Falls.getD j []).length) && (List.range (k.Falls.getD j []).length).all fun p => inB (x.d j p) (k.at j p).Lo (k.at j p).Hi)
def fieldB (k : Kiln) (x : Field) : Bool := decide (x.Mouths.length = k.Falls.length) && (decide (x.Falls.length = k.Falls.length) && (List.range k.Falls.length).all (rowB k x))
theorem heat_isField_eq {k : Kiln} (h : kilnB k = true) (x : Field) : heat_isField KK k x = some (fieldB k x) := by
 have hk := kilnB_len h
 unfold heat_isField fieldB
 simp only [len_dec]
 by_cases h1 : x.Mouths.length = k.Falls.length
 ·by_cases h2 : x.Falls.length = k.Falls.length
  ·simp only [h1, h2, decide_true, Bool.not_true, cond_true, cond_false, Bool.true_and]
   rw [whl_allN (n := k.Falls.length) (p := rowB k x) (c := false) (by omega) (by unfold KK; omega) (fun j hj => by
    unfold heat_isField.b0 rowB
    have hr := kilnB_row h hj
    simp only [lt_dec hj, cond_true, at_row h hj, at_nat (0 : Int) (show j < x.Mouths.length by omega), at_nat ([] : List Int) (show j < x.Falls.length by omega), Option.bind_some, heat_in_eq, len_dec]
    show (bif inB (x.u j) 0 3000 then _ else _) = _
    cases inB (x.u j) 0 3000 with
    | false => rfl
    | true =>
     by_cases h3 : (x.Falls.getD j []).length = (k.Falls.getD j []).length
     ·simp only [h3, decide_true, Bool.not_true, cond_true, cond_false, Bool.true_and]
      rw [whl_allN (n := (k.Falls.getD j []).length) (p := fun p => inB (x.d j p) (k.at j p).Lo (k.at j p).Hi) (c := false) (by omega) (by unfold KK; omega) (fun p hp => by
       unfold heat_isField.b1
       simp only [lt_dec hp, cond_true, at_nat R0 hp, at_nat (0 : Int) (show p < (x.Falls.getD j []).length by omega), Option.bind_some, heat_in_eq]
       show (bif !inB (x.d j p) (k.at j p).Lo (k.at j p).Hi then _ else _) = _
       cases inB (x.d j p) (k.at j p).Lo (k.at j p).Hi <;> rfl) (by
       unfold heat_isField.b1
       rw [lt_dec_self]; rfl)]
      cases (List.range (k.Falls.getD j []).length).all fun p => inB (x.d j p) (k.at j p).Lo (k.at j p).Hi <;> rfl
     ·simp only [h3, decide_false, Bool.not_false, cond_true, Bool.false_and, Bool.and_false, cond_false]) (by
    unfold heat_isField.b0
    rw [lt_dec_self]; rfl)]
   cases (List.range k.Falls.length).all (rowB k x) <;> rfl
  ·simp [h1, h2]
 ·simp [h1]
structure FieldOk (k : Kiln) (x : Field) : Prop where
 kv : kilnB k = true
 m : x.Mouths.length = k.Falls.length
 f : x.Falls.length = k.Falls.length
 row : ∀ j, j < k.Falls.length → (x.Falls.getD j []).length = k.P
 u : ∀ j, j < k.Falls.length → 0 ≤ x.u j ∧ x.u j ≤ 3000
 d : ∀ j p, j < k.Falls.length → (k.at j p).Lo ≤ x.d j p ∧ x.d j p ≤ (k.at j p).Hi
theorem fieldB_iff {k : Kiln} (h : kilnB k = true) (x : Field) : fieldB k x = true ↔ FieldOk k x := by
 unfold fieldB
 simp only [Bool.and_eq_true, decide_eq_true_eq, List.all_eq_true, List.mem_range, rowB, inB]
 constructor
 ·rintro ⟨h1, h2, h3⟩
  refine ⟨h, h1, h2, fun j hj => by rw [(h3 j hj).2.1, kilnB_row h hj], fun j hj => (h3 j hj).1, fun j p hj => ?_⟩
  obtain ⟨_, h4, h5⟩ := h3 j hj
  by_cases hp : p < (k.Falls.getD j []).length
  ·exact h5 p hp
  ·unfold Field.d Kiln.at
   rw [getD_none (by omega), getD_none (by omega)]
   exact ⟨Int.le_refl _, Int.le_refl _⟩
 ·intro g
  exact ⟨g.m, g.f, fun j hj => ⟨g.u j hj, by rw [g.row j hj, kilnB_row h hj], fun p _ => g.d j p hj⟩⟩
theorem FieldOk.isField {k : Kiln} {x : Field} (h : FieldOk k x) {f : Fur} (hm : f.m = k.Falls.length - 1) (hlo : ∀ j p, f.lo j p = (k.at j p).Lo) (hhi : ∀ j p, f.hi j p = (k.at j p).Hi) : f.IsField x.u x.d := by
 have hk := kilnB_len h.kv
 intro j hj
 have h1 := h.u j (by omega)
 refine ⟨h1.1, h1.2, fun p => ?_⟩
 rw [hlo, hhi]; exact h.d j p (by omega)
theorem FieldOk.bounds {k : Kiln} {x : Field} (h : FieldOk k x) {j : Nat} (p : Nat) (hj : j < k.Falls.length) : -3000 ≤ x.u j - x.d j p ∧ x.u j - x.d j p ≤ 3000 := by
 have h1 := h.u j hj
 have h2 := h.d j p hj
 have h3 := kilnB_at h.kv j p
 omega
theorem FieldOk.ht {k : Kiln} {x : Field} (h : FieldOk k x) (p : Nat) : -3000 ≤ x.ht (k.Falls.length - 1) p ∧ x.ht (k.Falls.length - 1) p ≤ 3000 := by
 have hk := kilnB_len h.kv
 unfold Field.ht
 rw [mx_le_iff, le_mx_iff]
 exact ⟨⟨0, Nat.zero_le _, (h.bounds p (by omega)).1⟩, fun j hj => (h.bounds p (by omega)).2⟩
def heatsL (k : Kiln) (x : Field) : List Int := (List.range k.P).map (x.ht (k.Falls.length - 1))
theorem heat_heats_eq {k : Kiln} {x : Field} (h : FieldOk k x) : heat_heats KK x = some (heatsL k x) := by
 have hk := kilnB_len h.kv
 have hm := h.m
 have hf := h.f
 have hr0 := h.row 0 (by omega)
 unfold heat_heats
 have e0 : at? x.Falls (0 : Int) = some (x.Falls.getD 0 []) := at_nat [] (l := x.Falls) (i := 0) (by omega)
 rw [e0]
 simp only [Option.bind_some]
 have h1 := (whl_foldN (n := (x.Falls.getD 0 []).length) (body := heat_heats.b0 KK x (x.Falls.getD 0 [])) (k := KK) (fun i s => (i, s)) (fun s p => s ++ [x.ht (k.Falls.length - 1) p]) (fun i s => s.length = i) (s0 := []) (by omega) (by unfold KK; omega) rfl ?_ ?_).1
 ·rw [h1, foldl_pushN, hr0]; rfl
 ·intro p s hp hI
  refine ⟨?_, by simp [hI]⟩
  unfold heat_heats.b0
  have e1 : at? x.Mouths (0 : Int) = some (x.u 0) := at_nat 0 (l := x.Mouths) (i := 0) (by omega)
  have e2 : at? (x.Falls.getD 0 []) (p : Int) = some (x.d 0 p) := at_nat 0 hp
  have hb0 := h.bounds p (show 0 < k.Falls.length by omega)
  simp only [lt_dec hp, cond_true, e1, e2, Option.bind_some]
  obtain ⟨h2, h3⟩ := whl_foldN (n := k.Falls.length) (body := heat_heats.b1 KK x (p : Int)) (k := KK) (fun i s => (s, i)) (fun s j => max s (x.u j - x.d j p)) (fun i s => ∀ t, t ≤ s ↔ t ≤ x.u 0 - x.d 0 p ∨ ∃ j, j < i ∧ t ≤ x.u j - x.d j p) (s0 := w64 (x.u 0 - x.d 0 p)) (by omega) (by unfold KK; omega) (by intro t; rw [w64_of (by omega) (by omega)]; simp) (fun j s hj hI2 => by
   have hb := h.bounds p hj
   have hr := h.row j hj
   have e3 : at? x.Mouths (j : Int) = some (x.u j) := at_nat 0 (by omega)
   have e4 : at? (x.Falls.getD j []) (p : Int) = some (x.d j p) := at_nat 0 (by omega)
   refine ⟨?_, fun t => ?_⟩
   ·unfold heat_heats.b1
    simp only [hm, lt_dec hj, cond_true, e3, e4, at_nat ([] : List Int) (show j < x.Falls.length by omega), Option.bind_some]
    rw [w64_of (n := x.u j - x.d j p) (by omega) (by omega)]
   ·rw [show ∀ a b : Int, t ≤ max a b ↔ t ≤ a ∨ t ≤ b by intro a b; omega, hI2 t]
    constructor
    ·rintro ((k1 | ⟨i, k1, k2⟩) | k1)
     ·exact .inl k1
     ·exact .inr ⟨i, by omega, k2⟩
     ·exact .inr ⟨j, by omega, by omega⟩
    ·rintro (k1 | ⟨i, k1, k2⟩)
     ·exact .inl (.inl k1)
     ·by_cases hij : i = j
      ·subst hij; exact .inr (by omega)
      ·exact .inl (.inr ⟨i, by omega, k2⟩)) (fun s _ => by
   unfold heat_heats.b1
   simp only [hm, lt_dec_self]; rfl)
  rw [h2]
  have : (List.range k.Falls.length).foldl (fun s j => max s (x.u j - x.d j p)) (w64 (x.u 0 - x.d 0 p)) = x.ht (k.Falls.length - 1) p := by
   refine eq_of_le_iff fun t => ?_
   unfold Field.ht
   rw [h3 t, le_mx_iff]
   constructor
   ·rintro (k1 | ⟨j, k1, k2⟩)
    ·exact ⟨0, Nat.zero_le _, k1⟩
    ·exact ⟨j, by omega, k2⟩
   ·rintro ⟨j, k1, k2⟩; exact .inr ⟨j, by omega, k2⟩
  rw [this]
  simp only [Option.bind_some]
  rw [push_of (by omega) (by omega)]
  rfl
 ·intro s _
  unfold heat_heats.b0
  simp only [lt_dec_self]; rfl
theorem R04_heat_eq {k : Kiln} {x : Field} (h : FieldOk k x) {p : Nat} (hp : p < k.P) : R04_heat KK x (p : Int) = some (x.ht (k.Falls.length - 1) p) := by
 have hk := kilnB_len h.kv
 have hm := h.m
 have hf := h.f
 have hr0 := h.row 0 (by omega)
 unfold R04_heat
 have e0 : at? x.Falls (0 : Int) = some (x.Falls.getD 0 []) := at_nat [] (l := x.Falls) (i := 0) (by omega)
 have e1 : at? x.Mouths (0 : Int) = some (x.u 0) := at_nat 0 (l := x.Mouths) (i := 0) (by omega)
 have e2 : at? (x.Falls.getD 0 []) (p : Int) = some (x.d 0 p) := at_nat 0 (by omega)
 have hb0 := h.bounds p (show 0 < k.Falls.length by omega)
 simp only [e0, e1, e2, Option.bind_some]
 rw [w64_of (by omega) (by omega)]
 have hw := whl_ok (body := R04_heat.b0 KK x (p : Int))
  (fun t => ∃ (i : Nat) (s : Int), t = (s, ((i + 1 : Nat) : Int)) ∧ i + 1 ≤ k.Falls.length ∧ s = x.ht i p)
  (fun r => r = .brk (x.ht (k.Falls.length - 1) p)) (fun t => k.Falls.length - t.2.toNat) ?_ KK (x.u 0 - x.d 0 p, 1) ⟨0, _, rfl, by omega, rfl⟩ (by unfold KK; simp only; omega)
 ·obtain ⟨r, k1, k2, _⟩ := hw
  rw [k1, k2]; rfl
 ·rintro t ⟨i, s, rfl, g1, g2⟩
  by_cases hi : i + 1 = k.Falls.length
  ·right; left
   refine ⟨s, ?_, by rw [g2]; congr 2; omega⟩
   unfold R04_heat.b0
   simp only [hm, hi, lt_dec_self]; rfl
  ·left
   have hj : i + 1 < k.Falls.length := by omega
   have hb := h.bounds p hj
   have hr := h.row _ hj
   have e3 : at? x.Mouths ((i + 1 : Nat) : Int) = some (x.u (i + 1)) := at_nat 0 (by omega)
   have e4 : at? (x.Falls.getD (i + 1) []) (p : Int) = some (x.d (i + 1) p) := at_nat 0 (by omega)
   refine ⟨(max s (x.u (i + 1) - x.d (i + 1) p), ((i + 1 + 1 : Nat) : Int)), ?_, ⟨i + 1, _, rfl, hj, by rw [g2]; rfl⟩, by simp only [Int.toNat_natCast]; omega⟩
   unfold R04_heat.b0
   simp only [hm, lt_dec hj, cond_true, e3, e4, at_nat ([] : List Int) (show i + 1 < x.Falls.length by omega), Option.bind_some]
   rw [w64_of (n := x.u (i + 1) - x.d (i + 1) p) (by omega) (by omega), w64_succ (n := k.Falls.length) hj (by omega)]
def heatsR (k : Kiln) (x : Field) : List Int × Int := bif !kilnB k then ([], 40) else bif !fieldB k x then ([], 45) else (heatsL k x, 0)
theorem heat_Heats_eq (k : Kiln) (q : Kiln.s k) (x : Field) : heat_Heats KK k x = some (heatsR k x) := by
 unfold heat_Heats heatsR
 rw [heat_CheckKiln_eq k q]
 cases h : kilnB k with
 | false => rfl
 | true =>
  simp only [Option.bind_some, cond_true, decide_true, Bool.not_true, cond_false, heat_isField_eq h]
  cases h2 : fieldB k x with
  | false => rfl
  | true => simp only [Bool.not_true, cond_false, heat_heats_eq ((fieldB_iff h x).1 h2)]; rfl
def rdAg (h : Int) (r : Reading) : Bool := !((lo? r).isSome && decide (h < (lo? r).getD 0)) && !((hi? r).isSome && decide ((hi? r).getD 0 < h))
def agB (f : Firing) (x : Field) : Bool := f.Readings.all fun r => rdAg (x.ht (f.Kiln.Falls.length - 1) r.Place.toNat) r
theorem agB_iff {f : Firing} (h : f.ok) (x : Field) : agB f x = true ↔ (nf f).fur.Agrees x.u x.d := by
 unfold agB Fur.Agrees
 rw [List.all_eq_true]
 have hh : ∀ p, (nf f).fur.heat x.u x.d p = x.ht (f.Kiln.Falls.length - 1) p := fun p => rfl
 have hr : ∀ (n : Int) r, rdAg n r = true ↔ (∀ a, lo? r = some a → a ≤ n) ∧ ∀ b, hi? r = some b → n ≤ b := by
  intro n r
  unfold rdAg
  cases lo? r <;> cases hi? r <;> simp
 constructor
 ·intro g
  refine ⟨fun z hz => ?_, fun z hz => ?_⟩
  ·obtain ⟨r, h1, h2, h3⟩ := limsOf_lp.1 hz
   rw [hh, ← h3]
   exact ((hr _ _).1 (g r h1)).1 _ h2
  ·obtain ⟨r, h1, h2, h3⟩ := limsOf_lp.1 hz
   rw [hh, ← h3]
   exact ((hr _ _).1 (g r h1)).2 _ h2
 ·rintro ⟨g1, g2⟩ r hr'
  rw [hr]
  exact ⟨fun a ha => g1 (r.Place.toNat, a) (limsOf_lp.2 ⟨r, hr', ha, rfl⟩), fun b hb => g2 (r.Place.toNat, b) (limsOf_lp.2 ⟨r, hr', hb, rfl⟩)⟩
end Go.Abs
namespace Go.Abs
open Go
set_option linter.unusedVariables false
def Firing.w (f : Firing) : Prop := f.Readings.length * 24 + 24 ≤ 140737488355328
theorem Firing.q.w {f : Firing} (q : Firing.q f) : Firing.w f := by
 have := q.2.2.1
 have := qB_le
 unfold Firing.w; omega
theorem firing_w {f : Firing} (h : f.ok) : Firing.w f := by have := h.l; unfold Firing.w; omega
theorem firing_s {f : Firing} (h : f.ok) : Firing.s f := by
 obtain ⟨s1, s2, s3⟩ := kilnB_small h.k
 have := h.l
 exact ⟨⟨by unfold Go.maxLen; omega, fun x hx => by rw [s3 x hx]; unfold Go.maxLen; omega⟩, by unfold Go.maxLen; omega⟩
def noFur : heat_furnace := ⟨⟨⟨[]⟩, []⟩, [], []⟩
def askCode (f : Firing) (p : Int) : Int := bif !decide (firingCode f = 0) then 42 else bif !inB p 0 ((f.Kiln.P : Int) - 1) then 43 else bif !soundB (nf f) then 44 else 0
theorem heat_asks_eq (f : Firing) (q : Firing.s f) (w : Firing.w f) (p : Int) : heat_asks KK f p = some (bif decide (askCode f p = 0) then (nf f, 0) else (noFur, askCode f p)) := by
 unfold heat_asks askCode
 rw [heat_newFurnace_eq f w, heat_Check_eq f q]
 simp only [Option.bind_some]
 by_cases h : firingCode f = 0
 ·have hok := firing_ok h
  have hk := kilnB_len hok.k
  obtain ⟨x3, g1, g2, g3⟩ := kilnB_head hok.k
  have hP : x3.length = f.Kiln.P := by unfold Kiln.P; rw [g3]
  simp only [h, decide_true, Bool.not_true, cond_false, g2, Option.bind_some, heat_in_eq, hP, heat_sound_eq (nf_ok hok)]
  rw [w64_of (n := (f.Kiln.P : Int) - 1) (by omega) (by omega)]
  cases inB p 0 ((f.Kiln.P : Int) - 1) with
  | false => rfl
  | true => cases soundB (nf f) <;> rfl
 ·simp only [h, decide_false, Bool.not_false, cond_true]
  rfl
theorem askCode_ok {f : Firing} {p : Int} (h : askCode f p = 0) : firingCode f = 0 ∧ f.ok ∧ 0 ≤ p ∧ p < f.Kiln.P ∧ (nf f).fur.Sound ∧ soundB (nf f) = true := by
 unfold askCode at h
 by_cases hc : firingCode f = 0
 ·have hok := firing_ok hc
  simp only [hc, decide_true, Bool.not_true, cond_false] at h
  cases hi : inB p 0 ((f.Kiln.P : Int) - 1) with
  | false => rw [hi] at h; simp at h
  | true =>
   rw [hi] at h
   cases hs : soundB (nf f) with
   | false => rw [hs] at h; simp at h
   | true =>
    simp only [inB, Bool.and_eq_true, decide_eq_true_eq] at hi
    exact ⟨hc, hok, hi.1, by omega, (soundB_iff (nf_ok hok)).1 hs, rfl⟩
 ·simp [hc] at h
def boundR (f : Firing) (p : Int) (r : Range) : Range × Int := bif decide (askCode f p = 0) then (r, 0) else (⟨0, 0⟩, askCode f p)
def IsBound (f : Firing) (p : Int) (r : Range) : Prop := askCode f p = 0 → (∀ t, r.Lo ≤ t ↔ (nf f).fur.Low p.toNat t) ∧ ∀ t, t ≤ r.Hi ↔ (nf f).fur.High p.toNat t
theorem heat_Bound_eq (f : Firing) (q : Firing.s f) (w : Firing.w f) (p : Int) : ∃ r, IsBound f p r ∧ heat_Bound KK f p = some (boundR f p r) := by
 unfold heat_Bound boundR
 rw [heat_asks_eq f q w]
 simp only [Option.bind_some]
 by_cases h : askCode f p = 0
 ·obtain ⟨h1, h2, h3, h4, h5, h6⟩ := askCode_ok h
  have hpl : ((p.toNat : Nat) : Int) = p := by omega
  obtain ⟨r, e1, e2, e3⟩ := heat_bound_eq (nf_ok h2) h5 (q := p.toNat) (by show p.toNat < f.Kiln.P; omega)
  rw [hpl] at e1
  simp only [h, decide_true, cond_true, Bool.not_true, cond_false, e1, Option.bind_some]
  exact ⟨r, fun _ => ⟨e2, e3⟩, rfl⟩
 ·simp only [h, decide_false, cond_false, Bool.not_false, cond_true]
  exact ⟨⟨0, 0⟩, fun k => absurd k h, trivial⟩
theorem IsBound.one {f : Firing} {p : Int} {r s : Range} (h1 : IsBound f p r) (h2 : IsBound f p s) : boundR f p r = boundR f p s := by
 unfold boundR
 by_cases h : askCode f p = 0
 ·have a := h1 h
  have b := h2 h
  rw [bound_same a.1 a.2 b.1 b.2]
 ·simp only [h, decide_false, cond_false]
end Go.Abs
namespace Go.Abs
open Go
set_option linter.unusedVariables false
def rngX (x : heat_furnace) (q : Nat) : Range := (heat_furnace_bound KK x (q : Int)).getD ⟨0, 0⟩
theorem rngX_spec {x : heat_furnace} (h : x.ok) (hs : x.fur.Sound) {q : Nat} (hq : q < x.Firing.Kiln.P) :
  heat_furnace_bound KK x (q : Int) = some (rngX x q) ∧ (∀ t, (rngX x q).Lo ≤ t ↔ x.fur.Low q t) ∧ ∀ t, t ≤ (rngX x q).Hi ↔ x.fur.High q t := by
 obtain ⟨r, e1, e2, e3⟩ := heat_bound_eq h hs hq
 have : rngX x q = r := by unfold rngX; rw [e1]; rfl
 rw [this]; exact ⟨e1, e2, e3⟩
def ringOf (w : Want) : Reading := ⟨1, w.Place, 3, 0, w.Heat⟩
def wf (f : Firing) (l : List Want) : Firing := ⟨f.Kiln, f.Readings ++ l.map ringOf⟩
end Go.Abs
namespace Go.Abs
open Go
set_option linter.unusedVariables false
def allSrc (f : Firing) : List Int := usort (f.Readings.map fun r => r.Source)
theorem allSrc_len (f : Firing) : (allSrc f).length ≤ f.Readings.length := by
 have := usort_len (f.Readings.map fun r => r.Source)
 simpa [allSrc] using this
end Go.Abs
namespace Go.Abs
open Go
set_option linter.unusedVariables false
end Go.Abs
namespace Go.Abs
open Go
end Go.Abs
namespace Go.Abs
open Go
set_option linter.unusedVariables false
end Go.Abs
namespace Go.Abs
open Go
set_option linter.unusedVariables false
def bndR (f : Firing) (p : Int) : Range × Int := bif decide (askCode f p = 0) then (rngX (nf f) p.toNat, 0) else (⟨0, 0⟩, askCode f p)
theorem rng_isBound (f : Firing) (p : Int) : IsBound f p (rngX (nf f) p.toNat) := by
 intro h
 obtain ⟨h1, h2, h3, h4, h5, h6⟩ := askCode_ok h
 exact (rngX_spec (nf_ok h2) h5 (q := p.toNat) (by show p.toNat < f.Kiln.P; omega)).2
theorem heat_Bound_rng (f : Firing) (q : Firing.s f) (w : Firing.w f) (p : Int) : heat_Bound KK f p = some (bndR f p) := by
 obtain ⟨r, h1, h2⟩ := heat_Bound_eq f q w p
 rw [h2, h1.one (rng_isBound f p)]; rfl
theorem agree_facts {f : Firing} (h : f.ok) {x : Field} (hF : FieldOk f.Kiln x) (ha : agB f x = true) :
  (nf f).fur.Sound ∧ ∀ p, (nf f).fur.High p (x.ht (f.Kiln.Falls.length - 1) p) ∧ (nf f).fur.Low p (x.ht (f.Kiln.Falls.length - 1) p) := by
 have hA := (agB_iff h x).1 ha
 have hI : (nf f).fur.IsField x.u x.d := hF.isField rfl (fun _ _ => rfl) (fun _ _ => rfl)
 exact ⟨hA.sound hI, fun p => ⟨hA.high hI p, hA.low hI p⟩⟩
theorem Fur.High.mono {f : Fur} {q : Nat} {s t : Int} (h : f.High q t) (hst : s ≤ t) : f.High q s := by
 obtain ⟨⟨j, h1, h2⟩, h3⟩ := h
 exact ⟨⟨j, h1, by omega⟩, fun y hy e => by have := h3 y hy e; omega⟩
theorem Fur.sub_sound {f g : Fur} (hm : g.m = f.m) (hlo : g.lo = f.lo) (hhi : g.hi = f.hi) (hL : ∀ x ∈ g.L, x ∈ f.L) (hM : ∀ x ∈ g.M, x ∈ f.M) (hs : f.Sound) : g.Sound ∧ ∀ j, f.U j ≤ g.U j := by
 have hU : ∀ j, f.U j ≤ g.U j := by
  intro j
  rw [Fur.U_iff]
  refine ⟨f.U_le j, fun x hx => ?_⟩
  rw [hhi]
  exact f.U_lim j (hM x hx)
 refine ⟨⟨fun j hj => ?_, fun x hx => ⟨fun y hy e => (hs.2 x (hL x hx)).1 y (hM y hy) e, ?_⟩⟩, hU⟩
 ·have := hs.1 j (by omega)
  have := hU j
  omega
 ·obtain ⟨j, h1, h2⟩ := (hs.2 x (hL x hx)).2
  have := hU j
  exact ⟨j, by omega, by rw [hlo]; omega⟩
theorem sub_sound {f g : Firing} (hk : g.Kiln = f.Kiln) (hr : ∀ r ∈ g.Readings, r ∈ f.Readings) (hs : (nf f).fur.Sound) : (nf g).fur.Sound := by
 refine (Fur.sub_sound (f := (nf f).fur) (g := (nf g).fur) ?_ ?_ ?_ ?_ ?_ hs).1
 ·show g.Kiln.Falls.length - 1 = f.Kiln.Falls.length - 1; rw [hk]
 ·show (fun j p => (g.Kiln.at j p).Lo) = fun j p => (f.Kiln.at j p).Lo; rw [hk]
 ·show (fun j p => (g.Kiln.at j p).Hi) = fun j p => (f.Kiln.at j p).Hi; rw [hk]
 ·intro z hz
  obtain ⟨r, h1, h2⟩ := limsOf_lp.1 hz
  exact limsOf_lp.2 ⟨r, hr r h1, h2⟩
 ·intro z hz
  obtain ⟨r, h1, h2⟩ := limsOf_lp.1 hz
  exact limsOf_lp.2 ⟨r, hr r h1, h2⟩
def woF (f : Firing) (s : Int) : Firing := ⟨f.Kiln, f.Readings.filter fun r => !decide (r.Source = s)⟩
theorem woF_ok {f : Firing} (h : f.ok) (s : Int) : (woF f s).ok := by
 have := List.length_filter_le (fun r : Reading => !decide (r.Source = s)) f.Readings
 have h2 := h.l
 exact ⟨h.k, by show (f.Readings.filter _).length ≤ 100; omega, fun r hr => h.r r (List.mem_filter.1 hr).1⟩
theorem woF_sound {f : Firing} (hs : (nf f).fur.Sound) (s : Int) : (nf (woF f s)).fur.Sound := sub_sound (f := f) (g := woF f s) rfl (fun r hr => (List.mem_filter.1 hr).1) hs
def samB (r s : Range) : Bool := decide (r.Lo = s.Lo) && decide (r.Hi = s.Hi)
def movL (f : Firing) (q : Nat) : List Int := (allSrc f).filter fun s => !samB (rngX (nf (woF f s)) q) (rngX (nf f) q)
def movR (f : Firing) (p : Int) : List Int × Int := bif decide (askCode f p = 0) then (movL f p.toNat, 0) else ([], askCode f p)
theorem heat_sources_o_eq (l : List Reading) : heat_sources_o KK l = heat_sources KK l := rfl
theorem index_int {l : List Int} (hl : l.length ≤ 100000) {f : Int → Option Bool} {p : Int → Bool} (hf : ∀ x ∈ l, f x = some (p x)) : slices_IndexFunc_int KK l f = some (match l.findIdx? p with | some i => (i : Int) | none => -1) := by
 unfold slices_IndexFunc_int
 rw [indexFunc_gen (body := slices_IndexFunc_int.b0 KK f l) (p := p) hf (by omega) (by unfold KK; omega) rfl]
 cases l.findIdx? p <;> rfl
theorem deleteFunc_int_eq (l : List Int) (hl : l.length ≤ 10000) {f : Int → Option Bool} {p : Int → Bool} (hf : ∀ x ∈ l, f x = some (p x)) : slices_DeleteFunc_int KK l f = some (l.filter fun x => !p x) := by
 unfold slices_DeleteFunc_int
 rw [index_int (by omega) hf]
 cases hi : l.findIdx? p with
 | none =>
  simp only [Option.bind_some, decide_true, cond_true, Option.some.injEq]
  rw [List.findIdx?_eq_none_iff] at hi
  exact (List.filter_eq_self.2 fun x hx => by simp [hi x hx]).symm
 | some a =>
  rw [List.findIdx?_eq_some_iff_getElem] at hi
  obtain ⟨ha, hpa, hbef⟩ := hi
  have hne : ¬ ((a : Int) = -1) := by omega
  simp only [Option.bind_some, hne, decide_false, cond_false]
  have d0 : w64 ((a : Int) + 1) = ((a + 1 : Nat) : Int) := by rw [w64_of (by omega) (by omega)]; omega
  rw [d0]
  have h := whl_ok (body := slices_DeleteFunc_int.b0 KK f)
   (fun t => ∃ (w j : Nat) (m : List Int), t = ((w : Int), (j : Int), m) ∧ m.length = l.length ∧ w + 1 ≤ j ∧ j ≤ l.length ∧ (∀ i, j ≤ i → m[i]? = l[i]?) ∧ m.take w = (l.take j).filter fun x => !p x)
   (fun r => ∃ (w : Nat) (m : List Int), r = .brk ((w : Int), m) ∧ w ≤ m.length ∧ m.take w = l.filter fun x => !p x)
   (fun t => l.length - t.2.1.toNat) ?_ KK ((a : Int), ((a + 1 : Nat) : Int), l) ⟨a, a + 1, l, rfl, rfl, Nat.le_refl _, by omega, fun _ _ => rfl, ?_⟩ (by unfold KK; omega)
  ·obtain ⟨r, h1, ⟨w, m, h2, h3, h4⟩, _⟩ := h
   rw [h1, h2]
   simp only [Option.bind_some, ls_of h3, hs_of h3, Int.toNat_natCast, clr_take m w _ _ h3, h4]
  ·rintro t ⟨w, j, m, rfl, g1, g2, g3, g4, g5⟩
   by_cases hj : j = l.length
   ·right; left
    refine ⟨((w : Int), m), ?_, w, m, rfl, by omega, ?_⟩
    ·unfold slices_DeleteFunc_int.b0
     have : decide ((j : Int) < ((m.length : Nat) : Int)) = false := by rw [g1, hj]; exact lt_dec_self _
     simp only [this, cond_false]
    ·rw [g5, hj, List.take_length]
   ·left
    obtain ⟨y, hy⟩ : ∃ y, l[j]? = some y := ⟨_, List.getElem?_eq_getElem (by omega)⟩
    have hfy := hf y (List.mem_of_getElem? hy)
    have hw : w < m.length := by omega
    have d1 : decide ((j : Int) < ((m.length : Nat) : Int)) = true := lt_dec (by omega)
    have d3 : w64 ((j : Int) + 1) = ((j + 1 : Nat) : Int) := by rw [w64_of (by omega) (by omega)]; omega
    have d4 : w64 ((w : Int) + 1) = ((w + 1 : Nat) : Int) := by rw [w64_of (by omega) (by omega)]; omega
    have e1 : at? m (j : Int) = some y := at_of (by rw [g4 j (Nat.le_refl _)]; exact hy)
    cases hpy : p y with
    | true =>
     refine ⟨((w : Int), ((j + 1 : Nat) : Int), m), ?_, ⟨w, j + 1, m, rfl, g1, by omega, by omega, fun i hi => g4 i (by omega), ?_⟩, by simp only [Int.toNat_natCast]; omega⟩
     ·unfold slices_DeleteFunc_int.b0
      simp only [d1, cond_true, e1, Option.bind_some, hfy, hpy, Bool.not_true, cond_false, d3]
     ·rw [take_succ_of hy, List.filter_append, g5]; simp [hpy]
    | false =>
     have ew : at? m (w : Int) = some m[w] := at_of (List.getElem?_eq_getElem hw)
     refine ⟨(((w + 1 : Nat) : Int), ((j + 1 : Nat) : Int), m.set w y), ?_, ⟨w + 1, j + 1, m.set w y, rfl, by simp [g1], by omega, by omega, fun i hi => ?_, ?_⟩, by simp only [Int.toNat_natCast]; omega⟩
     ·unfold slices_DeleteFunc_int.b0
      simp only [d1, cond_true, e1, Option.bind_some, hfy, hpy, Bool.not_false, d3, ew, set_of hw, d4]
     ·rw [List.getElem?_set, if_neg (by omega)]; exact g4 i (by omega)
     ·rw [take_succ_of (x := y) (by rw [List.getElem?_set]; simp [hw]), List.take_set_of_le (Nat.le_refl _), take_succ_of hy, List.filter_append, g5]; simp [hpy]
  ·rw [take_succ_of (List.getElem?_eq_getElem ha), List.filter_append]
   have : (l.take a).filter (fun x => !p x) = l.take a := List.filter_eq_self.2 (fun x hx => by
    obtain ⟨i, hi, rfl⟩ := List.getElem_of_mem hx
    rw [List.getElem_take]
    simp only [List.length_take] at hi
    have := hbef i (by omega)
    simpa using this)
   rw [this]
   simp [hpa]
theorem heat_Moves_eq (f : Firing) (q : Firing.s f) (w : Firing.w f) (p : Int) : heat_Moves KK f p = some (movR f p) := by
 unfold heat_Moves movR
 rw [heat_asks_eq f q w]
 simp only [Option.bind_some]
 by_cases h : askCode f p = 0
 ·obtain ⟨h1, h2, h3, h4, h5, h6⟩ := askCode_ok h
  have hl := h2.l
  have hsl := allSrc_len f
  have hpp : ((p.toNat : Nat) : Int) = p := by omega
  have e1 := (rngX_spec (nf_ok h2) h5 (q := p.toNat) (by show p.toNat < f.Kiln.P; omega)).1
  rw [hpp] at e1
  simp only [h, decide_true, cond_true, Bool.not_true, cond_false, e1, Option.bind_some, heat_sources_o_eq, heat_sources_eq f.Readings (by omega)]
  rw [deleteFunc_int_eq _ (by unfold allSrc at hsl; omega) (p := fun s => samB (rngX (nf (woF f s)) p.toNat) (rngX (nf f) p.toNat)) (fun s _ => by
   unfold heat_Moves_1
   rw [heat_without_eq f h1 (fun q0 => heat_Moves_1_1 KK q0 s) (fun x => decide (x = s)) (fun x => rfl)]
   simp only [Option.bind_some]
   have a1 := heat_newFurnace_eq (woF f s) (firing_w (woF_ok h2 s))
   unfold woF at a1
   have a2 := (rngX_spec (nf_ok (woF_ok h2 s)) (woF_sound h5 s) (q := p.toNat) (by show p.toNat < f.Kiln.P; omega)).1
   rw [hpp] at a2
   unfold woF at a2
   rw [a1]
   simp only [Option.bind_some]
   rw [a2]
   rfl)]
  rfl
 ·simp only [h, decide_false, cond_false, Bool.not_false, cond_true]
end Go.Abs
namespace Go.Abs
open Go
set_option linter.unusedVariables false
def rest (f : Firing) : List Int → Option (List Reading)
 | [] => some []
 | n :: l => if n < 0 then rest f l else if n < f.Readings.length then (rest f l).map ((f.Readings.getD n.toNat rd0) :: ·) else none
end Go.Abs
namespace Go.Abs
open Go
set_option linter.unusedVariables false
theorem whl_inv {S E R τ : Type} {n : Nat} {body : τ → Option (Stp τ E R)} (mk : Int → S → τ) (g : S → E) (Inv : Nat → S → Prop) (hn : n ≤ 9223372036854775807) {k : Nat} (hk : n < k) {s0 : S} (h0 : Inv 0 s0)
  (h1 : ∀ i s, i < n → Inv i s → ∃ s', body (mk (i : Int) s) = some (.next (mk (w64 ((i : Int) + 1)) s')) ∧ Inv (i + 1) s') (h2 : ∀ s, Inv n s → body (mk (n : Int) s) = some (.brk (g s))) :
  ∃ s, whl body k (mk 0 s0) = some (.brk (g s)) ∧ Inv n s := by
 have key : ∀ (d i k : Nat) (s : S), i + d = n → d < k → Inv i s → ∃ s1, whl body k (mk (i : Int) s) = some (.brk (g s1)) ∧ Inv n s1 := by
  intro d
  induction d with
  | zero =>
   intro i k s hi hk hI
   cases k with
   | zero => omega
   | succ k =>
    have : i = n := by omega
    subst this
    exact ⟨s, by rw [whl, h2 s hI], hI⟩
  | succ d ih =>
   intro i k s hi hk hI
   cases k with
   | zero => omega
   | succ k =>
    obtain ⟨s', g1, g2⟩ := h1 i s (by omega) hI
    have : w64 ((i : Int) + 1) = ((i + 1 : Nat) : Int) := by rw [w64_of (by omega) (by omega)]; omega
    rw [this] at g1
    obtain ⟨s'', g3, g4⟩ := ih (i + 1) k s' (by omega) (by omega) g2
    exact ⟨s'', by rw [whl, g1]; exact g3, g4⟩
 exact key n 0 k s0 (by omega) hk h0
theorem tmod_bd (a : Int) {m : Int} (h : 0 < m) : -m < Int.tmod a m ∧ Int.tmod a m < m := by
 have h1 := Int.tmod_lt_of_pos a h
 have h2 := Int.lt_tmod_of_pos a h
 exact ⟨h2, h1⟩
theorem R01_Mod_eq (n : Int) {m : Int} (h : 0 < m) (hm : m ≤ 4611686018427387904) : ∃ v, R01_Mod KK n m = some v ∧ 0 ≤ v ∧ v < m := by
 unfold R01_Mod nz?
 rw [if_neg (by omega)]
 simp only [Option.bind_some]
 have h1 := tmod_bd n h
 rw [w64_of (by omega) (by omega)]
 have h2 := tmod_bd (Int.tmod n m + m) h
 refine ⟨_, rfl, Int.tmod_nonneg _ (by omega), h2.2⟩
theorem R01_At_eq (l : List Int) (hl : l.length ≤ Go.maxLen) (i : Int) (hs : l.length * 8 ≤ 140737488355328) : ∃ v, R01_At KK l i = some v := by
 unfold R01_At
 by_cases h : (l.length : Int) = 0
 ·simp [h]
 ·simp only [h, decide_false, cond_false]
  obtain ⟨v, e, h1, h2⟩ := R01_Mod_eq i (m := (l.length : Int)) (by omega) (by omega)
  rw [e]
  simp only [Option.bind_some]
  rw [at_getD 0 h1 h2]
  exact ⟨_, rfl⟩
def rowOk (n : Nat) (s : List Range × List Int) : Prop := s.1.length = n ∧ s.2.length = n ∧ ∀ q, q < n → 20 ≤ (s.1.getD q R0).Lo ∧ (s.1.getD q R0).Lo ≤ s.2.getD q 0 ∧ s.2.getD q 0 ≤ (s.1.getD q R0).Hi ∧ (s.1.getD q R0).Hi ≤ 700
theorem rowOk_push {n : Nat} {s : List Range × List Int} (h : rowOk n s) {r : Range} {v : Int} (h1 : 20 ≤ r.Lo) (h2 : r.Lo ≤ v) (h3 : v ≤ r.Hi) (h4 : r.Hi ≤ 700) : rowOk (n + 1) (s.1 ++ [r], s.2 ++ [v]) := by
 obtain ⟨g1, g2, g3⟩ := h
 refine ⟨by simp [g1], by simp [g2], fun q hq => ?_⟩
 by_cases hqn : q < n
 ·have e1 : (s.1 ++ [r]).getD q R0 = s.1.getD q R0 := by rw [List.getD_eq_getElem?_getD, List.getD_eq_getElem?_getD, List.getElem?_append_left (by omega)]
  have e2 : (s.2 ++ [v]).getD q 0 = s.2.getD q 0 := by rw [List.getD_eq_getElem?_getD, List.getD_eq_getElem?_getD, List.getElem?_append_left (by omega)]
  simp only [e1, e2]; exact g3 q hqn
 ·have hq' : q = n := by omega
  have e1 : (s.1 ++ [r]).getD q R0 = r := by rw [List.getD_eq_getElem?_getD, List.getElem?_append_right (by omega)]; simp [hq', g1]
  have e2 : (s.2 ++ [v]).getD q 0 = v := by rw [List.getD_eq_getElem?_getD, List.getElem?_append_right (by omega)]; simp [hq', g2]
  simp only [e1, e2]; exact ⟨h1, h2, h3, h4⟩
structure RawS (r : R04_Raw) : Prop where
 f : r.Falls.length * 16 ≤ 140737488355328
 h : r.Heats.length * 8 ≤ 140737488355328
 r : r.Readings.length * 32 ≤ 140737488355328
theorem R04_Raw.q.s {r : R04_Raw} (q : R04_Raw.q r) : RawS r := by
 have := qB_le
 obtain ⟨_, _, ⟨_, h1, _⟩, ⟨_, h2, _⟩, ⟨_, h3, _⟩⟩ := q
 exact ⟨by omega, by omega, by omega⟩
theorem made_row (r : R04_Raw) (hr : RawS r) (x1 x2 : Int) (h1 : 0 ≤ x1 ∧ x1 < 4) (h2 : 0 ≤ x2 ∧ x2 < 7) {j : Nat} (hj : j < 4) :
  ∃ s : List Range × List Int, whl (R04_Made.b1 KK r x1 x2 (j : Int)) KK (0, [], []) = some (.brk s) ∧ rowOk (x2.toNat + 1) s := by
 have hf := hr.f
 have e2 : w64 (1 + x2) = ((x2.toNat + 1 : Nat) : Int) := by rw [w64_of (by omega) (by omega)]; omega
 refine whl_inv (n := x2.toNat + 1) (fun i (s : List Range × List Int) => (i, s.1, s.2)) (fun s => s) rowOk (by omega) (by unfold KK; omega) (s0 := ([], [])) ⟨rfl, rfl, fun q hq => by omega⟩ (fun i s hi hI => ?_) (fun s _ => ?_)
 ·obtain ⟨g1, g2, g3⟩ := hI
  have hlt : decide ((i : Int) < w64 (1 + x2)) = true := by rw [e2]; exact lt_dec hi
  have fin : ∀ a b : Int, ∃ s', (R01_Mod KK (w64 ((w64 ((w64 ((j : Int) * 3)) + (w64 ((i : Int) * 2)))) + (w64 (Int.tdiv a 7)))) 6).bind (fun x20 => (R01_Mod KK a 120).bind fun x21 => (push? 16 s.1 (⟨w64 (20 + (w64 (110 * x20))), w64 ((w64 (20 + (w64 (110 * x20)))) + x21)⟩ : Range)).bind fun l22 => (R01_Mod KK b (w64 (x21 + 1))).bind fun x23 => (push? 8 s.2 (w64 ((w64 (20 + (w64 (110 * x20)))) + x23))).bind fun l24 => some (Stp.next (w64 ((i : Int) + 1), l22, l24))) = (some (.next (w64 ((i : Int) + 1), s'.1, s'.2)) : Option (Stp (Int × (List Range) × (List Int)) ((List Range) × (List Int)) (Firing × Field))) ∧ rowOk (i + 1) s' := by
   intro a b
   obtain ⟨v20, m1, m2, m3⟩ := R01_Mod_eq (w64 ((w64 ((w64 ((j : Int) * 3)) + (w64 ((i : Int) * 2)))) + (w64 (Int.tdiv a 7)))) (m := 6) (by omega) (by omega)
   obtain ⟨v21, n1, n2, n3⟩ := R01_Mod_eq a (m := 120) (by omega) (by omega)
   obtain ⟨v23, o1, o2, o3⟩ := R01_Mod_eq b (m := v21 + 1) (by omega) (by omega)
   have w1 : w64 (110 * v20) = 110 * v20 := w64_of (by omega) (by omega)
   have w2 : w64 (20 + 110 * v20) = 20 + 110 * v20 := w64_of (by omega) (by omega)
   have w3 : w64 (20 + 110 * v20 + v21) = 20 + 110 * v20 + v21 := w64_of (by omega) (by omega)
   have w4 : w64 (v21 + 1) = v21 + 1 := w64_of (by omega) (by omega)
   have w5 : w64 (20 + 110 * v20 + v23) = 20 + 110 * v20 + v23 := w64_of (by omega) (by omega)
   simp only [m1, n1, Option.bind_some, w1, w2, w3, w4]
   rw [push_of (by omega) (by omega)]
   simp only [Option.bind_some, o1, w5]
   rw [push_of (by omega) (by omega)]
   exact ⟨(s.1 ++ [⟨20 + 110 * v20, 20 + 110 * v20 + v21⟩], s.2 ++ [20 + 110 * v20 + v23]), rfl, rowOk_push ⟨g1, g2, g3⟩ (by show 20 ≤ 20 + 110 * v20; omega) (by show 20 + 110 * v20 ≤ _; omega) (by show _ ≤ 20 + 110 * v20 + v21; omega) (by show 20 + 110 * v20 + v21 ≤ 700; omega)⟩
  unfold R04_Made.b1
  simp only [hlt, cond_true]
  by_cases hF : (0 : Int) < (r.Falls.length : Int)
  ·have hn : nz? (r.Falls.length : Int) = some () := by unfold nz?; rw [if_neg (by omega)]
   have e3 : w64 ((j : Int) * w64 (1 + x2)) = (j : Int) * ((x2.toNat + 1 : Nat) : Int) := by
    rw [e2]
    have hb : (j : Int) * ((x2.toNat + 1 : Nat) : Int) ≤ 3 * 7 := Int.mul_le_mul (by omega) (by omega) (by omega) (by omega)
    have hb0 : 0 ≤ (j : Int) * ((x2.toNat + 1 : Nat) : Int) := Int.mul_nonneg (by omega) (by omega)
    exact w64_of (by omega) (by omega)
   have hb : (j : Int) * ((x2.toNat + 1 : Nat) : Int) ≤ 3 * 7 := Int.mul_le_mul (by omega) (by omega) (by omega) (by omega)
   have hb0 : 0 ≤ (j : Int) * ((x2.toNat + 1 : Nat) : Int) := Int.mul_nonneg (by omega) (by omega)
   have e4 : w64 ((j : Int) * ((x2.toNat + 1 : Nat) : Int) + (i : Int)) = (j : Int) * ((x2.toNat + 1 : Nat) : Int) + (i : Int) := w64_of (by omega) (by omega)
   have t1 : 0 ≤ Int.tmod ((j : Int) * ((x2.toNat + 1 : Nat) : Int) + (i : Int)) (r.Falls.length : Int) := Int.tmod_nonneg _ (by omega)
   have t2 := (tmod_bd ((j : Int) * ((x2.toNat + 1 : Nat) : Int) + (i : Int)) hF).2
   simp only [hF, decide_true, cond_true, hn, Option.bind_some, e3, e4]
   rw [at_getD (⟨0, 0⟩ : A2 Int) t1 t2]
   simp only [Option.bind_some]
   exact fin _ _
  ·simp only [hF, decide_false, cond_false]
   exact fin 0 0
 ·unfold R04_Made.b1
  simp only [e2, lt_dec_self]; rfl
def kilOk (P n : Nat) (s : List (List Range) × List Int × List (List Int)) : Prop := s.1.length = n ∧ s.2.1.length = n ∧ s.2.2.length = n ∧ ∀ q, q < n → rowOk P (s.1.getD q [], s.2.2.getD q []) ∧ 1000 ≤ s.2.1.getD q 0 ∧ s.2.1.getD q 0 < 1600
theorem getD_app {α : Type} (d : α) (l : List α) (x : α) (q : Nat) : (l ++ [x]).getD q d = if q < l.length then l.getD q d else if q = l.length then x else d := by
 rw [List.getD_eq_getElem?_getD, List.getD_eq_getElem?_getD]
 by_cases h : q < l.length
 ·rw [List.getElem?_append_left h, if_pos h]
 ·rw [List.getElem?_append_right (by omega), if_neg h]
  by_cases h2 : q = l.length
  ·rw [if_pos h2]; simp [h2]
  ·rw [if_neg h2, List.getElem?_eq_none (by simp; omega)]; rfl
theorem made_kiln (r : R04_Raw) (hr : RawS r) (hh : r.Heats.length ≤ Go.maxLen) (x1 x2 : Int) (h1 : 0 ≤ x1 ∧ x1 < 4) (h2 : 0 ≤ x2 ∧ x2 < 7) :
  ∃ s : List (List Range) × List Int × List (List Int), whl (R04_Made.b0 KK r x1 x2) KK (0, [], [], []) = some (.brk s) ∧ kilOk (x2.toNat + 1) (x1.toNat + 1) s := by
 have e1 : w64 (1 + x1) = ((x1.toNat + 1 : Nat) : Int) := by rw [w64_of (by omega) (by omega)]; omega
 refine whl_inv (n := x1.toNat + 1) (fun i (s : List (List Range) × List Int × List (List Int)) => (i, s.1, s.2.1, s.2.2)) (fun s => s) (kilOk (x2.toNat + 1)) (by omega) (by unfold KK; omega) (s0 := ([], [], [])) ⟨rfl, rfl, rfl, fun q hq => by omega⟩ (fun j s hj hI => ?_) (fun s _ => ?_)
 ·obtain ⟨g1, g2, g3, g4⟩ := hI
  have hlt : decide ((j : Int) < w64 (1 + x1)) = true := by rw [e1]; exact lt_dec hj
  obtain ⟨t, t1, t2⟩ := made_row r hr x1 x2 h1 h2 (j := j) (by omega)
  obtain ⟨v, v1⟩ := R01_At_eq r.Heats hh (j : Int) hr.h
  obtain ⟨u, u1, u2, u3⟩ := R01_Mod_eq v (m := 600) (by omega) (by omega)
  have w1 : w64 (1000 + u) = 1000 + u := w64_of (by omega) (by omega)
  refine ⟨(s.1 ++ [t.1], s.2.1 ++ [1000 + u], s.2.2 ++ [t.2]), ?_, by simp [g1], by simp [g2], by simp [g3], fun q hq => ?_⟩
  ·unfold R04_Made.b0
   simp only [hlt, cond_true, t1, Option.bind_some]
   rw [push_of (by omega) (by omega)]
   simp only [Option.bind_some]
   rw [push_of (by omega) (by omega)]
   simp only [Option.bind_some, v1, u1, w1]
   rw [push_of (by omega) (by omega)]
   rfl
  ·simp only [getD_app, g1, g2, g3]
   by_cases hqj : q < j
   ·simp only [hqj, if_true]; exact g4 q hqj
   ·have : q = j := by omega
    subst this
    simp only [Nat.lt_irrefl, if_false, if_true]
    exact ⟨t2, by omega, by omega⟩
 ·unfold R04_Made.b0
  simp only [e1, lt_dec_self]; rfl
theorem kil_field {P m : Nat} (hP : 1 ≤ P ∧ P ≤ 7) (hm : 1 ≤ m ∧ m ≤ 4) {s : List (List Range) × List Int × List (List Int)} (h : kilOk P m s) : FieldOk ⟨s.1⟩ ⟨s.2.1, s.2.2⟩ ∧ (⟨s.1⟩ : Kiln).P = P ∧ (∀ j p, j < m → p < P → ((⟨s.1⟩ : Kiln).at j p).Hi ≤ 700) ∧ ∀ p, p < P → 300 ≤ (⟨s.2.1, s.2.2⟩ : Field).ht (m - 1) p ∧ (⟨s.2.1, s.2.2⟩ : Field).ht (m - 1) p ≤ 1580 := by
 obtain ⟨g1, g2, g3, g4⟩ := h
 have hrow : ∀ j, j < m → (s.1.getD j []).length = P := fun j hj => (g4 j hj).1.1
 have hhead : (s.1.headD []).length = P := by
  have := hrow 0 (by omega)
  cases hs : s.1 with
  | nil => rw [hs] at g1; simp at g1; omega
  | cons a l => rw [hs] at this; simpa using this
 have hat : ∀ j p, (⟨s.1⟩ : Kiln).at j p = (s.1.getD j []).getD p R0 := fun _ _ => rfl
 have hk : kilnB ⟨s.1⟩ = true := by
  simp only [kilnB, inB, Bool.and_eq_true, decide_eq_true_eq, List.all_eq_true, hhead, g1]
  refine ⟨by omega, by omega, fun x hx => ?_⟩
  obtain ⟨j, hj, rfl⟩ := List.getElem_of_mem hx
  have hx' : s.1.getD j [] = s.1[j] := getD_of _ (List.getElem?_eq_getElem hj)
  have hjm : j < m := by omega
  refine ⟨by rw [← hx']; exact hrow j hjm, fun y hy => ?_⟩
  obtain ⟨p, hp, rfl⟩ := List.getElem_of_mem hy
  have h5 := (g4 j hjm).1.2.2 p (by rw [← hrow j hjm, hx']; exact hp)
  simp only [hx'] at h5
  rw [getD_of R0 (List.getElem?_eq_getElem hp)] at h5
  rw [rangeB_iff]
  omega
 have hP2 : (⟨s.1⟩ : Kiln).P = P := hhead
 have hd : ∀ j p, (⟨s.2.1, s.2.2⟩ : Field).d j p = (s.2.2.getD j []).getD p 0 := fun _ _ => rfl
 have hu : ∀ j, (⟨s.2.1, s.2.2⟩ : Field).u j = s.2.1.getD j 0 := fun _ => rfl
 refine ⟨⟨hk, by show s.2.1.length = s.1.length; omega, by show s.2.2.length = s.1.length; omega, fun j hj => ?_, fun j hj => ?_, fun j p hj => ?_⟩, hP2, fun j p hj hp => ?_, fun p hp => ?_⟩
 ·have hj' : j < m := by have : j < s.1.length := hj; omega
  rw [hP2]; exact (g4 j hj').1.2.1
 ·have hj' : j < m := by have : j < s.1.length := hj; omega
  have := g4 j hj'
  rw [hu]; omega
 ·have hj' : j < m := by have : j < s.1.length := hj; omega
  rw [hat, hd]
  by_cases hp : p < P
  ·have := (g4 j hj').1.2.2 p hp
   simp only at this
   omega
  ·have l1 := hrow j hj'
   have l2 := (g4 j hj').1.2.1
   simp only at l2
   rw [getD_none (by omega), getD_none (by omega)]
   exact ⟨Int.le_refl _, Int.le_refl _⟩
 ·rw [hat]
  have := (g4 j hj).1.2.2 p hp
  simp only at this
  omega
 ·unfold Field.ht
  rw [mx_le_iff, le_mx_iff]
  refine ⟨⟨0, Nat.zero_le _, ?_⟩, fun j hj => ?_⟩
  ·have a := g4 0 (by omega)
   have b := a.1.2.2 p hp
   simp only at b
   rw [hu, hd]; omega
  ·have a := g4 j (by omega)
   have b := a.1.2.2 p hp
   simp only at b
   rw [hu, hd]; omega
def madeRd (P : Nat) (x : Field) (m : Nat) (r : Reading) : Prop := readB (P : Int) r = true ∧ rdAg (x.ht m r.Place.toNat) r = true
theorem made_read {P : Nat} (hP : 1 ≤ P ∧ P ≤ 7) {h pl off src kd : Int} (hh : 300 ≤ h ∧ h ≤ 1580) (hp : 0 ≤ pl ∧ pl < P) (ho : 0 ≤ off ∧ off < 90) (hs : 0 ≤ src ∧ src < 12) :
  (readB (P : Int) ⟨w64 (1 + src), pl, 1, min (max (w64 (h - off)) 1) 2000, ⟨0, 0⟩⟩ = true ∧ rdAg h ⟨w64 (1 + src), pl, 1, min (max (w64 (h - off)) 1) 2000, ⟨0, 0⟩⟩ = true) ∧
  (readB (P : Int) ⟨w64 (1 + src), pl, 2, min (max (w64 ((w64 (h + 1)) + off)) 1) 2000, ⟨0, 0⟩⟩ = true ∧ rdAg h ⟨w64 (1 + src), pl, 2, min (max (w64 ((w64 (h + 1)) + off)) 1) 2000, ⟨0, 0⟩⟩ = true) ∧
  (readB (P : Int) ⟨w64 (1 + src), pl, 3, 0, ⟨max (w64 (h - (w64 (Int.tdiv off 2)))) 1, min (w64 (h + off)) 2000⟩⟩ = true ∧ rdAg h ⟨w64 (1 + src), pl, 3, 0, ⟨max (w64 (h - (w64 (Int.tdiv off 2)))) 1, min (w64 (h + off)) 2000⟩⟩ = true) := by
 have w0 : w64 ((P : Int) - 1) = (P : Int) - 1 := w64_of (by omega) (by omega)
 have w1 : w64 (1 + src) = 1 + src := w64_of (by omega) (by omega)
 have w2 : w64 (h - off) = h - off := w64_of (by omega) (by omega)
 have w3 : w64 (h + 1) = h + 1 := w64_of (by omega) (by omega)
 have w4 : w64 (h + 1 + off) = h + 1 + off := w64_of (by omega) (by omega)
 have td : Int.tdiv off 2 = off / 2 := Int.tdiv_eq_ediv_of_nonneg ho.1
 have w5 : w64 (off / 2) = off / 2 := w64_of (by omega) (by omega)
 have w6 : w64 (h - off / 2) = h - off / 2 := w64_of (by omega) (by omega)
 have w7 : w64 (h + off) = h + off := w64_of (by omega) (by omega)
 have k12 : decide ((2 : Int) = 1) = false := by decide
 have k13 : decide ((3 : Int) = 1) = false := by decide
 have k23 : decide ((3 : Int) = 2) = false := by decide
 have k32 : decide ((1 : Int) = 3) = false := by decide
 have k21 : decide ((1 : Int) = 2) = false := by decide
 have k31 : decide ((2 : Int) = 3) = false := by decide
 have w8 : w64 (h + 1 + off - 1) = h + off := by rw [w64_of (by omega) (by omega)]; omega
 refine ⟨⟨?_, ?_⟩, ⟨?_, ?_⟩, ?_, ?_⟩
 ·simp only [readB, inB, w0, w1, w2, decide_true, cond_true, Bool.and_eq_true, decide_eq_true_eq, and_true, true_and]; omega
 ·simp only [rdAg, lo?, hi?, w1, w2, decide_true, cond_true, k21, k32, cond_false, Option.isSome_some, Option.isSome_none, Option.getD_some, Bool.true_and, Bool.false_and, Bool.not_false, Bool.and_true, Bool.not_eq_true', decide_eq_false_iff_not]; omega
 ·simp only [readB, inB, w0, w1, w3, w4, k12, decide_true, cond_true, cond_false, Bool.and_eq_true, decide_eq_true_eq, and_true, true_and]; omega
 ·have e : min (max (h + 1 + off) 1) 2000 = h + 1 + off := by omega
  simp only [rdAg, lo?, hi?, w1, w3, w4, e, w8, decide_true, cond_true, k12, k31, cond_false, Option.isSome_some, Option.isSome_none, Option.getD_some, Bool.true_and, Bool.false_and, Bool.not_false, Bool.not_eq_true', decide_eq_false_iff_not]; omega
 ·simp only [readB, inB, rangeB, w0, w1, td, w5, w6, w7, k13, k23, decide_true, cond_true, cond_false, Bool.and_eq_true, decide_eq_true_eq, and_true, true_and]; omega
 ·simp only [rdAg, lo?, hi?, w1, td, w5, w6, w7, decide_true, cond_true, k13, k23, cond_false, Option.isSome_some, Option.getD_some, Bool.true_and, Bool.and_eq_true, Bool.not_eq_true', decide_eq_false_iff_not]; omega
structure IsMade (f : Firing) (x : Field) : Prop where
 c : firingCode f = 0
 fld : FieldOk f.Kiln x
 a : agB f x = true
 r : f.Readings.length ≤ 14
 P : f.Kiln.P ≤ 7
 m : f.Kiln.Falls.length ≤ 4
 hi : ∀ j p, j < f.Kiln.Falls.length → p < f.Kiln.P → (f.Kiln.at j p).Hi ≤ 700
 ht : ∀ p, p < f.Kiln.P → 300 ≤ x.ht (f.Kiln.Falls.length - 1) p ∧ x.ht (f.Kiln.Falls.length - 1) p ≤ 1580
theorem R04_Made_eq (r : R04_Raw) (q : R04_Raw.q r) : ∃ f x, R04_Made KK r = some (f, x) ∧ IsMade f x := by
 have hr := q.s
 have hh : r.Heats.length ≤ Go.maxLen := q.2.2.2.1.1
 have hrl := hr.r
 unfold R04_Made
 obtain ⟨x1, a1, a2, a3⟩ := R01_Mod_eq r.Mouths (m := 4) (by omega) (by omega)
 obtain ⟨x2, b1, b2, b3⟩ := R01_Mod_eq r.Places (m := 7) (by omega) (by omega)
 obtain ⟨s, c1, c2⟩ := made_kiln r hr hh x1 x2 ⟨a2, a3⟩ ⟨b2, b3⟩
 obtain ⟨s1, s2, s3⟩ := s
 simp only [a1, b1, Option.bind_some, c1]
 obtain ⟨d1, d2, d3, d4⟩ := kil_field (P := x2.toNat + 1) (m := x1.toNat + 1) (by omega) (by omega) c2
 simp only at d1 d2 d3 d4
 have e2 : w64 (1 + x2) = ((x2.toNat + 1 : Nat) : Int) := by rw [w64_of (by omega) (by omega)]; omega
 have hm : s1.length = x1.toNat + 1 := c2.1
 obtain ⟨l, e3, e4, e5⟩ := whl_inv (n := min r.Readings.length 14) (body := R04_Made.b2 KK r x1 x2 s2 s3) (k := KK) (fun i s => (i, s)) id (fun i (s : List Reading) => s.length = i ∧ ∀ y ∈ s, madeRd (x2.toNat + 1) ⟨s2, s3⟩ x1.toNat y) (by omega) (by unfold KK; omega) (s0 := []) ⟨rfl, by simp⟩ (fun i s hi hI => by
  obtain ⟨I1, I2⟩ := hI
  have hi1 : i < r.Readings.length := by omega
  have hi2 : decide ((i : Int) < 14) = true := by simp; omega
  have hx : r.Readings[i]? = some r.Readings[i] := List.getElem?_eq_getElem hi1
  generalize r.Readings[i] = n at hx
  obtain ⟨pl, f1, f2, f3⟩ := R01_Mod_eq n.x0 (m := ((x2.toNat + 1 : Nat) : Int)) (by omega) (by omega)
  obtain ⟨off, g1, g2, g3⟩ := R01_Mod_eq n.x2 (m := 90) (by omega) (by omega)
  obtain ⟨src, h1, h2, h3⟩ := R01_Mod_eq n.x3 (m := 12) (by omega) (by omega)
  obtain ⟨kd, k1, k2, k3⟩ := R01_Mod_eq n.x1 (m := 3) (by omega) (by omega)
  have hpp : ((pl.toNat : Nat) : Int) = pl := by omega
  have eh := R04_heat_eq d1 (p := pl.toNat) (by rw [d2]; omega)
  rw [hpp] at eh
  have hms : (⟨s1⟩ : Kiln).Falls.length - 1 = x1.toNat := by show s1.length - 1 = _; omega
  rw [hms] at eh
  have hb := d4 pl.toNat (by omega)
  rw [show x1.toNat + 1 - 1 = x1.toNat by omega] at hb
  obtain ⟨r1, r2, r3⟩ := made_read (P := x2.toNat + 1) (by omega) (kd := 0) (h := (⟨s2, s3⟩ : Field).ht x1.toNat pl.toNat) hb (pl := pl) ⟨f2, f3⟩ (off := off) ⟨g2, g3⟩ (src := src) ⟨h2, h3⟩
  have wk : w64 (1 + kd) = 1 + kd := w64_of (by omega) (by omega)
  have hall : ∀ y, madeRd (x2.toNat + 1) ⟨s2, s3⟩ x1.toNat y → ∀ z ∈ s ++ [y], madeRd (x2.toNat + 1) ⟨s2, s3⟩ x1.toNat z := by
   intro y hy z hz
   rcases List.mem_append.1 hz with hz | hz
   ·exact I2 z hz
   ·simp only [List.mem_singleton] at hz; subst hz; exact hy
  unfold R04_Made.b2
  simp only [lt_dec hi1, hi2, cond_true, at_of hx, Option.bind_some, e2, f1, g1, h1, k1, eh, wk]
  by_cases q1 : 1 + kd = 1
  ·simp only [q1, decide_true, cond_true]
   rw [push_of (by omega) (by omega)]
   exact ⟨_, rfl, by simp [I1], hall _ r1⟩
  ·simp only [q1, decide_false, cond_false]
   by_cases q2 : 1 + kd = 2
   ·simp only [q2, decide_true, cond_true]
    rw [push_of (by omega) (by omega)]
    exact ⟨_, rfl, by simp [I1], hall _ r2⟩
   ·have q3 : 1 + kd = 3 := by omega
    simp only [q3, show decide ((3 : Int) = 2) = false by decide, cond_false]
    rw [push_of (by omega) (by omega)]
    exact ⟨_, rfl, by simp [I1], hall _ r3⟩) (fun s _ => by
  unfold R04_Made.b2
  by_cases h14 : r.Readings.length ≤ 14
  ·have : min r.Readings.length 14 = r.Readings.length := by omega
   simp only [this, lt_dec_self]; rfl
  ·have : min r.Readings.length 14 = 14 := by omega
   have h15 : decide (((14 : Nat) : Int) < (r.Readings.length : Int)) = true := by simp; omega
   simp only [this, h15, cond_true]; rfl)
 rw [e3]
 refine ⟨⟨⟨s1⟩, l⟩, ⟨s2, s3⟩, rfl, ?_, d1, ?_, by show l.length ≤ 14; omega, by show (⟨s1⟩ : Kiln).P ≤ 7; omega, by show s1.length ≤ 4; omega, fun j p hj hp => d3 j p (by have : j < s1.length := hj; omega) (by rw [← d2]; exact hp), fun p hp => ?_⟩
 ·have hPh : ((⟨s1⟩ : Kiln).Falls.headD []).length = x2.toNat + 1 := d2
  have hlen : ¬ ((60 : Int) < (l.length : Int)) := by omega
  unfold firingCode
  simp only [d1.kv, cond_true]
  have hall : l.all (readB ((((⟨s1⟩ : Kiln).Falls.headD []).length : Nat) : Int)) = true := by
   rw [List.all_eq_true, hPh]
   exact fun y hy => (e5 y hy).1
  rw [hall, decide_eq_false hlen]
  rfl
 ·unfold agB
  rw [List.all_eq_true]
  intro y hy
  have : (⟨s1⟩ : Kiln).Falls.length - 1 = x1.toNat := by show s1.length - 1 = _; omega
  rw [this]
  exact (e5 y hy).2
 ·have : (⟨s1⟩ : Kiln).Falls.length - 1 = x1.toNat + 1 - 1 := by show s1.length - 1 = _; omega
  rw [this]
  exact d4 p (by rw [← d2]; exact hp)
end Go.Abs
namespace Go.Abs
open Go
set_option linter.unusedVariables false
structure Fur.Sub (g f : Fur) : Prop where
 m : g.m = f.m
 lo : g.lo = f.lo
 hi : g.hi = f.hi
 L : ∀ x ∈ g.L, x ∈ f.L
 M : ∀ x ∈ g.M, x ∈ f.M
namespace Fur.Sub
variable {g f : Fur}
theorem U (h : Sub g f) (j : Nat) : f.U j ≤ g.U j := by
 rw [Fur.U_iff]
 refine ⟨f.U_le j, fun x hx => ?_⟩
 rw [h.hi]
 exact f.U_lim j (h.M x hx)
theorem sound (h : Sub g f) (hs : f.Sound) : g.Sound := (Fur.sub_sound h.m h.lo h.hi h.L h.M hs).1
theorem high (h : Sub g f) {q : Nat} {t : Int} (ht : f.High q t) : g.High q t := by
 obtain ⟨⟨j, h1, h2⟩, h3⟩ := ht
 have := h.U j
 exact ⟨⟨j, by rw [h.m]; exact h1, by rw [h.lo]; omega⟩, fun y hy e => h3 y (h.M y hy) e⟩
theorem low (h : Sub g f) {q : Nat} {t : Int} (ht : f.Low q t) : g.Low q t := by
 obtain ⟨h1, h2, h3⟩ := ht
 refine ⟨fun j hj => by rw [h.hi]; exact h1 j (by rw [← h.m]; exact hj), fun x hx e => h2 x (h.L x hx) e, fun x hx e => ?_⟩
 obtain ⟨j, k1, k2, k3⟩ := h3 x (h.L x hx) e
 have := h.U j
 exact ⟨j, by rw [h.m]; exact k1, by rw [h.lo]; omega, by rw [h.lo, h.hi]; exact k3⟩
end Fur.Sub
theorem nf_sub {g f : Firing} (hk : g.Kiln = f.Kiln) (hr : ∀ r ∈ g.Readings, r ∈ f.Readings) : (nf g).fur.Sub (nf f).fur := by
 refine ⟨?_, ?_, ?_, ?_, ?_⟩
 ·show g.Kiln.Falls.length - 1 = f.Kiln.Falls.length - 1; rw [hk]
 ·show (fun j p => (g.Kiln.at j p).Lo) = fun j p => (f.Kiln.at j p).Lo; rw [hk]
 ·show (fun j p => (g.Kiln.at j p).Hi) = fun j p => (f.Kiln.at j p).Hi; rw [hk]
 ·intro z hz
  obtain ⟨r, h1, h2⟩ := limsOf_lp.1 hz
  exact limsOf_lp.2 ⟨r, hr r h1, h2⟩
 ·intro z hz
  obtain ⟨r, h1, h2⟩ := limsOf_lp.1 hz
  exact limsOf_lp.2 ⟨r, hr r h1, h2⟩
theorem firingCode_of {f : Firing} (h1 : kilnB f.Kiln = true) (h2 : f.Readings.length ≤ 60) (h3 : ∀ r ∈ f.Readings, readB (f.Kiln.P : Int) r = true) : firingCode f = 0 := by
 unfold firingCode
 have : ¬ ((60 : Int) < (f.Readings.length : Int)) := by omega
 have h4 : f.Readings.all (readB ((f.Kiln.Falls.headD []).length : Int)) = true := by
  rw [List.all_eq_true]; exact h3
 rw [h1, decide_eq_false this, h4]; rfl
theorem woF_code {f : Firing} (h : firingCode f = 0) (s : Int) : firingCode (woF f s) = 0 := by
 obtain ⟨h1, h2, h3⟩ := firing_small h
 have := List.length_filter_le (fun r : Reading => !decide (r.Source = s)) f.Readings
 exact firingCode_of h1 (by show (f.Readings.filter _).length ≤ 60; omega) (fun r hr => h3 r (List.mem_filter.1 hr).1)
theorem askCode_of {f : Firing} (h : firingCode f = 0) (hs : (nf f).fur.Sound) {p : Int} (h0 : 0 ≤ p) (hp : p < f.Kiln.P) : askCode f p = 0 := by
 have hi : inB p 0 ((f.Kiln.P : Int) - 1) = true := by simp [inB]; omega
 have hb : soundB (nf f) = true := (soundB_iff (nf_ok (firing_ok h))).2 hs
 unfold askCode
 simp [h, hi, hb]
theorem bndR_of {f : Firing} {p : Int} (h : askCode f p = 0) : bndR f p = (rngX (nf f) p.toNat, 0) := by unfold bndR; simp [h]
theorem rng_sub {g f : Firing} {p : Int} (hg : askCode g p = 0) (hf : askCode f p = 0) (h : (nf g).fur.Sub (nf f).fur) : (rngX (nf g) p.toNat).Lo ≤ (rngX (nf f) p.toNat).Lo ∧ (rngX (nf f) p.toNat).Hi ≤ (rngX (nf g) p.toNat).Hi := by
 obtain ⟨a1, a2⟩ := rng_isBound g p hg
 obtain ⟨b1, b2⟩ := rng_isBound f p hf
 exact ⟨(a1 _).2 (h.low ((b1 _).1 (Int.le_refl _))), (a2 _).2 (h.high ((b2 _).1 (Int.le_refl _)))⟩
theorem heatsR_made {f : Firing} {x : Field} (h : IsMade f x) : heatsR f.Kiln x = (heatsL f.Kiln x, 0) := by
 unfold heatsR
 simp [h.fld.kv, (fieldB_iff h.fld.kv x).2 h.fld]
theorem heatsL_len (k : Kiln) (x : Field) : (heatsL k x).length = k.P := by simp [heatsL]
theorem heatsL_at {k : Kiln} (x : Field) {p : Int} (h0 : 0 ≤ p) (hp : p < k.P) : at? (heatsL k x) p = some (x.ht (k.Falls.length - 1) p.toNat) := by
 have := at_mapR (x.ht (k.Falls.length - 1)) (n := k.P) (j := p.toNat) (by omega)
 rw [show ((p.toNat : Nat) : Int) = p by omega] at this
 exact this
theorem sourcesR_of {f : Firing} (h : firingCode f = 0) : sourcesR f = (allSrc f, 0) := by unfold sourcesR allSrc; simp [h]
theorem allSrc_mem (f : Firing) (s : Int) : s ∈ allSrc f ↔ ∃ r ∈ f.Readings, r.Source = s := by
 unfold allSrc
 rw [usort_mem, List.mem_map]
theorem withoutR_of {f : Firing} (h : firingCode f = 0) {s : Int} (hs : s ∈ allSrc f) : withoutR f s = (woF f s, 0) := by
 unfold withoutR woF
 have : s ∈ f.Readings.map fun r => r.Source := by rw [List.mem_map]; exact (allSrc_mem f s).1 hs
 simp only [h, this, decide_true, Bool.not_true, cond_false]
end Go.Abs
namespace Go.Abs
open Go
set_option linter.unusedVariables false
end Go.Abs
namespace Go.Abs
open Go
set_option linter.unusedVariables false
theorem movR_of {f : Firing} {p : Int} (h : askCode f p = 0) : movR f p = (movL f p.toNat, 0) := by unfold movR; simp [h]
theorem heatNarrows_plain (a0 : R04_Raw) (a1 : A3 Int) (q0 : R04_Raw.q a0) : L04_HeatNarrows KK a0 a1 = some true := by
 obtain ⟨f, x, e0, hm⟩ := R04_Made_eq a0 q0
 have hok := firing_ok hm.c
 have hs := firing_s hok
 have hw := firing_w hok
 have hk := kilnB_len hok.k
 have hfl := hok.l
 have hsl := allSrc_len f
 obtain ⟨hS, hag⟩ := agree_facts hok hm.fld hm.a
 obtain ⟨p, l1, l2, l3⟩ := R01_Mod_eq a1.x0 (m := (f.Kiln.P : Int)) (by omega) (by omega)
 obtain ⟨q, m1, m2, m3⟩ := R01_Mod_eq a1.x1 (m := (f.Kiln.P : Int)) (by omega) (by omega)
 obtain ⟨off, n1, n2, n3⟩ := R01_Mod_eq a1.x2 (m := 60) (by omega) (by omega)
 have hask : askCode f q = 0 := askCode_of hm.c hS m2 m3
 have hb := hm.ht p.toNat (by omega)
 generalize hht : x.ht (f.Kiln.Falls.length - 1) p.toNat = t at hb
 have w1 : w64 (t - off) = t - off := w64_of (by omega) (by omega)
 have w2 : w64 (t + off) = t + off := w64_of (by omega) (by omega)
 have t1 : (1 : Int) ≤ t := by omega
 have t2 : t ≤ 2000 := by omega
 have hlen : (heatsL f.Kiln x).length = f.Kiln.P := heatsL_len _ _
 have hl0 : ¬ ((f.Kiln.P : Int) = 0) := by omega
 have wP : w64 ((f.Kiln.P : Int) - 1) = (f.Kiln.P : Int) - 1 := w64_of (by omega) (by omega)
 have hrd : readB (f.Kiln.P : Int) (⟨77, p, 3, 0, ⟨max (t - off) 1, min (t + off) 2000⟩⟩ : Reading) = true := by
  simp only [readB, inB, rangeB, wP, show decide ((3 : Int) = 1) = false by decide, show decide ((3 : Int) = 2) = false by decide, decide_true, cond_true, cond_false, Bool.and_eq_true, decide_eq_true_eq, and_true, true_and]; omega
 have hag2 : rdAg t (⟨77, p, 3, 0, ⟨max (t - off) 1, min (t + off) 2000⟩⟩ : Reading) = true := by
  simp only [rdAg, lo?, hi?, show decide ((3 : Int) = 1) = false by decide, show decide ((3 : Int) = 2) = false by decide, decide_true, cond_true, cond_false, Option.isSome_some, Option.getD_some, Bool.true_and, Bool.and_eq_true, Bool.not_eq_true', decide_eq_false_iff_not]; omega
 generalize hr : (⟨77, p, 3, 0, ⟨max (t - off) 1, min (t + off) 2000⟩⟩ : Reading) = r at hrd hag2
 have hrp : r.Place = p := by rw [← hr]
 have hwith : withR f r = (⟨f.Kiln, f.Readings ++ [r]⟩, 0) := by
  have h60 : ¬ ((f.Readings.length : Int) = 60) := by have := hm.r; omega
  have hrd' : readB ((f.Kiln.Falls.headD []).length : Int) r = true := hrd
  unfold withR
  rw [hm.c, hrd', decide_eq_false h60]
  rfl
 have hgc : firingCode ⟨f.Kiln, f.Readings ++ [r]⟩ = 0 := by
  refine firingCode_of hok.k (by show (f.Readings ++ [r]).length ≤ 60; have := hm.r; simp; omega) (fun y hy => ?_)
  have hy' : y ∈ f.Readings ++ [r] := hy
  rcases List.mem_append.1 hy' with hy | hy
  ·exact (firing_small hm.c).2.2 y hy
  ·simp only [List.mem_singleton] at hy; subst hy; exact hrd
 have hgok := firing_ok hgc
 have hga : agB ⟨f.Kiln, f.Readings ++ [r]⟩ x = true := by
  unfold agB
  rw [List.all_eq_true]
  intro y hy
  have hy' : y ∈ f.Readings ++ [r] := hy
  rcases List.mem_append.1 hy' with hy | hy
  ·exact List.all_eq_true.1 hm.a y hy
  ·simp only [List.mem_singleton] at hy; subst hy
   show rdAg (x.ht (f.Kiln.Falls.length - 1) y.Place.toNat) y = true
   rw [hrp, hht]; exact hag2
 have hgF : FieldOk (⟨f.Kiln, f.Readings ++ [r]⟩ : Firing).Kiln x := hm.fld
 obtain ⟨hgS, _⟩ := agree_facts hgok hgF hga
 have hga2 : askCode ⟨f.Kiln, f.Readings ++ [r]⟩ q = 0 := askCode_of hgc hgS m2 m3
 have hsub : (nf f).fur.Sub (nf ⟨f.Kiln, f.Readings ++ [r]⟩).fur := nf_sub rfl (fun y hy => List.mem_append.2 (.inl hy))
 obtain ⟨b1, b2⟩ := rng_sub hask hga2 hsub
 have c1 : ¬ (rngX (nf ⟨f.Kiln, f.Readings ++ [r]⟩) q.toNat).Lo < (rngX (nf f) q.toNat).Lo := by omega
 have c2 : ¬ (rngX (nf f) q.toNat).Hi < (rngX (nf ⟨f.Kiln, f.Readings ++ [r]⟩) q.toNat).Hi := by omega
 have hloop : whl (L04_HeatNarrows.b0 KK (f, x) q (rngX (nf f) q.toNat, 0) (movL f q.toNat, 0) (allSrc f, 0)) KK 0 = some (.brk ()) := by
  rw [whl_allL (l := allSrc f) (p := fun _ => true) (c := false) (by omega) (by unfold KK; omega) (fun i s hi => by
   have hil : i < (allSrc f).length := (List.getElem?_eq_some_iff.1 hi).1
   have hsm : s ∈ allSrc f := List.mem_of_getElem? hi
   have hwo := firing_ok (woF_code hm.c s)
   have hg : askCode (woF f s) q = 0 := askCode_of (woF_code hm.c s) (woF_sound hS s) m2 m3
   have hml : (movL f q.toNat).length ≤ Go.maxLen := by
    have := List.length_filter_le (fun s => !samB (rngX (nf (woF f s)) q.toNat) (rngX (nf f) q.toNat)) (allSrc f)
    unfold movL Go.maxLen; omega
   have hmem : decide (s ∈ movL f q.toNat) = !samB (rngX (nf (woF f s)) q.toNat) (rngX (nf f) q.toNat) := by
    unfold movL
    rw [Bool.eq_iff_iff, decide_eq_true_eq, List.mem_filter]
    exact ⟨fun h => h.2, fun h => ⟨hsm, h⟩⟩
   unfold L04_HeatNarrows.b0
   simp only [lt_dec hil, cond_true, at_of hi, Option.bind_some, heat_Without_eq f hs, withoutR_of hm.c hsm, heat_Bound_rng (woF f s) (firing_s hwo) (firing_w hwo), bndR_of hg, decide_true, R01_Has_eq _ s hml, hmem]
   unfold samB
   cases (decide ((rngX (nf (woF f s)) q.toNat).Lo = (rngX (nf f) q.toNat).Lo) && decide ((rngX (nf (woF f s)) q.toNat).Hi = (rngX (nf f) q.toNat).Hi)) <;> rfl) (by
   unfold L04_HeatNarrows.b0
   simp only [lt_dec_self]; rfl)]
  have : (allSrc f).all (fun _ => true) = true := by simp
  rw [this]; rfl
 unfold L04_HeatNarrows
 simp only [e0, Option.bind_some, heat_Heats_eq f.Kiln hs.1, heatsR_made hm, decide_true, cond_true, hlen, hl0, decide_false, cond_false, l1, m1, n1, heatsL_at x l2 l3, hht, w1, w2, heat_Bound_rng f hs hw, bndR_of hask, heat_Moves_eq f hs hw, movR_of hask, heat_Sources_eq f hs, sourcesR_of hm.c, Bool.not_true, t1, t2, hr, heat_With_eq f hs, hwith, heat_Bound_rng _ (firing_s hgok) (firing_w hgok), bndR_of hga2, c1, c2, Bool.not_false, hloop, sane_KK]
end Go.Abs
namespace Go.Proofs.Ytafmgcbfmifaeaa.heatNarrows
open Go.Abs
theorem plain (a0 : Go.Abs.R04_Raw) (a1 : (A3 Int)) : Go.Abs.R04_Raw.q a0 → (fun x : (A3 Int) => i64ok x.x0 ∧ i64ok x.x1 ∧ i64ok x.x2) a1 → ∃ k, L04_HeatNarrows k a0 a1 = some true := by
 intro q0 _; exact ⟨_, heatNarrows_plain a0 a1 q0⟩
end Go.Proofs.Ytafmgcbfmifaeaa.heatNarrows
namespace Go.Proofs.Ytafmgcbfmifaeaa.heatNarrows
open Go.ChangeShapes Go.WideShapes Go.ChangeAt Go.RowKit Go.Abs
set_option maxRecDepth 100000
theorem own : ownKnob Try.prog.godebug = none := by kernel_rfl
theorem contract (H : Type) (enc : TypeId × Value → H) (W : World) (base : Nat) (args : Array Value) (ds gs : List (DataW H)) (before : List MemPlace)
  (hval : ∀ (j : Nat) t v, Try.f6.params[j]? = some t → args[j]? = some v → Value.okWide Try.prog W .any base t v)
  (hW : DataW.Whole enc Try.prog Try.f6.params.toList Rows.heatNarrowsSpec.vars false W args.toList ds gs before) (hsz0 : (DataW.weightsEach Try.prog (Try.f6.params.toList ++ Rows.heatNarrowsSpec.plain.varTypes Try.prog) (ds ++ gs)).all (· ≤ reachBytes) = true) :
  Calls Try.prog 6 args W fun e W' => ∃ v, e = .returned v ∧ Rows.heatNarrowsSpec.post enc Try.prog Try.f6 false true false false W args v W' := by
 have hW' := hW
 obtain ⟨p, q, hA0, hV, rfl, hfz, hnd⟩ := hW
 have hA : DataW.TrodAll enc Try.prog W 0 (fun _ => true) true Try.f6.params.toList args.toList ds p := hA0
 rw [Try.params6] at hA hval
 obtain ⟨v0, vs0, d0, ds0, p0, q0, hargs, rfl, rfl, h0, r0⟩ := trodAll_cons hA
 obtain ⟨v1, vs1, d1, ds1, p1, q1, rfl, rfl, rfl, h1, r1⟩ := trodAll_cons r0
 obtain ⟨rfl, rfl, rfl⟩ := trodAll_nil r1
 have hsz : ∀ (j : Nat) t d, Try.f6.params.toList[j]? = some t → [d0, d1][j]? = some d → ∀ n ∈ d.weights Try.prog t, n ≤ reachBytes := weights_of (by rw [Try.params6]; rfl) hsz0
 rw [Try.params6] at hsz
 obtain rfl : args = #[v0, v1] := by cases args; simp_all
 obtain ⟨a0, Q0, V0⟩ := arg_agg reads_26 (by have h := hval 0 26 v0 rfl rfl; unfold Value.okWide at h; rw [Try.underlying26] at h; obtain ⟨cs, h, _⟩ := h; exact ⟨cs, h⟩) h0 (hsz 0 26 d0 rfl rfl)
 obtain ⟨a1, Q1, V1⟩ := arg_agg reads_69 (by have h := hval 1 69 v1 rfl rfl; unfold Value.okWide at h; rw [Try.underlying69] at h; obtain ⟨cs, h, _⟩ := h; exact ⟨cs, h⟩) h1 (hsz 1 69 d1 rfl rfl)
 obtain ⟨k, hk⟩ := plain a0 a1 Q0 Q1
 have hv : VRs (fmAll W) [] [.agg (Go.Abs.R04_Raw.c a0), .agg ((A3.c eI) a1)] [v0, v1] := ⟨rfl, fun i x v h1 h2 => by
  match i with
  | 0 => cases h1; cases h2; exact V0
  | 1 => cases h1; cases h2; exact V1
  | i + 2 => simp at h1⟩
 refine Calls.mono ((L04_HeatNarrows_ok k a0 a1 true hk).2 (fmAll W) W _ (fun _ _ _ h => h) hv) ?_
 rintro e W1 ⟨v, y, fm1, rfl, rfl, _, hvr, _, hB⟩
 cases hvr
 exact ⟨_, rfl, law_post (t := 4) (by kernel_rfl) (by kernel_rfl) (by kernel_rfl) hW' rfl hB (by rw [Try.params6]; decide +kernel) rfl Try.underlying4 (by obtain ⟨rfl, _⟩ := trodVars_none hV; rfl)⟩
theorem lifted (os : Os) (started : os.Started) (H : Type) (enc : TypeId × Value → H) :
  ReturnsInHanded {} Try.checked os 6 .any (Rows.heatNarrowsSpec.pre6 enc Try.prog Try.f6 Rows.heatNarrowsRow.domain false) (Rows.heatNarrowsSpec.post enc Try.prog Try.f6 false true false false) := by
 refine returnsInHanded_of_change_sized (C := Try.checked) own started (by kernel_rfl) Try.func6
  (ChangeSpec.witness6 (enc := enc) (C := Try.checked) false ⟨#[], #[.agg #[.int .i64 0, .int .i64 0, .slice none 0 0, .slice none 0 0, .slice none 0 0], .agg #[.int .i64 0, .int .i64 0, .int .i64 0]], []⟩ 8 (by kernel_rfl) (by kernel_rfl) (by kernel_rfl) (by kernel_rfl)) ?_
 intro W base args ds gs before hval0 hW hcnd hsz _
 exact contract H enc W base args ds gs before hval0 hW hsz
theorem over : Rows.heatNarrowsRow.holds Try.pinned (OpenSpec.ofChange Rows.heatNarrowsSpec) :=
 OpenClaim.holds_of_wide 6 Try.f6 rfl rfl rfl rfl rfl rfl rfl ⟨rfl, rfl, rfl, rfl, rfl⟩ rfl rfl rfl rfl rfl (by kernel_rfl) Try.func6 (by kernel_rfl)
  (of_decide_eq_true (by kernel_rfl)) (by unfold Func.isWrapper; first | (rw [if_pos (by decide +kernel)]; kernel_rfl) | (rw [if_neg (by decide +kernel)]; exact ⟨rfl, rfl⟩))
  (fun os started H enc _ => lifted os started H enc)
theorem proved : Rows.HeatNarrowsSaid := over
end Go.Proofs.Ytafmgcbfmifaeaa.heatNarrows
