/-
  Part 6 of the proof: a machine over named blocks, what each function computes, and what follows. No condition.
-/
import Derived.Test.YtafmgcbfmifaeaaRows
import Derived.WalkKit
import Derived.ProofKit
import Derived.OpenShut
import Derived.JoinedCond
import Derived.Test.YtafmgcbfmifaeaaHTogetherE
set_option linter.unusedVariables false
set_option linter.unusedSimpArgs false
set_option linter.all false
set_option maxRecDepth 20000
set_option maxHeartbeats 8000000
namespace Go.Abs
open Go
set_option linter.unusedVariables false
def rngX (x : heat_furnace) (q : Nat) : Range := (heat_furnace_bound KK x (q : Int)).getD ⟨0, 0⟩
theorem rngX_spec {x : heat_furnace} (h : x.ok) (hs : x.fur.Sound) {q : Nat} (hq : q < x.Firing.Kiln.P) :
  heat_furnace_bound KK x (q : Int) = some (rngX x q) ∧ (∀ t, (rngX x q).Lo ≤ t ↔ x.fur.Low q t) ∧ ∀ t, t ≤ (rngX x q).Hi ↔ x.fur.High q t := by
 obtain ⟨r, e1, e2, e3⟩ := heat_bound_eq h hs hq
 have : rngX x q = r := by unfold rngX; rw [e1]; rfl
 rw [this]; exact ⟨e1, e2, e3⟩
def askF (x : heat_furnace) (p : Int) (r : Range) : heat_furnace := ⟨x.Firing, x.least ++ [⟨p, r.Lo, -1⟩], x.most ++ [⟨p, r.Hi, -1⟩]⟩
theorem heat_asked_eq (x : heat_furnace) (h1 : x.least.length ≤ 1000) (h2 : x.most.length ≤ 1000) (p : Int) (r : Range) : heat_furnace_asked KK x p r = some (askF x p r) := by
 unfold heat_furnace_asked slices_Clone_heat_limit
 rw [room_of (by omega) (by omega)]
 simp only [Option.bind_some]
 rw [push_of (by omega) (by omega)]
 simp only [Option.bind_some]
 rw [room_of (by omega) (by omega)]
 simp only [Option.bind_some]
 rw [push_of (by omega) (by omega)]
 rfl
theorem askF_fur (x : heat_furnace) (p : Int) (r : Range) : (askF x p r).fur = x.fur.ask p.toNat r.Lo r.Hi := by
 unfold askF heat_furnace.fur Fur.ask
 simp [lp]
theorem askF_ok {x : heat_furnace} (h : x.ok) (hl : x.least.length < 1000) (hm : x.most.length < 1000) {p : Int} {r : Range} (h0 : 0 ≤ p) (hp : p < x.Firing.Kiln.P) (hlo : -3000 ≤ r.Lo ∧ r.Lo ≤ 3000) (hhi : -3000 ≤ r.Hi ∧ r.Hi ≤ 3000) : (askF x p r).ok := by
 refine ⟨h.k, by simp [askF]; omega, fun y hy => ?_, by simp [askF]; omega, fun y hy => ?_⟩
 ·have hy' : y ∈ x.least ++ [⟨p, r.Lo, -1⟩] := hy
  rcases List.mem_append.1 hy' with hy | hy
  ·exact h.l y hy
  ·simp only [List.mem_singleton] at hy; subst hy; exact ⟨h0, hp, hlo⟩
 ·have hy' : y ∈ x.most ++ [⟨p, r.Hi, -1⟩] := hy
  rcases List.mem_append.1 hy' with hy | hy
  ·exact h.m y hy
  ·simp only [List.mem_singleton] at hy; subst hy; exact ⟨h0, hp, hhi⟩
def wantB (P : Nat) (w : Want) : Bool := inB w.Place 0 ((P : Int) - 1) && (decide ((-3000 : Int) ≤ w.Heat.Lo) && (decide (w.Heat.Lo ≤ w.Heat.Hi) && decide (w.Heat.Hi ≤ (3000 : Int))))
def wantsB (P : Nat) (l : List Want) : Bool := !decide ((24 : Int) < (l.length : Int)) && l.all (wantB P)
theorem wantB_ok {P : Nat} {w : Want} (h : wantB P w = true) : 0 ≤ w.Place ∧ w.Place < P ∧ -3000 ≤ w.Heat.Lo ∧ w.Heat.Lo ≤ w.Heat.Hi ∧ w.Heat.Hi ≤ 3000 := by
 simp only [wantB, inB, Bool.and_eq_true, decide_eq_true_eq] at h
 omega
theorem wantsB_ok {P : Nat} {l : List Want} (h : wantsB P l = true) : l.length ≤ 24 ∧ ∀ w ∈ l, 0 ≤ w.Place ∧ w.Place < P ∧ -3000 ≤ w.Heat.Lo ∧ w.Heat.Lo ≤ w.Heat.Hi ∧ w.Heat.Hi ≤ 3000 := by
 simp only [wantsB, Bool.and_eq_true, Bool.not_eq_true', decide_eq_false_iff_not, List.all_eq_true] at h
 exact ⟨by omega, fun w hw => wantB_ok (h.2 w hw)⟩
theorem contains_Want {l : List Want} (hl : l.length ≤ 100000) {f : Want → Option Bool} {p : Want → Bool} (hf : ∀ x, f x = some (p x)) : slices_ContainsFunc_api_Want KK l f = some (l.any p) := by
 unfold slices_ContainsFunc_api_Want slices_IndexFunc_api_Want
 rw [indexFunc_gen (body := slices_IndexFunc_api_Want.b0 KK f l) (p := p) (fun x _ => hf x) (by omega) (by unfold KK; omega) rfl]
 have : l.any p = (l.findIdx? p).isSome := by rw [List.findIdx?_isSome]
 rw [this]
 cases l.findIdx? p with
 | none => rfl
 | some i => simp
theorem kiln_P {k : Kiln} (h : kilnB k = true) : ∃ x3, at? k.Falls 0 = some x3 ∧ x3.length = k.P := by
 obtain ⟨x3, g1, g2, g3⟩ := kilnB_head h
 exact ⟨x3, g2, by unfold Kiln.P; rw [g3]⟩
theorem heat_wanted_1_eq {f : Firing} (h : kilnB f.Kiln = true) (w : Want) : heat_wanted_1 KK w f = some (wantB f.Kiln.P w) := by
 obtain ⟨x3, g1, g2⟩ := kiln_P h
 have hk := kilnB_len h
 unfold heat_wanted_1 wantB
 simp only [g1, g2, Option.bind_some, heat_in_eq]
 rw [w64_of (n := (f.Kiln.P : Int) - 1) (by omega) (by omega)]
 cases inB w.Place 0 ((f.Kiln.P : Int) - 1) <;> cases decide ((-3000 : Int) ≤ w.Heat.Lo) <;> cases decide (w.Heat.Lo ≤ w.Heat.Hi) <;> rfl
def wantedF (x : heat_furnace) (l : List Want) : heat_furnace := l.foldl (fun s w => askF s w.Place w.Heat) x
theorem wantedF_fur : ∀ (l : List Want) (x : heat_furnace), (wantedF x l).fur = { x.fur with L := x.fur.L ++ l.map (fun w => (w.Place.toNat, w.Heat.Lo)), M := x.fur.M ++ l.map (fun w => (w.Place.toNat, w.Heat.Hi)) }
 | [], x => by simp [wantedF]
 | w :: l, x => by
  have := wantedF_fur l (askF x w.Place w.Heat)
  unfold wantedF at this ⊢
  rw [List.foldl_cons, this, askF_fur]
  simp [Fur.ask]
theorem wantedF_firing : ∀ (l : List Want) (x : heat_furnace), (wantedF x l).Firing = x.Firing
 | [], x => rfl
 | w :: l, x => by
  have := wantedF_firing l (askF x w.Place w.Heat)
  unfold wantedF at this ⊢
  rw [List.foldl_cons, this]; rfl
theorem wantedF_ok : ∀ (l : List Want) {x : heat_furnace}, x.ok → x.least.length + l.length ≤ 1000 → x.most.length + l.length ≤ 1000 → (∀ w ∈ l, 0 ≤ w.Place ∧ w.Place < x.Firing.Kiln.P ∧ -3000 ≤ w.Heat.Lo ∧ w.Heat.Lo ≤ w.Heat.Hi ∧ w.Heat.Hi ≤ 3000) → (wantedF x l).ok
 | [], x, h, _, _, _ => h
 | w :: l, x, h, h1, h2, h3 => by
  simp only [List.length_cons] at h1 h2
  have hw := h3 w (by simp)
  have := wantedF_ok l (x := askF x w.Place w.Heat) (askF_ok h (by omega) (by omega) hw.1 hw.2.1 (by omega) (by omega)) (by simp [askF]; omega) (by simp [askF]; omega) (fun v hv => h3 v (List.mem_cons_of_mem _ hv))
  exact this
theorem heat_wanted_loop (l : List Want) (x : heat_furnace) (hl : l.length ≤ 24) (h1 : x.least.length ≤ 200) (h2 : x.most.length ≤ 200) : whl (heat_wanted.b0 KK l) KK (x, 0) = some (.brk (wantedF x l)) := by
 have h := (whl_fold (l := l) (body := heat_wanted.b0 KK l) (k := KK) (fun i s => (s, i)) (fun s w => askF s w.Place w.Heat) (fun i s => s.least.length ≤ 200 + i ∧ s.most.length ≤ 200 + i) (s0 := x) (by omega) (by unfold KK; omega) ⟨by omega, by omega⟩ (fun i w s hw hI => by
  have hi : i < l.length := (List.getElem?_eq_some_iff.1 hw).1
  refine ⟨?_, by simp [askF]; omega, by simp [askF]; omega⟩
  unfold heat_wanted.b0
  simp only [lt_dec hi, cond_true, at_of hw, Option.bind_some]
  rw [heat_asked_eq s (by omega) (by omega)]
  rfl) (fun s _ => by
  unfold heat_wanted.b0
  simp only [lt_dec_self]; rfl)).1
 rw [h]; rfl
theorem nf_len {f : Firing} (h : f.ok) : (nf f).least.length ≤ 100 ∧ (nf f).most.length ≤ 100 := by
 have h2 := h.l
 have a := limsOf_len f.Readings lo?
 have b := limsOf_len f.Readings hi?
 exact ⟨by show (limsOf f.Readings lo?).length ≤ 100; omega, by show (limsOf f.Readings hi?).length ≤ 100; omega⟩
def wCode (f : Firing) (l : List Want) : Int := bif !decide (firingCode f = 0) then 42 else bif !wantsB f.Kiln.P l then 49 else bif !soundB (nf f) then 44 else 0
theorem heat_wanted_eq (f : Firing) (q : Firing.s f) (w : Firing.w f) (l : List Want) : heat_wanted KK f l = some (bif decide (wCode f l = 0) then (nf f, wantedF (nf f) l, 0) else (noFur, noFur, wCode f l)) := by
 unfold heat_wanted wCode
 rw [heat_Check_eq f q]
 simp only [Option.bind_some]
 by_cases h : firingCode f = 0
 ·have hok := firing_ok h
  have hk := kilnB_len hok.k
  simp only [h, decide_true, Bool.not_true, cond_false]
  unfold wantsB
  by_cases hl : (24 : Int) < (l.length : Int)
  ·simp only [hl, decide_true, Bool.not_true, cond_false, Bool.false_and, Bool.not_false, cond_true]; rfl
  ·simp only [hl, decide_false, Bool.not_false, cond_true, Bool.true_and]
   rw [contains_Want (by omega) (p := fun w => !wantB f.Kiln.P w) (fun w => by unfold heat_wanted_2; simp only [heat_wanted_1_eq hok.k, Option.bind_some])]
   have : (l.any fun w => !wantB f.Kiln.P w) = !l.all (wantB f.Kiln.P) := by simp [List.all_eq_not_any_not]
   rw [this]
   simp only [Option.bind_some]
   cases l.all (wantB f.Kiln.P) with
   | false => rfl
   | true =>
    simp only [Bool.not_true, cond_false, heat_asks_eq f q w, Option.bind_some]
    have hi : inB 0 0 ((f.Kiln.P : Int) - 1) = true := by simp [inB]; omega
    unfold askCode
    simp only [h, hi, decide_true, Bool.not_true, cond_false]
    cases hs : soundB (nf f) with
    | false => rfl
    | true =>
     have hn := nf_len hok
     simp only [Bool.not_true, cond_false, decide_true, cond_true]
     rw [heat_wanted_loop l (nf f) (by omega) (by omega) (by omega)]
     rfl
 ·simp only [h, decide_false, Bool.not_false, cond_true]; rfl
theorem wCode_ok {f : Firing} {l : List Want} (h : wCode f l = 0) : firingCode f = 0 ∧ f.ok ∧ l.length ≤ 24 ∧ (∀ w ∈ l, 0 ≤ w.Place ∧ w.Place < f.Kiln.P ∧ -3000 ≤ w.Heat.Lo ∧ w.Heat.Lo ≤ w.Heat.Hi ∧ w.Heat.Hi ≤ 3000) ∧ (nf f).fur.Sound ∧ soundB (nf f) = true ∧ (wantedF (nf f) l).ok ∧ wantsB f.Kiln.P l = true := by
 unfold wCode at h
 by_cases hc : firingCode f = 0
 ·have hok := firing_ok hc
  simp only [hc, decide_true, Bool.not_true, cond_false] at h
  cases hw : wantsB f.Kiln.P l with
  | false => rw [hw] at h; simp at h
  | true =>
   rw [hw] at h
   cases hs : soundB (nf f) with
   | false => rw [hs] at h; simp at h
   | true =>
    obtain ⟨w1, w2⟩ := wantsB_ok hw
    have hn := nf_len hok
    exact ⟨hc, hok, w1, w2, (soundB_iff (nf_ok hok)).1 hs, rfl, wantedF_ok l (nf_ok hok) (by omega) (by omega) w2, rfl⟩
 ·simp [hc] at h
def ringOf (w : Want) : Reading := ⟨1, w.Place, 3, 0, w.Heat⟩
def wf (f : Firing) (l : List Want) : Firing := ⟨f.Kiln, f.Readings ++ l.map ringOf⟩
def lpOf (g : Reading → Option Int) (r : Reading) : Option (Nat × Int) := (g r).map fun n => (r.Place.toNat, n)
theorem limsOf_map (l : List Reading) (g : Reading → Option Int) : (limsOf l g).map lp = l.filterMap (lpOf g) := by
 have key : ∀ (m : List Reading) (K : List Reading), l = K ++ m → ((List.range' K.length m.length).filterMap (limOf l g)).map lp = m.filterMap (lpOf g) := by
  intro m
  induction m with
  | nil => intro K _; rfl
  | cons r m ih =>
   intro K hK
   have hx : l[K.length]? = some r := by rw [hK]; simp
   have := ih (K ++ [r]) (by rw [hK]; simp)
   rw [List.length_append, List.length_singleton] at this
   rw [List.length_cons, List.range'_succ, List.filterMap_cons, List.filterMap_cons, ← this]
   have e1 : limOf l g K.length = (g r).map fun n => ⟨r.Place, n, K.length⟩ := by unfold limOf; rw [getD_of rd0 hx]
   have e2 : lpOf g r = (g r).map fun n => (r.Place.toNat, n) := rfl
   rw [e1, e2]
   cases g r <;> rfl
 have := key l [] rfl
 rw [List.length_nil, ← List.range_eq_range'] at this
 exact this
theorem wf_fur (f : Firing) (l : List Want) : (nf (wf f l)).fur = (wantedF (nf f) l).fur := by
 rw [wantedF_fur]
 unfold heat_furnace.fur nf wf
 simp only [limsOf_map, List.filterMap_append]
 have h1 : (l.map ringOf).filterMap (lpOf lo?) = l.map (fun w => (w.Place.toNat, w.Heat.Lo)) := by
  rw [List.filterMap_map, ← List.filterMap_eq_map]; rfl
 have h2 : (l.map ringOf).filterMap (lpOf hi?) = l.map (fun w => (w.Place.toNat, w.Heat.Hi)) := by
  rw [List.filterMap_map, ← List.filterMap_eq_map]; rfl
 rw [h1, h2]
theorem wf_ok {f : Firing} (h : f.ok) {l : List Want} (h0 : f.Readings.length ≤ 60) (hl : l.length ≤ 24) (hw : ∀ w ∈ l, 0 ≤ w.Place ∧ w.Place < f.Kiln.P ∧ -3000 ≤ w.Heat.Lo ∧ w.Heat.Lo ≤ w.Heat.Hi ∧ w.Heat.Hi ≤ 3000) : (wf f l).ok := by
 refine ⟨h.k, by simp [wf]; omega, fun r hr => ?_⟩
 have hr' : r ∈ f.Readings ++ l.map ringOf := hr
 rcases List.mem_append.1 hr' with hr | hr
 ·exact h.r r hr
 ·obtain ⟨w, hw2, rfl⟩ := List.mem_map.1 hr
  obtain ⟨a, b, c, d, e⟩ := hw w hw2
  refine ⟨a, b, .inr (.inr rfl), fun n hn => ?_, fun n hn => ?_⟩
  ·have : w.Heat.Lo = n := by simpa [lo?, ringOf] using hn
   omega
  ·have : w.Heat.Hi = n := by simpa [hi?, ringOf] using hn
   omega
def inR (f : Firing) (w : Want) : Bool := !decide ((rngX (nf f) w.Place.toNat).Lo < w.Heat.Lo) && !decide (w.Heat.Hi < (rngX (nf f) w.Place.toNat).Hi)
def ansR (f : Firing) (l : List Want) : Int := bif !soundB (wantedF (nf f) l) then 0 else bif l.all (inR f) then 1 else 2
def togR (f : Firing) (l : List Want) : Int × Int := bif !decide (wCode f l = 0) then (0, wCode f l) else (ansR f l, 0)
theorem heat_Together_eq (f : Firing) (q : Firing.s f) (w : Firing.w f) (l : List Want) : heat_Together KK f l = some (togR f l) := by
 unfold heat_Together togR ansR
 rw [heat_wanted_eq f q w]
 simp only [Option.bind_some]
 by_cases h : wCode f l = 0
 ·obtain ⟨h1, h2, h3, h4, h5, h6, h7, _⟩ := wCode_ok h
  simp only [h, decide_true, cond_true, Bool.not_true, cond_false, heat_sound_eq h7, Option.bind_some]
  cases soundB (wantedF (nf f) l) with
  | false => rfl
  | true =>
   simp only [Bool.not_true, cond_false]
   rw [whl_allL (l := l) (p := inR f) (c := ((2, 0) : Int × Int)) (by omega) (by unfold KK; omega) ?_ ?_]
   ·cases l.all (inR f) <;> rfl
   ·intro i v hv
    have hi : i < l.length := (List.getElem?_eq_some_iff.1 hv).1
    obtain ⟨a, b, _⟩ := h4 v (List.mem_of_getElem? hv)
    have hpl : ((v.Place.toNat : Nat) : Int) = v.Place := by omega
    have e1 := (rngX_spec (nf_ok h2) h5 (q := v.Place.toNat) (by show _ < f.Kiln.P; omega)).1
    rw [hpl] at e1
    unfold heat_Together.b0 inR
    simp only [lt_dec hi, cond_true, at_of hv, Option.bind_some, e1]
    cases decide ((rngX (nf f) v.Place.toNat).Lo < v.Heat.Lo) <;> cases decide (v.Heat.Hi < (rngX (nf f) v.Place.toNat).Hi) <;> rfl
   ·unfold heat_Together.b0
    rw [lt_dec_self]; rfl
 ·simp only [h, decide_false, cond_false, Bool.not_false, cond_true]
def verR (f : Firing) (p : Int) (r : Range) : Int × Int := bif !decide (firingCode f = 0) then (0, 42) else bif !inB p 0 ((f.Kiln.P : Int) - 1) then (0, 43) else togR f [⟨p, r⟩]
theorem heat_Verdict_eq (f : Firing) (q : Firing.s f) (w : Firing.w f) (p : Int) (r : Range) : heat_Verdict KK f p r = some (verR f p r) := by
 unfold heat_Verdict verR
 rw [heat_Check_eq f q]
 simp only [Option.bind_some]
 by_cases h : firingCode f = 0
 ·have hok := firing_ok h
  have hk := kilnB_len hok.k
  obtain ⟨x3, g1, g2⟩ := kiln_P hok.k
  simp only [h, decide_true, Bool.not_true, cond_false, g1, g2, Option.bind_some, heat_in_eq]
  rw [w64_of (n := (f.Kiln.P : Int) - 1) (by omega) (by omega)]
  cases inB p 0 ((f.Kiln.P : Int) - 1) with
  | false => rfl
  | true => simp only [Bool.not_true, cond_false, heat_Together_eq f q w, Option.bind_some]
 ·simp only [h, decide_false, Bool.not_false, cond_true]
def showR (f : Firing) (l : List Want) : Field × Int := bif !decide (wCode f l = 0) then (⟨[], []⟩, wCode f l) else bif !soundB (wantedF (nf f) l) then (⟨[], []⟩, 3) else (gField (wantedF (nf f) l), 0)
theorem heat_Show_eq (f : Firing) (q : Firing.s f) (w : Firing.w f) (l : List Want) : heat_Show KK f l = some (showR f l) := by
 unfold heat_Show showR
 rw [heat_wanted_eq f q w]
 simp only [Option.bind_some]
 by_cases h : wCode f l = 0
 ·obtain ⟨h1, h2, h3, h4, h5, h6, h7, _⟩ := wCode_ok h
  simp only [h, decide_true, cond_true, Bool.not_true, cond_false, heat_sound_eq h7, Option.bind_some]
  cases soundB (wantedF (nf f) l) with
  | false => rfl
  | true => simp only [Bool.not_true, cond_false, heat_greatest_eq h7, Option.bind_some]
 ·simp only [h, decide_false, cond_false, Bool.not_false, cond_true]
theorem gField_wanted {f : Firing} {l : List Want} (h : wCode f l = 0) (hs : soundB (wantedF (nf f) l) = true) : FieldOk f.Kiln (gField (wantedF (nf f) l)) ∧ agB f (gField (wantedF (nf f) l)) = true ∧ agB (wf f l) (gField (wantedF (nf f) l)) = true := by
 obtain ⟨h1, h2, h3, h4, h5, h6, h7, _⟩ := wCode_ok h
 have h9 := (firing_small h1).2.1
 have hwf := wf_ok h2 h9 h3 h4
 have hS := (soundB_iff h7).1 hs
 have hF := gField_ok h7 hS
 have hfi : (wantedF (nf f) l).Firing = f := wantedF_firing l (nf f)
 rw [hfi] at hF
 have hA : (wantedF (nf f) l).fur.Agrees (gField (wantedF (nf f) l)).u (gField (wantedF (nf f) l)).d := by
  have hsm := fur_small h7
  have hg := Fur.gd_agrees hS
  have hk := kilnB_len h2.k
  have e : ∀ p, p < f.Kiln.P → (wantedF (nf f) l).fur.heat (gField (wantedF (nf f) l)).u (gField (wantedF (nf f) l)).d p = (wantedF (nf f) l).fur.heat (wantedF (nf f) l).fur.U (wantedF (nf f) l).fur.gd p := by
   intro p hp
   refine mx_congr _ fun j hj => ?_
   have hm : (wantedF (nf f) l).fur.m = (wantedF (nf f) l).Firing.Kiln.Falls.length - 1 := rfl
   rw [hfi] at hm
   rw [gField_u _ (by rw [hfi]; omega), gField_d _ (by rw [hfi]; omega) (by rw [hfi]; exact hp)]
  rw [hfi] at hsm
  exact ⟨fun z hz => by rw [e _ (hsm.1 z hz).1]; exact hg.1 z hz, fun z hz => by rw [e _ (hsm.2 z hz).1]; exact hg.2 z hz⟩
 refine ⟨hF, ?_, ?_⟩
 ·rw [agB_iff h2]
  have := wantedF_fur l (nf f)
  rw [this] at hA
  exact ⟨fun z hz => hA.1 z (List.mem_append.2 (.inl hz)), fun z hz => hA.2 z (List.mem_append.2 (.inl hz))⟩
 ·rw [agB_iff hwf, wf_fur]; exact hA
theorem fieldCode_ok {f : Firing} {x : Field} (h1 : firingCode f = 0) (h2 : FieldOk f.Kiln x) (h3 : agB f x = true) : fieldCode f x = 0 := by
 unfold fieldCode
 simp [h1, (fieldB_iff h2.kv x).2 h2, h3]
end Go.Abs
namespace Go.Abs
open Go
set_option linter.unusedVariables false
end Go.Abs
namespace Go.Abs
open Go
set_option linter.unusedVariables false
end Go.Abs
namespace Go.Abs
open Go
end Go.Abs
namespace Go.Abs
open Go
set_option linter.unusedVariables false
end Go.Abs
namespace Go.Abs
open Go
set_option linter.unusedVariables false
theorem rng_isBound (f : Firing) (p : Int) : IsBound f p (rngX (nf f) p.toNat) := by
 intro h
 obtain ⟨h1, h2, h3, h4, h5, h6⟩ := askCode_ok h
 exact (rngX_spec (nf_ok h2) h5 (q := p.toNat) (by show p.toNat < f.Kiln.P; omega)).2
theorem agree_facts {f : Firing} (h : f.ok) {x : Field} (hF : FieldOk f.Kiln x) (ha : agB f x = true) :
  (nf f).fur.Sound ∧ ∀ p, (nf f).fur.High p (x.ht (f.Kiln.Falls.length - 1) p) ∧ (nf f).fur.Low p (x.ht (f.Kiln.Falls.length - 1) p) := by
 have hA := (agB_iff h x).1 ha
 have hI : (nf f).fur.IsField x.u x.d := hF.isField rfl (fun _ _ => rfl) (fun _ _ => rfl)
 exact ⟨hA.sound hI, fun p => ⟨hA.high hI p, hA.low hI p⟩⟩
theorem Fur.High.mono {f : Fur} {q : Nat} {s t : Int} (h : f.High q t) (hst : s ≤ t) : f.High q s := by
 obtain ⟨⟨j, h1, h2⟩, h3⟩ := h
 exact ⟨⟨j, h1, by omega⟩, fun y hy e => by have := h3 y hy e; omega⟩
theorem Fur.sub_sound {f g : Fur} (hm : g.m = f.m) (hlo : g.lo = f.lo) (hhi : g.hi = f.hi) (hL : ∀ x ∈ g.L, x ∈ f.L) (hM : ∀ x ∈ g.M, x ∈ f.M) (hs : f.Sound) : g.Sound ∧ ∀ j, f.U j ≤ g.U j := by
 have hU : ∀ j, f.U j ≤ g.U j := by
  intro j
  rw [Fur.U_iff]
  refine ⟨f.U_le j, fun x hx => ?_⟩
  rw [hhi]
  exact f.U_lim j (hM x hx)
 refine ⟨⟨fun j hj => ?_, fun x hx => ⟨fun y hy e => (hs.2 x (hL x hx)).1 y (hM y hy) e, ?_⟩⟩, hU⟩
 ·have := hs.1 j (by omega)
  have := hU j
  omega
 ·obtain ⟨j, h1, h2⟩ := (hs.2 x (hL x hx)).2
  have := hU j
  exact ⟨j, by omega, by rw [hlo]; omega⟩
theorem sub_sound {f g : Firing} (hk : g.Kiln = f.Kiln) (hr : ∀ r ∈ g.Readings, r ∈ f.Readings) (hs : (nf f).fur.Sound) : (nf g).fur.Sound := by
 refine (Fur.sub_sound (f := (nf f).fur) (g := (nf g).fur) ?_ ?_ ?_ ?_ ?_ hs).1
 ·show g.Kiln.Falls.length - 1 = f.Kiln.Falls.length - 1; rw [hk]
 ·show (fun j p => (g.Kiln.at j p).Lo) = fun j p => (f.Kiln.at j p).Lo; rw [hk]
 ·show (fun j p => (g.Kiln.at j p).Hi) = fun j p => (f.Kiln.at j p).Hi; rw [hk]
 ·intro z hz
  obtain ⟨r, h1, h2⟩ := limsOf_lp.1 hz
  exact limsOf_lp.2 ⟨r, hr r h1, h2⟩
 ·intro z hz
  obtain ⟨r, h1, h2⟩ := limsOf_lp.1 hz
  exact limsOf_lp.2 ⟨r, hr r h1, h2⟩
end Go.Abs
namespace Go.Abs
open Go
set_option linter.unusedVariables false
def rest (f : Firing) : List Int → Option (List Reading)
 | [] => some []
 | n :: l => if n < 0 then rest f l else if n < f.Readings.length then (rest f l).map ((f.Readings.getD n.toNat rd0) :: ·) else none
end Go.Abs
namespace Go.Abs
open Go
set_option linter.unusedVariables false
theorem whl_inv {S E R τ : Type} {n : Nat} {body : τ → Option (Stp τ E R)} (mk : Int → S → τ) (g : S → E) (Inv : Nat → S → Prop) (hn : n ≤ 9223372036854775807) {k : Nat} (hk : n < k) {s0 : S} (h0 : Inv 0 s0)
  (h1 : ∀ i s, i < n → Inv i s → ∃ s', body (mk (i : Int) s) = some (.next (mk (w64 ((i : Int) + 1)) s')) ∧ Inv (i + 1) s') (h2 : ∀ s, Inv n s → body (mk (n : Int) s) = some (.brk (g s))) :
  ∃ s, whl body k (mk 0 s0) = some (.brk (g s)) ∧ Inv n s := by
 have key : ∀ (d i k : Nat) (s : S), i + d = n → d < k → Inv i s → ∃ s1, whl body k (mk (i : Int) s) = some (.brk (g s1)) ∧ Inv n s1 := by
  intro d
  induction d with
  | zero =>
   intro i k s hi hk hI
   cases k with
   | zero => omega
   | succ k =>
    have : i = n := by omega
    subst this
    exact ⟨s, by rw [whl, h2 s hI], hI⟩
  | succ d ih =>
   intro i k s hi hk hI
   cases k with
   | zero => omega
   | succ k =>
    obtain ⟨s', g1, g2⟩ := h1 i s (by omega) hI
    have : w64 ((i : Int) + 1) = ((i + 1 : Nat) : Int) := by rw [w64_of (by omega) (by omega)]; omega
    rw [this] at g1
    obtain ⟨s'', g3, g4⟩ := ih (i + 1) k s' (by omega) (by omega) g2
    exact ⟨s'', by rw [whl, g1]; exact g3, g4⟩
 exact key n 0 k s0 (by omega) hk h0
theorem tmod_bd (a : Int) {m : Int} (h : 0 < m) : -m < Int.tmod a m ∧ Int.tmod a m < m := by
 have h1 := Int.tmod_lt_of_pos a h
 have h2 := Int.lt_tmod_of_pos a h
 exact ⟨h2, h1⟩
theorem R01_Mod_eq (n : Int) {m : Int} (h : 0 < m) (hm : m ≤ 4611686018427387904) : ∃ v, R01_Mod KK n m = some v ∧ 0 ≤ v ∧ v < m := by
 unfold R01_Mod nz?
 rw [if_neg (by omega)]
 simp only [Option.bind_some]
 have h1 := tmod_bd n h
 rw [w64_of (by omega) (by omega)]
 have h2 := tmod_bd (Int.tmod n m + m) h
 refine ⟨_, rfl, Int.tmod_nonneg _ (by omega), h2.2⟩
theorem R01_At_eq (l : List Int) (hl : l.length ≤ Go.maxLen) (i : Int) (hs : l.length * 8 ≤ 140737488355328) : ∃ v, R01_At KK l i = some v := by
 unfold R01_At
 by_cases h : (l.length : Int) = 0
 ·simp [h]
 ·simp only [h, decide_false, cond_false]
  obtain ⟨v, e, h1, h2⟩ := R01_Mod_eq i (m := (l.length : Int)) (by omega) (by omega)
  rw [e]
  simp only [Option.bind_some]
  rw [at_getD 0 h1 h2]
  exact ⟨_, rfl⟩
def rowOk (n : Nat) (s : List Range × List Int) : Prop := s.1.length = n ∧ s.2.length = n ∧ ∀ q, q < n → 20 ≤ (s.1.getD q R0).Lo ∧ (s.1.getD q R0).Lo ≤ s.2.getD q 0 ∧ s.2.getD q 0 ≤ (s.1.getD q R0).Hi ∧ (s.1.getD q R0).Hi ≤ 700
theorem rowOk_push {n : Nat} {s : List Range × List Int} (h : rowOk n s) {r : Range} {v : Int} (h1 : 20 ≤ r.Lo) (h2 : r.Lo ≤ v) (h3 : v ≤ r.Hi) (h4 : r.Hi ≤ 700) : rowOk (n + 1) (s.1 ++ [r], s.2 ++ [v]) := by
 obtain ⟨g1, g2, g3⟩ := h
 refine ⟨by simp [g1], by simp [g2], fun q hq => ?_⟩
 by_cases hqn : q < n
 ·have e1 : (s.1 ++ [r]).getD q R0 = s.1.getD q R0 := by rw [List.getD_eq_getElem?_getD, List.getD_eq_getElem?_getD, List.getElem?_append_left (by omega)]
  have e2 : (s.2 ++ [v]).getD q 0 = s.2.getD q 0 := by rw [List.getD_eq_getElem?_getD, List.getD_eq_getElem?_getD, List.getElem?_append_left (by omega)]
  simp only [e1, e2]; exact g3 q hqn
 ·have hq' : q = n := by omega
  have e1 : (s.1 ++ [r]).getD q R0 = r := by rw [List.getD_eq_getElem?_getD, List.getElem?_append_right (by omega)]; simp [hq', g1]
  have e2 : (s.2 ++ [v]).getD q 0 = v := by rw [List.getD_eq_getElem?_getD, List.getElem?_append_right (by omega)]; simp [hq', g2]
  simp only [e1, e2]; exact ⟨h1, h2, h3, h4⟩
structure RawS (r : R04_Raw) : Prop where
 f : r.Falls.length * 16 ≤ 140737488355328
 h : r.Heats.length * 8 ≤ 140737488355328
 r : r.Readings.length * 32 ≤ 140737488355328
theorem R04_Raw.q.s {r : R04_Raw} (q : R04_Raw.q r) : RawS r := by
 have := qB_le
 obtain ⟨_, _, ⟨_, h1, _⟩, ⟨_, h2, _⟩, ⟨_, h3, _⟩⟩ := q
 exact ⟨by omega, by omega, by omega⟩
theorem made_row (r : R04_Raw) (hr : RawS r) (x1 x2 : Int) (h1 : 0 ≤ x1 ∧ x1 < 4) (h2 : 0 ≤ x2 ∧ x2 < 7) {j : Nat} (hj : j < 4) :
  ∃ s : List Range × List Int, whl (R04_Made.b1 KK r x1 x2 (j : Int)) KK (0, [], []) = some (.brk s) ∧ rowOk (x2.toNat + 1) s := by
 have hf := hr.f
 have e2 : w64 (1 + x2) = ((x2.toNat + 1 : Nat) : Int) := by rw [w64_of (by omega) (by omega)]; omega
 refine whl_inv (n := x2.toNat + 1) (fun i (s : List Range × List Int) => (i, s.1, s.2)) (fun s => s) rowOk (by omega) (by unfold KK; omega) (s0 := ([], [])) ⟨rfl, rfl, fun q hq => by omega⟩ (fun i s hi hI => ?_) (fun s _ => ?_)
 ·obtain ⟨g1, g2, g3⟩ := hI
  have hlt : decide ((i : Int) < w64 (1 + x2)) = true := by rw [e2]; exact lt_dec hi
  have fin : ∀ a b : Int, ∃ s', (R01_Mod KK (w64 ((w64 ((w64 ((j : Int) * 3)) + (w64 ((i : Int) * 2)))) + (w64 (Int.tdiv a 7)))) 6).bind (fun x20 => (R01_Mod KK a 120).bind fun x21 => (push? 16 s.1 (⟨w64 (20 + (w64 (110 * x20))), w64 ((w64 (20 + (w64 (110 * x20)))) + x21)⟩ : Range)).bind fun l22 => (R01_Mod KK b (w64 (x21 + 1))).bind fun x23 => (push? 8 s.2 (w64 ((w64 (20 + (w64 (110 * x20)))) + x23))).bind fun l24 => some (Stp.next (w64 ((i : Int) + 1), l22, l24))) = (some (.next (w64 ((i : Int) + 1), s'.1, s'.2)) : Option (Stp (Int × (List Range) × (List Int)) ((List Range) × (List Int)) (Firing × Field))) ∧ rowOk (i + 1) s' := by
   intro a b
   obtain ⟨v20, m1, m2, m3⟩ := R01_Mod_eq (w64 ((w64 ((w64 ((j : Int) * 3)) + (w64 ((i : Int) * 2)))) + (w64 (Int.tdiv a 7)))) (m := 6) (by omega) (by omega)
   obtain ⟨v21, n1, n2, n3⟩ := R01_Mod_eq a (m := 120) (by omega) (by omega)
   obtain ⟨v23, o1, o2, o3⟩ := R01_Mod_eq b (m := v21 + 1) (by omega) (by omega)
   have w1 : w64 (110 * v20) = 110 * v20 := w64_of (by omega) (by omega)
   have w2 : w64 (20 + 110 * v20) = 20 + 110 * v20 := w64_of (by omega) (by omega)
   have w3 : w64 (20 + 110 * v20 + v21) = 20 + 110 * v20 + v21 := w64_of (by omega) (by omega)
   have w4 : w64 (v21 + 1) = v21 + 1 := w64_of (by omega) (by omega)
   have w5 : w64 (20 + 110 * v20 + v23) = 20 + 110 * v20 + v23 := w64_of (by omega) (by omega)
   simp only [m1, n1, Option.bind_some, w1, w2, w3, w4]
   rw [push_of (by omega) (by omega)]
   simp only [Option.bind_some, o1, w5]
   rw [push_of (by omega) (by omega)]
   exact ⟨(s.1 ++ [⟨20 + 110 * v20, 20 + 110 * v20 + v21⟩], s.2 ++ [20 + 110 * v20 + v23]), rfl, rowOk_push ⟨g1, g2, g3⟩ (by show 20 ≤ 20 + 110 * v20; omega) (by show 20 + 110 * v20 ≤ _; omega) (by show _ ≤ 20 + 110 * v20 + v21; omega) (by show 20 + 110 * v20 + v21 ≤ 700; omega)⟩
  unfold R04_Made.b1
  simp only [hlt, cond_true]
  by_cases hF : (0 : Int) < (r.Falls.length : Int)
  ·have hn : nz? (r.Falls.length : Int) = some () := by unfold nz?; rw [if_neg (by omega)]
   have e3 : w64 ((j : Int) * w64 (1 + x2)) = (j : Int) * ((x2.toNat + 1 : Nat) : Int) := by
    rw [e2]
    have hb : (j : Int) * ((x2.toNat + 1 : Nat) : Int) ≤ 3 * 7 := Int.mul_le_mul (by omega) (by omega) (by omega) (by omega)
    have hb0 : 0 ≤ (j : Int) * ((x2.toNat + 1 : Nat) : Int) := Int.mul_nonneg (by omega) (by omega)
    exact w64_of (by omega) (by omega)
   have hb : (j : Int) * ((x2.toNat + 1 : Nat) : Int) ≤ 3 * 7 := Int.mul_le_mul (by omega) (by omega) (by omega) (by omega)
   have hb0 : 0 ≤ (j : Int) * ((x2.toNat + 1 : Nat) : Int) := Int.mul_nonneg (by omega) (by omega)
   have e4 : w64 ((j : Int) * ((x2.toNat + 1 : Nat) : Int) + (i : Int)) = (j : Int) * ((x2.toNat + 1 : Nat) : Int) + (i : Int) := w64_of (by omega) (by omega)
   have t1 : 0 ≤ Int.tmod ((j : Int) * ((x2.toNat + 1 : Nat) : Int) + (i : Int)) (r.Falls.length : Int) := Int.tmod_nonneg _ (by omega)
   have t2 := (tmod_bd ((j : Int) * ((x2.toNat + 1 : Nat) : Int) + (i : Int)) hF).2
   simp only [hF, decide_true, cond_true, hn, Option.bind_some, e3, e4]
   rw [at_getD (⟨0, 0⟩ : A2 Int) t1 t2]
   simp only [Option.bind_some]
   exact fin _ _
  ·simp only [hF, decide_false, cond_false]
   exact fin 0 0
 ·unfold R04_Made.b1
  simp only [e2, lt_dec_self]; rfl
def kilOk (P n : Nat) (s : List (List Range) × List Int × List (List Int)) : Prop := s.1.length = n ∧ s.2.1.length = n ∧ s.2.2.length = n ∧ ∀ q, q < n → rowOk P (s.1.getD q [], s.2.2.getD q []) ∧ 1000 ≤ s.2.1.getD q 0 ∧ s.2.1.getD q 0 < 1600
theorem getD_app {α : Type} (d : α) (l : List α) (x : α) (q : Nat) : (l ++ [x]).getD q d = if q < l.length then l.getD q d else if q = l.length then x else d := by
 rw [List.getD_eq_getElem?_getD, List.getD_eq_getElem?_getD]
 by_cases h : q < l.length
 ·rw [List.getElem?_append_left h, if_pos h]
 ·rw [List.getElem?_append_right (by omega), if_neg h]
  by_cases h2 : q = l.length
  ·rw [if_pos h2]; simp [h2]
  ·rw [if_neg h2, List.getElem?_eq_none (by simp; omega)]; rfl
theorem made_kiln (r : R04_Raw) (hr : RawS r) (hh : r.Heats.length ≤ Go.maxLen) (x1 x2 : Int) (h1 : 0 ≤ x1 ∧ x1 < 4) (h2 : 0 ≤ x2 ∧ x2 < 7) :
  ∃ s : List (List Range) × List Int × List (List Int), whl (R04_Made.b0 KK r x1 x2) KK (0, [], [], []) = some (.brk s) ∧ kilOk (x2.toNat + 1) (x1.toNat + 1) s := by
 have e1 : w64 (1 + x1) = ((x1.toNat + 1 : Nat) : Int) := by rw [w64_of (by omega) (by omega)]; omega
 refine whl_inv (n := x1.toNat + 1) (fun i (s : List (List Range) × List Int × List (List Int)) => (i, s.1, s.2.1, s.2.2)) (fun s => s) (kilOk (x2.toNat + 1)) (by omega) (by unfold KK; omega) (s0 := ([], [], [])) ⟨rfl, rfl, rfl, fun q hq => by omega⟩ (fun j s hj hI => ?_) (fun s _ => ?_)
 ·obtain ⟨g1, g2, g3, g4⟩ := hI
  have hlt : decide ((j : Int) < w64 (1 + x1)) = true := by rw [e1]; exact lt_dec hj
  obtain ⟨t, t1, t2⟩ := made_row r hr x1 x2 h1 h2 (j := j) (by omega)
  obtain ⟨v, v1⟩ := R01_At_eq r.Heats hh (j : Int) hr.h
  obtain ⟨u, u1, u2, u3⟩ := R01_Mod_eq v (m := 600) (by omega) (by omega)
  have w1 : w64 (1000 + u) = 1000 + u := w64_of (by omega) (by omega)
  refine ⟨(s.1 ++ [t.1], s.2.1 ++ [1000 + u], s.2.2 ++ [t.2]), ?_, by simp [g1], by simp [g2], by simp [g3], fun q hq => ?_⟩
  ·unfold R04_Made.b0
   simp only [hlt, cond_true, t1, Option.bind_some]
   rw [push_of (by omega) (by omega)]
   simp only [Option.bind_some]
   rw [push_of (by omega) (by omega)]
   simp only [Option.bind_some, v1, u1, w1]
   rw [push_of (by omega) (by omega)]
   rfl
  ·simp only [getD_app, g1, g2, g3]
   by_cases hqj : q < j
   ·simp only [hqj, if_true]; exact g4 q hqj
   ·have : q = j := by omega
    subst this
    simp only [Nat.lt_irrefl, if_false, if_true]
    exact ⟨t2, by omega, by omega⟩
 ·unfold R04_Made.b0
  simp only [e1, lt_dec_self]; rfl
theorem kil_field {P m : Nat} (hP : 1 ≤ P ∧ P ≤ 7) (hm : 1 ≤ m ∧ m ≤ 4) {s : List (List Range) × List Int × List (List Int)} (h : kilOk P m s) : FieldOk ⟨s.1⟩ ⟨s.2.1, s.2.2⟩ ∧ (⟨s.1⟩ : Kiln).P = P ∧ (∀ j p, j < m → p < P → ((⟨s.1⟩ : Kiln).at j p).Hi ≤ 700) ∧ ∀ p, p < P → 300 ≤ (⟨s.2.1, s.2.2⟩ : Field).ht (m - 1) p ∧ (⟨s.2.1, s.2.2⟩ : Field).ht (m - 1) p ≤ 1580 := by
 obtain ⟨g1, g2, g3, g4⟩ := h
 have hrow : ∀ j, j < m → (s.1.getD j []).length = P := fun j hj => (g4 j hj).1.1
 have hhead : (s.1.headD []).length = P := by
  have := hrow 0 (by omega)
  cases hs : s.1 with
  | nil => rw [hs] at g1; simp at g1; omega
  | cons a l => rw [hs] at this; simpa using this
 have hat : ∀ j p, (⟨s.1⟩ : Kiln).at j p = (s.1.getD j []).getD p R0 := fun _ _ => rfl
 have hk : kilnB ⟨s.1⟩ = true := by
  simp only [kilnB, inB, Bool.and_eq_true, decide_eq_true_eq, List.all_eq_true, hhead, g1]
  refine ⟨by omega, by omega, fun x hx => ?_⟩
  obtain ⟨j, hj, rfl⟩ := List.getElem_of_mem hx
  have hx' : s.1.getD j [] = s.1[j] := getD_of _ (List.getElem?_eq_getElem hj)
  have hjm : j < m := by omega
  refine ⟨by rw [← hx']; exact hrow j hjm, fun y hy => ?_⟩
  obtain ⟨p, hp, rfl⟩ := List.getElem_of_mem hy
  have h5 := (g4 j hjm).1.2.2 p (by rw [← hrow j hjm, hx']; exact hp)
  simp only [hx'] at h5
  rw [getD_of R0 (List.getElem?_eq_getElem hp)] at h5
  rw [rangeB_iff]
  omega
 have hP2 : (⟨s.1⟩ : Kiln).P = P := hhead
 have hd : ∀ j p, (⟨s.2.1, s.2.2⟩ : Field).d j p = (s.2.2.getD j []).getD p 0 := fun _ _ => rfl
 have hu : ∀ j, (⟨s.2.1, s.2.2⟩ : Field).u j = s.2.1.getD j 0 := fun _ => rfl
 refine ⟨⟨hk, by show s.2.1.length = s.1.length; omega, by show s.2.2.length = s.1.length; omega, fun j hj => ?_, fun j hj => ?_, fun j p hj => ?_⟩, hP2, fun j p hj hp => ?_, fun p hp => ?_⟩
 ·have hj' : j < m := by have : j < s.1.length := hj; omega
  rw [hP2]; exact (g4 j hj').1.2.1
 ·have hj' : j < m := by have : j < s.1.length := hj; omega
  have := g4 j hj'
  rw [hu]; omega
 ·have hj' : j < m := by have : j < s.1.length := hj; omega
  rw [hat, hd]
  by_cases hp : p < P
  ·have := (g4 j hj').1.2.2 p hp
   simp only at this
   omega
  ·have l1 := hrow j hj'
   have l2 := (g4 j hj').1.2.1
   simp only at l2
   rw [getD_none (by omega), getD_none (by omega)]
   exact ⟨Int.le_refl _, Int.le_refl _⟩
 ·rw [hat]
  have := (g4 j hj).1.2.2 p hp
  simp only at this
  omega
 ·unfold Field.ht
  rw [mx_le_iff, le_mx_iff]
  refine ⟨⟨0, Nat.zero_le _, ?_⟩, fun j hj => ?_⟩
  ·have a := g4 0 (by omega)
   have b := a.1.2.2 p hp
   simp only at b
   rw [hu, hd]; omega
  ·have a := g4 j (by omega)
   have b := a.1.2.2 p hp
   simp only at b
   rw [hu, hd]; omega
def madeRd (P : Nat) (x : Field) (m : Nat) (r : Reading) : Prop := readB (P : Int) r = true ∧ rdAg (x.ht m r.Place.toNat) r = true
theorem made_read {P : Nat} (hP : 1 ≤ P ∧ P ≤ 7) {h pl off src kd : Int} (hh : 300 ≤ h ∧ h ≤ 1580) (hp : 0 ≤ pl ∧ pl < P) (ho : 0 ≤ off ∧ off < 90) (hs : 0 ≤ src ∧ src < 12) :
  (readB (P : Int) ⟨w64 (1 + src), pl, 1, min (max (w64 (h - off)) 1) 2000, ⟨0, 0⟩⟩ = true ∧ rdAg h ⟨w64 (1 + src), pl, 1, min (max (w64 (h - off)) 1) 2000, ⟨0, 0⟩⟩ = true) ∧
  (readB (P : Int) ⟨w64 (1 + src), pl, 2, min (max (w64 ((w64 (h + 1)) + off)) 1) 2000, ⟨0, 0⟩⟩ = true ∧ rdAg h ⟨w64 (1 + src), pl, 2, min (max (w64 ((w64 (h + 1)) + off)) 1) 2000, ⟨0, 0⟩⟩ = true) ∧
  (readB (P : Int) ⟨w64 (1 + src), pl, 3, 0, ⟨max (w64 (h - (w64 (Int.tdiv off 2)))) 1, min (w64 (h + off)) 2000⟩⟩ = true ∧ rdAg h ⟨w64 (1 + src), pl, 3, 0, ⟨max (w64 (h - (w64 (Int.tdiv off 2)))) 1, min (w64 (h + off)) 2000⟩⟩ = true) := by
 have w0 : w64 ((P : Int) - 1) = (P : Int) - 1 := w64_of (by omega) (by omega)
 have w1 : w64 (1 + src) = 1 + src := w64_of (by omega) (by omega)
 have w2 : w64 (h - off) = h - off := w64_of (by omega) (by omega)
 have w3 : w64 (h + 1) = h + 1 := w64_of (by omega) (by omega)
 have w4 : w64 (h + 1 + off) = h + 1 + off := w64_of (by omega) (by omega)
 have td : Int.tdiv off 2 = off / 2 := Int.tdiv_eq_ediv_of_nonneg ho.1
 have w5 : w64 (off / 2) = off / 2 := w64_of (by omega) (by omega)
 have w6 : w64 (h - off / 2) = h - off / 2 := w64_of (by omega) (by omega)
 have w7 : w64 (h + off) = h + off := w64_of (by omega) (by omega)
 have k12 : decide ((2 : Int) = 1) = false := by decide
 have k13 : decide ((3 : Int) = 1) = false := by decide
 have k23 : decide ((3 : Int) = 2) = false := by decide
 have k32 : decide ((1 : Int) = 3) = false := by decide
 have k21 : decide ((1 : Int) = 2) = false := by decide
 have k31 : decide ((2 : Int) = 3) = false := by decide
 have w8 : w64 (h + 1 + off - 1) = h + off := by rw [w64_of (by omega) (by omega)]; omega
 refine ⟨⟨?_, ?_⟩, ⟨?_, ?_⟩, ?_, ?_⟩
 ·simp only [readB, inB, w0, w1, w2, decide_true, cond_true, Bool.and_eq_true, decide_eq_true_eq, and_true, true_and]; omega
 ·simp only [rdAg, lo?, hi?, w1, w2, decide_true, cond_true, k21, k32, cond_false, Option.isSome_some, Option.isSome_none, Option.getD_some, Bool.true_and, Bool.false_and, Bool.not_false, Bool.and_true, Bool.not_eq_true', decide_eq_false_iff_not]; omega
 ·simp only [readB, inB, w0, w1, w3, w4, k12, decide_true, cond_true, cond_false, Bool.and_eq_true, decide_eq_true_eq, and_true, true_and]; omega
 ·have e : min (max (h + 1 + off) 1) 2000 = h + 1 + off := by omega
  simp only [rdAg, lo?, hi?, w1, w3, w4, e, w8, decide_true, cond_true, k12, k31, cond_false, Option.isSome_some, Option.isSome_none, Option.getD_some, Bool.true_and, Bool.false_and, Bool.not_false, Bool.not_eq_true', decide_eq_false_iff_not]; omega
 ·simp only [readB, inB, rangeB, w0, w1, td, w5, w6, w7, k13, k23, decide_true, cond_true, cond_false, Bool.and_eq_true, decide_eq_true_eq, and_true, true_and]; omega
 ·simp only [rdAg, lo?, hi?, w1, td, w5, w6, w7, decide_true, cond_true, k13, k23, cond_false, Option.isSome_some, Option.getD_some, Bool.true_and, Bool.and_eq_true, Bool.not_eq_true', decide_eq_false_iff_not]; omega
structure IsMade (f : Firing) (x : Field) : Prop where
 c : firingCode f = 0
 fld : FieldOk f.Kiln x
 a : agB f x = true
 r : f.Readings.length ≤ 14
 P : f.Kiln.P ≤ 7
 m : f.Kiln.Falls.length ≤ 4
 hi : ∀ j p, j < f.Kiln.Falls.length → p < f.Kiln.P → (f.Kiln.at j p).Hi ≤ 700
 ht : ∀ p, p < f.Kiln.P → 300 ≤ x.ht (f.Kiln.Falls.length - 1) p ∧ x.ht (f.Kiln.Falls.length - 1) p ≤ 1580
theorem R04_Made_eq (r : R04_Raw) (q : R04_Raw.q r) : ∃ f x, R04_Made KK r = some (f, x) ∧ IsMade f x := by
 have hr := q.s
 have hh : r.Heats.length ≤ Go.maxLen := q.2.2.2.1.1
 have hrl := hr.r
 unfold R04_Made
 obtain ⟨x1, a1, a2, a3⟩ := R01_Mod_eq r.Mouths (m := 4) (by omega) (by omega)
 obtain ⟨x2, b1, b2, b3⟩ := R01_Mod_eq r.Places (m := 7) (by omega) (by omega)
 obtain ⟨s, c1, c2⟩ := made_kiln r hr hh x1 x2 ⟨a2, a3⟩ ⟨b2, b3⟩
 obtain ⟨s1, s2, s3⟩ := s
 simp only [a1, b1, Option.bind_some, c1]
 obtain ⟨d1, d2, d3, d4⟩ := kil_field (P := x2.toNat + 1) (m := x1.toNat + 1) (by omega) (by omega) c2
 simp only at d1 d2 d3 d4
 have e2 : w64 (1 + x2) = ((x2.toNat + 1 : Nat) : Int) := by rw [w64_of (by omega) (by omega)]; omega
 have hm : s1.length = x1.toNat + 1 := c2.1
 obtain ⟨l, e3, e4, e5⟩ := whl_inv (n := min r.Readings.length 14) (body := R04_Made.b2 KK r x1 x2 s2 s3) (k := KK) (fun i s => (i, s)) id (fun i (s : List Reading) => s.length = i ∧ ∀ y ∈ s, madeRd (x2.toNat + 1) ⟨s2, s3⟩ x1.toNat y) (by omega) (by unfold KK; omega) (s0 := []) ⟨rfl, by simp⟩ (fun i s hi hI => by
  obtain ⟨I1, I2⟩ := hI
  have hi1 : i < r.Readings.length := by omega
  have hi2 : decide ((i : Int) < 14) = true := by simp; omega
  have hx : r.Readings[i]? = some r.Readings[i] := List.getElem?_eq_getElem hi1
  generalize r.Readings[i] = n at hx
  obtain ⟨pl, f1, f2, f3⟩ := R01_Mod_eq n.x0 (m := ((x2.toNat + 1 : Nat) : Int)) (by omega) (by omega)
  obtain ⟨off, g1, g2, g3⟩ := R01_Mod_eq n.x2 (m := 90) (by omega) (by omega)
  obtain ⟨src, h1, h2, h3⟩ := R01_Mod_eq n.x3 (m := 12) (by omega) (by omega)
  obtain ⟨kd, k1, k2, k3⟩ := R01_Mod_eq n.x1 (m := 3) (by omega) (by omega)
  have hpp : ((pl.toNat : Nat) : Int) = pl := by omega
  have eh := R04_heat_eq d1 (p := pl.toNat) (by rw [d2]; omega)
  rw [hpp] at eh
  have hms : (⟨s1⟩ : Kiln).Falls.length - 1 = x1.toNat := by show s1.length - 1 = _; omega
  rw [hms] at eh
  have hb := d4 pl.toNat (by omega)
  rw [show x1.toNat + 1 - 1 = x1.toNat by omega] at hb
  obtain ⟨r1, r2, r3⟩ := made_read (P := x2.toNat + 1) (by omega) (kd := 0) (h := (⟨s2, s3⟩ : Field).ht x1.toNat pl.toNat) hb (pl := pl) ⟨f2, f3⟩ (off := off) ⟨g2, g3⟩ (src := src) ⟨h2, h3⟩
  have wk : w64 (1 + kd) = 1 + kd := w64_of (by omega) (by omega)
  have hall : ∀ y, madeRd (x2.toNat + 1) ⟨s2, s3⟩ x1.toNat y → ∀ z ∈ s ++ [y], madeRd (x2.toNat + 1) ⟨s2, s3⟩ x1.toNat z := by
   intro y hy z hz
   rcases List.mem_append.1 hz with hz | hz
   ·exact I2 z hz
   ·simp only [List.mem_singleton] at hz; subst hz; exact hy
  unfold R04_Made.b2
  simp only [lt_dec hi1, hi2, cond_true, at_of hx, Option.bind_some, e2, f1, g1, h1, k1, eh, wk]
  by_cases q1 : 1 + kd = 1
  ·simp only [q1, decide_true, cond_true]
   rw [push_of (by omega) (by omega)]
   exact ⟨_, rfl, by simp [I1], hall _ r1⟩
  ·simp only [q1, decide_false, cond_false]
   by_cases q2 : 1 + kd = 2
   ·simp only [q2, decide_true, cond_true]
    rw [push_of (by omega) (by omega)]
    exact ⟨_, rfl, by simp [I1], hall _ r2⟩
   ·have q3 : 1 + kd = 3 := by omega
    simp only [q3, show decide ((3 : Int) = 2) = false by decide, cond_false]
    rw [push_of (by omega) (by omega)]
    exact ⟨_, rfl, by simp [I1], hall _ r3⟩) (fun s _ => by
  unfold R04_Made.b2
  by_cases h14 : r.Readings.length ≤ 14
  ·have : min r.Readings.length 14 = r.Readings.length := by omega
   simp only [this, lt_dec_self]; rfl
  ·have : min r.Readings.length 14 = 14 := by omega
   have h15 : decide (((14 : Nat) : Int) < (r.Readings.length : Int)) = true := by simp; omega
   simp only [this, h15, cond_true]; rfl)
 rw [e3]
 refine ⟨⟨⟨s1⟩, l⟩, ⟨s2, s3⟩, rfl, ?_, d1, ?_, by show l.length ≤ 14; omega, by show (⟨s1⟩ : Kiln).P ≤ 7; omega, by show s1.length ≤ 4; omega, fun j p hj hp => d3 j p (by have : j < s1.length := hj; omega) (by rw [← d2]; exact hp), fun p hp => ?_⟩
 ·have hPh : ((⟨s1⟩ : Kiln).Falls.headD []).length = x2.toNat + 1 := d2
  have hlen : ¬ ((60 : Int) < (l.length : Int)) := by omega
  unfold firingCode
  simp only [d1.kv, cond_true]
  have hall : l.all (readB ((((⟨s1⟩ : Kiln).Falls.headD []).length : Nat) : Int)) = true := by
   rw [List.all_eq_true, hPh]
   exact fun y hy => (e5 y hy).1
  rw [hall, decide_eq_false hlen]
  rfl
 ·unfold agB
  rw [List.all_eq_true]
  intro y hy
  have : (⟨s1⟩ : Kiln).Falls.length - 1 = x1.toNat := by show s1.length - 1 = _; omega
  rw [this]
  exact (e5 y hy).2
 ·have : (⟨s1⟩ : Kiln).Falls.length - 1 = x1.toNat + 1 - 1 := by show s1.length - 1 = _; omega
  rw [this]
  exact d4 p (by rw [← d2]; exact hp)
end Go.Abs
namespace Go.Abs
open Go
set_option linter.unusedVariables false
structure Fur.Sub (g f : Fur) : Prop where
 m : g.m = f.m
 lo : g.lo = f.lo
 hi : g.hi = f.hi
 L : ∀ x ∈ g.L, x ∈ f.L
 M : ∀ x ∈ g.M, x ∈ f.M
namespace Fur.Sub
variable {g f : Fur}
theorem U (h : Sub g f) (j : Nat) : f.U j ≤ g.U j := by
 rw [Fur.U_iff]
 refine ⟨f.U_le j, fun x hx => ?_⟩
 rw [h.hi]
 exact f.U_lim j (h.M x hx)
theorem sound (h : Sub g f) (hs : f.Sound) : g.Sound := (Fur.sub_sound h.m h.lo h.hi h.L h.M hs).1
theorem high (h : Sub g f) {q : Nat} {t : Int} (ht : f.High q t) : g.High q t := by
 obtain ⟨⟨j, h1, h2⟩, h3⟩ := ht
 have := h.U j
 exact ⟨⟨j, by rw [h.m]; exact h1, by rw [h.lo]; omega⟩, fun y hy e => h3 y (h.M y hy) e⟩
theorem low (h : Sub g f) {q : Nat} {t : Int} (ht : f.Low q t) : g.Low q t := by
 obtain ⟨h1, h2, h3⟩ := ht
 refine ⟨fun j hj => by rw [h.hi]; exact h1 j (by rw [← h.m]; exact hj), fun x hx e => h2 x (h.L x hx) e, fun x hx e => ?_⟩
 obtain ⟨j, k1, k2, k3⟩ := h3 x (h.L x hx) e
 have := h.U j
 exact ⟨j, by rw [h.m]; exact k1, by rw [h.lo]; omega, by rw [h.lo, h.hi]; exact k3⟩
end Fur.Sub
theorem firingCode_of {f : Firing} (h1 : kilnB f.Kiln = true) (h2 : f.Readings.length ≤ 60) (h3 : ∀ r ∈ f.Readings, readB (f.Kiln.P : Int) r = true) : firingCode f = 0 := by
 unfold firingCode
 have : ¬ ((60 : Int) < (f.Readings.length : Int)) := by omega
 have h4 : f.Readings.all (readB ((f.Kiln.Falls.headD []).length : Int)) = true := by
  rw [List.all_eq_true]; exact h3
 rw [h1, decide_eq_false this, h4]; rfl
theorem askCode_of {f : Firing} (h : firingCode f = 0) (hs : (nf f).fur.Sound) {p : Int} (h0 : 0 ≤ p) (hp : p < f.Kiln.P) : askCode f p = 0 := by
 have hi : inB p 0 ((f.Kiln.P : Int) - 1) = true := by simp [inB]; omega
 have hb : soundB (nf f) = true := (soundB_iff (nf_ok (firing_ok h))).2 hs
 unfold askCode
 simp [h, hi, hb]
theorem heatsR_made {f : Firing} {x : Field} (h : IsMade f x) : heatsR f.Kiln x = (heatsL f.Kiln x, 0) := by
 unfold heatsR
 simp [h.fld.kv, (fieldB_iff h.fld.kv x).2 h.fld]
theorem heatsL_len (k : Kiln) (x : Field) : (heatsL k x).length = k.P := by simp [heatsL]
theorem heatsL_at {k : Kiln} (x : Field) {p : Int} (h0 : 0 ≤ p) (hp : p < k.P) : at? (heatsL k x) p = some (x.ht (k.Falls.length - 1) p.toNat) := by
 have := at_mapR (x.ht (k.Falls.length - 1)) (n := k.P) (j := p.toNat) (by omega)
 rw [show ((p.toNat : Nat) : Int) = p by omega] at this
 exact this
end Go.Abs
namespace Go.Abs
open Go
set_option linter.unusedVariables false
end Go.Abs
namespace Go.Abs
open Go
set_option linter.unusedVariables false
def wantOk (P : Nat) (w : Want) : Prop := 0 ≤ w.Place ∧ w.Place < P ∧ 1 ≤ w.Heat.Lo ∧ w.Heat.Lo ≤ w.Heat.Hi ∧ w.Heat.Hi ≤ 2000
theorem wantsB_of {P : Nat} {l : List Want} (hl : l.length ≤ 6) (h : ∀ w ∈ l, wantOk P w) : wantsB P l = true := by
 unfold wantsB
 have h1 : ¬ ((24 : Int) < (l.length : Int)) := by omega
 have h2 : l.all (wantB P) = true := by
  rw [List.all_eq_true]
  intro w hw
  obtain ⟨a, b, c, d, e⟩ := h w hw
  simp only [wantB, inB, Bool.and_eq_true, decide_eq_true_eq]; omega
 rw [decide_eq_false h1, h2]; rfl
theorem wCode_of {f : Firing} (h : firingCode f = 0) (hs : (nf f).fur.Sound) {l : List Want} (hl : l.length ≤ 6) (hw : ∀ w ∈ l, wantOk f.Kiln.P w) : wCode f l = 0 := by
 have hb : soundB (nf f) = true := (soundB_iff (nf_ok (firing_ok h))).2 hs
 unfold wCode
 simp [h, hb, wantsB_of hl hw]
theorem togR_of {f : Firing} {l : List Want} (h : wCode f l = 0) : togR f l = (ansR f l, 0) := by unfold togR; simp [h]
theorem ansR_yes {f : Firing} {x : Field} (h : firingCode f = 0) (hF : FieldOk f.Kiln x) (ha : agB f x = true) {l : List Want} (hl : l.length ≤ 6) (hw : ∀ w ∈ l, wantOk f.Kiln.P w) : ansR f l = 1 ↔ ∀ w ∈ l, inR f w = true := by
 have hok := firing_ok h
 have hk := kilnB_len hok.k
 obtain ⟨hS, hag⟩ := agree_facts hok hF ha
 obtain ⟨h1, h2, h3, h4, h5, h6, h7, _⟩ := wCode_ok (wCode_of h hS hl hw)
 unfold ansR
 constructor
 ·intro k
  cases hs : soundB (wantedF (nf f) l) with
  | false => rw [hs] at k; simp at k
  | true =>
   rw [hs] at k
   cases ha : l.all (inR f) with
   | false => rw [ha] at k; simp at k
   | true => exact fun w hw => List.all_eq_true.1 ha w hw
 ·intro k
  have ha2 : l.all (inR f) = true := List.all_eq_true.2 k
  have hs : soundB (wantedF (nf f) l) = true := by
   rw [soundB_iff h7, wantedF_fur]
   have hA := (agB_iff hok x).1 ha
   have hI : ({ (nf f).fur with L := (nf f).fur.L ++ l.map (fun w => (w.Place.toNat, w.Heat.Lo)), M := (nf f).fur.M ++ l.map (fun w => (w.Place.toNat, w.Heat.Hi)) } : Fur).IsField x.u x.d := hF.isField rfl (fun _ _ => rfl) (fun _ _ => rfl)
   have hin : ∀ w ∈ l, w.Heat.Lo ≤ x.ht (f.Kiln.Falls.length - 1) w.Place.toNat ∧ x.ht (f.Kiln.Falls.length - 1) w.Place.toNat ≤ w.Heat.Hi := by
    intro w hw'
    obtain ⟨a, b, _⟩ := hw w hw'
    have hk2 := k w hw'
    simp only [inR, Bool.and_eq_true, Bool.not_eq_true', decide_eq_false_iff_not] at hk2
    obtain ⟨c1, c2⟩ := rng_isBound f w.Place (askCode_of h hS a b)
    obtain ⟨g1, g2⟩ := hag w.Place.toNat
    have := (c1 _).2 g2
    have := (c2 _).2 g1
    omega
   refine Fur.Agrees.sound hI ⟨fun z hz => ?_, fun z hz => ?_⟩
   ·rcases List.mem_append.1 hz with hz | hz
    ·exact hA.1 z hz
    ·obtain ⟨w, hw', rfl⟩ := List.mem_map.1 hz
     exact (hin w hw').1
   ·rcases List.mem_append.1 hz with hz | hz
    ·exact hA.2 z hz
    ·obtain ⟨w, hw', rfl⟩ := List.mem_map.1 hz
     exact (hin w hw').2
  rw [hs, ha2]; rfl
structure TogInv (f : Firing) (i : Nat) (s : Firing × Bool × List Want) : Prop where
 k : s.1.Kiln = f.Kiln
 c : firingCode s.1 = 0
 n : s.1.Readings.length ≤ 14 + i
 lo : s.1.Readings.filterMap (lpOf lo?) = f.Readings.filterMap (lpOf lo?) ++ s.2.2.map (fun w => (w.Place.toNat, w.Heat.Lo))
 hi : s.1.Readings.filterMap (lpOf hi?) = f.Readings.filterMap (lpOf hi?) ++ s.2.2.map (fun w => (w.Place.toNat, w.Heat.Hi))
 l : s.2.2.length = i
 w : ∀ w ∈ s.2.2, wantOk f.Kiln.P w
 y : s.2.1 = true ↔ ∀ w ∈ s.2.2, inR f w = true
theorem TogInv.fur {f : Firing} {i : Nat} {s : Firing × Bool × List Want} (h : TogInv f i s) : (nf s.1).fur = (wantedF (nf f) s.2.2).fur := by
 rw [wantedF_fur]
 unfold heat_furnace.fur nf
 simp only [limsOf_map, h.k, h.lo, h.hi]
theorem heatTogether_plain (a0 : R04_Raw) (a1 : List (A3 Int)) (q0 : R04_Raw.q a0) (q1 : a1.length ≤ Go.maxLen) : L04_HeatTogether KK a0 a1 = some true := by
 obtain ⟨f, x, e0, hm⟩ := R04_Made_eq a0 q0
 have hok := firing_ok hm.c
 have hs := firing_s hok
 have hw := firing_w hok
 have hk := kilnB_len hok.k
 obtain ⟨hS, hag⟩ := agree_facts hok hm.fld hm.a
 have hlen : (heatsL f.Kiln x).length = f.Kiln.P := heatsL_len _ _
 have hl0 : ¬ ((f.Kiln.P : Int) = 0) := by omega
 have wP : w64 ((f.Kiln.P : Int) - 1) = (f.Kiln.P : Int) - 1 := w64_of (by omega) (by omega)
 have hloop : ∃ s, whl (L04_HeatTogether.b0 KK a1 (f, x) (heatsL f.Kiln x, 0)) KK (f, true, 0, []) = some (.brk s) ∧ TogInv f (min a1.length 6) s := by
  refine whl_inv (n := min a1.length 6) (fun i (s : Firing × Bool × List Want) => (s.1, s.2.1, i, s.2.2)) id (TogInv f) (by omega) (by unfold KK; omega) (s0 := (f, true, [])) ⟨rfl, hm.c, by have := hm.r; omega, by simp, by simp, rfl, by simp, by simp⟩ (fun i s hi hI => ?_) (fun s _ => ?_)
  ·have hi1 : i < a1.length := by omega
   have hi2 : decide ((i : Int) < 6) = true := by simp; omega
   have hx : a1[i]? = some a1[i] := List.getElem?_eq_getElem hi1
   generalize a1[i] = n at hx
   obtain ⟨p, l1, l2, l3⟩ := R01_Mod_eq n.x0 (m := (f.Kiln.P : Int)) (by omega) (by omega)
   obtain ⟨a, m1, m2, m3⟩ := R01_Mod_eq n.x1 (m := 121) (by omega) (by omega)
   obtain ⟨b, n1, n2, n3⟩ := R01_Mod_eq n.x2 (m := 200) (by omega) (by omega)
   have hb := hm.ht p.toNat (by omega)
   have eh := heatsL_at x l2 l3
   generalize x.ht (f.Kiln.Falls.length - 1) p.toNat = t at hb eh
   have w1 : w64 (t + a) = t + a := w64_of (by omega) (by omega)
   have w2 : w64 (t + a - 80) = t + a - 80 := w64_of (by omega) (by omega)
   obtain ⟨lo, elo⟩ : ∃ lo, min (max (t + a - 80) 1) 2000 = lo := ⟨_, rfl⟩
   have hlo : 1 ≤ lo ∧ lo ≤ 2000 := by omega
   have w3 : w64 (lo + b) = lo + b := w64_of (by omega) (by omega)
   have w4 : w64 (50 + (i : Int)) = 50 + (i : Int) := w64_of (by omega) (by omega)
   have hwant : wantOk f.Kiln.P ⟨p, ⟨lo, min (lo + b) 2000⟩⟩ := ⟨l2, l3, by show 1 ≤ lo; omega, by show lo ≤ min (lo + b) 2000; omega, by show min (lo + b) 2000 ≤ 2000; omega⟩
   have hver : verR f p ⟨lo, min (lo + b) 2000⟩ = (ansR f [⟨p, ⟨lo, min (lo + b) 2000⟩⟩], 0) := by
    have hin : inB p 0 ((f.Kiln.P : Int) - 1) = true := by simp [inB]; omega
    unfold verR
    simp only [hm.c, hin, decide_true, Bool.not_true, cond_false]
    exact togR_of (wCode_of hm.c hS (by simp) (by intro w hw'; simp only [List.mem_singleton] at hw'; subst hw'; exact hwant))
   have hyes : decide (ansR f [⟨p, ⟨lo, min (lo + b) 2000⟩⟩] = (1 : Int)) = inR f ⟨p, ⟨lo, min (lo + b) 2000⟩⟩ := by
    have := ansR_yes hm.c hm.fld hm.a (l := [⟨p, ⟨lo, min (lo + b) 2000⟩⟩]) (by simp) (by intro w hw'; simp only [List.mem_singleton] at hw'; subst hw'; exact hwant)
    rw [Bool.eq_iff_iff, decide_eq_true_eq, this]
    simp
   have hrd : readB (f.Kiln.P : Int) (⟨50 + (i : Int), p, 3, 0, ⟨lo, min (lo + b) 2000⟩⟩ : Reading) = true := by
    simp only [readB, inB, rangeB, wP, show decide ((3 : Int) = 1) = false by decide, show decide ((3 : Int) = 2) = false by decide, decide_true, cond_true, cond_false, Bool.and_eq_true, decide_eq_true_eq, and_true, true_and]; omega
   have hsk : s.1.Kiln = f.Kiln := hI.k
   have hsn := hI.n
   have hwith : withR s.1 ⟨50 + (i : Int), p, 3, 0, ⟨lo, min (lo + b) 2000⟩⟩ = (⟨s.1.Kiln, s.1.Readings ++ [⟨50 + (i : Int), p, 3, 0, ⟨lo, min (lo + b) 2000⟩⟩]⟩, 0) := by
    have h60 : ¬ ((s.1.Readings.length : Int) = 60) := by omega
    have hrd' : readB ((s.1.Kiln.Falls.headD []).length : Int) (⟨50 + (i : Int), p, 3, 0, ⟨lo, min (lo + b) 2000⟩⟩ : Reading) = true := by rw [hsk]; exact hrd
    unfold withR
    rw [hI.c, hrd', decide_eq_false h60]
    rfl
   have hsok := firing_ok hI.c
   have hil := hI.l
   refine ⟨(⟨s.1.Kiln, s.1.Readings ++ [⟨50 + (i : Int), p, 3, 0, ⟨lo, min (lo + b) 2000⟩⟩]⟩, s.2.1 && inR f ⟨p, ⟨lo, min (lo + b) 2000⟩⟩, s.2.2 ++ [⟨p, ⟨lo, min (lo + b) 2000⟩⟩]), ?_, ?_⟩
   ·unfold L04_HeatTogether.b0
    simp only [lt_dec hi1, hi2, cond_true, at_of hx, Option.bind_some, hlen, l1, eh, m1, n1, w1, w2, elo, w3, w4]
    rw [push_of (by omega) (by omega)]
    simp only [Option.bind_some, heat_Verdict_eq f hs hw, hver, heat_With_eq s.1 (firing_s hsok), hwith, decide_true, Bool.not_true, cond_true, cond_false, hyes]
    cases s.2.1 <;> rfl
   ·refine ⟨hsk, ?_, by simp; omega, ?_, ?_, by simp [hil], ?_, ?_⟩
    ·refine firingCode_of hsok.k (by show (s.1.Readings ++ [_]).length ≤ 60; simp; omega) (fun y hy => ?_)
     have hy' : y ∈ s.1.Readings ++ [⟨50 + (i : Int), p, 3, 0, ⟨lo, min (lo + b) 2000⟩⟩] := hy
     rcases List.mem_append.1 hy' with hy | hy
     ·exact (firing_small hI.c).2.2 y hy
     ·simp only [List.mem_singleton] at hy; subst hy
      show readB (s.1.Kiln.P : Int) _ = true
      rw [hsk]; exact hrd
    ·simp only [List.filterMap_append, hI.lo, List.map_append, List.append_assoc]; rfl
    ·simp only [List.filterMap_append, hI.hi, List.map_append, List.append_assoc]; rfl
    ·intro w hw'
     rcases List.mem_append.1 hw' with hw' | hw'
     ·exact hI.w w hw'
     ·simp only [List.mem_singleton] at hw'; subst hw'; exact hwant
    ·simp only [Bool.and_eq_true, hI.y, List.mem_append, List.mem_singleton]
     constructor
     ·rintro ⟨c1, c2⟩ w (hw' | hw')
      ·exact c1 w hw'
      ·subst hw'; exact c2
     ·intro c; exact ⟨fun w hw' => c w (.inl hw'), c _ (.inr rfl)⟩
  ·unfold L04_HeatTogether.b0
   by_cases h6 : a1.length ≤ 6
   ·have : min a1.length 6 = a1.length := by omega
    simp only [this, lt_dec_self]; rfl
   ·have : min a1.length 6 = 6 := by omega
    have h7 : decide (((6 : Nat) : Int) < (a1.length : Int)) = true := by simp; omega
    simp only [this, h7, cond_true]; rfl
 obtain ⟨⟨g, yes, l⟩, e1, hI⟩ := hloop
 have hl6 : l.length ≤ 6 := by have := hI.l; simp only at this; omega
 have hgok := firing_ok hI.c
 have hwc : wCode f l = 0 := wCode_of hm.c hS hl6 hI.w
 obtain ⟨h1, h2, h3, h4, h5, h6, h7, _⟩ := wCode_ok hwc
 have hfur : (nf g).fur = (wantedF (nf f) l).fur := hI.fur
 have hsnd : soundB (nf g) = soundB (wantedF (nf f) l) := by
  rw [Bool.eq_iff_iff, soundB_iff (nf_ok hgok), soundB_iff h7, hfur]
 have hsR : soundR g = (soundB (wantedF (nf f) l), 0) := by
  have hgc : firingCode g = 0 := hI.c
  unfold soundR; rw [← hsnd]; simp [hgc]
 have hyes : decide (ansR f l = (1 : Int)) = yes := by
  have a := ansR_yes hm.c hm.fld hm.a hl6 hI.w
  have b := hI.y
  simp only at a b
  rw [Bool.eq_iff_iff, decide_eq_true_eq, a, b]
 unfold L04_HeatTogether
 simp only [e0, Option.bind_some, heat_Heats_eq f.Kiln hs.1, heatsR_made hm, decide_true, cond_true, hlen, hl0, decide_false, cond_false, e1, heat_Together_eq f hs hw, togR_of hwc, heat_Sound_eq g (firing_s hgok), hsR, heat_Show_eq f hs hw, hyes, beq_self_eq_true]
 cases hb : soundB (wantedF (nf f) l) with
 | false =>
  have ha : ansR f l = 0 := by unfold ansR; rw [hb]; rfl
  have hsh : showR f l = (⟨[], []⟩, 3) := by unfold showR; simp [hwc, hb]
  simp only [ha, hsh, decide_true, Bool.not_false, Bool.not_true, beq_self_eq_true, cond_true, cond_false, sane_KK, Option.bind_some]
 | true =>
  have ha : ¬ ansR f l = 0 := by unfold ansR; rw [hb]; cases l.all (inR f) <;> simp
  have hsh : showR f l = (gField (wantedF (nf f) l), 0) := by unfold showR; simp [hwc, hb]
  obtain ⟨gF, gA, gW⟩ := gField_wanted hwc hb
  have hH : heatsR f.Kiln (gField (wantedF (nf f) l)) = (heatsL f.Kiln (gField (wantedF (nf f) l)), 0) := by
   unfold heatsR
   simp [gF.kv, (fieldB_iff gF.kv _).2 gF]
  have hwf := wf_ok h2 (firing_small h1).2.1 h3 h4
  have hA := (agB_iff hwf _).1 gW
  rw [wf_fur, wantedF_fur] at hA
  have hloop2 : whl (L04_HeatTogether.b1 KK l (heatsL f.Kiln (gField (wantedF (nf f) l)), 0)) KK 0 = some (.brk ()) := by
   rw [whl_allL (l := l) (p := fun _ => true) (c := false) (by omega) (by unfold KK; omega) (fun i w hi => by
    have hil : i < l.length := (List.getElem?_eq_some_iff.1 hi).1
    have hwm : w ∈ l := List.mem_of_getElem? hi
    obtain ⟨a, b, _⟩ := h4 w hwm
    have c1 := hA.1 (w.Place.toNat, w.Heat.Lo) (List.mem_append.2 (.inr (List.mem_map.2 ⟨w, hwm, rfl⟩)))
    have c2 := hA.2 (w.Place.toNat, w.Heat.Hi) (List.mem_append.2 (.inr (List.mem_map.2 ⟨w, hwm, rfl⟩)))
    have d1 : w.Heat.Lo ≤ (gField (wantedF (nf f) l)).ht (f.Kiln.Falls.length - 1) w.Place.toNat := c1
    have d2 : (gField (wantedF (nf f) l)).ht (f.Kiln.Falls.length - 1) w.Place.toNat ≤ w.Heat.Hi := c2
    have e3 : ¬ (gField (wantedF (nf f) l)).ht (f.Kiln.Falls.length - 1) w.Place.toNat < w.Heat.Lo := by omega
    have e4 : ¬ w.Heat.Hi < (gField (wantedF (nf f) l)).ht (f.Kiln.Falls.length - 1) w.Place.toNat := by omega
    unfold L04_HeatTogether.b1
    simp only [lt_dec hil, cond_true, at_of hi, Option.bind_some, heatsL_at _ a b, e3, e4, decide_false, Bool.not_false, cond_false]) (by
    unfold L04_HeatTogether.b1
    simp only [lt_dec_self]; rfl)]
   have : l.all (fun _ => true) = true := by simp
   rw [this]; rfl
  simp only [ha, hsh, decide_true, decide_false, Bool.not_false, Bool.not_true, beq_self_eq_true, cond_true, cond_false, hH, heatsL_len, heat_CheckField_eq f hs, fieldCode_ok h1 gF gA, hloop2, sane_KK, Option.bind_some]
end Go.Abs
namespace Go.Proofs.Ytafmgcbfmifaeaa.heatTogether
open Go.Abs
theorem plain (a0 : Go.Abs.R04_Raw) (a1 : (List (A3 Int))) : Go.Abs.R04_Raw.q a0 → (fun l => l.length ≤ Go.maxLen ∧ l.length * 24 ≤ qB ∧ ∀ a ∈ l, (fun x : (A3 Int) => i64ok x.x0 ∧ i64ok x.x1 ∧ i64ok x.x2) a) a1 → ∃ k, L04_HeatTogether k a0 a1 = some true := by
 intro q0 q1; exact ⟨_, heatTogether_plain a0 a1 q0 q1.1⟩
end Go.Proofs.Ytafmgcbfmifaeaa.heatTogether
namespace Go.Proofs.Ytafmgcbfmifaeaa.heatTogether
open Go.ChangeShapes Go.WideShapes Go.ChangeAt Go.RowKit Go.Abs
set_option maxRecDepth 100000
theorem own : ownKnob Try.prog.godebug = none := by kernel_rfl
theorem contract (H : Type) (enc : TypeId × Value → H) (W : World) (base : Nat) (args : Array Value) (ds gs : List (DataW H)) (before : List MemPlace)
  (hval : ∀ (j : Nat) t v, Try.f8.params[j]? = some t → args[j]? = some v → Value.okWide Try.prog W .any base t v)
  (hW : DataW.Whole enc Try.prog Try.f8.params.toList Rows.heatTogetherSpec.vars false W args.toList ds gs before) (hsz0 : (DataW.weightsEach Try.prog (Try.f8.params.toList ++ Rows.heatTogetherSpec.plain.varTypes Try.prog) (ds ++ gs)).all (· ≤ reachBytes) = true) :
  Calls Try.prog 8 args W fun e W' => ∃ v, e = .returned v ∧ Rows.heatTogetherSpec.post enc Try.prog Try.f8 false true false false W args v W' := by
 have hW' := hW
 obtain ⟨p, q, hA0, hV, rfl, hfz, hnd⟩ := hW
 have hA : DataW.TrodAll enc Try.prog W 0 (fun _ => true) true Try.f8.params.toList args.toList ds p := hA0
 rw [Try.params8] at hA hval
 obtain ⟨v0, vs0, d0, ds0, p0, q0, hargs, rfl, rfl, h0, r0⟩ := trodAll_cons hA
 obtain ⟨v1, vs1, d1, ds1, p1, q1, rfl, rfl, rfl, h1, r1⟩ := trodAll_cons r0
 obtain ⟨rfl, rfl, rfl⟩ := trodAll_nil r1
 have hsz : ∀ (j : Nat) t d, Try.f8.params.toList[j]? = some t → [d0, d1][j]? = some d → ∀ n ∈ d.weights Try.prog t, n ≤ reachBytes := weights_of (by rw [Try.params8]; rfl) hsz0
 rw [Try.params8] at hsz
 obtain rfl : args = #[v0, v1] := by cases args; simp_all
 obtain ⟨a0, Q0, V0⟩ := arg_agg reads_26 (by have h := hval 0 26 v0 rfl rfl; unfold Value.okWide at h; rw [Try.underlying26] at h; obtain ⟨cs, h, _⟩ := h; exact ⟨cs, h⟩) h0 (hsz 0 26 d0 rfl rfl)
 obtain ⟨a1, Q1, V1⟩ := arg_one reads_82 (by have h := hval 1 82 v1 rfl rfl; unfold Value.okWide at h; rw [Try.underlying82] at h; unfold Cell.okWide Cell.ok at h; rw [Try.underlying82] at h; cases v1 <;> first | rfl | (simp at h; done)) (fun l => AV.sl 3 (List.map (A3.c eI) l)) (fun _ => rfl) h1 (hsz 1 82 d1 rfl rfl)
 obtain ⟨k, hk⟩ := plain a0 a1 Q0 Q1
 have hv : VRs (fmAll W) [] [.agg (Go.Abs.R04_Raw.c a0), .sl 3 (List.map (A3.c eI) a1)] [v0, v1] := ⟨rfl, fun i x v h1 h2 => by
  match i with
  | 0 => cases h1; cases h2; exact V0
  | 1 => cases h1; cases h2; exact V1
  | i + 2 => simp at h1⟩
 refine Calls.mono ((L04_HeatTogether_ok k a0 a1 true hk).2 (fmAll W) W _ (fun _ _ _ h => h) hv) ?_
 rintro e W1 ⟨v, y, fm1, rfl, rfl, _, hvr, _, hB⟩
 cases hvr
 exact ⟨_, rfl, law_post (t := 4) (by kernel_rfl) (by kernel_rfl) (by kernel_rfl) hW' rfl hB (by rw [Try.params8]; decide +kernel) rfl Try.underlying4 (by obtain ⟨rfl, _⟩ := trodVars_none hV; rfl)⟩
theorem lifted (os : Os) (started : os.Started) (H : Type) (enc : TypeId × Value → H) :
  ReturnsInHanded {} Try.checked os 8 .any (Rows.heatTogetherSpec.pre6 enc Try.prog Try.f8 Rows.heatTogetherRow.domain false) (Rows.heatTogetherSpec.post enc Try.prog Try.f8 false true false false) := by
 refine returnsInHanded_of_change_sized (C := Try.checked) own started (by kernel_rfl) Try.func8
  (ChangeSpec.witness6 (enc := enc) (C := Try.checked) false ⟨#[], #[.agg #[.int .i64 0, .int .i64 0, .slice none 0 0, .slice none 0 0, .slice none 0 0], .slice none 0 0], []⟩ 8 (by kernel_rfl) (by kernel_rfl) (by kernel_rfl) (by kernel_rfl)) ?_
 intro W base args ds gs before hval0 hW hcnd hsz _
 exact contract H enc W base args ds gs before hval0 hW hsz
theorem over : Rows.heatTogetherRow.holds Try.pinned (OpenSpec.ofChange Rows.heatTogetherSpec) :=
 OpenClaim.holds_of_wide 8 Try.f8 rfl rfl rfl rfl rfl rfl rfl ⟨rfl, rfl, rfl, rfl, rfl⟩ rfl rfl rfl rfl rfl (by kernel_rfl) Try.func8 (by kernel_rfl)
  (of_decide_eq_true (by kernel_rfl)) (by unfold Func.isWrapper; first | (rw [if_pos (by decide +kernel)]; kernel_rfl) | (rw [if_neg (by decide +kernel)]; exact ⟨rfl, rfl⟩))
  (fun os started H enc _ => lifted os started H enc)
theorem proved : Rows.HeatTogetherSaid := over
end Go.Proofs.Ytafmgcbfmifaeaa.heatTogether
