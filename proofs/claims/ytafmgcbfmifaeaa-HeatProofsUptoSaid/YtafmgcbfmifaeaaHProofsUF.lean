/-
  Part 6 of the proof: a machine over named blocks, what each function computes, and what follows. No condition.
-/
import Derived.Test.YtafmgcbfmifaeaaRows
import Derived.WalkKit
import Derived.ProofKit
import Derived.OpenShut
import Derived.JoinedCond
import Derived.Test.YtafmgcbfmifaeaaHProofsUE
set_option linter.unusedVariables false
set_option linter.unusedSimpArgs false
set_option linter.all false
set_option maxRecDepth 20000
set_option maxHeartbeats 8000000
namespace Go.Abs
open Go
set_option linter.unusedVariables false
def rest (f : Firing) : List Int → Option (List Reading)
 | [] => some []
 | n :: l => if n < 0 then rest f l else if n < f.Readings.length then (rest f l).map ((f.Readings.getD n.toNat rd0) :: ·) else none
def restStep (f : Firing) (s : List Reading) (n : Int) : Option (List Reading) := if n < 0 then some s else if n < f.Readings.length then some (s ++ [f.Readings.getD n.toNat rd0]) else none
def restStepS (f : Firing) (s : List Int) (n : Int) : Option (List Int) := if n < 0 then some s else if n < f.Readings.length then some (s ++ [(f.Readings.getD n.toNat rd0).Source]) else none
theorem rest_fold (f : Firing) : ∀ (l : List Int) (s : List Reading), l.foldlM (restStep f) s = (rest f l).map (s ++ ·)
 | [], s => by simp [rest]
 | n :: l, s => by
  rw [List.foldlM_cons]
  unfold rest restStep
  by_cases h1 : n < 0
  ·simp only [h1, if_true]; exact rest_fold f l s
  ·by_cases h2 : n < f.Readings.length
   ·simp only [h1, h2, if_true, if_false]
    have := rest_fold f l (s ++ [f.Readings.getD n.toNat rd0])
    show List.foldlM (restStep f) (s ++ [f.Readings.getD n.toNat rd0]) l = _
    rw [this]
    cases rest f l <;> simp
   ·simp only [h1, h2, if_false]; rfl
theorem rest_foldS (f : Firing) : ∀ (l : List Int) (s : List Int), l.foldlM (restStepS f) s = (rest f l).map (fun r => s ++ r.map (·.Source))
 | [], s => by simp [rest]
 | n :: l, s => by
  rw [List.foldlM_cons]
  unfold rest restStepS
  by_cases h1 : n < 0
  ·simp only [h1, if_true]; exact rest_foldS f l s
  ·by_cases h2 : n < f.Readings.length
   ·simp only [h1, h2, if_true, if_false]
    have := rest_foldS f l (s ++ [(f.Readings.getD n.toNat rd0).Source])
    show List.foldlM (restStepS f) (s ++ [(f.Readings.getD n.toNat rd0).Source]) l = _
    rw [this]
    cases rest f l <;> simp
   ·simp only [h1, h2, if_false]; rfl
theorem rest_len (f : Firing) : ∀ (l : List Int) (r : List Reading), rest f l = some r → r.length ≤ l.length
 | [], r, h => by cases h; simp
 | n :: l, r, h => by
  unfold rest at h
  split at h
  ·have := rest_len f l r h; simp only [List.length_cons]; omega
  ·split at h
   ·cases hr : rest f l with
    | none => rw [hr] at h; cases h
    | some r' =>
     rw [hr] at h
     simp only [Option.map_some, Option.some.injEq] at h
     subst h
     have := rest_len f l r' hr
     simp only [List.length_cons]; omega
   ·cases h
def restsR (f : Firing) (p : HeatProof) : List Int × Int :=
 bif !decide (firingCode f = 0) then ([], 42) else bif decide (p.Reading < -2) then ([], 46) else bif decide (p.Reading = -2) then ([], 0) else
  match rest f (p.Reading :: p.By) with | some r => (usort (r.map (·.Source)), 0) | none => ([], 46)
theorem heat_Rests_eq (f : Firing) (q : Firing.s f) (p : HeatProof) (hl : p.By.length ≤ 1073741824) : heat_Rests KK f p = some (restsR f p) := by
 unfold heat_Rests restsR
 rw [heat_Check_eq f q]
 simp only [Option.bind_some]
 by_cases h : firingCode f = 0
 ·have hok := firing_ok h
  have hfl := hok.l
  simp only [h, decide_true, Bool.not_true, cond_false]
  by_cases h1 : p.Reading < -2
  ·simp only [h1, decide_true, cond_true]
  ·by_cases h2 : p.Reading = -2
   ·simp only [h1, h2, decide_true, decide_false, cond_true, cond_false]; simp
   ·simp only [h1, h2, decide_false, cond_false]
    have ha : app? 8 [p.Reading] p.By = some (p.Reading :: p.By) := by
     unfold app?
     rw [if_pos (by simp [room]; omega)]; rfl
    rw [ha]
    simp only [Option.bind_some]
    have hlen : (p.Reading :: p.By).length = 1 + p.By.length := by simp; omega
    obtain ⟨e1, e2⟩ := whl_foldML (l := p.Reading :: p.By) (body := heat_Rests.b0 KK f p (p.Reading :: p.By)) (k := KK) (fun i s => (i, s)) id (restStep f) (([], 46) : List Int × Int) (fun i s => s.length ≤ i) (by rw [hlen]; omega) (by rw [hlen]; unfold KK; omega) (s0 := []) (by simp) (fun i n s hn hI => by
     have hi : i < (p.Reading :: p.By).length := (List.getElem?_eq_some_iff.1 hn).1
     rw [hlen] at hi
     refine ⟨?_, fun s' hs => ?_⟩
     ·unfold heat_Rests.b0 restStep
      simp only [show decide ((i : Int) < ((1 + p.By.length : Nat) : Int)) = true by simp; omega, cond_true, at_of hn, Option.bind_some, heat_in_eq]
      rw [w64_of (n := (f.Readings.length : Int) - 1) (by omega) (by omega)]
      by_cases c1 : n < 0
      ·simp only [c1, decide_true, cond_true, if_true]
      ·by_cases c2 : n < f.Readings.length
       ·have hin : inB n 0 ((f.Readings.length : Int) - 1) = true := by simp only [inB, Bool.and_eq_true, decide_eq_true_eq]; omega
        simp only [c1, c2, decide_false, cond_false, if_true, if_false, hin, Bool.not_true]
        rw [at_getD rd0 (by omega) c2]
        simp only [Option.bind_some]
        rw [push_of (by omega) (by omega)]
        rfl
       ·have hin : inB n 0 ((f.Readings.length : Int) - 1) = false := by simp only [inB, Bool.and_eq_false_iff, decide_eq_false_iff_not]; omega
        simp only [c1, c2, decide_false, cond_false, if_false, hin, Bool.not_false, cond_true]
     ·unfold restStep at hs
      split at hs
      ·cases hs; omega
      ·split at hs
       ·cases hs; simp; omega
       ·cases hs) (fun s _ => by
     unfold heat_Rests.b0
     simp only [hlen, lt_dec_self]; rfl)
    rw [e1, rest_fold]
    cases hr : rest f (p.Reading :: p.By) with
    | none => rfl
    | some r =>
     have := rest_len f _ r hr
     simp only [List.length_cons] at this
     simp only [Option.map_some, Option.bind_some, List.nil_append, id]
     rw [heat_sources_eq r (by omega)]
     rfl
 ·simp only [h, decide_false, Bool.not_false, cond_true]
theorem R04_Rests_eq (f : Firing) (q : Firing.s f) (p : HeatProof) (hl : p.By.length ≤ 1073741824) : R04_Rests KK f p = some (restsR f p) := by
 unfold R04_Rests restsR
 rw [R04_Check_eq f q]
 simp only [Option.bind_some]
 by_cases h : firingCode f = 0
 ·have hok := firing_ok h
  have hfl := hok.l
  simp only [h, decide_true, Bool.not_true, cond_false]
  by_cases h1 : p.Reading < -2
  ·simp only [h1, decide_true, cond_true]
  ·simp only [h1, decide_false, cond_false]
   by_cases h0 : 0 ≤ p.Reading
   ·have h2 : ¬ p.Reading = -2 := by omega
    have h3 : ¬ p.Reading < 0 := by omega
    simp only [h0, h2, decide_true, decide_false, cond_true, cond_false, R04_index_eq, Option.bind_some, rest, h3, if_false]
    by_cases hi : p.Reading < f.Readings.length
    ·simp only [h0, hi, and_self, decide_true, Bool.not_true, cond_false, if_true]
     rw [at_getD rd0 h0 hi]
     simp only [Option.bind_some]
     obtain ⟨e1, e2⟩ := whl_foldML (l := p.By) (body := R04_Rests.b0 KK f p) (k := KK) (fun i s => (i, s)) id (restStepS f) (([], 46) : List Int × Int) (fun i s => s.length ≤ i + 1) (by omega) (by unfold KK; omega) (s0 := [(f.Readings.getD p.Reading.toNat rd0).Source]) (by simp) (fun i n s hn hI => by
      have hi : i < p.By.length := (List.getElem?_eq_some_iff.1 hn).1
      refine ⟨?_, fun s' hs => ?_⟩
      ·unfold R04_Rests.b0 restStepS
       simp only [lt_dec hi, h2, decide_false, Bool.not_false, cond_true, at_of hn, Option.bind_some, R04_index_eq]
       by_cases c1 : n < 0
       ·simp only [c1, decide_true, cond_true, if_true]
       ·by_cases c2 : n < f.Readings.length
        ·have hin : (0 ≤ n ∧ n < f.Readings.length) := by omega
         simp only [c1, c2, decide_false, cond_false, if_true, if_false, hin, and_self, decide_true, Bool.not_true]
         rw [at_getD rd0 (by omega) c2]
         simp only [Option.bind_some]
         rw [push_of (by omega) (by omega)]
         rfl
        ·have hin : ¬ (0 ≤ n ∧ n < f.Readings.length) := by omega
         rw [if_neg c1, if_neg c2, decide_eq_false c1, decide_eq_false hin]
         rfl
      ·unfold restStepS at hs
       split at hs
       ·cases hs; omega
       ·split at hs
        ·cases hs; simp; omega
        ·cases hs) (fun s _ => by
      unfold R04_Rests.b0
      simp only [lt_dec_self]; rfl)
     rw [e1, rest_foldS]
     cases hr : rest f p.By with
     | none => rfl
     | some r =>
      have := rest_len f _ r hr
      simp only [Option.map_some, Option.bind_some, id, List.map_cons, List.singleton_append]
      rw [(R01_Sorted_eq _ (by simp; omega)).1]
      rfl
    ·have : ¬ (0 ≤ p.Reading ∧ p.Reading < f.Readings.length) := by omega
     have this2 : ¬ (True ∧ p.Reading < (f.Readings.length : Int)) := by simpa using hi
     rw [decide_eq_false this2, if_neg hi]
     rfl
   ·simp only [h0, decide_false, cond_false]
    by_cases h2 : p.Reading = -2
    ·simp only [h2, decide_true, cond_true]
     have : whl (R04_Rests.b0_2 KK f p) KK (0, []) = some (.brk []) := by
      have hb : R04_Rests.b0_2 KK f p (0, []) = some (.brk []) := by
       unfold R04_Rests.b0_2
       simp only [h2, decide_true, Bool.not_true, cond_false]
       cases decide ((0 : Int) < (p.By.length : Int)) <;> rfl
      have hK : KK = 18446744073709551615 + 1 := rfl
      rw [show whl (R04_Rests.b0_2 KK f p) KK (0, []) = whl (R04_Rests.b0_2 KK f p) (18446744073709551615 + 1) (0, []) by rw [← hK], whl, hb]
     rw [this]
     simp only [Option.bind_some]
     rw [(R01_Sorted_eq [] (by simp)).1]
     rfl
    ·have h3 : p.Reading < 0 := by omega
     simp only [h2, decide_false, cond_false, rest, h3, if_true]
     obtain ⟨e1, e2⟩ := whl_foldML (l := p.By) (body := R04_Rests.b0_2 KK f p) (k := KK) (fun i s => (i, s)) id (restStepS f) (([], 46) : List Int × Int) (fun i s => s.length ≤ i) (by omega) (by unfold KK; omega) (s0 := []) (by simp) (fun i n s hn hI => by
      have hi : i < p.By.length := (List.getElem?_eq_some_iff.1 hn).1
      refine ⟨?_, fun s' hs => ?_⟩
      ·unfold R04_Rests.b0_2 restStepS
       simp only [lt_dec hi, h2, decide_false, Bool.not_false, cond_true, at_of hn, Option.bind_some, R04_index_eq]
       by_cases c1 : n < 0
       ·simp only [c1, decide_true, cond_true, if_true]
       ·by_cases c2 : n < f.Readings.length
        ·have hin : (0 ≤ n ∧ n < f.Readings.length) := by omega
         simp only [c1, c2, decide_false, cond_false, if_true, if_false, hin, and_self, decide_true, Bool.not_true]
         rw [at_getD rd0 (by omega) c2]
         simp only [Option.bind_some]
         rw [push_of (by omega) (by omega)]
         rfl
        ·have hin : ¬ (0 ≤ n ∧ n < f.Readings.length) := by omega
         rw [if_neg c1, if_neg c2, decide_eq_false c1, decide_eq_false hin]
         rfl
      ·unfold restStepS at hs
       split at hs
       ·cases hs; omega
       ·split at hs
        ·cases hs; simp; omega
        ·cases hs) (fun s _ => by
      unfold R04_Rests.b0_2
      simp only [lt_dec_self]; rfl)
     rw [e1, rest_foldS]
     cases hr : rest f p.By with
     | none => rfl
     | some r =>
      have := rest_len f _ r hr
      simp only [Option.map_some, Option.bind_some, id, List.nil_append]
      rw [(R01_Sorted_eq _ (by simp; omega)).1]
      rfl
 ·simp only [h, decide_false, Bool.not_false, cond_true]
theorem restsR_len (f : Firing) (p : HeatProof) : (restsR f p).1.length ≤ p.By.length + 1 := by
 unfold restsR
 cases !decide (firingCode f = 0) with
 | true => simp
 | false =>
  cases decide (p.Reading < -2) with
  | true => simp
  | false =>
   cases decide (p.Reading = -2) with
   | true => simp
   | false =>
    simp only [cond_false]
    cases hr : rest f (p.Reading :: p.By) with
    | none => simp
    | some r =>
     have h1 := rest_len f _ r hr
     have h2 := usort_len (r.map (·.Source))
     simp only [List.length_map, List.length_cons] at h1 h2
     simp only
     omega
end Go.Abs
namespace Go.Abs
open Go
set_option linter.unusedVariables false
theorem heatProofs_plain (a0 : Firing) (a1 : L04_Told) (a2 : HeatProof) (q0 : Firing.q a0) (q1 : L04_Told.q a1) (q2 : HeatProof.q a2) : L04_HeatProofs KK a0 a1 a2 = some true := by
 have hs := q0.s
 have hB : a2.By.length ≤ 1073741824 := by have := q2.2.2.1; have := qB_upto; omega
 have hn : i64ok a1.N := q1.2.1
 have hM : R01_Same KK (restsR a0 a2).1 (restsR a0 a2).1 = some true := R01_Same_refl _ (by have := restsR_len a0 a2; unfold Go.maxLen; omega)
 unfold L04_HeatProofs
 simp only [heat_Rests_eq _ hs _ hB, R04_Rests_eq _ hs _ hB, heat_CheckProof_eq _ hs, Option.bind_some, hM, cond_true, decide_true, sane_KK]
 cases a1.High with
 | true => simp only [cond_true, R04_CheckProof_eq a0 hs a1.Place true a1.N hn a2 ⟨1, a1.N⟩ rfl rfl, Option.bind_some, decide_true]
 | false => simp only [cond_false, R04_CheckProof_eq a0 hs a1.Place false a1.N hn a2 ⟨0, a1.N⟩ rfl rfl, Option.bind_some, decide_true, cond_true]
end Go.Abs
namespace Go.Proofs.Ytafmgcbfmifaeaa.heatProofs
open Go.Abs
theorem plain (a0 : Go.Abs.Firing) (a1 : Go.Abs.L04_Told) (a2 : Go.Abs.HeatProof) : Go.Abs.Firing.q a0 → Go.Abs.L04_Told.q a1 → Go.Abs.HeatProof.q a2 → ∃ k, L04_HeatProofs k a0 a1 a2 = some true := by
 intro q0 q1 q2; exact ⟨_, heatProofs_plain a0 a1 a2 q0 q1 q2⟩
end Go.Proofs.Ytafmgcbfmifaeaa.heatProofs
namespace Go.Proofs.Ytafmgcbfmifaeaa.heatProofs
open Go.ChangeShapes Go.WideShapes Go.ChangeAt Go.RowKit Go.Abs
set_option maxRecDepth 100000
theorem own : ownKnob Try.prog.godebug = none := by kernel_rfl
def okT (P : Program) (t : TypeId) : Bool := decide (P.bytesOf t + P.bytesOf t ≤ 8192) && match P.underlying t with
 | some (.pointer e) => decide (e < P.types.size)
 | some (.slice e) => decide (e < P.types.size)
 | some (.struct fs) => fs.toList.all fun f => decide (f.type < P.types.size)
 | some (.array _ e) => decide (e < P.types.size)
 | some (.map k e) => decide (k < P.types.size) && decide (e < P.types.size)
 | _ => true
theorem bytes_small (t : TypeId) (h : t < Try.prog.types.size) : okT Try.prog t = true := List.all_eq_true.1 (show (List.range Try.prog.types.size).all (okT Try.prog) = true by kernel_rfl) t (List.mem_range.2 h)
theorem up {n a b : Nat} (h : n ≤ a * 8192) (hab : a ≤ b) : n ≤ b * 8192 := Nat.le_trans h (Nat.mul_le_mul_right 8192 hab)
theorem up1 {a b : Nat} (hab : a ≤ b) : a ≤ b * 8192 := Nat.le_trans hab (Nat.le_mul_of_pos_right _ (by decide))
theorem half2 {a b : Nat} (h1 : a + a ≤ 8192) (h2 : b + b ≤ 8192) : a + b ≤ 8192 := by omega
mutual
theorem wt_le {H : Type} {P : Program} (hP : ∀ t, t < P.types.size → okT P t = true) : ∀ (d : DataW H) (t : TypeId), t < P.types.size → ∀ n ∈ d.weights P t, n ≤ Rows.uptoBulk d * 8192
 | .lit l, t => by
  intro _ n hn
  cases l with
  | string b =>
   simp only [DataW.weights, List.mem_singleton] at hn
   subst hn
   simp only [Rows.uptoBulk]
   exact up1 (Nat.le_succ _)
  | _ => simp [DataW.weights] at hn
 | .nil, t => by simp [DataW.weights]
 | .ptr d, t => by
  intro ht
  have hg := hP t ht
  simp only [DataW.weights, Rows.uptoBulk]
  split
  ·rename_i e he
   simp only [okT, he, Bool.and_eq_true, decide_eq_true_eq] at hg
   intro n hn; exact up (wt_le hP d _ hg.2 n hn) (Nat.le_succ _)
  ·simp
 | .slice es sp, t => by
  intro ht
  have hg := hP t ht
  simp only [DataW.weights, Rows.uptoBulk]
  split
  ·rename_i e he
   simp only [okT, he, Bool.and_eq_true, decide_eq_true_eq] at hg
   have hb := hP e hg.2
   simp only [okT, Bool.and_eq_true, decide_eq_true_eq] at hb
   intro n hn
   have h1 := wt_len es
   have h2 := wt_len sp
   rcases List.mem_cons.1 hn with rfl | hn
   ·exact Nat.mul_le_mul (by omega) (Nat.le_trans (Nat.le_add_left _ _) hb.1)
   ·rcases List.mem_append.1 hn with hn | hn
    ·exact up (wt_all hP es e hg.2 n hn) (by omega)
    ·exact up (wt_all hP sp e hg.2 n hn) (by omega)
  ·simp
 | .agg ps, t => by
  intro ht
  have hg := hP t ht
  simp only [DataW.weights, Rows.uptoBulk]
  split
  ·rename_i fs he
   simp only [okT, he, Bool.and_eq_true, List.all_eq_true, decide_eq_true_eq] at hg
   intro n hn; exact up (wt_each hP ps _ (fun t ht => by obtain ⟨f, hf, rfl⟩ := List.mem_map.1 ht; exact hg.2 f hf) n hn) (Nat.le_succ _)
  ·rename_i m e he
   simp only [okT, he, Bool.and_eq_true, decide_eq_true_eq] at hg
   intro n hn; exact up (wt_all hP ps _ hg.2 n hn) (Nat.le_succ _)
  ·simp
 | .iface _ _, t => by simp [DataW.weights]
 | .map es, t => by
  intro ht
  have hg := hP t ht
  simp only [DataW.weights, Rows.uptoBulk]
  split
  ·rename_i k e he
   simp only [okT, he, Bool.and_eq_true, decide_eq_true_eq] at hg
   have hb := hP e hg.2.2
   have hc := hP k hg.2.1
   simp only [okT, Bool.and_eq_true, decide_eq_true_eq] at hb hc
   intro n hn
   have h1 := wt_lenE es
   rcases List.mem_cons.1 hn with rfl | hn
   ·exact Nat.mul_le_mul (by omega) (half2 hc.1 hb.1)
   ·exact up (wt_ents hP es e hg.2.2 n hn) (Nat.le_succ _)
  ·simp
 | .held _, t => by simp [DataW.weights]
theorem wt_len {H : Type} : ∀ (l : List (DataW H)), l.length ≤ Rows.uptoBulkAll l
 | [] => by simp [Rows.uptoBulkAll]
 | d :: l => by have := wt_one d; have := wt_len l; simp only [Rows.uptoBulkAll, List.length_cons]; omega
theorem wt_one {H : Type} : ∀ (d : DataW H), 1 ≤ Rows.uptoBulk d
 | .lit l => by cases l <;> simp [Rows.uptoBulk]
 | .nil => by simp [Rows.uptoBulk]
 | .ptr d => by simp [Rows.uptoBulk]
 | .slice _ _ => by simp [Rows.uptoBulk]
 | .agg _ => by simp [Rows.uptoBulk]
 | .iface _ _ => by simp [Rows.uptoBulk]
 | .map _ => by simp [Rows.uptoBulk]
 | .held _ => by simp [Rows.uptoBulk]
theorem wt_lenE {H : Type} : ∀ (l : List (Lit × DataW H)), l.length ≤ Rows.uptoBulkEntries l
 | [] => by simp [Rows.uptoBulkEntries]
 | x :: l => by
  have := wt_lenE l
  have h : 1 ≤ Rows.uptoBulkEntry x := by obtain ⟨a, d⟩ := x; cases a <;> simp [Rows.uptoBulkEntry]
  simp only [Rows.uptoBulkEntries, List.length_cons]; omega
theorem wt_all {H : Type} {P : Program} (hP : ∀ t, t < P.types.size → okT P t = true) : ∀ (l : List (DataW H)) (e : TypeId), e < P.types.size → ∀ n ∈ DataW.weightsAll P e l, n ≤ Rows.uptoBulkAll l * 8192
 | [], e => by simp [DataW.weightsAll]
 | d :: l, e => by
  simp only [DataW.weightsAll, Rows.uptoBulkAll, List.mem_append]
  intro he n hn
  rcases hn with hn | hn
  ·exact up (wt_le hP d e he n hn) (by omega)
  ·exact up (wt_all hP l e he n hn) (by omega)
theorem wt_each {H : Type} {P : Program} (hP : ∀ t, t < P.types.size → okT P t = true) : ∀ (l : List (DataW H)) (ts : List TypeId), (∀ t ∈ ts, t < P.types.size) → ∀ n ∈ DataW.weightsEach P ts l, n ≤ Rows.uptoBulkAll l * 8192
 | [], ts => by cases ts <;> simp [DataW.weightsEach]
 | d :: l, [] => by simp [DataW.weightsEach]
 | d :: l, t :: ts => by
  simp only [DataW.weightsEach, Rows.uptoBulkAll, List.mem_append]
  intro ht n hn
  rcases hn with hn | hn
  ·exact up (wt_le hP d t (ht t (by simp)) n hn) (by omega)
  ·exact up (wt_each hP l ts (fun u hu => ht u (List.mem_cons_of_mem _ hu)) n hn) (by omega)
theorem wt_ents {H : Type} {P : Program} (hP : ∀ t, t < P.types.size → okT P t = true) : ∀ (l : List (Lit × DataW H)) (e : TypeId), e < P.types.size → ∀ n ∈ DataW.weightsEntries P e l, n ≤ Rows.uptoBulkEntries l * 8192
 | [], e => by simp [DataW.weightsEntries]
 | x :: l, e => by
  simp only [DataW.weightsEntries, Rows.uptoBulkEntries, List.mem_append]
  intro he n hn
  rcases hn with hn | hn
  ·exact up (wt_ent hP x e he n hn) (by omega)
  ·exact up (wt_ents hP l e he n hn) (by omega)
theorem wt_ent {H : Type} {P : Program} (hP : ∀ t, t < P.types.size → okT P t = true) : ∀ (x : Lit × DataW H) (e : TypeId), e < P.types.size → ∀ n ∈ DataW.weightsEntry P e x, n ≤ Rows.uptoBulkEntry x * 8192
 | (a, d), e => by
  intro he
  have h := wt_le hP d e he
  cases a with
  | string b =>
   simp only [DataW.weightsEntry, Rows.uptoBulkEntry]
   intro n hn
   rcases List.mem_cons.1 hn with rfl | hn
   ·exact up1 (by omega)
   ·exact up (h n hn) (by omega)
  | _ =>
   simp only [DataW.weightsEntry, Rows.uptoBulkEntry]
   intro n hn
   exact up (h n hn) (by omega)
end
theorem bulk_mem {H : Type} {d : DataW H} : ∀ {l : List (DataW H)}, d ∈ l → Rows.uptoBulk d ≤ Rows.uptoBulkAll l
 | x :: l, h => by
  simp only [Rows.uptoBulkAll]
  rcases List.mem_cons.1 h with rfl | h
  ·omega
  ·have := bulk_mem h; omega
theorem upto_weights {H : Type} {l : List (DataW H)} (hk : Rows.uptoSmall H l = true) {d : DataW H} (hd : d ∈ l) (t : TypeId) (ht : t < Try.prog.types.size) : ∀ n ∈ d.weights Try.prog t, n ≤ qB := by
 intro n hn
 have h1 := wt_le bytes_small d t ht n hn
 have h2 := bulk_mem hd
 have h3 : Rows.uptoBulkAll l ≤ 1048576 := of_decide_eq_true hk
 rw [qB_upto]
 exact Nat.le_trans h1 (Nat.le_trans (Nat.mul_le_mul_right _ (Nat.le_trans h2 h3)) (by decide))
theorem contract (H : Type) (enc : TypeId × Value → H) (W : World) (base : Nat) (args : Array Value) (ds gs : List (DataW H)) (before : List MemPlace)
  (hval : ∀ (j : Nat) t v, Try.f4.params[j]? = some t → args[j]? = some v → Value.okWide Try.prog W .any base t v)
  (hW : DataW.Whole enc Try.prog Try.f4.params.toList Rows.heatProofsSpec.vars false W args.toList ds gs before) (hk0 : Rows.uptoSmall H (ds ++ gs) = true) :
  Calls Try.prog 4 args W fun e W' => ∃ v, e = .returned v ∧ Rows.heatProofsSpec.post enc Try.prog Try.f4 false true false false W args v W' := by
 have hW' := hW
 obtain ⟨p, q, hA0, hV, rfl, hfz, hnd⟩ := hW
 have hA : DataW.TrodAll enc Try.prog W 0 (fun _ => true) true Try.f4.params.toList args.toList ds p := hA0
 rw [Try.params4] at hA hval
 obtain ⟨v0, vs0, d0, ds0, p0, q0, hargs, rfl, rfl, h0, r0⟩ := trodAll_cons hA
 obtain ⟨v1, vs1, d1, ds1, p1, q1, rfl, rfl, rfl, h1, r1⟩ := trodAll_cons r0
 obtain ⟨v2, vs2, d2, ds2, p2, q2, rfl, rfl, rfl, h2, r2⟩ := trodAll_cons r1
 obtain ⟨rfl, rfl, rfl⟩ := trodAll_nil r2
 have hsz : ∀ (j : Nat) (t : TypeId) (d : DataW H), [32, 49, 51][j]? = some t → [d0, d1, d2][j]? = some d → ∀ n ∈ d.weights Try.prog t, n ≤ qB := fun j t d ht hd => upto_weights hk0 (List.mem_append.2 (.inl (List.mem_of_getElem? hd))) t (of_decide_eq_true (List.all_eq_true.1 (show [32, 49, 51].all (fun t => decide (t < Try.prog.types.size)) = true by kernel_rfl) t (List.mem_of_getElem? ht)))
 obtain rfl : args = #[v0, v1, v2] := by cases args; simp_all
 obtain ⟨a0, Q0, V0⟩ := arg_agg reads_32 (by have h := hval 0 32 v0 rfl rfl; unfold Value.okWide at h; rw [Try.underlying32] at h; obtain ⟨cs, h, _⟩ := h; exact ⟨cs, h⟩) h0 (hsz 0 32 d0 rfl rfl)
 obtain ⟨a1, Q1, V1⟩ := arg_agg reads_49 (by have h := hval 1 49 v1 rfl rfl; unfold Value.okWide at h; rw [Try.underlying49] at h; obtain ⟨cs, h, _⟩ := h; exact ⟨cs, h⟩) h1 (hsz 1 49 d1 rfl rfl)
 obtain ⟨a2, Q2, V2⟩ := arg_agg reads_51 (by have h := hval 2 51 v2 rfl rfl; unfold Value.okWide at h; rw [Try.underlying51] at h; obtain ⟨cs, h, _⟩ := h; exact ⟨cs, h⟩) h2 (hsz 2 51 d2 rfl rfl)
 obtain ⟨k, hk⟩ := plain a0 a1 a2 Q0 Q1 Q2
 have hv : VRs (fmAll W) [] [.agg (Go.Abs.Firing.c a0), .agg (Go.Abs.L04_Told.c a1), .agg (Go.Abs.HeatProof.c a2)] [v0, v1, v2] := ⟨rfl, fun i x v h1 h2 => by
  match i with
  | 0 => cases h1; cases h2; exact V0
  | 1 => cases h1; cases h2; exact V1
  | 2 => cases h1; cases h2; exact V2
  | i + 3 => simp at h1⟩
 refine Calls.mono ((L04_HeatProofs_ok k a0 a1 a2 true hk).2 (fmAll W) W _ (fun _ _ _ h => h) hv) ?_
 rintro e W1 ⟨v, y, fm1, rfl, rfl, _, hvr, _, hB⟩
 cases hvr
 exact ⟨_, rfl, law_post (t := 4) (by kernel_rfl) (by kernel_rfl) (by kernel_rfl) hW' rfl hB (by rw [Try.params4]; decide +kernel) rfl Try.underlying4 (by obtain ⟨rfl, _⟩ := trodVars_none hV; rfl)⟩
theorem lifted (os : Os) (started : os.Started) (H : Type) (enc : TypeId × Value → H) (F : Stop.Interp) :
  ReturnsInHanded {} Try.checked os 4 .any ((Rows.OpenSpec.upto Rows.heatProofsSpec).pre6 enc Try.prog Try.f4 Rows.heatProofsUptoRow.domain false) (((Rows.OpenSpec.upto Rows.heatProofsSpec).at F).post enc Try.prog Try.f4 false true false false) := by
 refine returnsInHanded_of_cond (C := Try.checked) (s := (Rows.OpenSpec.upto Rows.heatProofsSpec)) (k := Rows.uptoSmall) rfl own started (by kernel_rfl) Try.func4
  (OpenSpec.witness (enc := enc) (C := Try.checked) (s := (Rows.OpenSpec.upto Rows.heatProofsSpec)) (k := Rows.uptoSmall) rfl false ⟨#[], #[.agg #[.slice none 0 0, .slice none 0 0], .agg #[.int .i64 0, .int .i64 0, .bool false], .agg #[.int .i64 0, .slice none 0 0]], []⟩ 8 (by kernel_rfl) (by kernel_rfl) (by kernel_rfl)
   (x := ([.agg [.agg [.nil], .nil], .agg [.lit (.int .i64 0), .lit (.int .i64 0), .lit (.bool false)], .agg [.lit (.int .i64 0), .nil]], [], [])) (by kernel_rfl) rfl (by kernel_rfl)) ?_
 intro W base args ds gs before hval hW _ hk _
 exact contract H enc W base args ds gs before hval hW hk
theorem over : Rows.heatProofsUptoRow.holds Try.pinned (Rows.OpenSpec.upto Rows.heatProofsSpec) :=
 OpenClaim.holds_of_cond 4 Try.f4 rfl rfl rfl rfl rfl rfl rfl ⟨rfl, rfl, rfl, rfl, rfl⟩ rfl rfl rfl rfl rfl (by kernel_rfl) Try.func4 (by kernel_rfl)
  (of_decide_eq_true (by kernel_rfl)) (by unfold Func.isWrapper; first | (rw [if_pos (by decide +kernel)]; kernel_rfl) | (rw [if_neg (by decide +kernel)]; exact ⟨rfl, rfl⟩))
  (fun os started H enc _ F => lifted os started H enc F)
theorem proved : Rows.HeatProofsUptoSaid := over
end Go.Proofs.Ytafmgcbfmifaeaa.heatProofs
