/-
  Part 6 of the proof: a machine over named blocks, what each function computes, and what follows. No condition.
-/
import Derived.Test.YtpgccpdlilnakaaRows
import Derived.WalkKit
import Derived.ProofKit
import Derived.OpenShut
import Derived.JoinedCond
import Derived.Test.YtpgccpdlilnakaaBBytesE
set_option linter.unusedVariables false
set_option linter.unusedSimpArgs false
set_option linter.all false
set_option maxRecDepth 100000
set_option maxHeartbeats 8000000
namespace Go.Abs
open Go Go.Proofs
set_option maxRecDepth 20000
set_option linter.unusedVariables false
set_option linter.unusedSimpArgs false
theorem takeL_plain (l : List Int) (n : Nat) : takeL l (n : Int) = if l.length < n then none else some (l.take n, l.drop n) := by
 unfold takeL
 by_cases h : l.length < n
 ·rw [if_pos (by omega), if_pos h]
 ·rw [if_neg (by omega), if_neg h, Int.toNat_natCast]
theorem numL_plain {k : Nat} (hk : 100 < k) {l : List Int} (hb : Byt l) {n : Nat} (hn : n ≤ 5) : numL k l (n : Int) = some (if l.length < n then none else some (rdV (l.take n), l.drop n)) := by
 unfold numL
 rw [takeL_plain]
 by_cases h : l.length < n
 ·simp only [if_pos h]
 ·simp only [if_neg h]
  have hl : (l.take n).length = n := by rw [List.length_take]; omega
  rw [rd_loop (hb.take n) (by omega) (k := k) (by omega) (fun i x s hx => by
   have hi := (List.getElem?_eq_some_iff.1 hx).1
   unfold numB
   simp only [decide_eq_true (show (i : Int) < ((l.take n).length : Int) by omega), cond_true, at_of hx, Option.bind_some]) (fun s => by
   unfold numB
   simp only [(by simp : decide (((l.take n).length : Int) < ((l.take n).length : Int)) = false), cond_false])]
  rfl
def decR (b tx : List Int) : Record := ⟨⟨rdV (b.take 1), rdV ((b.drop 1).take 2)⟩, rdV ((b.drop 3).take 1), rdV ((b.drop 4).take 4), rdV ((b.drop 8).take 4), ⟨rdV ((b.drop 12).take 1), rdV ((b.drop 13).take 2)⟩, strOf tx⟩
def decM (b : List Int) : Int := rdV ((b.drop 15).take 1)
def decP (b : List Int) : Option (Record × List Int) :=
 if b.length < 16 then none else if (b.length : Int) < 16 + decM b then none else some (decR b ((b.drop 16).take (decM b).toNat), (b.drop 16).drop (decM b).toNat)
theorem decL_plain {k : Nat} (hk : 100 < k) {b : List Int} (hb : Byt b) : decL k b = some (decP b) := by
 have N1 : ∀ {l : List Int}, Byt l → numL k l 1 = some (if l.length < 1 then none else some (rdV (l.take 1), l.drop 1)) := fun h => numL_plain hk h (n := 1) (by omega)
 have N2 : ∀ {l : List Int}, Byt l → numL k l 2 = some (if l.length < 2 then none else some (rdV (l.take 2), l.drop 2)) := fun h => numL_plain hk h (n := 2) (by omega)
 have N4 : ∀ {l : List Int}, Byt l → numL k l 4 = some (if l.length < 4 then none else some (rdV (l.take 4), l.drop 4)) := fun h => numL_plain hk h (n := 4) (by omega)
 unfold decL
 by_cases h16 : b.length < 16
 ·have e : decP b = none := by unfold decP; rw [if_pos h16]
  rw [e, N1 hb, Option.bind_some]
  by_cases h1 : b.length < 1
  ·rw [if_pos h1]
  rw [if_neg h1]; simp only
  rw [N2 (hb.drop _), Option.bind_some, List.length_drop, List.drop_drop]
  by_cases h1 : b.length - 1 < 2
  ·rw [if_pos h1]
  rw [if_neg h1]; simp only
  rw [N1 (hb.drop _), Option.bind_some, List.length_drop, List.drop_drop]
  by_cases h1 : b.length - (1 + 2) < 1
  ·rw [if_pos h1]
  rw [if_neg h1]; simp only
  rw [N4 (hb.drop _), Option.bind_some, List.length_drop, List.drop_drop]
  by_cases h1 : b.length - (1 + 2 + 1) < 4
  ·rw [if_pos h1]
  rw [if_neg h1]; simp only
  rw [N4 (hb.drop _), Option.bind_some, List.length_drop, List.drop_drop]
  by_cases h1 : b.length - (1 + 2 + 1 + 4) < 4
  ·rw [if_pos h1]
  rw [if_neg h1]; simp only
  rw [N1 (hb.drop _), Option.bind_some, List.length_drop, List.drop_drop]
  by_cases h1 : b.length - (1 + 2 + 1 + 4 + 4) < 1
  ·rw [if_pos h1]
  rw [if_neg h1]; simp only
  rw [N2 (hb.drop _), Option.bind_some, List.length_drop, List.drop_drop]
  by_cases h1 : b.length - (1 + 2 + 1 + 4 + 4 + 1) < 2
  ·rw [if_pos h1]
  rw [if_neg h1]; simp only
  rw [N1 (hb.drop _), Option.bind_some, List.length_drop, List.drop_drop]
  rw [if_pos (by omega)]
 ·rw [N1 hb, Option.bind_some, if_neg (by omega)]; simp only
  rw [N2 (hb.drop _), Option.bind_some, List.length_drop, List.drop_drop, if_neg (by omega)]; simp only
  rw [N1 (hb.drop _), Option.bind_some, List.length_drop, List.drop_drop, if_neg (by omega)]; simp only
  rw [N4 (hb.drop _), Option.bind_some, List.length_drop, List.drop_drop, if_neg (by omega)]; simp only
  rw [N4 (hb.drop _), Option.bind_some, List.length_drop, List.drop_drop, if_neg (by omega)]; simp only
  rw [N1 (hb.drop _), Option.bind_some, List.length_drop, List.drop_drop, if_neg (by omega)]; simp only
  rw [N2 (hb.drop _), Option.bind_some, List.length_drop, List.drop_drop, if_neg (by omega)]; simp only
  rw [N1 (hb.drop _), Option.bind_some, List.length_drop, List.drop_drop, if_neg (by omega)]; simp only
  have hm := rdV_bounds ((hb.drop 15).take 1)
  have hM : rdV ((b.drop (1 + 2 + 1 + 4 + 4 + 1 + 2)).take 1) = decM b := rfl
  rw [hM]
  have hm0 : 0 ≤ decM b := hm.1
  rw [if_pos hm0]
  obtain ⟨m, hm'⟩ := Int.eq_ofNat_of_zero_le hm0
  unfold decP
  rw [if_neg h16, hm', takeL_plain, List.length_drop]
  by_cases hlt : (b.length : Int) < 16 + (m : Int)
  ·rw [if_pos hlt, if_pos (by omega)]
  ·rw [if_neg hlt, if_neg (by omega)]
   rfl
theorem decoded_plain {k : Nat} (hk : 1000 < k) {b : List Int} (hb : Byt b) :
  book_decoded k b = some (match decP b with | none => (⟨⟨0, 0⟩, 0, 0, 0, ⟨0, 0⟩, ByteArray.empty⟩, [], false) | some p => (p.1, p.2, recB p.1)) := by
 unfold book_decoded
 rw [decL_plain (by omega) hb]
 cases decP b with
 | none => rfl
 | some p => simp only [Option.bind_some, isRecord_plain hk]
theorem rd1 {n : Int} (h0 : 0 ≤ n) (h1 : n < 256) : rdV (be n 1) = n := by
 simp only [be, wrap8, rdV, rdA, List.foldl]
 rw [Int.fdiv_eq_ediv_of_nonneg _ (by decide)]
 simp
 omega
theorem rd2 {n : Int} (h0 : 0 ≤ n) (h1 : n < 65536) : rdV (be n 2) = n := by
 simp only [be, wrap8, rdV, rdA, List.foldl]
 rw [Int.fdiv_eq_ediv_of_nonneg _ (by decide), Int.fdiv_eq_ediv_of_nonneg _ (by decide)]
 simp
 omega
theorem rd4 {n : Int} (h0 : 0 ≤ n) (h1 : n < 4294967296) : rdV (be n 4) = n := by
 simp only [be, wrap8, rdV, rdA, List.foldl]
 rw [Int.fdiv_eq_ediv_of_nonneg _ (by decide), Int.fdiv_eq_ediv_of_nonneg _ (by decide), Int.fdiv_eq_ediv_of_nonneg _ (by decide), Int.fdiv_eq_ediv_of_nonneg _ (by decide)]
 simp
 omega
theorem byt_ben (n : Int) : ∀ w, Byt (be n w)
 | 0 => by intro x hx; simp [be] at hx
 | w + 1 => by
  intro x hx
  rcases List.mem_cons.1 hx with rfl | hx
  ·rw [wrap8]; omega
  ·exact byt_ben n w x hx
theorem byt_str (s : ByteArray) : Byt (strBs s) := by
 intro x hx
 obtain ⟨c, _, rfl⟩ := List.mem_map.1 hx
 have := c.toNat_lt
 omega
theorem Byt.append {a b : List Int} (ha : Byt a) (hb : Byt b) : Byt (a ++ b) := fun x hx => by
 rcases List.mem_append.1 hx with h | h
 ·exact ha x h
 ·exact hb x h
theorem byt_enc (r : Record) : Byt (enc r) := by
 unfold enc
 exact ((((((((byt_ben _ _).append (byt_ben _ _)).append (byt_ben _ _)).append (byt_ben _ _)).append (byt_ben _ _)).append (byt_ben _ _)).append (byt_ben _ _)).append (byt_ben _ _)).append (byt_str _)
theorem enc_part (r : Record) : (enc r).take 1 = be r.At.House 1 ∧ ((enc r).drop 1).take 2 = be r.At.No 2 ∧ ((enc r).drop 3).take 1 = be r.Kind 1 ∧ ((enc r).drop 4).take 4 = be r.Day 4 ∧ ((enc r).drop 8).take 4 = be r.Known 4 ∧
  ((enc r).drop 12).take 1 = be r.Of.House 1 ∧ ((enc r).drop 13).take 2 = be r.Of.No 2 ∧ ((enc r).drop 15).take 1 = be (r.Text.size : Int) 1 ∧ (enc r).drop 16 = strBs r.Text := by
 unfold enc
 simp [be]
theorem recB_bounds {r : Record} (h : recB r = true) : (0 ≤ r.At.House ∧ r.At.House ≤ 5) ∧ (0 ≤ r.At.No ∧ r.At.No ≤ 9999) ∧ (0 ≤ r.Kind ∧ r.Kind ≤ 40) ∧ (0 ≤ r.Day ∧ r.Day ≤ 100000) ∧ (0 ≤ r.Known ∧ r.Known ≤ 100000) ∧ (0 ≤ r.Of.House ∧ r.Of.House ≤ 5) ∧ (0 ≤ r.Of.No ∧ r.Of.No ≤ 9999) := by
 unfold recB entryB within at h
 simp only [Bool.and_eq_true, decide_eq_true_eq] at h
 obtain ⟨⟨a1, a2⟩, a3, a4, a5, a6, h⟩ := h
 refine ⟨a1, a2, a3, a4, a5, ?_⟩
 by_cases hk : r.Kind = 0
 ·simp only [hk, decide_true, Bool.not_true, cond_false, Bool.and_eq_true, decide_eq_true_eq] at h
  exact ⟨h.2.2.1.1, h.2.2.1.2⟩
 ·simp only [hk, decide_false, Bool.not_false, cond_true, Bool.and_eq_true, decide_eq_true_eq] at h
  omega
theorem decM_enc {r : Record} (ht : r.Text.size ≤ 200) : decM (enc r) = (r.Text.size : Int) := by
 unfold decM
 rw [(enc_part r).2.2.2.2.2.2.2.1, rd1 (by omega) (by omega)]
theorem decP_enc {r : Record} (h : recB r = true) (l : List Int) : decP (enc r ++ l) = some (r, l) := by
 have ht := recB_text h
 have hlen := enc_len r
 obtain ⟨b1, b2, b3, b4, b5, b6, b7⟩ := recB_bounds h
 obtain ⟨p1, p2, p3, p4, p5, p6, p7, p8, p9⟩ := enc_part r
 have T : ∀ (i n : Nat), i + n ≤ 16 → ((enc r ++ l).drop i).take n = ((enc r).drop i).take n := fun i n hi => by
  rw [List.drop_append_of_le_length (by omega), List.take_append_of_le_length (by rw [List.length_drop]; omega)]
 have hM : decM (enc r ++ l) = (r.Text.size : Int) := by
  have := decM_enc ht
  unfold decM at this ⊢
  rw [T 15 1 (by omega)]; exact this
 have hd : (enc r ++ l).drop 16 = strBs r.Text ++ l := by
  rw [List.drop_append_of_le_length (by omega), p9]
 unfold decP
 rw [if_neg (by rw [List.length_append]; omega), hM, if_neg (by rw [List.length_append]; omega), hd, Int.toNat_natCast]
 have hsl := strBs_len r.Text
 rw [List.take_append_of_le_length (by omega), List.drop_append_of_le_length (by omega), List.take_of_length_le (by omega), List.drop_of_length_le (by omega), List.nil_append]
 have t0 := T 0 1 (by omega)
 simp only [List.drop_zero] at t0
 unfold decR
 rw [t0, T 1 2 (by omega), T 3 1 (by omega), T 4 4 (by omega), T 8 4 (by omega), T 12 1 (by omega), T 13 2 (by omega), p1, p2, p3, p4, p5, p6, p7,
  rd1 b1.1 (by omega), rd2 b2.1 (by omega), rd1 b3.1 (by omega), rd4 b4.1 (by omega), rd4 b5.1 (by omega), rd1 b6.1 (by omega), rd2 b7.1 (by omega)]
 have hs : strOf (strBs r.Text) = r.Text := strOf_strBs r.Text
 rw [hs]
end Go.Abs
namespace Go.Abs
open Go Go.Proofs
set_option maxRecDepth 20000
set_option linter.unusedVariables false
set_option linter.unusedSimpArgs false
def pieceOf (h : Vec 32 Int) : List Int := (h.l.drop 8).take 23
def padE (c : List Int) : List Int := c ++ List.replicate (23 * cntOf c.length - c.length) 0
theorem cnt_ge (n : Nat) : n ≤ 23 * cntOf n := by unfold cntOf; omega
theorem padE_len (c : List Int) : (padE c).length = 23 * cntOf c.length := by
 have := cnt_ge c.length
 unfold padE; simp; omega
theorem piece_half (e n : Int) (c : List Int) {i : Nat} (hi : i < cntOf c.length) : pieceOf (halfV e n (cntOf c.length) c i) = ((padE c).drop (23 * i)).take 23 := by
 have hlt := cnt_lt hi
 unfold pieceOf halfV halfL padE
 simp only
 rw [be_three, be_two]
 simp only [List.cons_append, List.nil_append, List.append_assoc, List.drop_succ_cons, List.drop_zero]
 rw [List.drop_append_of_le_length (by omega), ← List.append_assoc, List.take_append_of_le_length (by simp; omega), List.take_of_length_le (by simp; omega)]
 rw [List.take_append, List.take_replicate, List.length_drop]
 congr 2
 have := cnt_ge c.length
 omega
theorem chunks (P : List Int) (w : Nat) : ∀ n, ((List.range n).map fun i => (P.drop (w * i)).take w).flatten = P.take (w * n)
 | 0 => by simp
 | n + 1 => by
  rw [List.range_succ, List.map_append, List.flatten_append, chunks P w n]
  simp only [List.map_cons, List.map_nil, List.flatten_cons, List.flatten_nil, List.append_nil]
  rw [Nat.mul_succ, List.take_add]
theorem join_halves (e n : Int) (c : List Int) : (((List.range (cntOf c.length)).map (halfV e n (cntOf c.length) c)).map pieceOf).flatten = padE c := by
 have : (((List.range (cntOf c.length)).map (halfV e n (cntOf c.length) c)).map pieceOf) = (List.range (cntOf c.length)).map fun i => ((padE c).drop (23 * i)).take 23 := by
  rw [List.map_map]
  apply List.map_congr_left
  intro i hi
  exact piece_half e n c (List.mem_range.1 hi)
 rw [this, chunks, ← padE_len, List.take_length]
def halvesL (r : Record) (n e : Int) : List (Vec 32 Int) := (List.range (cntOf (enc r).length)).map (halfV e n (cntOf (enc r).length) (enc r))
theorem halvesL_len (r : Record) (n e : Int) : (halvesL r n e).length = cntOf (enc r).length := by simp [halvesL]
theorem cnt_pos (r : Record) : 0 < cntOf (enc r).length := by rw [enc_len]; unfold cntOf; omega
theorem halves_rec {r s : Record} (hr : recB r = true) (hs : recB s = true) {n e n' e' : Int} (h : halvesL r n e = halvesL s n' e') : r = s := by
 have h1 := join_halves e n (enc r)
 have h2 := join_halves e' n' (enc s)
 unfold halvesL at h
 rw [h, h2] at h1
 have h3 := decP_enc hr (List.replicate (23 * cntOf (enc r).length - (enc r).length) 0)
 have h4 := decP_enc hs (List.replicate (23 * cntOf (enc s).length - (enc s).length) 0)
 unfold padE at h1
 rw [← h1, h4] at h3
 simp only [Option.some.injEq, Prod.mk.injEq] at h3
 exact h3.1.symm
theorem rd3 {n : Int} (h0 : 0 ≤ n) (h1 : n < 16777216) : rdV (be n 3) = n := by
 simp only [be, wrap8, rdV, rdA, List.foldl]
 rw [Int.fdiv_eq_ediv_of_nonneg _ (by decide), Int.fdiv_eq_ediv_of_nonneg _ (by decide), Int.fdiv_eq_ediv_of_nonneg _ (by decide)]
 simp
 omega
theorem halves_nums {r s : Record} {n e n' e' : Int} (hn : 0 ≤ n ∧ n < 65536) (he : 0 ≤ e ∧ e < 16777216) (hn' : 0 ≤ n' ∧ n' < 65536) (he' : 0 ≤ e' ∧ e' < 16777216) (h : halvesL r n e = halvesL s n' e') : n = n' ∧ e = e' := by
 have h0 := congrArg (fun l => l[0]?) h
 unfold halvesL at h0
 simp only [List.getElem?_map, List.getElem?_range (cnt_pos r), List.getElem?_range (cnt_pos s), Option.map_some, Option.some.injEq] at h0
 have h1 := congrArg Vec.l h0
 have h2 : be e 3 = be e' 3 := by
  have := congrArg (fun l => (l.drop 1).take 3) h1
  simpa [halfV, halfL, be_three, be_two] using this
 have h3 : be n 2 = be n' 2 := by
  have := congrArg (fun l => (l.drop 4).take 2) h1
  simpa [halfV, halfL, be_three, be_two] using this
 constructor
 ·rw [← rd2 hn.1 hn.2, h3, rd2 hn'.1 hn'.2]
 ·rw [← rd3 he.1 he.2, h2, rd3 he'.1 he'.2]
theorem veq_iff (v w : Vec 32 Int) : Vec.eq (fun (x y : Int) => decide (x = y)) v w = true ↔ v = w := by
 constructor
 ·intro h
  unfold Vec.eq at h
  rw [List.all_eq_true] at h
  apply Vec.ext
  apply List.ext_getElem (by rw [v.h, w.h])
  intro i h1 h2
  have := h (v.l[i], w.l[i]) (List.mem_iff_getElem.2 ⟨i, by simp; omega, by simp⟩)
  simpa using this
 ·rintro rfl; exact veq_self _
theorem same_loop {α R : Type} {body : Bool × Int → Option (Stp (Bool × Int) Bool R)} {a b : List α} (hab : a.length = b.length) (hl : a.length ≤ 1000000) {eq : α → α → Bool} (he : ∀ x y, eq x y = true ↔ x = y) {k : Nat} (hk : 10000000 < k)
  (h1 : ∀ (i : Nat) x y, a[i]? = some x → b[i]? = some y → body (true, (i : Int)) = some (.next (eq x y, w64 ((i : Int) + 1))))
  (h2 : ∀ i : Nat, i ≤ a.length → body (false, (i : Int)) = some (.brk false)) (h3 : body (true, (a.length : Int)) = some (.brk true)) :
  ∃ c : Bool, whl body k (true, 0) = some (.brk c) ∧ (c = true ↔ a = b) := by
 have key : ∀ (d i m : Nat), i + d = a.length → d + 2 ≤ m → ∃ c : Bool, whl body m (true, (i : Int)) = some (.brk c) ∧ (c = true ↔ a.drop i = b.drop i) := by
  intro d
  induction d with
  | zero =>
   intro i m h4 h5
   obtain ⟨m, rfl⟩ : ∃ q, m = q + 1 := ⟨m - 1, by omega⟩
   have : i = a.length := by omega
   subst this
   refine ⟨true, by simp only [whl, h3], ?_⟩
   rw [List.drop_of_length_le (Nat.le_refl _), List.drop_of_length_le (by omega)]
   simp
  | succ d ih =>
   intro i m h4 h5
   obtain ⟨m, rfl⟩ : ∃ q, m = q + 1 := ⟨m - 1, by omega⟩
   have ha : a[i]? = some (a[i]'(by omega)) := List.getElem?_eq_getElem (by omega)
   have hb : b[i]? = some (b[i]'(by omega)) := List.getElem?_eq_getElem (by omega)
   have hw : w64 ((i : Int) + 1) = ((i + 1 : Nat) : Int) := by rw [w64_of (by omega) (by omega)]; omega
   rw [List.drop_eq_getElem_cons (show i < a.length by omega), List.drop_eq_getElem_cons (show i < b.length by omega)]
   simp only [whl, h1 i _ _ ha hb, hw]
   cases hq : eq (a[i]'(by omega)) (b[i]'(by omega)) with
   | true =>
    obtain ⟨c, h6, h7⟩ := ih (i + 1) m (by omega) (by omega)
    refine ⟨c, h6, ?_⟩
    rw [h7, (he _ _).1 hq]
    exact ⟨fun h => by rw [h], fun h => (List.cons.inj h).2⟩
   | false =>
    obtain ⟨m, rfl⟩ : ∃ q, m = q + 1 := ⟨m - 1, by omega⟩
    refine ⟨false, by simp only [whl, h2 (i + 1) (by omega)], ?_⟩
    constructor
    ·intro h; cases h
    ·intro h
     have := (List.cons.inj h).1
     rw [(he _ _).2 this] at hq; cases hq
 have := key a.length 0 k (by omega) (by omega)
 simpa using this
theorem sameHalves_plain {k : Nat} (hk : 10000000 < k) {a b : List (Vec 32 Int)} (hl : a.length ≤ 1000) : ∃ c : Bool, R09_SameHalves k a b = some c ∧ (c = true ↔ a = b) := by
 unfold R09_SameHalves
 by_cases hab : a.length = b.length
 ·obtain ⟨c, h1, h2⟩ := same_loop (body := R09_SameHalves.b0 k a b) (eq := Vec.eq fun (x y : Int) => decide (x = y)) hab (by omega) veq_iff hk (fun i x y hx hy => by
   have hi := (List.getElem?_eq_some_iff.1 hx).1
   unfold R09_SameHalves.b0
   simp only [decide_eq_true (show (i : Int) < (a.length : Int) by omega), cond_true, at_of hx, at_of hy, Option.bind_some]) (fun i hi => by
   unfold R09_SameHalves.b0
   by_cases h : (i : Int) < (a.length : Int) <;> simp [h]) (by
   unfold R09_SameHalves.b0
   simp only [(by simp : decide ((a.length : Int) < (a.length : Int)) = false), cond_false])
  refine ⟨c, ?_, h2⟩
  have hd : decide ((a.length : Int) = (b.length : Int)) = true := by simp [hab]
  rw [hd, h1]
  rfl
 ·refine ⟨false, ?_, ?_⟩
  ·have hd : decide ((a.length : Int) = (b.length : Int)) = false := by simp; omega
   obtain ⟨m, rfl⟩ : ∃ q, k = q + 1 := ⟨k - 1, by omega⟩
   have : R09_SameHalves.b0 (m + 1) a b (false, 0) = some (.brk false) := by
    unfold R09_SameHalves.b0
    by_cases h : (0 : Int) < (a.length : Int) <;> simp [h]
   rw [hd]
   simp only [whl, this]
   rfl
  ·constructor
   ·intro h; cases h
   ·rintro rfl; exact absurd rfl hab
end Go.Abs
namespace Go.Abs
open Go Go.Proofs
set_option maxRecDepth 20000
set_option linter.unusedVariables false
set_option linter.unusedSimpArgs false
section
variable {α : Type} (key : α → Int × Int)
end
end Go.Abs
namespace Go.Abs
open Go Go.Proofs
set_option maxRecDepth 20000
set_option linter.unusedVariables false
set_option linter.unusedSimpArgs false
theorem many_plain {k : Nat} (hk : 1000000 < k) {l : List Record} (hl : l.length ≤ 100000) (hh : ∀ r ∈ l, houseOK r) : R09_many k l = some (cntV l) := by
 unfold R09_many
 rw [count_loop (l := l) (body := R09_many.b0 k l) (fun i s => (s, i)) hl hh hk (fun i r s hx => by
  have hi := (List.getElem?_eq_some_iff.1 hx).1
  unfold R09_many.b0
  simp only [decide_eq_true (show (i : Int) < (l.length : Int) by omega), cond_true, at_of hx, Option.bind_some]) (fun s => by
  unfold R09_many.b0
  simp only [(by simp : decide ((l.length : Int) < (l.length : Int)) = false), cond_false])]
 rfl
end Go.Abs
namespace Go.Abs
open Go Go.Proofs
set_option maxRecDepth 20000
set_option linter.unusedVariables false
set_option linter.unusedSimpArgs false
theorem take_at {α : Type} {l : List α} {i : Nat} {x : α} (h : l[i]? = some x) : l.take (i + 1) = l.take i ++ [x] := by
 rw [List.take_add_one, h]; rfl
theorem JI.house {a done out : List Record} {more : Nat} (h : JI keyR a done out more) (ha : ∀ r ∈ a, houseOK r) (hd : ∀ r ∈ done, houseOK r) : ∀ r ∈ out, houseOK r := fun r hr => by
 rcases (h.mem r).1 hr with g | g
 ·exact ha r g
 ·exact hd r g
end Go.Abs
namespace Go.Abs
open Go Go.Proofs
set_option maxRecDepth 20000
set_option linter.unusedVariables false
set_option linter.unusedSimpArgs false
def recZ : Record := ⟨⟨0, 0⟩, 0, 0, 0, ⟨0, 0⟩, ByteArray.empty⟩
def decode (b : List Int) : Record × Int := match decP b with
 | some (r, []) => bif recB r then (r, 0) else (recZ, 90)
 | _ => (recZ, 90)
theorem decode_plain {k : Nat} (hk : 1000 < k) {b : List Int} (hb : Byt b) : book_Decode k b = some (decode b) := by
 unfold book_Decode decode
 rw [decoded_plain hk hb]
 cases decP b with
 | none => rfl
 | some p =>
  obtain ⟨r, l⟩ := p
  simp only [Option.bind_some]
  cases l with
  | nil =>
   show _ = some (bif recB r then (r, 0) else (recZ, 90))
   cases recB r <;> rfl
  | cons x l =>
   cases recB r with
   | true =>
    have : decide ((0 : Int) < ((x :: l).length : Int)) = true := by simp
    simp only [this, cond_true]; rfl
   | false => rfl
theorem encode_plain {k : Nat} (hk : 1000 < k) (r : Record) : book_Encode k r = some (bif recB r then (enc r, 0) else ([], 90)) := by
 unfold book_Encode
 rw [check_plain hk]
 cases hr : recB r with
 | false => rfl
 | true =>
  have ht := recB_text hr
  simp only [cond_true, Option.bind_some]
  rw [coded_plain (by omega) (by omega)]
  rfl
theorem decode_enc {r : Record} (h : recB r = true) : decode (enc r) = (r, 0) := by
 have := decP_enc h []
 rw [List.append_nil] at this
 unfold decode
 rw [this]
 simp only [h, cond_true]
end Go.Abs
namespace Go.Abs
open Go Go.Proofs
set_option maxRecDepth 20000
set_option linter.unusedVariables false
set_option linter.unusedSimpArgs false
theorem mod_plain (k : Nat) (n : Int) {m : Int} (h0 : 0 < m) (h1 : m ≤ 4611686018427387904) : R09_Mod k n m = some (n % m) := by
 unfold R09_Mod nz?
 rw [if_neg (by omega)]
 simp only [Option.bind_some]
 have b1 : Int.tmod n m < m := Int.tmod_lt_of_pos n h0
 have b2 : -m < Int.tmod n m := by
  rcases Int.le_total 0 n with h | h
  ·have := Int.tmod_nonneg m h
   omega
  ·have := Int.tmod_lt_of_pos (-n) h0
   rw [Int.neg_tmod] at this
   omega
 have e1 : Int.tmod n m % m = n % m := by
  have := Int.mul_tdiv_add_tmod n m
  rw [← this, Int.add_comm, Int.add_mul_emod_self_left]
  congr 1
  have e := Int.mul_tdiv_add_tmod n m
  rw [Int.add_comm] at e
  rw [e]
 rw [w64_of (by omega) (by omega), Int.tmod_eq_emod_of_nonneg (by omega), Int.add_emod_right, e1]
theorem mod_bounds (n : Int) {m : Int} (h0 : 0 < m) : 0 ≤ n % m ∧ n % m < m := ⟨Int.emod_nonneg _ (by omega), Int.emod_lt_of_pos _ h0⟩
theorem vec5 (v : Vec 5 Int) : ∃ a b c d e, v = ⟨[a, b, c, d, e], rfl⟩ := by
 obtain ⟨l, h⟩ := v
 match l, h with
 | [a, b, c, d, e], h => exact ⟨a, b, c, d, e, rfl⟩
def tx5 : List ByteArray := [ByteArray.empty, (⟨#[97]⟩ : ByteArray), (⟨#[112, 105, 101, 99, 101, 32, 49, 55]⟩ : ByteArray), (⟨#[48, 32, 48, 32, 49, 32, 48, 32, 48, 32, 48]⟩ : ByteArray), (⟨#[97, 32, 116, 101, 120, 116, 32, 111, 102, 32, 97, 32, 108, 101, 110, 103, 116, 104, 32, 116, 104, 97, 116, 32, 116, 97, 107, 101, 115, 32, 116, 104, 114, 101, 101, 32, 104, 97, 108, 118, 101, 115, 32, 111, 102, 32, 97, 32, 112, 97, 103, 101]⟩ : ByteArray)]
theorem tx5_ok {i : Int} (h0 : 0 ≤ i) (h1 : i < 5) : ∃ s, at? tx5 i = some s ∧ textB s = true := by
 have : i = 0 ∨ i = 1 ∨ i = 2 ∨ i = 3 ∨ i = 4 := by omega
 rcases this with rfl | rfl | rfl | rfl | rfl
 ·exact ⟨_, rfl, by decide +kernel⟩
 ·exact ⟨_, rfl, by decide +kernel⟩
 ·exact ⟨_, rfl, by decide +kernel⟩
 ·exact ⟨_, rfl, by decide +kernel⟩
 ·exact ⟨_, rfl, by decide +kernel⟩
theorem record_plain {k : Nat} (hk : 1000000 < k) {l : List Record} (hl : l.length ≤ 100) (hh : ∀ r ∈ l, houseOK r) (v : Vec 5 Int) :
  ∃ r, R09_record k l v = some r ∧ recB r = true ∧ (r.At.House = 0 ∨ r.At.House = 1 ∨ r.At.House = 2) ∧ (keyR r).2 = cnt keyR l (keyR r).1 := by
 obtain ⟨a, b, c, d, e, rfl⟩ := vec5 v
 have a0 : (⟨[a, b, c, d, e], rfl⟩ : Vec 5 Int).at? 0 = some a := rfl
 have a1 : (⟨[a, b, c, d, e], rfl⟩ : Vec 5 Int).at? 1 = some b := rfl
 have a2 : (⟨[a, b, c, d, e], rfl⟩ : Vec 5 Int).at? 2 = some c := rfl
 have a3 : (⟨[a, b, c, d, e], rfl⟩ : Vec 5 Int).at? 3 = some d := rfl
 have a4 : (⟨[a, b, c, d, e], rfl⟩ : Vec 5 Int).at? 4 = some e := rfl
 have m3 := mod_plain k a (m := 3) (by decide) (by decide)
 have m6 := mod_plain k b (m := 6) (by decide) (by decide)
 have m50 := mod_plain k c (m := 50) (by decide) (by decide)
 have m51 := mod_plain k d (m := 50) (by decide) (by decide)
 have m5 := mod_plain k e (m := 5) (by decide) (by decide)
 have B3 := mod_bounds a (m := 3) (by decide)
 have B6 := mod_bounds b (m := 6) (by decide)
 have B50 := mod_bounds c (m := 50) (by decide)
 have B51 := mod_bounds d (m := 50) (by decide)
 have B5 := mod_bounds e (m := 5) (by decide)
 obtain ⟨s, hs1, hs2⟩ := tx5_ok B5.1 B5.2
 have hc := cnt_le l (a % 3)
 have hhouse : a % 3 = 0 ∨ a % 3 = 1 ∨ a % 3 = 2 := by omega
 unfold R09_record
 unfold tx5 at hs1
 simp only [a0, a1, a2, a3, a4, m3, m6, m50, m51, m5, Option.bind_some, many_plain hk (show l.length ≤ 100000 by omega) hh, cntV_at l (show 0 ≤ a % 3 from B3.1) (by omega), hs1]
 have W : ∀ x lo hi : Int, lo ≤ x → x ≤ hi → within x lo hi = true := fun x lo hi h1 h2 => by
  unfold within; simp [h1, h2]
 have hgood : ∀ kk : Int, 0 < kk → kk ≤ 7 → recB (⟨(⟨a % 3, ((cnt keyR l (a % 3) : Nat) : Int)⟩ : Entry), kk, c % 50, d % 50, (⟨0, 0⟩ : Entry), s⟩ : Record) = true := fun kk h1 h2 => by
  unfold recB entryB
  simp only [W _ 0 5 (show 0 ≤ a % 3 from B3.1) (by omega), W _ 0 9999 (show (0 : Int) ≤ ((cnt keyR l (a % 3) : Nat) : Int) by omega) (by omega), W kk 0 40 (by omega) (by omega), W _ 0 100000 B50.1 (by omega), W _ 0 100000 B51.1 (by omega), hs2,
   decide_eq_false (show ¬ kk = 0 by omega), Bool.not_false, cond_true, Bool.and_self, decide_true]
 by_cases h0 : b % 6 = 0
 ·simp only [decide_eq_true h0, cond_true]
  by_cases hp : (0 : Int) < ((cnt keyR l (a % 3) : Nat) : Int)
  ·have mc := mod_plain k c (m := ((cnt keyR l (a % 3) : Nat) : Int)) hp (by omega)
   have Bc := mod_bounds c hp
   simp only [decide_eq_true hp, cond_true, mc, Option.bind_some]
   refine ⟨_, rfl, ?_, hhouse, rfl⟩
   have te : textB ByteArray.empty = true := by decide +kernel
   unfold recB entryB
   simp only [W _ 0 5 (show 0 ≤ a % 3 from B3.1) (by omega), W _ 0 9999 (show (0 : Int) ≤ ((cnt keyR l (a % 3) : Nat) : Int) by omega) (by omega), W (b % 6) 0 40 (by omega) (by omega), W 0 0 100000 (by decide) (by decide), W _ 0 100000 B51.1 (by omega), te,
    decide_eq_true h0, Bool.not_true, cond_false, Bool.and_self, decide_true, beq_self_eq_true, W _ 0 9999 Bc.1 (by omega), decide_eq_true Bc.2]
  ·simp only [decide_eq_false hp, cond_false]
   exact ⟨_, rfl, hgood 7 (by decide) (by decide), hhouse, rfl⟩
 ·simp only [decide_eq_false h0, cond_false]
  exact ⟨_, rfl, hgood _ (by omega) (by omega), hhouse, rfl⟩
def mk1 (k : Nat) (s : List Record) (v : Vec 5 Int) : List Record := s ++ [(R09_record k s v).getD recX]
where recX : Record := ⟨⟨0, 0⟩, 0, 0, 0, ⟨0, 0⟩, ByteArray.empty⟩
def recs (k : Nat) (l : List (Vec 5 Int)) : List Record := l.foldl (mk1 k) []
structure Good (s : List Record) : Prop where
 ok : ∀ r ∈ s, recB r = true
 house : ∀ r ∈ s, r.At.House = 0 ∨ r.At.House = 1 ∨ r.At.House = 2
 vl : VL keyR (fun _ => 0) s
theorem Good.hh {s : List Record} (h : Good s) : ∀ r ∈ s, houseOK r := fun r hr => recB_house (h.ok r hr)
theorem Good.nil : Good [] := ⟨by simp, by simp, trivial⟩
theorem Good.take {s : List Record} (h : Good s) (n : Nat) : Good (s.take n) := ⟨fun r hr => h.ok r (List.mem_of_mem_take hr), fun r hr => h.house r (List.mem_of_mem_take hr), VL_take keyR h.vl n⟩
theorem Good.mk1 {k : Nat} (hk : 1000000 < k) {s : List Record} (h : Good s) (hl : s.length ≤ 100) (v : Vec 5 Int) : ∃ r, R09_record k s v = some r ∧ mk1 k s v = s ++ [r] ∧ Good (s ++ [r]) := by
 obtain ⟨r, h1, h2, h3, h4⟩ := record_plain hk hl h.hh v
 refine ⟨r, h1, by unfold Go.Abs.mk1; rw [h1]; rfl, ⟨fun x hx => ?_, fun x hx => ?_, ?_⟩⟩
 ·rcases List.mem_append.1 hx with g | g
  ·exact h.ok x g
  ·rw [List.mem_singleton.1 g]; exact h2
 ·rcases List.mem_append.1 hx with g | g
  ·exact h.house x g
  ·rw [List.mem_singleton.1 g]; exact h3
 ·rw [VL_append]
  refine ⟨h.vl, ?_, trivial⟩
  rw [h4]
  exact (Int.zero_add _).symm
theorem recs_good {k : Nat} (hk : 1000000 < k) : ∀ (l : List (Vec 5 Int)) (s : List Record), Good s → s.length + l.length ≤ 100 → Good (l.foldl (mk1 k) s) ∧ (l.foldl (mk1 k) s).length = s.length + l.length ∧ (l.foldl (mk1 k) s).take s.length = s
 | [], s, h, hl => ⟨h, by simp, by simp⟩
 | v :: l, s, h, hl => by
  simp only [List.length_cons] at hl
  obtain ⟨r, h1, h2, h3⟩ := h.mk1 hk (by omega) v
  obtain ⟨g1, g2, g3⟩ := recs_good hk l (s ++ [r]) h3 (by simp; omega)
  rw [List.foldl_cons, h2]
  refine ⟨g1, by rw [g2]; simp; omega, ?_⟩
  have := congrArg (List.take s.length) g3
  rw [List.take_take] at this
  simpa using this
theorem records_plain {k : Nat} (hk : 1000000 < k) (l : List (Vec 5 Int)) {n : Nat} (hn : n ≤ 60) : R09_Records k l (n : Int) = some (recs k (l.take n)) := by
 unfold R09_Records
 have key : ∀ (d i m : Nat) (s : List Record), i + d = min n l.length → d < m → s = recs k (l.take i) → Good s → s.length = i →
   whl (R09_Records.b0 k l (n : Int)) m ((i : Int), s) = some (.brk (recs k (l.take n))) := by
  intro d
  induction d with
  | zero =>
   intro i m s h1 h2 h3 h4 h5
   obtain ⟨m, rfl⟩ : ∃ q, m = q + 1 := ⟨m - 1, by omega⟩
   have hb : R09_Records.b0 k l (n : Int) ((i : Int), s) = some (.brk s) := by
    unfold R09_Records.b0
    by_cases h : (i : Int) < (l.length : Int)
    ·simp only [decide_eq_true h, cond_true, decide_eq_false (show ¬ (i : Int) < (n : Int) by omega), cond_false]
    ·simp only [decide_eq_false h, cond_false]
   simp only [whl, hb]
   rw [h3]
   by_cases h : n ≤ l.length
   ·rw [show i = n by omega]
   ·rw [List.take_of_length_le (show l.length ≤ i by omega), List.take_of_length_le (show l.length ≤ n by omega)]
  | succ d ih =>
   intro i m s h1 h2 h3 h4 h5
   obtain ⟨m, rfl⟩ : ∃ q, m = q + 1 := ⟨m - 1, by omega⟩
   have hi : i < l.length := by omega
   have hin : i < n := by omega
   obtain ⟨v, hv⟩ : ∃ v, l[i]? = some v := ⟨_, List.getElem?_eq_getElem hi⟩
   obtain ⟨r, g1, g2, g3⟩ := h4.mk1 hk (by omega) v
   have hw : w64 ((i : Int) + 1) = ((i + 1 : Nat) : Int) := by rw [w64_of (by omega) (by omega)]; omega
   have hb : R09_Records.b0 k l (n : Int) ((i : Int), s) = some (.next (((i + 1 : Nat) : Int), s ++ [r])) := by
    unfold R09_Records.b0
    simp only [decide_eq_true (show (i : Int) < (l.length : Int) by omega), decide_eq_true (show (i : Int) < (n : Int) by omega), cond_true, at_of hv, Option.bind_some, g1, push_of (show (s.length + 1) * 72 ≤ 140737488355328 by omega) (show s.length + 1 < 4611686018427387904 by omega), hw]
   simp only [whl, hb]
   refine ih (i + 1) m (s ++ [r]) (by omega) (by omega) ?_ g3 (by simp; omega)
   rw [take_at hv]
   unfold recs
   rw [List.foldl_append]
   show _ = Go.Abs.mk1 k (recs k (l.take i)) v
   rw [← h3, g2]
 have := key (min n l.length) 0 k [] (by omega) (by omega) rfl Good.nil rfl
 rw [Int.natCast_zero] at this
 rw [this]; rfl
end Go.Abs
namespace Go.Abs
open Go Go.Proofs
set_option maxRecDepth 20000
set_option linter.unusedVariables false
set_option linter.unusedSimpArgs false
theorem halvesB_plain {k : Nat} (hk : 100000 < k) {r : Record} (hr : recB r = true) {n e : Int} (hn : 0 ≤ n ∧ n ≤ 59) (he : 1 ≤ e ∧ e ≤ 1000000) : book_Halves k r n e = some (halvesL r n e, 0) := by
 have W : ∀ x lo hi : Int, lo ≤ x → x ≤ hi → within x lo hi = true := fun x lo hi h1 h2 => by
  unfold within; simp [h1, h2]
 have ht := recB_text hr
 have hlen := enc_len r
 have hc : cntOf (enc r).length ≤ 10 := by unfold cntOf; omega
 unfold book_Halves
 rw [check_plain (by omega)]
 simp only [Option.bind_some, isWithin_plain, hr, cond_true, decide_true, Bool.not_true, cond_false, W n 0 59 hn.1 hn.2, W e 1 1000000 he.1 he.2]
 rw [parts_plain hk ht]
 simp only [Option.bind_some]
 rw [copy_plain _ (by simp; omega) hk]
 rfl
theorem vec4 (v : Vec 4 Int) : ∃ a b c d, v = ⟨[a, b, c, d], rfl⟩ := by
 obtain ⟨l, h⟩ := v
 match l, h with
 | [a, b, c, d], h => exact ⟨a, b, c, d, rfl⟩
theorem bookBytes_plain (l : List (Vec 5 Int)) (v : Vec 4 Int) : L09_BookBytes 18446744073709551616 l v = some true := by
 have hk : 1000000 < 18446744073709551616 := by decide
 obtain ⟨a, b, c, d, rfl⟩ := vec4 v
 have a0 : (⟨[a, b, c, d], rfl⟩ : Vec 4 Int).at? 0 = some a := rfl
 have a1 : (⟨[a, b, c, d], rfl⟩ : Vec 4 Int).at? 1 = some b := rfl
 have a2 : (⟨[a, b, c, d], rfl⟩ : Vec 4 Int).at? 2 = some c := rfl
 have a3 : (⟨[a, b, c, d], rfl⟩ : Vec 4 Int).at? 3 = some d := rfl
 obtain ⟨g1, g2, _⟩ := recs_good hk (l.take 12) [] Good.nil (by simp; omega)
 unfold L09_BookBytes
 rw [sane_true, show (12 : Int) = ((12 : Nat) : Int) from rfl, records_plain hk l (by decide)]
 simp only [Option.bind_some]
 have hR : recs 18446744073709551616 (l.take 12) = List.foldl (mk1 18446744073709551616) [] (l.take 12) := rfl
 rw [← hR] at g1 g2
 generalize recs 18446744073709551616 (l.take 12) = R at g1 g2
 have hRl : R.length ≤ 12 := by rw [g2]; simp; omega
 by_cases h0 : R.length = 0
 ·have : decide ((R.length : Int) = 0) = true := by simp; exact List.length_eq_zero_iff.1 h0
  simp only [this, cond_true]
 ·have hd : decide ((R.length : Int) = 0) = false := by
   apply decide_eq_false; omega
  obtain ⟨x, hx⟩ : ∃ x, R[0]? = some x := ⟨_, List.getElem?_eq_getElem (by omega)⟩
  obtain ⟨y, hy⟩ : ∃ y, R[R.length - 1]? = some y := ⟨_, List.getElem?_eq_getElem (by omega)⟩
  have hw : w64 ((R.length : Int) - 1) = ((R.length - 1 : Nat) : Int) := by rw [w64_of (by omega) (by omega)]; omega
  have rx := g1.ok x (List.mem_of_getElem? hx)
  have ry := g1.ok y (List.mem_of_getElem? hy)
  have A := mod_bounds a (m := 60) (by decide)
  have B := mod_bounds b (m := 60) (by decide)
  have C := mod_bounds c (m := 1000000) (by decide)
  have D := mod_bounds d (m := 1000000) (by decide)
  have wc : w64 (1 + c % 1000000) = 1 + c % 1000000 := w64_of (by omega) (by omega)
  have wd : w64 (1 + d % 1000000) = 1 + d % 1000000 := w64_of (by omega) (by omega)
  have hx0 : at? R 0 = some x := at_of hx
  have hk3 : 1000 < 18446744073709551616 := by decide
  have he : book_Encode 18446744073709551616 y = some (enc y, 0) := by rw [encode_plain hk3, ry]; rfl
  have hdec : book_Decode 18446744073709551616 (enc y) = some (y, 0) := by rw [decode_plain hk3 (byt_enc y), decode_enc ry]
  have l1 : decide (((halvesL x (a % 60) (1 + c % 1000000)).length : Int) = 0) = false := by
   have := cnt_pos x
   apply decide_eq_false; rw [halvesL_len]; omega
  have l2 : decide (((halvesL y (b % 60) (1 + d % 1000000)).length : Int) = 0) = false := by
   have := cnt_pos y
   apply decide_eq_false; rw [halvesL_len]; omega
  have hlx : (halvesL x (a % 60) (1 + c % 1000000)).length ≤ 1000 := by
   have := recB_text rx
   rw [halvesL_len, enc_len]; unfold cntOf; omega
  obtain ⟨q, hq1, hq2⟩ := sameHalves_plain (k := 18446744073709551616) (by decide) (a := halvesL x (a % 60) (1 + c % 1000000)) (b := halvesL y (b % 60) (1 + d % 1000000)) hlx
  have hyy := recEq_self y
  unfold recEq at hyy
  simp only [hd, cond_false, hx0, hw, at_of hy, Option.bind_some, he, hdec, a0, a1, a2, a3, mod_plain _ a (m := 60) (by decide) (by decide), mod_plain _ b (m := 60) (by decide) (by decide), mod_plain _ c (m := 1000000) (by decide) (by decide), mod_plain _ d (m := 1000000) (by decide) (by decide), wc, wd,
   halvesB_plain (k := 18446744073709551616) (by decide) rx (n := a % 60) (e := 1 + c % 1000000) (by omega) (by omega), halvesB_plain (k := 18446744073709551616) (by decide) ry (n := b % 60) (e := 1 + d % 1000000) (by omega) (by omega), cond_true, decide_true]
  simp only [Bool.true_and, beq_self_eq_true, cond_true, l1, l2, Bool.not_false, cond_false, hq1, Option.bind_some]
  have hinj : q = true → x = y ∧ a % 60 = b % 60 ∧ 1 + c % 1000000 = 1 + d % 1000000 := fun h => by
   have e := hq2.1 h
   have := halves_nums (by omega) (by omega) (by omega) (by omega) e
   exact ⟨halves_rec rx ry e, this.1, this.2⟩
  by_cases e : x = y
  ·subst e
   have := recEq_self x
   unfold recEq at this
   rw [this]
   simp only [cond_true]
   by_cases e2 : a % 60 = b % 60
   ·simp only [decide_eq_true e2, cond_true]
    by_cases e3 : 1 + c % 1000000 = 1 + d % 1000000
    ·have : q = true := hq2.2 (by rw [e2, e3])
     simp only [decide_eq_true e3, this, beq_self_eq_true]
    ·have : q = false := by
      cases q with
      | false => rfl
      | true => exact absurd (hinj rfl).2.2 e3
     simp only [decide_eq_false e3, this, beq_self_eq_true]
   ·have : q = false := by
     cases q with
     | false => rfl
     | true => exact absurd (hinj rfl).2.1 e2
    simp only [decide_eq_false e2, cond_false, this, beq_self_eq_true]
  ·have h1 := recEq_ne e
   unfold recEq at h1
   rw [h1]
   have : q = false := by
    cases q with
    | false => rfl
    | true => exact absurd (hinj rfl).1 e
   simp only [cond_false, this, beq_self_eq_true]
end Go.Abs
namespace Go.Proofs.Ytpgccpdlilnakaa.bookBytes
open Go.Abs
theorem plain (a0 : (List (Vec 5 Int))) (a1 : (Vec 4 Int)) : (fun l => l.length ≤ Go.maxLen ∧ l.length * 40 ≤ qB ∧ ∀ a ∈ l, (fun x : (Vec 5 Int) => ∀ a ∈ x.l, i64ok a) a) a0 → (fun x : (Vec 4 Int) => ∀ a ∈ x.l, i64ok a) a1 → ∃ k, L09_BookBytes k a0 a1 = some true := by
 intro q0 q1; exact ⟨_, bookBytes_plain a0 a1⟩
end Go.Proofs.Ytpgccpdlilnakaa.bookBytes
namespace Go.Proofs.Ytpgccpdlilnakaa.bookBytes
open Go.ChangeShapes Go.WideShapes Go.ChangeAt Go.RowKit Go.Abs
set_option maxRecDepth 100000
theorem own : ownKnob Try.prog.godebug = none := by kernel_rfl
theorem contract (H : Type) (enc : TypeId × Value → H) (W : World) (base : Nat) (args : Array Value) (ds gs : List (DataW H)) (before : List MemPlace)
  (hval : ∀ (j : Nat) t v, Try.f7.params[j]? = some t → args[j]? = some v → Value.okWide Try.prog W .any base t v)
  (hW : DataW.Whole enc Try.prog Try.f7.params.toList Rows.bookBytesSpec.vars false W args.toList ds gs before) (hsz0 : (DataW.weightsEach Try.prog (Try.f7.params.toList ++ Rows.bookBytesSpec.plain.varTypes Try.prog) (ds ++ gs)).all (· ≤ reachBytes) = true) :
  Calls Try.prog 7 args W fun e W' => ∃ v, e = .returned v ∧ Rows.bookBytesSpec.post enc Try.prog Try.f7 false true false false W args v W' := by
 have hW' := hW
 obtain ⟨p, q, hA0, hV, rfl, hfz, hnd⟩ := hW
 have hA : DataW.TrodAll enc Try.prog W 0 (fun _ => true) true Try.f7.params.toList args.toList ds p := hA0
 rw [Try.params7] at hA hval
 obtain ⟨v0, vs0, d0, ds0, p0, q0, hargs, rfl, rfl, h0, r0⟩ := trodAll_cons hA
 obtain ⟨v1, vs1, d1, ds1, p1, q1, rfl, rfl, rfl, h1, r1⟩ := trodAll_cons r0
 obtain ⟨rfl, rfl, rfl⟩ := trodAll_nil r1
 have hsz : ∀ (j : Nat) t d, Try.f7.params.toList[j]? = some t → [d0, d1][j]? = some d → ∀ n ∈ d.weights Try.prog t, n ≤ reachBytes := weights_of (by rw [Try.params7]; rfl) hsz0
 rw [Try.params7] at hsz
 obtain rfl : args = #[v0, v1] := by cases args; simp_all
 obtain ⟨a0, Q0, V0⟩ := arg_one reads_68 (by have h := hval 0 68 v0 rfl rfl; unfold Value.okWide at h; rw [Try.underlying68] at h; unfold Cell.okWide Cell.ok at h; rw [Try.underlying68] at h; cases v0 <;> first | rfl | (simp at h; done)) (fun l => AV.sl 5 (List.map (Vec.c (n := 5) eI) l)) (fun _ => rfl) h0 (hsz 0 68 d0 rfl rfl)
 obtain ⟨a1, Q1, V1⟩ := arg_agg reads_69 (by have h := hval 1 69 v1 rfl rfl; unfold Value.okWide at h; rw [Try.underlying69] at h; obtain ⟨cs, h, _⟩ := h; exact ⟨cs, h⟩) h1 (hsz 1 69 d1 rfl rfl)
 obtain ⟨k, hk⟩ := plain a0 a1 Q0 Q1
 have hv : VRs (fmAll W) [] [.sl 5 (List.map (Vec.c (n := 5) eI) a0), .agg ((Vec.c (n := 4) eI) a1)] [v0, v1] := ⟨rfl, fun i x v h1 h2 => by
  match i with
  | 0 => cases h1; cases h2; exact V0
  | 1 => cases h1; cases h2; exact V1
  | i + 2 => simp at h1⟩
 refine Calls.mono ((L09_BookBytes_ok k a0 a1 true hk).2 (fmAll W) W _ (fun _ _ _ h => h) hv) ?_
 rintro e W1 ⟨v, y, fm1, rfl, rfl, _, hvr, _, hB⟩
 cases hvr
 exact ⟨_, rfl, law_post (t := 4) (by kernel_rfl) (by kernel_rfl) (by kernel_rfl) hW' rfl hB (by rw [Try.params7]; decide +kernel) rfl Try.underlying4 (by obtain ⟨rfl, _⟩ := trodVars_none hV; rfl)⟩
theorem lifted (os : Os) (started : os.Started) (H : Type) (enc : TypeId × Value → H) :
  ReturnsInHanded {} Try.checked os 7 .any (Rows.bookBytesSpec.pre6 enc Try.prog Try.f7 Rows.bookBytesRow.domain false) (Rows.bookBytesSpec.post enc Try.prog Try.f7 false true false false) := by
 refine returnsInHanded_of_change_sized (C := Try.checked) own started (by kernel_rfl) Try.func7
  (ChangeSpec.witness6 (enc := enc) (C := Try.checked) false ⟨#[], #[.slice none 0 0, .agg #[.int .i64 0, .int .i64 0, .int .i64 0, .int .i64 0]], []⟩ 8 (by kernel_rfl) (by kernel_rfl) (by kernel_rfl) (by kernel_rfl)) ?_
 intro W base args ds gs before hval0 hW hcnd hsz _
 exact contract H enc W base args ds gs before hval0 hW hsz
theorem over : Rows.bookBytesRow.holds Try.pinned (OpenSpec.ofChange Rows.bookBytesSpec) :=
 OpenClaim.holds_of_wide 7 Try.f7 rfl rfl rfl rfl rfl rfl rfl ⟨rfl, rfl, rfl, rfl, rfl⟩ rfl rfl rfl rfl rfl (by kernel_rfl) Try.func7 (by kernel_rfl)
  (of_decide_eq_true (by kernel_rfl)) (by unfold Func.isWrapper; first | (rw [if_pos (by decide +kernel)]; kernel_rfl) | (rw [if_neg (by decide +kernel)]; exact ⟨rfl, rfl⟩))
  (fun os started H enc _ => lifted os started H enc)
theorem proved : Rows.BookBytesSaid := over
end Go.Proofs.Ytpgccpdlilnakaa.bookBytes
