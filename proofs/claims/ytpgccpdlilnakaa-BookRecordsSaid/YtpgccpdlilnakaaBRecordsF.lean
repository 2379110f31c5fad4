/-
  Part 6 of the proof: a machine over named blocks, what each function computes, and what follows. No condition.
-/
import Derived.Test.YtpgccpdlilnakaaRows
import Derived.WalkKit
import Derived.ProofKit
import Derived.OpenShut
import Derived.JoinedCond
import Derived.Test.YtpgccpdlilnakaaBRecordsE
set_option linter.unusedVariables false
set_option linter.unusedSimpArgs false
set_option linter.all false
set_option maxRecDepth 100000
set_option maxHeartbeats 8000000
namespace Go.Abs
open Go Go.Proofs
set_option maxRecDepth 20000
set_option linter.unusedVariables false
set_option linter.unusedSimpArgs false
theorem takeL_plain (l : List Int) (n : Nat) : takeL l (n : Int) = if l.length < n then none else some (l.take n, l.drop n) := by
 unfold takeL
 by_cases h : l.length < n
 ·rw [if_pos (by omega), if_pos h]
 ·rw [if_neg (by omega), if_neg h, Int.toNat_natCast]
theorem numL_plain {k : Nat} (hk : 100 < k) {l : List Int} (hb : Byt l) {n : Nat} (hn : n ≤ 5) : numL k l (n : Int) = some (if l.length < n then none else some (rdV (l.take n), l.drop n)) := by
 unfold numL
 rw [takeL_plain]
 by_cases h : l.length < n
 ·simp only [if_pos h]
 ·simp only [if_neg h]
  have hl : (l.take n).length = n := by rw [List.length_take]; omega
  rw [rd_loop (hb.take n) (by omega) (k := k) (by omega) (fun i x s hx => by
   have hi := (List.getElem?_eq_some_iff.1 hx).1
   unfold numB
   simp only [decide_eq_true (show (i : Int) < ((l.take n).length : Int) by omega), cond_true, at_of hx, Option.bind_some]) (fun s => by
   unfold numB
   simp only [(by simp : decide (((l.take n).length : Int) < ((l.take n).length : Int)) = false), cond_false])]
  rfl
def decR (b tx : List Int) : Record := ⟨⟨rdV (b.take 1), rdV ((b.drop 1).take 2)⟩, rdV ((b.drop 3).take 1), rdV ((b.drop 4).take 4), rdV ((b.drop 8).take 4), ⟨rdV ((b.drop 12).take 1), rdV ((b.drop 13).take 2)⟩, strOf tx⟩
def decM (b : List Int) : Int := rdV ((b.drop 15).take 1)
def decP (b : List Int) : Option (Record × List Int) :=
 if b.length < 16 then none else if (b.length : Int) < 16 + decM b then none else some (decR b ((b.drop 16).take (decM b).toNat), (b.drop 16).drop (decM b).toNat)
theorem decL_plain {k : Nat} (hk : 100 < k) {b : List Int} (hb : Byt b) : decL k b = some (decP b) := by
 have N1 : ∀ {l : List Int}, Byt l → numL k l 1 = some (if l.length < 1 then none else some (rdV (l.take 1), l.drop 1)) := fun h => numL_plain hk h (n := 1) (by omega)
 have N2 : ∀ {l : List Int}, Byt l → numL k l 2 = some (if l.length < 2 then none else some (rdV (l.take 2), l.drop 2)) := fun h => numL_plain hk h (n := 2) (by omega)
 have N4 : ∀ {l : List Int}, Byt l → numL k l 4 = some (if l.length < 4 then none else some (rdV (l.take 4), l.drop 4)) := fun h => numL_plain hk h (n := 4) (by omega)
 unfold decL
 by_cases h16 : b.length < 16
 ·have e : decP b = none := by unfold decP; rw [if_pos h16]
  rw [e, N1 hb, Option.bind_some]
  by_cases h1 : b.length < 1
  ·rw [if_pos h1]
  rw [if_neg h1]; simp only
  rw [N2 (hb.drop _), Option.bind_some, List.length_drop, List.drop_drop]
  by_cases h1 : b.length - 1 < 2
  ·rw [if_pos h1]
  rw [if_neg h1]; simp only
  rw [N1 (hb.drop _), Option.bind_some, List.length_drop, List.drop_drop]
  by_cases h1 : b.length - (1 + 2) < 1
  ·rw [if_pos h1]
  rw [if_neg h1]; simp only
  rw [N4 (hb.drop _), Option.bind_some, List.length_drop, List.drop_drop]
  by_cases h1 : b.length - (1 + 2 + 1) < 4
  ·rw [if_pos h1]
  rw [if_neg h1]; simp only
  rw [N4 (hb.drop _), Option.bind_some, List.length_drop, List.drop_drop]
  by_cases h1 : b.length - (1 + 2 + 1 + 4) < 4
  ·rw [if_pos h1]
  rw [if_neg h1]; simp only
  rw [N1 (hb.drop _), Option.bind_some, List.length_drop, List.drop_drop]
  by_cases h1 : b.length - (1 + 2 + 1 + 4 + 4) < 1
  ·rw [if_pos h1]
  rw [if_neg h1]; simp only
  rw [N2 (hb.drop _), Option.bind_some, List.length_drop, List.drop_drop]
  by_cases h1 : b.length - (1 + 2 + 1 + 4 + 4 + 1) < 2
  ·rw [if_pos h1]
  rw [if_neg h1]; simp only
  rw [N1 (hb.drop _), Option.bind_some, List.length_drop, List.drop_drop]
  rw [if_pos (by omega)]
 ·rw [N1 hb, Option.bind_some, if_neg (by omega)]; simp only
  rw [N2 (hb.drop _), Option.bind_some, List.length_drop, List.drop_drop, if_neg (by omega)]; simp only
  rw [N1 (hb.drop _), Option.bind_some, List.length_drop, List.drop_drop, if_neg (by omega)]; simp only
  rw [N4 (hb.drop _), Option.bind_some, List.length_drop, List.drop_drop, if_neg (by omega)]; simp only
  rw [N4 (hb.drop _), Option.bind_some, List.length_drop, List.drop_drop, if_neg (by omega)]; simp only
  rw [N1 (hb.drop _), Option.bind_some, List.length_drop, List.drop_drop, if_neg (by omega)]; simp only
  rw [N2 (hb.drop _), Option.bind_some, List.length_drop, List.drop_drop, if_neg (by omega)]; simp only
  rw [N1 (hb.drop _), Option.bind_some, List.length_drop, List.drop_drop, if_neg (by omega)]; simp only
  have hm := rdV_bounds ((hb.drop 15).take 1)
  have hM : rdV ((b.drop (1 + 2 + 1 + 4 + 4 + 1 + 2)).take 1) = decM b := rfl
  rw [hM]
  have hm0 : 0 ≤ decM b := hm.1
  rw [if_pos hm0]
  obtain ⟨m, hm'⟩ := Int.eq_ofNat_of_zero_le hm0
  unfold decP
  rw [if_neg h16, hm', takeL_plain, List.length_drop]
  by_cases hlt : (b.length : Int) < 16 + (m : Int)
  ·rw [if_pos hlt, if_pos (by omega)]
  ·rw [if_neg hlt, if_neg (by omega)]
   rfl
theorem decoded_plain {k : Nat} (hk : 1000 < k) {b : List Int} (hb : Byt b) :
  book_decoded k b = some (match decP b with | none => (⟨⟨0, 0⟩, 0, 0, 0, ⟨0, 0⟩, ByteArray.empty⟩, [], false) | some p => (p.1, p.2, recB p.1)) := by
 unfold book_decoded
 rw [decL_plain (by omega) hb]
 cases decP b with
 | none => rfl
 | some p => simp only [Option.bind_some, isRecord_plain hk]
theorem rd1 {n : Int} (h0 : 0 ≤ n) (h1 : n < 256) : rdV (be n 1) = n := by
 simp only [be, wrap8, rdV, rdA, List.foldl]
 rw [Int.fdiv_eq_ediv_of_nonneg _ (by decide)]
 simp
 omega
theorem rd2 {n : Int} (h0 : 0 ≤ n) (h1 : n < 65536) : rdV (be n 2) = n := by
 simp only [be, wrap8, rdV, rdA, List.foldl]
 rw [Int.fdiv_eq_ediv_of_nonneg _ (by decide), Int.fdiv_eq_ediv_of_nonneg _ (by decide)]
 simp
 omega
theorem rd4 {n : Int} (h0 : 0 ≤ n) (h1 : n < 4294967296) : rdV (be n 4) = n := by
 simp only [be, wrap8, rdV, rdA, List.foldl]
 rw [Int.fdiv_eq_ediv_of_nonneg _ (by decide), Int.fdiv_eq_ediv_of_nonneg _ (by decide), Int.fdiv_eq_ediv_of_nonneg _ (by decide), Int.fdiv_eq_ediv_of_nonneg _ (by decide)]
 simp
 omega
theorem byt_ben (n : Int) : ∀ w, Byt (be n w)
 | 0 => by intro x hx; simp [be] at hx
 | w + 1 => by
  intro x hx
  rcases List.mem_cons.1 hx with rfl | hx
  ·rw [wrap8]; omega
  ·exact byt_ben n w x hx
theorem byt_str (s : ByteArray) : Byt (strBs s) := by
 intro x hx
 obtain ⟨c, _, rfl⟩ := List.mem_map.1 hx
 have := c.toNat_lt
 omega
theorem Byt.append {a b : List Int} (ha : Byt a) (hb : Byt b) : Byt (a ++ b) := fun x hx => by
 rcases List.mem_append.1 hx with h | h
 ·exact ha x h
 ·exact hb x h
theorem byt_enc (r : Record) : Byt (enc r) := by
 unfold enc
 exact ((((((((byt_ben _ _).append (byt_ben _ _)).append (byt_ben _ _)).append (byt_ben _ _)).append (byt_ben _ _)).append (byt_ben _ _)).append (byt_ben _ _)).append (byt_ben _ _)).append (byt_str _)
theorem enc_part (r : Record) : (enc r).take 1 = be r.At.House 1 ∧ ((enc r).drop 1).take 2 = be r.At.No 2 ∧ ((enc r).drop 3).take 1 = be r.Kind 1 ∧ ((enc r).drop 4).take 4 = be r.Day 4 ∧ ((enc r).drop 8).take 4 = be r.Known 4 ∧
  ((enc r).drop 12).take 1 = be r.Of.House 1 ∧ ((enc r).drop 13).take 2 = be r.Of.No 2 ∧ ((enc r).drop 15).take 1 = be (r.Text.size : Int) 1 ∧ (enc r).drop 16 = strBs r.Text := by
 unfold enc
 simp [be]
theorem recB_bounds {r : Record} (h : recB r = true) : (0 ≤ r.At.House ∧ r.At.House ≤ 5) ∧ (0 ≤ r.At.No ∧ r.At.No ≤ 9999) ∧ (0 ≤ r.Kind ∧ r.Kind ≤ 40) ∧ (0 ≤ r.Day ∧ r.Day ≤ 100000) ∧ (0 ≤ r.Known ∧ r.Known ≤ 100000) ∧ (0 ≤ r.Of.House ∧ r.Of.House ≤ 5) ∧ (0 ≤ r.Of.No ∧ r.Of.No ≤ 9999) := by
 unfold recB entryB within at h
 simp only [Bool.and_eq_true, decide_eq_true_eq] at h
 obtain ⟨⟨a1, a2⟩, a3, a4, a5, a6, h⟩ := h
 refine ⟨a1, a2, a3, a4, a5, ?_⟩
 by_cases hk : r.Kind = 0
 ·simp only [hk, decide_true, Bool.not_true, cond_false, Bool.and_eq_true, decide_eq_true_eq] at h
  exact ⟨h.2.2.1.1, h.2.2.1.2⟩
 ·simp only [hk, decide_false, Bool.not_false, cond_true, Bool.and_eq_true, decide_eq_true_eq] at h
  omega
theorem decM_enc {r : Record} (ht : r.Text.size ≤ 200) : decM (enc r) = (r.Text.size : Int) := by
 unfold decM
 rw [(enc_part r).2.2.2.2.2.2.2.1, rd1 (by omega) (by omega)]
theorem decP_enc {r : Record} (h : recB r = true) (l : List Int) : decP (enc r ++ l) = some (r, l) := by
 have ht := recB_text h
 have hlen := enc_len r
 obtain ⟨b1, b2, b3, b4, b5, b6, b7⟩ := recB_bounds h
 obtain ⟨p1, p2, p3, p4, p5, p6, p7, p8, p9⟩ := enc_part r
 have T : ∀ (i n : Nat), i + n ≤ 16 → ((enc r ++ l).drop i).take n = ((enc r).drop i).take n := fun i n hi => by
  rw [List.drop_append_of_le_length (by omega), List.take_append_of_le_length (by rw [List.length_drop]; omega)]
 have hM : decM (enc r ++ l) = (r.Text.size : Int) := by
  have := decM_enc ht
  unfold decM at this ⊢
  rw [T 15 1 (by omega)]; exact this
 have hd : (enc r ++ l).drop 16 = strBs r.Text ++ l := by
  rw [List.drop_append_of_le_length (by omega), p9]
 unfold decP
 rw [if_neg (by rw [List.length_append]; omega), hM, if_neg (by rw [List.length_append]; omega), hd, Int.toNat_natCast]
 have hsl := strBs_len r.Text
 rw [List.take_append_of_le_length (by omega), List.drop_append_of_le_length (by omega), List.take_of_length_le (by omega), List.drop_of_length_le (by omega), List.nil_append]
 have t0 := T 0 1 (by omega)
 simp only [List.drop_zero] at t0
 unfold decR
 rw [t0, T 1 2 (by omega), T 3 1 (by omega), T 4 4 (by omega), T 8 4 (by omega), T 12 1 (by omega), T 13 2 (by omega), p1, p2, p3, p4, p5, p6, p7,
  rd1 b1.1 (by omega), rd2 b2.1 (by omega), rd1 b3.1 (by omega), rd4 b4.1 (by omega), rd4 b5.1 (by omega), rd1 b6.1 (by omega), rd2 b7.1 (by omega)]
 have hs : strOf (strBs r.Text) = r.Text := strOf_strBs r.Text
 rw [hs]
end Go.Abs
namespace Go.Abs
open Go Go.Proofs
set_option maxRecDepth 20000
set_option linter.unusedVariables false
set_option linter.unusedSimpArgs false
theorem read_plain {k : Nat} (hk : 100 < k) {l : List Int} (hb : Byt l) (hl : l.length ≤ 5) : R09_read k l = some (rdV l) := by
 unfold R09_read
 rw [rd_loop hb hl (k := k) (by omega) (fun i x s hx => by
  have hi := (List.getElem?_eq_some_iff.1 hx).1
  unfold R09_read.b0
  simp only [decide_eq_true (show (i : Int) < (l.length : Int) by omega), cond_true, at_of hx, Option.bind_some]) (fun s => by
  unfold R09_read.b0
  simp only [(by simp : decide ((l.length : Int) < (l.length : Int)) = false), cond_false])]
 rfl
def recZ : Record := ⟨⟨0, 0⟩, 0, 0, 0, ⟨0, 0⟩, ByteArray.empty⟩
def decode (b : List Int) : Record × Int := match decP b with
 | some (r, []) => bif recB r then (r, 0) else (recZ, 90)
 | _ => (recZ, 90)
theorem decode_plain {k : Nat} (hk : 1000 < k) {b : List Int} (hb : Byt b) : book_Decode k b = some (decode b) := by
 unfold book_Decode decode
 rw [decoded_plain hk hb]
 cases decP b with
 | none => rfl
 | some p =>
  obtain ⟨r, l⟩ := p
  simp only [Option.bind_some]
  cases l with
  | nil =>
   show _ = some (bif recB r then (r, 0) else (recZ, 90))
   cases recB r <;> rfl
  | cons x l =>
   cases recB r with
   | true =>
    have : decide ((0 : Int) < ((x :: l).length : Int)) = true := by simp
    simp only [this, cond_true]; rfl
   | false => rfl
theorem sub_nat {l : List Int} {i j : Nat} (h1 : i ≤ j) (h2 : j ≤ l.length) : sub? l (i : Int) (j : Int) = some ((l.drop i).take (j - i)) := by
 unfold sub?
 rw [if_pos (by omega), Int.toNat_natCast, Int.toNat_natCast]
theorem decodeR_plain {k : Nat} (hk : 1000 < k) {b : List Int} (hb : Byt b) (hlen : b.length ≤ 4611686018427387904) : R09_Decode k b = some (decode b) := by
 unfold R09_Decode decode decP
 by_cases h16 : b.length < 16
 ·rw [if_pos h16]
  have : decide ((b.length : Int) < (16 : Int)) = true := by simp; omega
  simp only [this, Bool.not_true, cond_false]
  rfl
 ·rw [if_neg h16]
  have hx : b[15]? = some (b[15]'(by omega)) := List.getElem?_eq_getElem (by omega)
  have hM : decM b = b[15]'(by omega) := by
   unfold decM
   rw [List.drop_eq_getElem_cons (show 15 < b.length by omega)]
   exact rd_one _
  have hM0 := hb _ (List.mem_of_getElem? hx)
  rw [← hM] at hM0
  have e1 : decide ((b.length : Int) < (16 : Int)) = false := by simp; omega
  have e2 : w64 (16 + (w64 (decM b))) = 16 + decM b := by
   rw [w64_of (n := decM b) (by omega) (by omega), w64_of (by omega) (by omega)]
  have hat : at? b 15 = some (decM b) := by
   have := at_of hx
   rw [hM]; exact this
  simp only [e1, Bool.not_false, cond_true, hat, Option.bind_some, e2]
  by_cases hlt : (b.length : Int) < 16 + decM b
  ·rw [if_pos hlt]
   have : decide ((b.length : Int) = 16 + decM b) = false := by simp; omega
   simp only [this, Bool.not_false, cond_true]
   rfl
  ·rw [if_neg hlt]
   by_cases he : (b.length : Int) = 16 + decM b
   ·have s1 : sub? b 0 1 = some (b.take 1) := sub_nat (i := 0) (j := 1) (by omega) (by omega)
    have s2 : sub? b 1 3 = some ((b.drop 1).take 2) := sub_nat (i := 1) (j := 3) (by omega) (by omega)
    have s3 : sub? b 3 4 = some ((b.drop 3).take 1) := sub_nat (i := 3) (j := 4) (by omega) (by omega)
    have s4 : sub? b 4 8 = some ((b.drop 4).take 4) := sub_nat (i := 4) (j := 8) (by omega) (by omega)
    have s5 : sub? b 8 12 = some ((b.drop 8).take 4) := sub_nat (i := 8) (j := 12) (by omega) (by omega)
    have s6 : sub? b 12 13 = some ((b.drop 12).take 1) := sub_nat (i := 12) (j := 13) (by omega) (by omega)
    have s7 : sub? b 13 15 = some ((b.drop 13).take 2) := sub_nat (i := 13) (j := 15) (by omega) (by omega)
    have s8 : sub? b 16 (b.length : Int) = some (b.drop 16) := by
     have := sub_nat (l := b) (i := 16) (j := b.length) (by omega) (by omega)
     rw [List.take_of_length_le (by rw [List.length_drop]; omega)] at this
     exact this
    have R : ∀ (i n : Nat), n ≤ 5 → R09_read k ((b.drop i).take n) = some (rdV ((b.drop i).take n)) := fun i n hn => read_plain (by omega) ((hb.drop i).take n) (by rw [List.length_take]; omega)
    have R0 : R09_read k (b.take 1) = some (rdV (b.take 1)) := read_plain (by omega) (hb.take 1) (by rw [List.length_take]; omega)
    have ed : decide ((b.length : Int) = 16 + decM b) = true := decide_eq_true he
    have hrec : (⟨(⟨rdV (b.take 1), rdV ((b.drop 1).take 2)⟩ : Entry), rdV ((b.drop 3).take 1), rdV ((b.drop 4).take 4), rdV ((b.drop 8).take 4), (⟨rdV ((b.drop 12).take 1), rdV ((b.drop 13).take 2)⟩ : Entry), strOf (b.drop 16)⟩ : Record) = decR b ((b.drop 16).take (decM b).toNat) := by
     rw [List.take_of_length_le (l := b.drop 16) (i := (decM b).toNat) (by rw [List.length_drop]; omega)]; rfl
    have hnil : (b.drop 16).drop (decM b).toNat = [] := List.drop_of_length_le (by rw [List.length_drop]; omega)
    simp only [ed, Bool.not_true, cond_false, s1, s2, s3, s4, s5, s6, s7, s8, Option.bind_some, R0, R 1 2 (by omega), R 3 1 (by omega), R 4 4 (by omega), R 8 4 (by omega), R 12 1 (by omega), R 13 2 (by omega), hrec, checkR_plain hk, hnil]
    cases recB (decR b ((b.drop 16).take (decM b).toNat)) <;> rfl
   ·have : decide ((b.length : Int) = 16 + decM b) = false := by simp; omega
    simp only [this, Bool.not_false, cond_true]
    have hne : (b.drop 16).drop (decM b).toNat ≠ [] := by
     intro h
     have := congrArg List.length h
     rw [List.length_drop, List.length_drop] at this
     simp at this
     omega
    cases hq : (b.drop 16).drop (decM b).toNat with
    | nil => exact absurd hq hne
    | cons x l => rfl
theorem encode_plain {k : Nat} (hk : 1000 < k) (r : Record) : book_Encode k r = some (bif recB r then (enc r, 0) else ([], 90)) := by
 unfold book_Encode
 rw [check_plain hk]
 cases hr : recB r with
 | false => rfl
 | true =>
  have ht := recB_text hr
  simp only [cond_true, Option.bind_some]
  rw [coded_plain (by omega) (by omega)]
  rfl
theorem encodeR_plain {k : Nat} (hk : 1000 < k) (r : Record) : R09_Encode k r = some (bif recB r then (enc r, 0) else ([], 90)) := by
 unfold R09_Encode
 rw [checkR_plain hk]
 cases hr : recB r with
 | false => rfl
 | true =>
  have ht := recB_text hr
  simp only [cond_true, Option.bind_some]
  rw [bytes_plain (by omega) (by omega)]
  rfl
theorem decode_enc {r : Record} (h : recB r = true) : decode (enc r) = (r, 0) := by
 have := decP_enc h []
 rw [List.append_nil] at this
 unfold decode
 rw [this]
 simp only [h, cond_true]
theorem bookRecords_plain (r : Record) (b : List Int) (hb : Byt b) (hl : b.length ≤ 4611686018427387904) : L09_BookRecords 18446744073709551616 r b = some true := by
 have hk : 1000 < 18446744073709551616 := by decide
 unfold L09_BookRecords
 rw [sane_true, encode_plain hk, encodeR_plain hk, decode_plain hk hb, decodeR_plain hk hb hl]
 simp only [Option.bind_some, cond_true]
 rw [check_plain hk, checkR_plain hk]
 simp only [Option.bind_some, decide_true, cond_true, beq_self_eq_true, Bool.and_self, Bool.not_true, cond_false]
 cases hr : recB r with
 | false => rfl
 | true =>
  simp only [cond_true, decide_true, Bool.not_true, cond_false]
  rw [decode_plain hk (byt_enc r), decode_enc hr]
  simp only [Option.bind_some, decide_true, cond_true, beq_self_eq_true, Bool.and_self]
end Go.Abs
namespace Go.Proofs.Ytpgccpdlilnakaa.bookRecords
open Go.Abs
theorem plain (a0 : Go.Abs.Record) (a1 : (List Int)) : Go.Abs.Record.q a0 → (fun l => l.length ≤ Go.maxLen ∧ l.length * 1 ≤ qB ∧ ∀ a ∈ l, u8ok a) a1 → ∃ k, L09_BookRecords k a0 a1 = some true := by
 intro q0 q1; exact ⟨_, bookRecords_plain a0 a1 (fun x hx => q1.2.2 x hx) (by have := q1.2.1; have := qB_le; omega)⟩
end Go.Proofs.Ytpgccpdlilnakaa.bookRecords
namespace Go.Proofs.Ytpgccpdlilnakaa.bookRecords
open Go.ChangeShapes Go.WideShapes Go.ChangeAt Go.RowKit Go.Abs
set_option maxRecDepth 100000
theorem own : ownKnob Try.prog.godebug = none := by kernel_rfl
theorem contract (H : Type) (enc : TypeId × Value → H) (W : World) (base : Nat) (args : Array Value) (ds gs : List (DataW H)) (before : List MemPlace)
  (hval : ∀ (j : Nat) t v, Try.f5.params[j]? = some t → args[j]? = some v → Value.okWide Try.prog W .any base t v)
  (hW : DataW.Whole enc Try.prog Try.f5.params.toList Rows.bookRecordsSpec.vars false W args.toList ds gs before) (hsz0 : (DataW.weightsEach Try.prog (Try.f5.params.toList ++ Rows.bookRecordsSpec.plain.varTypes Try.prog) (ds ++ gs)).all (· ≤ reachBytes) = true) :
  Calls Try.prog 5 args W fun e W' => ∃ v, e = .returned v ∧ Rows.bookRecordsSpec.post enc Try.prog Try.f5 false true false false W args v W' := by
 have hW' := hW
 obtain ⟨p, q, hA0, hV, rfl, hfz, hnd⟩ := hW
 have hA : DataW.TrodAll enc Try.prog W 0 (fun _ => true) true Try.f5.params.toList args.toList ds p := hA0
 rw [Try.params5] at hA hval
 obtain ⟨v0, vs0, d0, ds0, p0, q0, hargs, rfl, rfl, h0, r0⟩ := trodAll_cons hA
 obtain ⟨v1, vs1, d1, ds1, p1, q1, rfl, rfl, rfl, h1, r1⟩ := trodAll_cons r0
 obtain ⟨rfl, rfl, rfl⟩ := trodAll_nil r1
 have hsz : ∀ (j : Nat) t d, Try.f5.params.toList[j]? = some t → [d0, d1][j]? = some d → ∀ n ∈ d.weights Try.prog t, n ≤ reachBytes := weights_of (by rw [Try.params5]; rfl) hsz0
 rw [Try.params5] at hsz
 obtain rfl : args = #[v0, v1] := by cases args; simp_all
 obtain ⟨a0, Q0, V0⟩ := arg_agg reads_25 (by have h := hval 0 25 v0 rfl rfl; unfold Value.okWide at h; rw [Try.underlying25] at h; obtain ⟨cs, h, _⟩ := h; exact ⟨cs, h⟩) h0 (hsz 0 25 d0 rfl rfl)
 obtain ⟨a1, Q1, V1⟩ := arg_one reads_56 (by have h := hval 1 56 v1 rfl rfl; unfold Value.okWide at h; rw [Try.underlying56] at h; unfold Cell.okWide Cell.ok at h; rw [Try.underlying56] at h; cases v1 <;> first | rfl | (simp at h; done)) (fun l => AV.sl 1 (List.map eU8 l)) (fun _ => rfl) h1 (hsz 1 56 d1 rfl rfl)
 obtain ⟨k, hk⟩ := plain a0 a1 Q0 Q1
 have hv : VRs (fmAll W) [] [.agg (Go.Abs.Record.c a0), .sl 1 (List.map eU8 a1)] [v0, v1] := ⟨rfl, fun i x v h1 h2 => by
  match i with
  | 0 => cases h1; cases h2; exact V0
  | 1 => cases h1; cases h2; exact V1
  | i + 2 => simp at h1⟩
 refine Calls.mono ((L09_BookRecords_ok k a0 a1 true hk).2 (fmAll W) W _ (fun _ _ _ h => h) hv) ?_
 rintro e W1 ⟨v, y, fm1, rfl, rfl, _, hvr, _, hB⟩
 cases hvr
 exact ⟨_, rfl, law_post (t := 4) (by kernel_rfl) (by kernel_rfl) (by kernel_rfl) hW' rfl hB (by rw [Try.params5]; decide +kernel) rfl Try.underlying4 (by obtain ⟨rfl, _⟩ := trodVars_none hV; rfl)⟩
theorem lifted (os : Os) (started : os.Started) (H : Type) (enc : TypeId × Value → H) :
  ReturnsInHanded {} Try.checked os 5 .any (Rows.bookRecordsSpec.pre6 enc Try.prog Try.f5 Rows.bookRecordsRow.domain false) (Rows.bookRecordsSpec.post enc Try.prog Try.f5 false true false false) := by
 refine returnsInHanded_of_change_sized (C := Try.checked) own started (by kernel_rfl) Try.func5
  (ChangeSpec.witness6 (enc := enc) (C := Try.checked) false ⟨#[], #[.agg #[.int .i64 0, .int .i64 0, .int .i64 0, .int .i64 0, .int .i64 0, .int .i64 0, .int .i64 0, .string ⟨#[]⟩], .slice none 0 0], []⟩ 8 (by kernel_rfl) (by kernel_rfl) (by kernel_rfl) (by kernel_rfl)) ?_
 intro W base args ds gs before hval0 hW hcnd hsz _
 exact contract H enc W base args ds gs before hval0 hW hsz
theorem over : Rows.bookRecordsRow.holds Try.pinned (OpenSpec.ofChange Rows.bookRecordsSpec) :=
 OpenClaim.holds_of_wide 5 Try.f5 rfl rfl rfl rfl rfl rfl rfl ⟨rfl, rfl, rfl, rfl, rfl⟩ rfl rfl rfl rfl rfl (by kernel_rfl) Try.func5 (by kernel_rfl)
  (of_decide_eq_true (by kernel_rfl)) (by unfold Func.isWrapper; first | (rw [if_pos (by decide +kernel)]; kernel_rfl) | (rw [if_neg (by decide +kernel)]; exact ⟨rfl, rfl⟩))
  (fun os started H enc _ => lifted os started H enc)
theorem proved : Rows.BookRecordsSaid := over
end Go.Proofs.Ytpgccpdlilnakaa.bookRecords
