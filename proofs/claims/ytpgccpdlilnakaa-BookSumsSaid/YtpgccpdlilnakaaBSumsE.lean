/-
  Part 5 of the proof: a machine over named blocks, what each function computes, and what follows. No condition.
-/
import Derived.RangeFuncLeaves
import Derived.Test.YtpgccpdlilnakaaBSumsD
set_option linter.unusedVariables false
set_option linter.unusedSimpArgs false
set_option linter.all false
set_option maxRecDepth 100000
set_option maxHeartbeats 8000000
namespace Go.Abs
open Go.Proofs
def F154.s1 : SC :=
 (.seq
 (.reg [b2 76 .lss 3 75 74 3 0 []])
 (.seq
 (.cond (.tmp 76)
 .skip
 (.exit 2))
 (.seq
 (.block 3
 (.seq
 (.reg [mv 77 75 3 [],
 ia 78 124 73 75 [],
 ld 79 126 78 [78],
 oq 19 (.alloc 126) 0 [],
 sg 18 77 3 [77],
 ⟨none, .store 126 (.tmp 19) (.tmp 79), 0, none, [79]⟩])
 (.seq
 (.dreg [mv 80 0 130 [],
 mv 81 1 3 [],
 mv 82 2 3 [],
 mv 83 18 3 [],
 b2 84 .add 3 82 83 3 3 [],
 oq 85 (.call ⟨.value (.func 125), #[.tmp 80, .tmp 81, .tmp 84], #[130, 3, 3]⟩) 126 [],
 ld 86 126 19 [],
 b2 87 .neq 126 85 86 126 4 []] [[], [], [], [], [2, 3], [0, 1, 2, 3, 4], [], [0, 1, 2, 3, 4, 5, 6]] [18, 19, 80, 81, 82, 83, 84, 85, 86])
 (.cond (.tmp 87)
 (.seq
 (.reg [oq 88 (.build 25 #[]) 25 [],
 ⟨none, .store 25 (.tmp 8) (.tmp 88), 0, none, [88]⟩,
 sn 9 0 3 [],
 sn 10 0 3 []])
 .ret)
 .skip))))
 (.reg [bn 89 .add 3 75 1 3 3 [75],
 mv 75 89 3 [89]]))))
def F154.s0 : SC :=
 (.seq
 (.reg [b2 43 .lss 3 42 41 3 4 []])
 (.seq
 (.cond (.tmp 43)
 .skip
 (.exit 0))
 (.seq
 (.block 1
 (.seq
 (.reg [mv 44 42 3 [],
 sg 13 44 3 [44]])
 (.seq
 (.reg [mv 45 0 130 [],
 mv 46 1 3 [],
 mv 47 2 3 [],
 mv 48 13 3 [13],
 b2 49 .add 3 47 48 3 3 [47, 48],
 oq 50 (.call ⟨.value (.func 125), #[.tmp 45, .tmp 46, .tmp 49], #[130, 3, 3]⟩) 126 [45, 46, 49],
 oq 14 (.alloc 126) 0 [],
 ⟨none, .store 126 (.tmp 14) (.tmp 50), 0, none, [50]⟩])
 (.reg [mv 51 12 56 [12],
 oq 52 (.slice 126 (.tmp 14) (some (.const (.int .i64 8))) (some (.const (.int .i64 31))) none) 56 [14],
 oq 53 (.call ⟨.builtin .append, #[.tmp 51, .tmp 52], #[56, 56]⟩) 56 [51, 52],
 sg 12 53 56 [53]]))))
 (.reg [bn 54 .add 3 42 1 3 3 [42],
 mv 42 54 3 [54]]))))
def F154.c : SC :=
 (.seq
 (.reg [oq 8 (.alloc 25) 0 [],
 sn 9 0 3 [9],
 sn 10 0 3 [10]])
 (.seq
 (.seq
 (.reg [mv 20 2 3 [],
 bn 21 .geq 3 20 602 3 4 [20]])
 (.cond (.tmp 21)
 (.seq
 (.reg [oq 22 (.build 25 #[]) 25 [],
 ⟨none, .store 25 (.tmp 8) (.tmp 22), 0, none, [22]⟩,
 sn 9 0 3 [],
 sn 10 0 3 []])
 .ret)
 .skip))
 (.seq
 (.reg [mv 23 0 130 [],
 mv 24 1 3 [],
 mv 25 2 3 [],
 oq 26 (.call ⟨.value (.func 125), #[.tmp 23, .tmp 24, .tmp 25], #[130, 3, 3]⟩) 126 [23, 24, 25],
 oq 11 (.alloc 126) 0 [],
 ⟨none, .store 126 (.tmp 11) (.tmp 26), 0, none, [26]⟩])
 (.seq
 (.dreg [ld 27 126 11 [],
 cf1 28 126 27 126 3 [],
 oq 29 (.indexAddr 126 (.tmp 11) (.const (.int .i64 7))) 0 [],
 ld 30 5 29 [],
 oq 31 (.convert 5 3 (.tmp 30)) 3 [],
 sg 9 28 3 [],
 sg 10 31 3 []] [[], [0], [], [2], [2, 3], [0, 1], [2, 3, 4, 0, 1, 5]] [11, 27, 28, 29, 30, 31])
 (.seq
 (.seq
 (.reg [mv 32 9 3 [],
 bn 33 .eql 3 32 0 3 4 [32],
 mv 34 33 4 [33],
 og 35 (.move (.tmp 2)) 3 34 false [],
 og 36 (.move (.tmp 10)) 3 34 false [],
 og 37 (.binOp .add 3 (.tmp 35) (.tmp 36) 3) 3 34 false [35, 36],
 og 38 (.binOp .gtr 3 (.tmp 37) (.const (.int .i64 602)) 3) 4 34 false [37],
 oq 39 (.pick (.tmp 34) (.const (.bool true)) (.tmp 38)) 4 [34, 38]])
 (.cond (.tmp 39)
 (.seq
 (.reg [oq 40 (.build 25 #[]) 25 [],
 ⟨none, .store 25 (.tmp 8) (.tmp 40), 0, none, [40]⟩,
 sn 9 0 3 [],
 sn 10 0 3 []])
 .ret)
 .skip))
 (.seq
 (.reg [oq 12 (.assign (.const (.slice none 0 0))) 56 []])
 (.seq
 (.seq
 (.reg [mv 41 10 3 [],
 oq 42 (.move (.const (.int .i64 0))) 3 []])
 (.block 0
 (.loop F154.s0)))
 (.seq
 (.reg [mv 56 12 56 [12],
 cf1 57 90 56 56 156 [56],
 mv 55 57 156 [57],
 xt 58 55 0 25 [],
 xt 59 55 1 56 [],
 xt 60 55 2 4 [55],
 ⟨none, .store 25 (.tmp 8) (.tmp 58), 0, none, [58]⟩,
 sg 15 59 56 [15, 59],
 sg 16 60 4 [60]])
 (.seq
 (.seq
 (.reg [mv 61 16 4 [16],
 oq 62 (.unOp .not 4 (.tmp 61)) 4 [61]])
 (.cond (.tmp 62)
 (.seq
 (.reg [oq 63 (.build 25 #[]) 25 [],
 ⟨none, .store 25 (.tmp 8) (.tmp 63), 0, none, [63]⟩,
 sn 9 0 3 [],
 sn 10 0 3 []])
 .ret)
 .skip))
 (.seq
 (.reg [ld 64 25 8 [],
 mv 65 3 3 [3],
 mv 66 9 3 [],
 oq 67 (.call ⟨.value (.func 66), #[.tmp 64, .tmp 65, .tmp 66], #[25, 3, 3]⟩) 124 [64, 65, 66],
 sg 17 67 124 [67]])
 (.seq
 (.seq
 (.reg [mv 68 17 124 [],
 ln 69 68 124 3 [68],
 mv 70 10 3 [],
 b2 71 .neq 3 69 70 3 4 [69, 70]])
 (.cond (.tmp 71)
 (.seq
 (.reg [oq 72 (.build 25 #[]) 25 [],
 ⟨none, .store 25 (.tmp 8) (.tmp 72), 0, none, [72]⟩,
 sn 9 0 3 [],
 sn 10 0 3 []])
 .ret)
 .skip))
 (.seq
 (.seq
 (.reg [mv 73 17 124 [17],
 ln 74 73 124 3 [],
 oq 75 (.move (.const (.int .i64 0))) 3 []])
 (.block 2
 (.loop F154.s1)))
 (.seq
 (.reg [ld 90 25 8 [],
 mv 91 9 3 [9],
 mv 92 10 3 [10],
 ⟨none, .store 25 (.tmp 8) (.tmp 90), 0, none, [90]⟩,
 sg 9 91 3 [91],
 sg 10 92 3 [92]])
 .ret)))))))))))))
theorem F154.rs : Try.f154.results.toList = [.cell 8 25, .tmp 9, .tmp 10] := rfl
def book_disk_record.b0 (k : Nat) (d0 : book_disk) (area1 : Int) (from2 : Int) (x4 : Int) : (Int × (List Int)) → Option (Stp (Int × (List Int)) ((List Int)) (Record × Int × Int)) := fun (s : Int × (List Int)) => match s with
 | (i7, l8) =>
   bif decide (i7 < w64 x4) then
    (book_disk_half k d0 area1 (w64 (from2 + i7))).bind fun x11 =>
    (app? 1 l8 ((x11.l.drop 8).take 23)).bind fun l12 =>
    some (.next (w64 (i7 + 1), l12))
   else
    some (.brk l8)
def book_disk_record.b1 (k : Nat) (d0 : book_disk) (area1 : Int) (from2 : Int) (x16 : (List (Vec 32 Int))) : Int → Option (Stp (Int) (Unit) (Record × Int × Int)) := fun (i18 : Int) =>
 bif decide (i18 < (x16.length : Int)) then
  (at? x16 i18).bind fun x20 =>
  (book_disk_half k d0 area1 (w64 (from2 + i18))).bind fun x21 =>
  bif (!(Vec.eq (fun (x y : Int) => decide (x = y)) x21 x20)) then
   some (.ret ((⟨(⟨0, 0⟩ : Entry), 0, 0, 0, (⟨0, 0⟩ : Entry), ByteArray.empty⟩ : Record), 0, 0))
  else
   some (.next (w64 (i18 + 1)))
 else
  some (.brk ())
noncomputable def book_disk_record.h0 (d0 : book_disk) (area1 : Int) (from2 : Int) (number3 : Int) (x3 : Int) (x4 : Int) : (Int × (List Int)) → St := fun (s : Int × (List Int)) => match s with
 | (i7, l8) => ⟨[(0, .rptr 2 [book_disk.c d0] 0 0), (1, .int .i64 area1), (2, .int .i64 from2), (3, .int .i64 number3), (8, .ptr 0 0 0), (9, .int .i64 x3), (10, .int .i64 (w64 x4)), (12, .loc 0 1 1 0 l8.length l8.length), (41, .int .i64 (w64 x4)), (42, .int .i64 i7)], [(0, .box ([.int .i64 0, .int .i64 0, .int .i64 0, .int .i64 0, .int .i64 0, .int .i64 0, .int .i64 0, .str ByteArray.empty])), (1, .arr 5 1 (List.map eU8 l8))], [], 2, Try.f154.ntmps⟩
noncomputable def book_disk_record.x0 (d0 : book_disk) (area1 : Int) (from2 : Int) (number3 : Int) (x3 : Int) (x4 : Int) : (List Int) → St := fun (l9 : (List Int)) => ⟨[(0, .rptr 2 [book_disk.c d0] 0 0), (1, .int .i64 area1), (2, .int .i64 from2), (3, .int .i64 number3), (8, .ptr 0 0 0), (9, .int .i64 x3), (10, .int .i64 (w64 x4)), (12, .loc 0 1 1 0 l9.length l9.length)], [(0, .box ([.int .i64 0, .int .i64 0, .int .i64 0, .int .i64 0, .int .i64 0, .int .i64 0, .int .i64 0, .str ByteArray.empty])), (1, .arr 5 1 (List.map eU8 l9))], [], 2, Try.f154.ntmps⟩
noncomputable def book_disk_record.h1 (d0 : book_disk) (area1 : Int) (from2 : Int) (x3 : Int) (x4 : Int) (x14 : Record × (List Int) × Bool) (x16 : (List (Vec 32 Int))) : Int → St := fun (i18 : Int) => ⟨[(0, .rptr 2 [book_disk.c d0] 0 0), (1, .int .i64 area1), (2, .int .i64 from2), (8, .ptr 0 0 0), (9, .int .i64 x3), (10, .int .i64 (w64 x4)), (73, .sl 32 (List.map (Vec.c (n := 32) eU8) x16)), (74, .int .i64 (x16.length : Int)), (75, .int .i64 i18)], [(0, .box ([.int .i64 x14.1.At.House, .int .i64 x14.1.At.No, .int .i64 x14.1.Kind, .int .i64 x14.1.Day, .int .i64 x14.1.Known, .int .i64 x14.1.Of.House, .int .i64 x14.1.Of.No, .str x14.1.Text]))], [], 1, Try.f154.ntmps⟩
noncomputable def book_disk_record.x1 (x3 : Int) (x4 : Int) (x14 : Record × (List Int) × Bool) : Unit → St := fun (_ : Unit) => ⟨[(8, .ptr 0 0 0), (9, .int .i64 x3), (10, .int .i64 (w64 x4))], [(0, .box ([.int .i64 x14.1.At.House, .int .i64 x14.1.At.No, .int .i64 x14.1.Kind, .int .i64 x14.1.Day, .int .i64 x14.1.Known, .int .i64 x14.1.Of.House, .int .i64 x14.1.Of.No, .str x14.1.Text]))], [], 1, Try.f154.ntmps⟩
def book_disk_record (k : Nat) (d0 : book_disk) (area1 : Int) (from2 : Int) (number3 : Int) : Option (Record × Int × Int) :=
 bif decide ((602 : Int) ≤ from2) then
  some ((⟨(⟨0, 0⟩ : Entry), 0, 0, 0, (⟨0, 0⟩ : Entry), ByteArray.empty⟩ : Record), 0, 0)
 else
  (book_disk_half k d0 area1 from2).bind fun x2 =>
  (book_half_epoch k x2).bind fun x3 =>
  (x2.at? 7).bind fun x4 =>
  bif (!decide (x3 = (0 : Int))) then
   bif decide ((602 : Int) < w64 (from2 + (w64 x4))) then
    some ((⟨(⟨0, 0⟩ : Entry), 0, 0, 0, (⟨0, 0⟩ : Entry), ByteArray.empty⟩ : Record), 0, 0)
   else
    (whl (book_disk_record.b0 k d0 area1 from2 x4) k (0, [])).bind fun r13 => match r13 with
    | .next _ => none
    | .ret v_ => some v_
    | .brk l9 =>
     (book_decoded k l9).bind fun x14 =>
     bif (!x14.2.2) then
      some ((⟨(⟨0, 0⟩ : Entry), 0, 0, 0, (⟨0, 0⟩ : Entry), ByteArray.empty⟩ : Record), 0, 0)
     else
      (book_parts k x14.1 number3 x3).bind fun x16 =>
      bif (!decide ((x16.length : Int) = w64 x4)) then
       some ((⟨(⟨0, 0⟩ : Entry), 0, 0, 0, (⟨0, 0⟩ : Entry), ByteArray.empty⟩ : Record), 0, 0)
      else
       (whl (book_disk_record.b1 k d0 area1 from2 x16) k 0).bind fun r23 => match r23 with
       | .next _ => none
       | .ret v_ => some v_
       | .brk _ =>
        some (x14.1, x3, w64 x4)
  else
   some ((⟨(⟨0, 0⟩ : Entry), 0, 0, 0, (⟨0, 0⟩ : Entry), ByteArray.empty⟩ : Record), 0, 0)
theorem book_disk_record_ok (k : Nat) (d0 : book_disk) (area1 : Int) (from2 : Int) (number3 : Int) (r : Record × Int × Int) (h0 : book_disk_record k d0 area1 from2 number3 = some r) : PCall Try.prog 154 [.rptr 2 [book_disk.c d0] 0 0, .int .i64 area1, .int .i64 from2, .int .i64 number3] (fun y => y = .tup [.agg (Record.c r.1), .int .i64 r.2.1, .int .i64 r.2.2]) := by
 refine PB (fn := Try.f154) (sc := F154.c) ?_
 refine rS ?_
 simp only [book_disk_record] at h0
 try simp only [F154.c, go_sem]
 refine AKev_bif h0 ?_ ?_ <;> intro c1 h0
 try simp only [c1, go_sem]
 obtain rfl := Option.some.inj h0
 refine AKev_ret rfl ?_
 try simp only [F154.rs, c1, go_sem]
 try simp only [c1, go_sem]
 obtain ⟨x2, yx2, h0⟩ := bs h0
 refine zc0 (book_disk_half_ok k _ _ _ _ yx2) ?_ (by first | rfl | simp [AV.refsL, AV.refs, AV.scal, AV.leaf]) ?_
 try simp only [c1, go_sem]
 try simp only [c1, go_sem]
 refine AKev_region T_ok follows_ok 1000 ?_
 try simp only [c1, go_sem]
 obtain ⟨x3, yx3, h0⟩ := bs h0
 refine DG_call0 1000 (book_half_epoch_ok k _ _ yx3) ?_ (by first | rfl | simp [AV.refsL, AV.refs, AV.scal, AV.leaf]) ?_
 try simp only [c1, go_sem]
 try simp only [c1, go_sem]
 obtain ⟨x4, yx4, h0⟩ := bs h0
 have uyx4 := UpdE.at (fun q_ => (vk_u8.len q_ : (eU8 q_).length = 1)) (UpdE.self (fun q_ => ((VK.vec vk_u8 32).len q_ : (Vec.c (n := 32) eU8 q_).length = 32)) x2) yx4
 have buyx4 := uyx4.bound (fun q_ => (vk_u8.len q_ : (eU8 q_).length = 1))
 have guyx4 := uyx4.get (fun q_ => (vk_u8.len q_ : (eU8 q_).length = 1))
 try simp only [List.length_cons, List.length_nil, go_sem] at buyx4 guyx4
 try simp only [vat_in yx4, buyx4, guyx4, c1, go_sem]
 refine DG_done ⟨calm_of (by simp only [skel, List.reverse_cons, List.reverse_nil, List.nil_append, List.cons_append, List.map_cons, List.map_nil, List.append_nil]; rfl) (by first | decide +kernel | rfl), run_sound T_ok 1000 _ _ ?_⟩
 try simp only [c1, vat_in yx4, buyx4, guyx4, go_sem]
 refine AKev_bif h0 ?_ ?_ <;> intro c5 h0
 have c5 := bnot_t c5
 try simp only [c5, c1, vat_in yx4, buyx4, guyx4, go_sem]
 refine AKev_bif h0 ?_ ?_ <;> intro c6 h0
 try simp only [c6, c1, vat_in yx4, buyx4, guyx4, c5, go_sem]
 obtain rfl := Option.some.inj h0
 refine AKev_ret rfl ?_
 try simp only [F154.rs, c1, vat_in yx4, buyx4, guyx4, c5, c6, go_sem]
 try simp only [c6, c1, vat_in yx4, buyx4, guyx4, c5, go_sem]
 obtain ⟨r13, yr13, h0⟩ := bs h0
 refine AKev_loopS yr13 (book_disk_record.h0 d0 area1 from2 number3 x3 x4) (book_disk_record.x0 d0 area1 from2 number3 x3 x4) ?_ ?_ ?_
 refine Weak.go [0, 1, 2, 3, 8, 9, 10, 12, 41, 42] [0, 416] rfl ?_
 try simp only [book_disk_record.h0, c1, vat_in yx4, buyx4, guyx4, c5, c6, go_sem]
 rintro ⟨i7, l8⟩ x_1 Bk1 Br1 h1 hnext1 hbrk1 hret1
 refine rS ?_
 simp only [book_disk_record.b0] at h1
 try simp only [F154.s0, book_disk_record.h0, c1, vat_in yx4, buyx4, guyx4, c5, c6, go_sem]
 refine AKev_bif h1 ?_ ?_ <;> intro c10 h1
 try simp only [c10, c1, vat_in yx4, buyx4, guyx4, c5, c6, go_sem]
 obtain ⟨x11, yx11, h1⟩ := bs h1
 refine zc0 (book_disk_half_ok k _ _ _ _ yx11) ?_ (by first | rfl | simp [AV.refsL, AV.refs, AV.scal, AV.leaf]) ?_
 try simp only [c1, vat_in yx4, buyx4, guyx4, c5, c6, c10, go_sem]
 try simp only [(@id (Int.toNat 8 = 8) rfl), (@id (Int.toNat 31 = 31) rfl), (@id (bounds 32 (some (.int .i64 8)) (some (.int .i64 31)) = some (8, 31)) rfl), (@id (31 - 8 = 23) rfl), c1, vat_in yx4, buyx4, guyx4, c5, c6, c10, go_sem]
 obtain ⟨l12, yl12, h1⟩ := bs h1
 have eyl12 := app_map eU8 yl12
 have tyl12 := app_take eU8 yl12
 have nyl12 := app_len yl12
 have myl12 := app_room yl12
 try simp only [c1, vat_in yx4, buyx4, guyx4, c5, c6, c10, (@id (Int.toNat 8 = 8) rfl), (@id (Int.toNat 31 = 31) rfl), (@id (bounds 32 (some (.int .i64 8)) (some (.int .i64 31)) = some (8, 31)) rfl), (@id (31 - 8 = 23) rfl), go_sem] at eyl12 tyl12 nyl12 myl12
 try simp only [myl12, eyl12, inn_cells, c1, vat_in yx4, buyx4, guyx4, c5, c6, c10, (@id (Int.toNat 8 = 8) rfl), (@id (Int.toNat 31 = 31) rfl), (@id (bounds 32 (some (.int .i64 8)) (some (.int .i64 31)) = some (8, 31)) rfl), (@id (31 - 8 = 23) rfl), nyl12, tyl12, go_sem]
 refine AKev_backB (hnext1 _ _ (Option.some.inj h1).symm ?_)
 refine Weak.go [0, 1, 2, 3, 8, 9, 10, 12, 41, 42] [0, 1] rfl ?_
 try simp only [book_disk_record.h0, c1, vat_in yx4, buyx4, guyx4, c5, c6, c10, (@id (Int.toNat 8 = 8) rfl), (@id (Int.toNat 31 = 31) rfl), (@id (bounds 32 (some (.int .i64 8)) (some (.int .i64 31)) = some (8, 31)) rfl), (@id (31 - 8 = 23) rfl), eyl12, nyl12, tyl12, go_sem]
 try simp only [c10, c1, vat_in yx4, buyx4, guyx4, c5, c6, go_sem]
 refine AKev_backB (hbrk1 _ _ (Option.some.inj h1).symm ?_)
 refine Weak.go [0, 1, 2, 3, 8, 9, 10, 12] [0, 1] rfl ?_
 try simp only [book_disk_record.x0, c1, vat_in yx4, buyx4, guyx4, c5, c6, c10, go_sem]
 rintro l9 hr_
 subst hr_
 simp only at h0
 refine rS ?_
 try simp only [book_disk_record.x0, c1, vat_in yx4, buyx4, guyx4, c5, c6, go_sem]
 obtain ⟨x14, yx14, h0⟩ := bs h0
 refine zcT [1] (book_decoded_ok k _ _ yx14) ?_ ?_
 try simp only [c1, vat_in yx4, buyx4, guyx4, c5, c6, go_sem]
 try simp only [c1, vat_in yx4, buyx4, guyx4, c5, c6, go_sem]
 refine AKev_bif h0 ?_ ?_ <;> intro c15 h0
 have c15 := bnot_t c15
 try simp only [c15, c1, vat_in yx4, buyx4, guyx4, c5, c6, go_sem]
 obtain rfl := Option.some.inj h0
 refine AKev_ret rfl ?_
 try simp only [F154.rs, c1, vat_in yx4, buyx4, guyx4, c5, c6, c15, go_sem]
 have c15 := bnot_f c15
 try simp only [c15, c1, vat_in yx4, buyx4, guyx4, c5, c6, go_sem]
 obtain ⟨x16, yx16, h0⟩ := bs h0
 refine zc0 (book_parts_ok k _ _ _ _ yx16) ?_ (by first | rfl | simp [AV.refsL, AV.refs, AV.scal, AV.leaf]) ?_
 try simp only [c1, vat_in yx4, buyx4, guyx4, c5, c6, c15, go_sem]
 try simp only [c1, vat_in yx4, buyx4, guyx4, c5, c6, c15, go_sem]
 refine AKev_bif h0 ?_ ?_ <;> intro c17 h0
 have c17 := bnot_t c17
 try simp only [c17, c1, vat_in yx4, buyx4, guyx4, c5, c6, c15, go_sem]
 obtain rfl := Option.some.inj h0
 refine AKev_ret rfl ?_
 try simp only [F154.rs, c1, vat_in yx4, buyx4, guyx4, c5, c6, c15, c17, go_sem]
 have c17 := bnot_f c17
 try simp only [c17, c1, vat_in yx4, buyx4, guyx4, c5, c6, c15, go_sem]
 obtain ⟨r23, yr23, h0⟩ := bs h0
 refine AKev_loopS yr23 (book_disk_record.h1 d0 area1 from2 x3 x4 x14 x16) (book_disk_record.x1 x3 x4 x14) ?_ ?_ ?_
 refine Weak.go [0, 1, 2, 8, 9, 10, 73, 74, 75] [0] rfl ?_
 try simp only [book_disk_record.h1, c1, vat_in yx4, buyx4, guyx4, c5, c6, c15, c17, go_sem]
 rintro i18 x_1 Bk1 Br1 h1 hnext1 hbrk1 hret1
 refine rS ?_
 simp only [book_disk_record.b1] at h1
 try simp only [F154.s1, book_disk_record.h1, c1, vat_in yx4, buyx4, guyx4, c5, c6, c15, c17, go_sem]
 refine AKev_bif h1 ?_ ?_ <;> intro c19 h1
 try simp only [c19, c1, vat_in yx4, buyx4, guyx4, c5, c6, c15, c17, go_sem]
 obtain ⟨x20, yx20, h1⟩ := bs h1
 try simp only [aa yx20, c1, vat_in yx4, buyx4, guyx4, c5, c6, c15, c17, c19, go_sem]
 refine AKev_region T_ok follows_ok 1000 ?_
 try simp only [c1, vat_in yx4, buyx4, guyx4, c5, c6, c15, c17, c19, aa yx20, go_sem]
 obtain ⟨x21, yx21, h1⟩ := bs h1
 refine DG_call0 1000 (book_disk_half_ok k _ _ _ _ yx21) ?_ (by first | rfl | simp [AV.refsL, AV.refs, AV.scal, AV.leaf]) ?_
 try simp only [c1, vat_in yx4, buyx4, guyx4, c5, c6, c15, c17, c19, aa yx20, go_sem]
 try simp only [c1, vat_in yx4, buyx4, guyx4, c5, c6, c15, c17, c19, aa yx20, go_sem]
 refine DG_done ⟨calm_of (by simp only [skel, List.reverse_cons, List.reverse_nil, List.nil_append, List.cons_append, List.map_cons, List.map_nil, List.append_nil]; rfl) (by first | decide +kernel | rfl), run_sound T_ok 1000 _ _ ?_⟩
 try simp only [c1, vat_in yx4, buyx4, guyx4, c5, c6, c15, c17, c19, aa yx20, go_sem]
 refine AKev_bif h1 ?_ ?_ <;> intro c22 h1
 have c22 := bnot_t c22
 try simp only [c22, c1, vat_in yx4, buyx4, guyx4, c5, c6, c15, c17, c19, aa yx20, go_sem]
 obtain rfl := hret1 _ (Option.some.inj h1).symm
 simp only at h0
 obtain rfl := Option.some.inj h0
 refine AKev_ret rfl ?_
 try simp only [F154.rs, c1, vat_in yx4, buyx4, guyx4, c5, c6, c15, c17, c19, aa yx20, c22, go_sem]
 have c22 := bnot_f c22
 try simp only [c22, c1, vat_in yx4, buyx4, guyx4, c5, c6, c15, c17, c19, aa yx20, go_sem]
 refine AKev_backB (hnext1 _ _ (Option.some.inj h1).symm ?_)
 refine Weak.go [0, 1, 2, 8, 9, 10, 73, 74, 75] [0] rfl ?_
 try simp only [book_disk_record.h1, c1, vat_in yx4, buyx4, guyx4, c5, c6, c15, c17, c19, aa yx20, c22, go_sem]
 try simp only [c19, c1, vat_in yx4, buyx4, guyx4, c5, c6, c15, c17, go_sem]
 refine AKev_backB (hbrk1 _ _ (Option.some.inj h1).symm ?_)
 refine Weak.go [8, 9, 10] [0] rfl ?_
 try simp only [book_disk_record.x1, c1, vat_in yx4, buyx4, guyx4, c5, c6, c15, c17, c19, go_sem]
 rintro _ hr_
 subst hr_
 simp only at h0
 refine rS ?_
 try simp only [book_disk_record.x1, c1, vat_in yx4, buyx4, guyx4, c5, c6, c15, c17, go_sem]
 obtain rfl := Option.some.inj h0
 refine AKev_ret rfl ?_
 try simp only [F154.rs, c1, vat_in yx4, buyx4, guyx4, c5, c6, c15, c17, go_sem]
 have c5 := bnot_f c5
 try simp only [c5, c1, vat_in yx4, buyx4, guyx4, go_sem]
 obtain rfl := Option.some.inj h0
 refine AKev_ret rfl ?_
 try simp only [F154.rs, c1, vat_in yx4, buyx4, guyx4, c5, go_sem]
end Go.Abs
namespace Go.Abs
open Go Go.Proofs Go.RowKit Go.Lib
def F153.s0 : SC :=
 (.seq
 (.block 1
 (.seq
 (.reg [ld 20 130 1 [],
 ld 21 3 2 [],
 mv 22 6 3 [],
 mv 23 7 3 [],
 oq 24 (.call ⟨.value (.func 154), #[.tmp 20, .tmp 21, .tmp 22, .tmp 23], #[130, 3, 3, 3]⟩) 231 [20, 21, 22, 23],
 mv 19 24 231 [24],
 xt 25 19 0 25 [],
 xt 26 19 1 3 [],
 xt 27 19 2 3 [19],
 oq 8 (.alloc 25) 0 [],
 ⟨none, .store 25 (.tmp 8) (.tmp 25), 0, none, [25]⟩,
 sg 9 26 3 [26],
 sg 10 27 3 [27]])
 (.seq
 (.seq
 (.reg [mv 28 10 3 [],
 bn 29 .eql 3 28 0 3 4 [28],
 mv 30 29 4 [29],
 og 31 (.move (.tmp 9)) 3 30 false [],
 og 32 (.move (.tmp 5)) 3 30 false [5],
 og 33 (.binOp .lss 3 (.tmp 31) (.tmp 32) 3) 4 30 false [31, 32],
 oq 34 (.pick (.tmp 30) (.const (.bool true)) (.tmp 33)) 4 [30, 33]])
 (.cond (.tmp 34)
 .ret
 .skip))
 (.seq
 (.reg [ld 36 46 4 [],
 ld 37 25 8 [],
 cf2 38 71 36 37 46 25 73 [36, 37],
 mv 35 38 73 [38],
 xt 39 35 0 46 [],
 xt 40 35 1 28 [35],
 oq 11 (.alloc 46) 0 [],
 ⟨none, .store 46 (.tmp 11) (.tmp 39), 0, none, [39]⟩,
 sg 12 40 28 [40]])
 (.seq
 (.seq
 (.reg [mv 41 12 28 [12],
 bn 42 .neq 28 41 0 28 4 [41],
 mv 43 42 4 [42],
 og 44 (.fieldAddr 46 (.tmp 11) 0) 0 43 false [],
 og 45 (.load 44 (.tmp 44)) 44 43 false [44],
 og 46 (.call ⟨.builtin .len, #[.tmp 45], #[44]⟩) 3 43 false [45],
 og 47 (.fieldAddr 46 (.tmp 4) 0) 0 43 false [],
 og 48 (.load 44 (.tmp 47)) 44 43 false [47],
 og 49 (.call ⟨.builtin .len, #[.tmp 48], #[44]⟩) 3 43 false [48],
 og 50 (.binOp .eql 3 (.tmp 46) (.tmp 49) 3) 4 43 false [46, 49],
 oq 51 (.pick (.tmp 43) (.const (.bool true)) (.tmp 50)) 4 [43, 50]])
 (.cond (.tmp 51)
 .ret
 .skip))
 (.seq
 (.reg [ld 52 46 11 [11],
 mv 53 9 3 [9],
 mv 54 6 3 [6],
 mv 55 10 3 [10],
 b2 56 .add 3 54 55 3 3 [54, 55],
 ⟨none, .store 46 (.tmp 4) (.tmp 52), 0, none, [52]⟩,
 sg 5 53 3 [53],
 sg 6 56 3 [56]])
 (.seq
 (.reg [mv 57 0 230 [],
 ld 58 25 8 [8],
 mv 59 6 3 [],
 oq 60 (.call ⟨.value (.tmp 57), #[.tmp 58, .tmp 59], #[25, 3]⟩) 4 [57, 58, 59],
 oq 61 (.unOp .not 4 (.tmp 60)) 4 [60]])
 (.cond (.tmp 61)
 .ret
 .skip))))))))
 (.reg [mv 17 7 3 [7],
 bn 18 .add 3 17 1 3 3 [17],
 sg 7 18 3 [18]]))
def F153.c : SC :=
 (.seq
 (.reg [oq 4 (.alloc 46) 0 []])
 (.seq
 (.reg [ld 13 130 1 [],
 ld 14 3 2 [],
 oq 15 (.call ⟨.value (.func 125), #[.tmp 13, .tmp 14, .const (.int .i64 0)], #[130, 3, 3]⟩) 126 [13, 14],
 cf1 16 126 15 126 3 [15],
 sg 5 16 3 [16],
 sn 6 1 3 []])
 (.seq
 (.reg [sn 7 0 3 []])
 (.block 0
 (.loop F153.s0)))))
theorem F153.rs : Try.f153.results.toList = [] := rfl
def book_read.go (k : Nat) (d : book_disk) (area : Int) : Nat → Book → Int → Int → Int → Option (List (Record × Int))
 | 0, _, _, _, _ => none
 | m + 1, j, ep, fr, i => (book_disk_record k d area fr i).bind fun q =>
  bif !decide (q.2.2 = 0) then
   bif decide (q.2.1 < ep) then some [] else
   (book_added k j q.1).bind fun b =>
   bif decide (b.2 = 0) then
    bif decide ((b.1.Records.length : Int) = (j.Records.length : Int)) then some [] else
    (book_read.go k d area m b.1 q.2.1 (w64 (fr + q.2.2)) (w64 (i + 1))).bind fun l => some ((q.1, w64 (fr + q.2.2)) :: l)
   else some []
  else some []
def book_read (k : Nat) (d : book_disk) (area : Int) : Option (List (Record × Int)) :=
 (book_disk_half k d area 0).bind fun h => (book_half_epoch k h).bind fun e => book_read.go k d area k ⟨[]⟩ e 1 0
noncomputable def itTm (d : book_disk) (area : Int) (l : Nat) (ep fr i : Int) : List (Nat × AV) :=
 [(0, .fn (.yield l) [] []), (1, .rptr 1 [[.rptr 2 [book_disk.c d] 0 0]] 0 0), (2, .rptr 1 [[.int .i64 area]] 0 0), (4, .ptr 0 0 0), (5, .int .i64 ep), (6, .int .i64 fr), (7, .int .i64 i)]
noncomputable def itSt (d : book_disk) (area : Int) (l : Nat) (C : Fra) (j : Book) (ep fr i : Int) : St := ⟨itTm d area l ep fr i, [(0, .box (Book.c j))], [C], 1, Try.f153.ntmps⟩
noncomputable def itY (d : book_disk) (area : Int) (l : Nat) (C : Fra) (x : Record) (j : Book) (ep fr i : Int) : St :=
 ⟨[(0, .fn (.yield l) [] []), (1, .rptr 1 [[.rptr 2 [book_disk.c d] 0 0]] 0 0), (2, .rptr 1 [[.int .i64 area]] 0 0), (4, .ptr 0 0 0), (5, .int .i64 ep), (6, .int .i64 fr), (7, .int .i64 i),
  (57, .fn (.yield l) [] []), (58, .agg (Record.c x)), (59, .int .i64 fr)], [(0, .box (Book.c j))], [C], 1, Try.f153.ntmps⟩
def F153.p0 : SC := F153.c.fst

def F153.p1 : SC := F153.c.snd.fst

def F153.p2 : SC := F153.c.snd.snd.fst

def SC.body : SC → SC
 | .block _ b => b
 | x => x
def SC.ro : SC → List SOp
 | .reg l => l
 | _ => []
def F153.x : SC := F153.s0.fst.body

def F153.x4 : SC := F153.x.fst

def F153.x5 : SC := F153.x.snd.fst

def F153.x6 : SC := F153.x.snd.snd.fst

def F153.x7 : SC := F153.x.snd.snd.snd.fst

def F153.x8 : SC := F153.x.snd.snd.snd.snd.fst

def F153.x9 : List SOp := F153.x.snd.snd.snd.snd.snd.fst.ro.take 3

def F153.r3 : SC := F153.s0.snd

theorem it_head (k : Nat) (d : book_disk) (area : Int) (l : Nat) (C : Fra) (e : Int) (h : Vec 32 Int) (h1 : book_disk_half k d area 0 = some h) (h2 : book_half_epoch k h = some e) (Φ : Exit → St → Prop) :
  AK Try.prog Try.f153.ntmps Φ [.sc F153.p0, .sc F153.p1, .sc F153.p2, .back (fun st => Weak Try.f153.ntmps st (itSt d area l C ⟨[]⟩ e 1 0))]
   ⟨[(0, .fn (.yield l) [] []), (1, .rptr 1 [[.rptr 2 [book_disk.c d] 0 0]] 0 0), (2, .rptr 1 [[.int .i64 area]] 0 0)], [], [C], 0, Try.f153.ntmps⟩ := by
 refine run_sound T_ok 1000 _ _ ?_
 simp only [F153.p0, F153.p1, F153.p2, F153.c, SC.fst, SC.snd, go_sem]
 refine AKev_call0 T_ok 1000 (book_disk_half_ok k _ _ _ _ h1) ?_ (by first | rfl | simp [AV.refsL, AV.refs, AV.scal, AV.leaf]) ?_
 ·simp only [go_sem]
 simp only [go_sem]
 refine AKev_call0 T_ok 1000 (book_half_epoch_ok k _ _ h2) ?_ (by first | rfl | simp [AV.refsL, AV.refs, AV.scal, AV.leaf]) ?_
 ·simp only [go_sem]
 simp only [go_sem]
 refine AKev_backB ?_
 refine (Weak.fz 1 rfl (fun _ h => by cases h)).trans ?_
 simp only [go_sem]
 refine Weak.go [0, 1, 2, 4, 5, 6, 7] [0] rfl ?_
 simp only [itTm, go_sem]
noncomputable def itB (k : Nat) (d : book_disk) (area : Int) (l : Nat) (C : Fra) (j : Book) (ep fr i : Int) (st : St) : Prop :=
 ∃ q b, book_disk_record k d area fr i = some q ∧ decide (q.2.2 = 0) = false ∧ decide (q.2.1 < ep) = false ∧ book_added k j q.1 = some b ∧ decide (b.2 = 0) = true ∧
  decide ((b.1.Records.length : Int) = (j.Records.length : Int)) = false ∧ Weak Try.f153.ntmps st (itY d area l C q.1 b.1 q.2.1 (w64 (fr + q.2.2)) i)
noncomputable def itE (C : Fra) (L : Prop) (e : Exit) (st : St) : Prop := e = .ret ∧ st.low = [C] ∧ L
theorem it_round (k : Nat) (d : book_disk) (area : Int) (l : Nat) (C : Fra) (m : Nat) (j : Book) (ep fr i : Int) (xs : List (Record × Int)) (h0 : book_read.go k d area (m + 1) j ep fr i = some xs) :
  AK Try.prog Try.f153.ntmps (itE C (xs = [])) [.sc F153.x4, .sc F153.x5, .sc F153.x6, .sc F153.x7, .sc F153.x8, .ops F153.x9, .back (itB k d area l C j ep fr i)] (itSt d area l C j ep fr i) := by
 refine run_sound T_ok 1000 _ _ ?_
 simp only [book_read.go] at h0
 simp only [itSt, itTm, F153.x4, F153.x5, F153.x6, F153.x7, F153.x8, F153.x9, F153.x, F153.s0, SC.fst, SC.snd, SC.body, SC.ro, List.take_succ_cons, List.take_zero, go_sem]
 obtain ⟨q, yq, h0⟩ := bind_some h0
 refine AKev_call0 T_ok 1000 (book_disk_record_ok k _ _ _ _ _ yq) ?_ (by first | rfl | simp [AV.refsL, AV.refs, AV.scal, AV.leaf]) ?_
 ·simp only [go_sem]
 simp only [go_sem]
 refine AKev_bif h0 (fun c1 h0 => ?_) (fun c1 h0 => ?_)
 rotate_left
 ·have c1 := bnot_f c1
  simp only [c1, go_sem]
  obtain rfl := Option.some.inj h0
  exact ⟨rfl, rfl, rfl⟩
 have c1 := bnot_t c1
 simp only [c1, go_sem]
 refine AKev_bif h0 (fun c2 h0 => ?_) (fun c2 h0 => ?_)
 ·simp only [c2, c1, go_sem]
  obtain rfl := Option.some.inj h0
  exact ⟨rfl, rfl, rfl⟩
 simp only [c2, c1, go_sem]
 obtain ⟨b, yb, h0⟩ := bind_some h0
 refine AKev_call0 T_ok 1000 (book_added_ok k _ _ _ yb) ?_ (by first | rfl | simp [AV.refsL, AV.refs, AV.scal, AV.leaf]) ?_
 ·simp only [c1, c2, go_sem]
 simp only [c1, c2, go_sem]
 refine AKev_bif h0 (fun c3 h0 => ?_) (fun c3 h0 => ?_)
 rotate_left
 ·simp only [c3, c2, c1, go_sem]
  obtain rfl := Option.some.inj h0
  exact ⟨rfl, rfl, rfl⟩
 simp only [c3, c2, c1, go_sem]
 refine AKev_bif h0 (fun c4 h0 => ?_) (fun c4 h0 => ?_)
 ·simp only [c4, c3, c2, c1, go_sem]
  obtain rfl := Option.some.inj h0
  exact ⟨rfl, rfl, rfl⟩
 simp only [c4, c3, c2, c1, go_sem]
 refine AKev_backB ⟨q, b, yq, c1, c2, yb, c3, c4, ?_⟩
 refine Weak.go [0, 1, 2, 4, 5, 6, 7, 57, 58, 59] [0] rfl ?_
 simp only [go_sem]
def cbody : Code → Code
 | .block _ b => b
 | .loop b => b
 | x => x
def cops : Code → Array Oper
 | .region _ o _ => o
 | _ => #[]
noncomputable def D153 : Code := Try.f153.body.getD .skip
noncomputable def B153 : Code := cbody (cbody (csnd (csnd (csnd D153))))
noncomputable def X153 : Code := cbody (cfst B153)
noncomputable def A153 : Array Oper := cops (cfst (csnd (csnd (csnd (csnd (csnd X153))))))
noncomputable def Z153 : Code := csnd (csnd (csnd (csnd (csnd (csnd X153)))))
def F153.x9b : List SOp := F153.x.snd.snd.snd.snd.snd.fst.ro.drop 4

def F153.z : SC := F153.x.snd.snd.snd.snd.snd.snd

def YC (N0 : Nat) (W1 : World) (l : Nat) (tc : Tie) (C : List (Record × Int) → Fra) (xs : List (Record × Int)) : Prop :=
 ∀ pre x, (pre ++ [x]) <+: xs → ∀ (f : Fra) fm ts w vs, HR N0 W1 fm ts [f, C pre] w → TsLe [tc] (ts.drop 1) → VRs fm ts [.agg (Record.c x.1), .int .i64 x.2] vs →
  YieldAt FW 0 Try.prog l vs.toArray w fun e w' => e = .returned (.bool true) ∧ ∃ fm' ts', HR N0 W1 fm' ts' [f, C (pre ++ [x])] w' ∧ FmUp N0 fm fm' ∧ TsLe ts ts' ∧ ∀ l k, tb ts l k = none → tb ts' l k = none
noncomputable def itZ (d : book_disk) (area : Int) (l : Nat) (C : Fra) (j : Book) (ep fr i : Int) : St := ⟨(60, .bool true) :: itTm d area l ep fr i, [(0, .box (Book.c j))], [C], 1, Try.f153.ntmps⟩
theorem it_tail (d : book_disk) (area : Int) (l : Nat) (C : Fra) (j : Book) (ep fr i : Int) (Φ : Exit → St → Prop) :
  AK Try.prog Try.f153.ntmps Φ [.ops F153.x9b, .sc F153.z, .blk 1, .sc F153.r3, .back (fun st => Weak Try.f153.ntmps st (itSt d area l C j ep fr (w64 (i + 1))))] (itZ d area l C j ep fr i) := by
 refine run_sound T_ok 1000 _ _ ?_
 simp only [itZ, itTm, F153.x9b, F153.z, F153.r3, F153.x, F153.s0, SC.fst, SC.snd, SC.body, SC.ro, List.drop_succ_cons, List.drop_zero, go_sem]
 refine AKev_backB ?_
 refine Weak.go [0, 1, 2, 4, 5, 6, 7] [0] rfl ?_
 simp only [itTm, go_sem]
theorem look_left {α : Type} (b : List (Nat × α)) {t : Nat} {x : α} : ∀ {a : List (Nat × α)}, look a t = some x → look (a ++ b) t = some x
 | [], h => by simp [look] at h
 | (k, y) :: a, h => by
  simp only [List.cons_append, look] at h ⊢
  split at h
  ·rename_i hk; rw [if_pos hk]; exact h
  ·rename_i hk; rw [if_neg hk]; exact look_left b h
theorem it_ok (k : Nat) (d : book_disk) (area : Int) (xs : List (Record × Int)) (hxs : book_read k d area = some xs) {N0 : Nat} {W1 : World} {l : Nat} {tc : Tie} {C : List (Record × Int) → Fra} (hY : YC N0 W1 l tc C xs) {fm : FM} {w : World} {vd va : Value}
  (hr : HR N0 W1 fm [tc] [C []] w) (hd : VR fm [] (.rptr 1 [[.rptr 2 [book_disk.c d] 0 0]] 0 0) vd) (ha : VR fm [] (.rptr 1 [[.int .i64 area]] 0 0) va) :
  Calls Try.prog 153 #[.func (.yield l) #[] #[], vd, va] w fun e w' => (∃ v, e = .returned v) ∧ ∃ fm' ts', HR N0 W1 fm' ts' [C xs] w' ∧ FmUp N0 fm fm' ∧ TsLe [tc] ts' ∧ ∀ l k, tb [tc] l k = none → tb ts' l k = none := by
 obtain ⟨h, yh, hxs⟩ := bind_some hxs
 obtain ⟨e, ye, hxs⟩ := bind_some hxs
 have hnt : Try.f153.ntmps = 62 := by rfl
 refine calls_of_wp (fn := Try.f153) (c := D153) (by rfl) (by rfl) ((wpIn_plain []).1 ?_)
 have hyv : VR fm (noTie :: [tc]) (.fn (.yield l) [] []) (.func (.yield l) #[] #[]) := .fn _ _ _ _ _ rfl rfl (by intro i x v h; simp at h) (by intro i x v h; simp at h)
 have hS := SR.enter hr (args := [.fn (.yield l) [] [], .rptr 1 [[.rptr 2 [book_disk.c d] 0 0]] 0 0, .rptr 1 [[.int .i64 area]] 0 0]) (vs := [.func (.yield l) #[] #[], vd, va]) (n := Try.f153.ntmps) (by
  refine ⟨rfl, ?_⟩
  intro i x v hx hv
  match i, hx, hv with
  | 0, hx, hv => cases hx; cases hv; exact hyv
  | 1, hx, hv => cases hx; cases hv; exact hd.mono (FmLe.refl _) (TsLe.nil _)
  | 2, hx, hv => cases hx; cases hv; exact ha.mono (FmLe.refl _) (TsLe.nil _)
  | i + 3, hx, hv => simp at hx) (by rw [hnt]; simp)
 have e153 : D153 = .seq (cfst D153) (.seq (cfst (csnd D153)) (.seq (cfst (csnd (csnd D153))) (.block 0 (.loop B153)))) := by rfl
 refine (show K Try.prog _ [.code D153] .normal _ w from ?_)
 rw [e153]
 refine K_seq ?_
 refine K_under (t := [.code (cfst (csnd D153)), .code (cfst (csnd (csnd D153))), .code (.block 0 (.loop B153))]) (fun e a w h => K_seqs _ _ _ (K_under (fun e a w h => K_seqs _ _ _ h) _ _ _ h)) _ _ _ ?_
 refine AK.segs (cs := [.code (cfst D153), .code (cfst (csnd D153)), .code (cfst (csnd (csnd D153)))]) (t := [.code (.block 0 (.loop B153))]) (Φ := fun _ _ => False) (todo := [.sc F153.p0, .sc F153.p1, .sc F153.p2]) hS (it_head k d area l (C []) e h yh ye _)
  (fun R hR => .sc (by rfl) (by rfl) (.sc (by rfl) (by rfl) (.sc (by rfl) (by rfl) (.back hR .nil)))) ?_ (fun _ _ _ _ _ _ h => h.elim)
 rintro st0 a0 w0 fm0 ts0 hw0 hS0 hL0
 obtain ⟨fm1, ts1, hS1, hL1⟩ := hw0 _ _ _ _ _ _ hS0
 refine K_block ?_
 refine K_loop (I := fun m a w => ∃ pre ys j ep fr i fm' ts', book_read.go k d area m j ep fr i = some ys ∧ pre ++ ys = xs ∧ SR N0 W1 Try.f153.ntmps (itSt d area l (C pre) j ep fr i) a w fm' ts' ∧ Later N0 fm (noTie :: [tc]) fm' ts') k
  ⟨[], xs, _, _, _, _, fm1, ts1, hxs, rfl, hS1, hL0.trans hL1⟩ ?_
 rintro m a w2 ⟨pre, ys, j, ep, fr, i, fm2, ts2, hgo, hpre, hS2, hL2⟩
 cases m with
 | zero => simp only [book_read.go] at hgo; cases hgo
 | succ m =>
  have eB : B153 = .seq (.block 1 X153) (csnd B153) := by rfl
  have eX : X153 = .seq (cfst X153) (.seq (cfst (csnd X153)) (.seq (cfst (csnd (csnd X153))) (.seq (cfst (csnd (csnd (csnd X153)))) (.seq (cfst (csnd (csnd (csnd (csnd X153))))) (.seq (.region 9 A153 false) Z153))))) := by rfl
  rw [eB]
  refine K_seq ?_
  refine K_block ?_
  rw [eX]
  refine K_seq ?_
  refine K_under (t := [.code (cfst (csnd X153)), .code (cfst (csnd (csnd X153))), .code (cfst (csnd (csnd (csnd X153)))), .code (cfst (csnd (csnd (csnd (csnd X153))))), .ops A153 [0, 1, 2], .ops A153 [3, 4], .code Z153, .blk 1, .code (csnd B153), .back _, .blk 0])
   (fun e a w h => K_seqs _ _ _ (K_under (fun e a w h => K_seqs _ _ _ (K_under (fun e a w h => K_seqs _ _ _ (K_under (fun e a w h => K_seqs _ _ _ (K_under (fun e a w h => K_seqs _ _ _ (K_regs _ _ _ (K_opss (is := [0, 1, 2]) (js := [3, 4]) _ _ _ h))) _ _ _ h)) _ _ _ h)) _ _ _ h)) _ _ _ h)) _ _ _ ?_
  refine AK.segs (cs := [.code (cfst X153), .code (cfst (csnd X153)), .code (cfst (csnd (csnd X153))), .code (cfst (csnd (csnd (csnd X153)))), .code (cfst (csnd (csnd (csnd (csnd X153))))), .ops A153 [0, 1, 2]]) (t := [.ops A153 [3, 4], .code Z153, .blk 1, .code (csnd B153), .back _, .blk 0])
   (todo := [.sc F153.x4, .sc F153.x5, .sc F153.x6, .sc F153.x7, .sc F153.x8, .ops F153.x9]) hS2 (it_round k d area l (C pre) m j ep fr i ys hgo)
   (fun R hR => .sc (by rfl) (by rfl) (.sc (by rfl) (by rfl) (.sc (by rfl) (by rfl) (.sc (by rfl) (by rfl) (.sc (by rfl) (by rfl) (.ops (by rfl) (by decide +kernel) (by decide +kernel) (.back hR .nil))))))) ?_ ?_
  ·
   rintro st3 a3 w3 fm3 ts3 ⟨q, b, yq, c1, c2, yb, c3, c4, hw3⟩ hS3 hL3
   obtain ⟨fm4, ts4, hS4, hL4⟩ := hw3 _ _ _ _ _ _ hS3
   simp only [book_read.go] at hgo
   rw [yq] at hgo
   simp only [Option.bind_some, c1, Bool.not_false, cond_true, c2, cond_false, yb, c3, c4] at hgo
   obtain ⟨ys', yys, hgo⟩ := bind_some hgo
   obtain rfl := Option.some.inj hgo
   obtain ⟨v57, h57, r57⟩ := hS4.tm 57 (.fn (.yield l) [] []) rfl
   obtain ⟨v58, h58, r58⟩ := hS4.tm 58 (.agg (Record.c q.1)) rfl
   obtain ⟨v59, h59, r59⟩ := hS4.tm 59 (.int .i64 (w64 (fr + q.2.2))) rfl
   obtain rfl : v57 = .func (.yield l) #[] #[] := by
    cases r57 with
    | fn f first cap vf vc h1 h2 h3 h4 =>
     have e1 : vf = #[] := Array.size_eq_zero_iff.1 (by simpa using h1.symm)
     have e2 : vc = #[] := Array.size_eq_zero_iff.1 (by simpa using h2.symm)
     rw [e1, e2]
   obtain ⟨fn, tmps, assign, body, hrun, hR⟩ := hY pre (q.1, w64 (fr + q.2.2)) ⟨ys', by rw [← hpre]; simp⟩ _ fm4 ts4 w3 [v58, v59] hS4.hr (by have := ((hL2.trans hL3).trans hL4).tle; simpa using this) ⟨rfl, by
    intro i x v hx hv
    match i, hx, hv with
    | 0, hx, hv => cases hx; cases hv; exact r58
    | 1, hx, hv => cases hx; cases hv; exact r59
    | i + 2, hx, hv => simp at hx⟩
   obtain ⟨o3, e3, g3, d3⟩ : ∃ o, A153[3]? = some o ∧ o.guard = none ∧ o.op = .call ⟨.value (.tmp 57), #[.tmp 58, .tmp 59], #[25, 3]⟩ ∧ o.dst = some 60 := ⟨_, rfl, rfl, rfl, rfl⟩
   refine K_op e3 g3 ?_
   have v57 : a3.eval (.tmp 57) = .func (.yield l) #[] #[] := by simp [Act.eval, Array.getD_eq_getD_getElem?, h57]
   have w58 : a3.eval (.tmp 58) = v58 := by simp [Act.eval, Array.getD_eq_getD_getElem?, h58]
   have w59 : a3.eval (.tmp 59) = v59 := by simp [Act.eval, Array.getD_eq_getD_getElem?, h59]
   refine opwp_round (w' := w3) (l := l) (fn := fn) (tmps := tmps) (assign := assign) (body := body) (fun c h => by rw [d3.1] at h; cases h) ?_ ?_
   ·have hres : (resolve a3.eval ⟨.value (.tmp 57), #[.tmp 58, .tmp 59], #[25, 3]⟩ o3.type).run Try.prog w3 = .ok { target := .fn (.yield l) #[], args := #[v58, v59] } w3 := by
     simp [resolve, v57, w58, w59, Deferred.ofValue]
    simp only [execOp, d3.1, Sem.run_bind, hres, Result.andThen_ok]
    simpa [invoke] using hrun
   refine hR.mono ?_
   rintro e w4 ⟨rfl, fm5, ts5, hr5, hup5, hts5, hno5⟩
   rw [d3.2]
   have hS5 : SR N0 W1 Try.f153.ntmps (itZ d area l (C (pre ++ [(q.1, w64 (fr + q.2.2))])) b.1 q.2.1 (w64 (fr + q.2.2)) i) (a3.put (some 60) (.bool true)) w4 fm5 ts5 := by
    refine ⟨hr5, ?_, fun k hk => hno5 0 k (hS4.nx k hk), by rw [put_size]; exact hS4.size, by rw [put_dfr]; exact hS4.dfr⟩
    intro t x hx
    unfold itZ at hx
    simp only [look] at hx
    split at hx
    ·subst_vars
     obtain rfl := Option.some.inj hx
     refine ⟨.bool true, ?_, .bool true⟩
     simp only [Act.put]
     rw [Array.getElem?_setIfInBounds, if_pos rfl, if_pos (by rw [hS4.size, hnt]; decide)]
    ·rename_i hne
     have hx' : look (itY d area l (C pre) q.1 b.1 q.2.1 (w64 (fr + q.2.2)) i).tm t = some x := by
      exact look_left [(57, .fn (.yield l) [] []), (58, .agg (Record.c q.1)), (59, .int .i64 (w64 (fr + q.2.2)))] hx
     obtain ⟨u, h1, h2⟩ := hS4.tm t x hx'
     exact ⟨u, by simp only [Act.put]; rw [Array.getElem?_setIfInBounds, if_neg hne]; exact h1, h2.mono hup5.le hts5⟩
   refine AK.segs (cs := [.ops A153 [4], .code Z153, .blk 1, .code (csnd B153)]) (t := [.back _, .blk 0]) (Φ := fun _ _ => False) (todo := [.ops F153.x9b, .sc F153.z, .blk 1, .sc F153.r3]) hS5 (it_tail d area l _ _ _ _ i _)
    (fun R hR => .ops (by rfl) (by decide +kernel) (by decide +kernel) (.sc (by rfl) (by rfl) (.blk (.sc (by rfl) (by rfl) (.back hR .nil))))) ?_ (fun _ _ _ _ _ _ h => h.elim)
   rintro st6 a6 w6 fm6 ts6 hw6 hS6 hL6
   obtain ⟨fm7, ts7, hS7, hL7⟩ := hw6 _ _ _ _ _ _ hS6
   have hL5 : Later N0 fm4 ts4 fm5 ts5 := ⟨hup5, hts5.drop 1, fun l k h => by rw [tb_drop] at h ⊢; exact hno5 _ _ h⟩
   exact ⟨m, Nat.lt_succ_self m, pre ++ [(q.1, w64 (fr + q.2.2))], ys', b.1, q.2.1, _, _, fm7, ts7, yys, by rw [← hpre]; simp, hS7, ((((hL2.trans hL3).trans hL4).trans hL5).trans hL6).trans hL7⟩
  ·
   rintro e st3 a3 w3 fm3 ts3 ⟨rfl, hlow, hys⟩ hS3 hL3
   refine K_ret_all ?_ _
   obtain ⟨v, h1, h2⟩ := results_ok (P := Try.prog) (fn := Try.f153) (xs := []) T_ok hS3 (by rw [F153.rs]; rfl)
   have hL := hL2.trans hL3
   have hp := hS3.hr
   rw [hlow] at hp
   cases ts3 with
   | nil => have := hp.len; simp at this
   | cons t rest =>
    have hp' := hp.pop
    rw [hys, List.append_nil] at hpre
    subst hpre
    exact ⟨hS3.dfr, v, h1, ⟨v, rfl⟩, fm3, rest, hp', hL.fle, by simpa using hL.tle, by simpa using hL.no⟩
def F101.c : SC :=
 (.seq
 (.reg [oq 4 (.alloc 126) 0 []])
 (.seq
 (.reg [mv 5 0 3 [0],
 mv 6 1 3 [1],
 oq 7 (.call ⟨.value (.func 115), #[.const (.int .u8 104), .tmp 5, .tmp 6], #[5, 3, 3]⟩) 126 [5, 6],
 ⟨none, .store 126 (.tmp 4) (.tmp 7), 0, none, [7]⟩])
 .ret))
theorem F101.rs : Try.f101.results.toList = [.cell 4 126] := rfl
def book_head (k : Nat) (epoch0 : Int) (count1 : Int) : Option ((Vec 32 Int)) :=
 (book_begun k 104 epoch0 count1).bind fun x1 =>
 some x1
theorem book_head_ok (k : Nat) (epoch0 : Int) (count1 : Int) (r : (Vec 32 Int)) (h0 : book_head k epoch0 count1 = some r) : PCall Try.prog 101 [.int .i64 epoch0, .int .i64 count1] (fun y => y = .agg ((Vec.c (n := 32) eU8) r)) := by
 refine PB (fn := Try.f101) (sc := F101.c) ?_
 refine rS ?_
 simp only [book_head] at h0
 try simp only [F101.c, go_sem]
 obtain ⟨x1, yx1, h0⟩ := bs h0
 refine zc0 (book_begun_ok k _ _ _ _ yx1) ?_ (by first | rfl | simp [AV.refsL, AV.refs, AV.scal, AV.leaf]) ?_
 try simp only [go_sem]
 try simp only [go_sem]
 obtain rfl := Option.some.inj h0
 refine AKev_ret rfl ?_
 try simp only [F101.rs, go_sem]
end Go.Abs
namespace Go.Abs
open Go Go.Proofs Go.RowKit Go.Lib
def F124.c : SC :=
 (.seq
 (.reg [oq 4 (.alloc 145) 0 [],
 sb 5 false 4 [5]])
 (.seq
 (.reg [mv 12 0 130 [],
 mv 13 1 3 [],
 oq 14 (.call ⟨.value (.func 125), #[.tmp 12, .tmp 13, .const (.int .i64 0)], #[130, 3, 3]⟩) 126 [12, 13],
 oq 6 (.alloc 126) 0 [],
 ⟨none, .store 126 (.tmp 6) (.tmp 14), 0, none, [14]⟩])
 (.seq
 (.reg [ld 15 126 6 [],
 cf1 16 126 15 126 3 [15],
 sg 7 16 3 [16]])
 (.seq
 (.reg [oq 17 (.indexAddr 126 (.tmp 6) (.const (.int .i64 4))) 0 [],
 ld 18 5 17 [17],
 oq 19 (.convert 5 3 (.tmp 18)) 3 [18],
 oq 20 (.binOp .shl 3 (.tmp 19) (.const (.int .u64 8)) 211) 3 [19],
 oq 21 (.indexAddr 126 (.tmp 6) (.const (.int .i64 5))) 0 [],
 ld 22 5 21 [21],
 oq 23 (.convert 5 3 (.tmp 22)) 3 [22],
 b2 24 .or 3 20 23 3 3 [20, 23],
 sg 8 24 3 [24]])
 (.seq
 (.seq
 (.dreg [mv 25 7 3 [],
 bn 26 .eql 3 25 0 3 4 [],
 mv 27 26 4 [],
 og 28 (.load 126 (.tmp 6)) 126 27 false [],
 og 29 (.move (.tmp 7)) 3 27 false [],
 og 30 (.move (.tmp 8)) 3 27 false [],
 og 31 (.call ⟨.value (.func 101), #[.tmp 29, .tmp 30], #[3, 3]⟩) 126 27 false [],
 og 32 (.binOp .neq 126 (.tmp 28) (.tmp 31) 126) 4 27 false [],
 oq 33 (.pick (.tmp 27) (.const (.bool true)) (.tmp 32)) 4 []] [[], [0], [0, 1], [0, 1, 2], [0, 1, 2], [0, 1, 2], [0, 1, 2, 4, 5], [0, 1, 2, 3, 4, 5, 6], [0, 1, 2, 3, 4, 5, 6, 7]] [6, 25, 26, 27, 28, 29, 30, 31, 32])
 (.cond (.tmp 33)
 (.seq
 (.reg [oq 34 (.build 145 #[]) 145 [],
 ⟨none, .store 145 (.tmp 4) (.tmp 34), 0, none, [34]⟩,
 sb 5 false 4 []])
 .ret)
 .skip))
 (.seq
 (.reg [mv 35 0 130 [],
 mv 36 1 3 [],
 mv 37 7 3 [7],
 oq 38 (.build 145 #[(0, .tmp 35), (1, .tmp 36), (2, .tmp 37), (3, .const (.int .i64 1))]) 145 [35, 36, 37],
 oq 9 (.alloc 145) 0 [],
 ⟨none, .store 145 (.tmp 9) (.tmp 38), 0, none, [38]⟩])
 (.seq
 (.seq
 (.reg [mv 39 0 130 [0],
 mv 40 1 3 [1],
 cf2 41 147 39 40 130 3 224 [39, 40]])
 (.block 0
 .other))
 (.seq
 (.dreg [ld 58 145 9 [],
 fa 59 145 9 5 [],
 ld 60 3 59 [],
 mv 61 8 3 [],
 b2 62 .geq 3 60 61 3 4 [],
 ⟨none, .store 145 (.tmp 4) (.tmp 58), 0, none, []⟩,
 sg 5 62 4 []] [[], [], [1], [], [1, 2, 3], [0], [1, 2, 3, 4, 0, 5]] [8, 9, 58, 59, 60, 61, 62])
 .ret))))))))
theorem F124.rs : Try.f124.results.toList = [.cell 4 145, .tmp 5] := rfl
def F124.o0 : SC := F124.c.fst

def F124.o1 : SC := F124.c.snd.fst

def F124.o2 : SC := F124.c.snd.snd.fst

def F124.o3 : SC := F124.c.snd.snd.snd.fst

def F124.o4 : SC := F124.c.snd.snd.snd.snd.fst

def F124.o5 : SC := F124.c.snd.snd.snd.snd.snd.fst

def F124.o6 : SC := F124.c.snd.snd.snd.snd.snd.snd.fst.fst

def F124.o7 : SC := F124.c.snd.snd.snd.snd.snd.snd.snd

def openCnt (x3 x4 : Int) : Int := bOr .i64 (w64 ((w64 x3) * 2 ^ 8)) (w64 x4)
def openZ : book_journal := ⟨none, 0, 0, 0, (⟨[]⟩ : Book), 0⟩
def openJ (d : book_disk) (area e : Int) : book_journal := ⟨some d, area, e, 1, ⟨[]⟩, 0⟩
def openStep (k : Nat) (J : book_journal) (x : Record × Int) : Option book_journal :=
 (book_added k J.book x.1).bind fun b => some ⟨J.disk, J.area, J.epoch, x.2, b.1, w64 (J.records + 1)⟩
def openAll (k : Nat) : book_journal → List (Record × Int) → Option book_journal
 | J, [] => some J
 | J, x :: l => (openStep k J x).bind fun J => openAll k J l
def book_disk_open (k : Nat) (d0 : book_disk) (area1 : Int) : Option (book_journal × Bool) :=
 (book_disk_half k d0 area1 0).bind fun x1 =>
 (book_half_epoch k x1).bind fun x2 =>
 (x1.at? 4).bind fun x3 =>
 (x1.at? 5).bind fun x4 =>
 bif (!decide (x2 = (0 : Int))) then
  (book_head k x2 (bOr .i64 (w64 ((w64 x3) * 2 ^ 8)) (w64 x4))).bind fun x6 =>
  bif (!(Vec.eq (fun (x y : Int) => decide (x = y)) x1 x6)) then
   some (openZ, false)
  else
   (book_read k d0 area1).bind fun xs =>
   (openAll k (openJ d0 area1 x2) xs).bind fun J =>
   some (J, decide (J.records ≥ openCnt x3 x4))
 else
  some (openZ, false)
noncomputable def opSt (d : book_disk) (area e cnt : Int) : St := ⟨[(4, .ptr 0 0 0), (8, .int .i64 cnt), (9, .ptr 0 1 0), (41, readFn d area)], [(0, .box (book_journal.c openZ)), (1, .box (book_journal.c (openJ d area e)))], [], 2, Try.f124.ntmps⟩
noncomputable def opE (L : Prop) (e : Exit) (st : St) : Prop := e = .ret ∧ L ∧ PEnds T Try.f124.results.toList (fun y => NL y (.tup [.agg (book_journal.c openZ), .bool false])) .ret st
noncomputable def opB (k : Nat) (d : book_disk) (area : Int) (r : book_journal × Bool) (st : St) : Prop :=
 ∃ e x3 x4 xs J, book_read k d area = some xs ∧ openAll k (openJ d area e) xs = some J ∧ r = (J, decide (J.records ≥ openCnt x3 x4)) ∧ Weak Try.f124.ntmps st (opSt d area e (openCnt x3 x4))
theorem op_head (k : Nat) (d : book_disk) (area : Int) (r : book_journal × Bool) (h0 : book_disk_open k d area = some r) :
  AK Try.prog Try.f124.ntmps (opE (r = (openZ, false))) [.sc F124.o0, .sc F124.o1, .sc F124.o2, .sc F124.o3, .sc F124.o4, .sc F124.o5, .sc F124.o6, .back (opB k d area r)] (St.enter [.rptr 2 [book_disk.c d] 0 0, .int .i64 area] [] Try.f124.ntmps) := by
 refine run_sound T_ok 1000 _ _ ?_
 simp only [book_disk_open] at h0
 simp only [F124.o0, F124.o1, F124.o2, F124.o3, F124.o4, F124.o5, F124.o6, F124.c, SC.fst, SC.snd, go_sem]
 obtain ⟨x1, yx1, h0⟩ := bind_some h0
 refine AKev_call0 T_ok 1000 (book_disk_half_ok k _ _ _ _ yx1) ?_ (by first | rfl | simp [AV.refsL, AV.refs, AV.scal, AV.leaf]) ?_
 ·try simp only [go_sem]
 try simp only [go_sem]
 obtain ⟨x2, yx2, h0⟩ := bind_some h0
 refine AKev_call0 T_ok 1000 (book_half_epoch_ok k _ _ yx2) ?_ (by first | rfl | simp [AV.refsL, AV.refs, AV.scal, AV.leaf]) ?_
 ·try simp only [go_sem]
 try simp only [go_sem]
 obtain ⟨x3, yx3, h0⟩ := bind_some h0
 have uyx3 := UpdE.at (fun q_ => (vk_u8.len q_ : (eU8 q_).length = 1)) (UpdE.self (fun q_ => ((VK.vec vk_u8 32).len q_ : (Vec.c (n := 32) eU8 q_).length = 32)) x1) yx3
 have buyx3 := uyx3.bound (fun q_ => (vk_u8.len q_ : (eU8 q_).length = 1))
 have guyx3 := uyx3.get (fun q_ => (vk_u8.len q_ : (eU8 q_).length = 1))
 try simp only [List.length_cons, List.length_nil, go_sem] at buyx3 guyx3
 try simp only [vat_in yx3, buyx3, guyx3, (@id (min (Int.toNat 8) 64 = 8) rfl), go_sem]
 obtain ⟨x4, yx4, h0⟩ := bind_some h0
 have uyx4 := UpdE.at (fun q_ => (vk_u8.len q_ : (eU8 q_).length = 1)) (UpdE.self (fun q_ => ((VK.vec vk_u8 32).len q_ : (Vec.c (n := 32) eU8 q_).length = 32)) x1) yx4
 have buyx4 := uyx4.bound (fun q_ => (vk_u8.len q_ : (eU8 q_).length = 1))
 have guyx4 := uyx4.get (fun q_ => (vk_u8.len q_ : (eU8 q_).length = 1))
 try simp only [List.length_cons, List.length_nil, go_sem] at buyx4 guyx4
 try simp only [vat_in yx4, buyx4, guyx4, vat_in yx3, buyx3, guyx3, go_sem]
 refine AKev_region T_ok follows_ok 1000 ?_
 try simp only [vat_in yx3, buyx3, guyx3, vat_in yx4, buyx4, guyx4, go_sem]
 refine DG_bif h0 (fun c5 h0 => ?_) (fun c5 h0 => ?_)
 ·have c5 := bnot_t c5
  try simp only [c5, vat_in yx3, buyx3, guyx3, vat_in yx4, buyx4, guyx4, go_sem]
  obtain ⟨x6, yx6, h0⟩ := bind_some h0
  refine DG_call0 1000 (book_head_ok k _ _ _ yx6) ?_ (by first | rfl | simp [AV.refsL, AV.refs, AV.scal, AV.leaf]) ?_
  ·try simp only [vat_in yx3, buyx3, guyx3, vat_in yx4, buyx4, guyx4, c5, go_sem]
  try simp only [vat_in yx3, buyx3, guyx3, vat_in yx4, buyx4, guyx4, c5, go_sem]
  refine DG_done ⟨calm_of (by simp only [skel, List.reverse_cons, List.reverse_nil, List.nil_append, List.cons_append, List.map_cons, List.map_nil, List.append_nil]; rfl) (by first | decide +kernel | rfl), run_sound T_ok 1000 _ _ ?_⟩
  try simp only [vat_in yx3, buyx3, guyx3, vat_in yx4, buyx4, guyx4, c5, go_sem]
  refine AKev_bif h0 (fun c7 h0 => ?_) (fun c7 h0 => ?_)
  ·have c7 := bnot_t c7
   try simp only [c7, vat_in yx3, buyx3, guyx3, vat_in yx4, buyx4, guyx4, c5, go_sem]
   obtain rfl := Option.some.inj h0
   refine ⟨rfl, rfl, AKev_ret (P := Try.prog) (n := Try.f124.ntmps) rfl ?_⟩
   try simp only [F124.rs, openZ, vat_in yx3, buyx3, guyx3, vat_in yx4, buyx4, guyx4, c5, c7, go_sem]
  ·have c7 := bnot_f c7
   try simp only [c7, vat_in yx3, buyx3, guyx3, vat_in yx4, buyx4, guyx4, c5, go_sem]
   obtain ⟨xs, yxs, h0⟩ := bind_some h0
   obtain ⟨J, yJ, h0⟩ := bind_some h0
   obtain rfl := Option.some.inj h0
   refine AKev_call0 T_ok 1000 (book_disk_read_ok d area) ?_ (by first | rfl | simp [AV.refsL, AV.refs, AV.scal, AV.leaf]) ?_
   ·try simp only [go_sem]
   try simp only [readFn, go_sem]
   refine AKev_backB ⟨x2, x3, x4, xs, J, yxs, yJ, rfl, ?_⟩
   refine (Weak.fz 1 rfl (fun _ h => by cases h)).trans ?_
   simp only [go_sem]
   refine (Weak.fz 528 rfl (fun _ h => by cases h)).trans ?_
   simp only [go_sem]
   refine Weak.go [4, 8, 9, 41] [0, 512] rfl ?_
   simp only [readFn, openCnt, openZ, openJ, go_sem]
 ·have c5 := bnot_f c5
  try simp only [c5, vat_in yx3, buyx3, guyx3, vat_in yx4, buyx4, guyx4, go_sem]
  refine DG_done ⟨calm_of (by simp only [skel, List.reverse_cons, List.reverse_nil, List.nil_append, List.cons_append, List.map_cons, List.map_nil, List.append_nil]; rfl) (by first | decide +kernel | rfl), run_sound T_ok 1000 _ _ ?_⟩
  try simp only [vat_in yx3, buyx3, guyx3, vat_in yx4, buyx4, guyx4, c5, go_sem]
  obtain rfl := Option.some.inj h0
  refine ⟨rfl, rfl, AKev_ret (P := Try.prog) (n := Try.f124.ntmps) rfl ?_⟩
  try simp only [F124.rs, openZ, vat_in yx3, buyx3, guyx3, vat_in yx4, buyx4, guyx4, c5, go_sem]
def F124.oa : SC := .seq (.reg [oq 10 (.alloc 25) 0 [], ⟨none, .store 25 (.tmp 10) (.tmp 42), 0, none, [42]⟩]) (.reg [sg 11 43 3 [43]])

def F124.ob : SC := .block 1 (.seq (.reg [fa 45 145 9 4 [], ld 46 46 45 [45], ld 47 25 10 [], cf2 48 71 46 47 46 25 73 [46, 47],
 mv 44 48 73 [48], xt 49 44 0 46 [], xt 50 44 1 28 [44, 50], fa 51 145 9 4 [], ⟨none, .store 46 (.tmp 51) (.tmp 49), 0, none, [49, 51]⟩])
 (.seq (.reg [mv 52 11 3 [11], fa 53 145 9 3 [], ⟨none, .store 3 (.tmp 53) (.tmp 52), 0, none, [52, 53]⟩])
 (.reg [fa 54 145 9 5 [], ld 55 3 54 [54], bn 56 .add 3 55 1 3 3 [55], fa 57 145 9 5 [], ⟨none, .store 3 (.tmp 57) (.tmp 56), 0, none, [56, 57]⟩])))
noncomputable def opC (J : book_journal) : Fra := [(0, .box (book_journal.c openZ)), (1, .box (book_journal.c J))]
noncomputable def opS (x : Record × Int) (f : Fra) (J : book_journal) : St := ⟨[(9, .ptr 2 1 0), (42, .agg (Record.c x.1)), (43, .int .i64 x.2)], [], [f, opC J], 0, Try.f124.ntmps⟩
noncomputable def opA (x : Record × Int) (f : Fra) (J : book_journal) : St := ⟨[(9, .ptr 2 1 0), (10, .ptr 0 0 0), (11, .int .i64 x.2)], [(0, .box (Record.c x.1))], [f, opC J], 1, Try.f124.ntmps⟩
noncomputable def opN (f : Fra) (J : book_journal) : St := ⟨[], [], [f, opC J], 0, Try.f124.ntmps⟩
noncomputable def opR (J : book_journal) (cnt : Int) : St := ⟨[(4, .ptr 0 0 0), (8, .int .i64 cnt), (9, .ptr 0 1 0)], opC J, [], 2, Try.f124.ntmps⟩
theorem op_assign [Md] (x : Record × Int) (f : Fra) (J : book_journal) (Φ : Exit → St → Prop) : AK Try.prog Try.f124.ntmps Φ [.sc F124.oa, .back (fun st => Weak Try.f124.ntmps st (opA x f J))] (opS x f J) := by
 refine run_sound T_ok 1000 _ _ ?_
 simp only [F124.oa, opS, opC, openZ, go_sem]
 show Weak Try.f124.ntmps _ (opA x f J)
 refine Weak.go [9, 10, 11] [0] rfl ?_
 simp only [opC, openZ, go_sem]
theorem op_body [Md] (k : Nat) (x : Record × Int) (f : Fra) (J J' : book_journal) (h0 : openStep k J x = some J') (Φ : Exit → St → Prop) : AK Try.prog Try.f124.ntmps Φ [.sc F124.ob, .back (fun st => Weak Try.f124.ntmps st (opN f J'))] (opA x f J) := by
 refine run_sound T_ok 1000 _ _ ?_
 simp only [openStep] at h0
 obtain ⟨b, yb, h0⟩ := bind_some h0
 obtain rfl := Option.some.inj h0
 simp only [F124.ob, opA, opC, openZ, go_sem]
 refine AKev_call0 T_ok 1000 (book_added_ok k J.book x.1 b yb) ?_ (by first | rfl | simp [AV.refsL, AV.refs, AV.scal, AV.leaf]) ?_
 ·simp only [go_sem]
 simp only [go_sem]
 show Weak Try.f124.ntmps _ (opN f _)
 refine Weak.go [] [] rfl ?_
 simp only [opC, openZ, go_sem]
theorem op_rest [Md] (J : book_journal) (cnt : Int) : AK Try.prog Try.f124.ntmps (fun e st => e = .ret ∧ PEnds T Try.f124.results.toList (fun y => NL y (.tup [.agg (book_journal.c J), .bool (decide (J.records ≥ cnt))])) .ret st) [.sc F124.o7] (opR J cnt) := by
 refine run_sound T_ok 1000 _ _ ?_
 simp only [F124.o7, F124.c, opR, opC, openZ, SC.snd, go_sem]
 refine AKev_region T_ok follows_ok 1000 ?_
 simp only [go_sem]
 refine DG_done ⟨calm_of (by simp only [skel, List.reverse_cons, List.reverse_nil, List.nil_append, List.cons_append, List.map_cons, List.map_nil, List.append_nil]; rfl) (by first | decide +kernel | rfl), run_sound T_ok 1000 _ _ ?_⟩
 simp only [go_sem]
 refine ⟨rfl, AKev_ret (P := Try.prog) (n := Try.f124.ntmps) rfl ?_⟩
 simp only [F124.rs, go_sem]
noncomputable def D124 : Code := Try.f124.body.getD .skip
noncomputable def R124 : Code := cbody (csnd (cfst (csnd (csnd (csnd (csnd (csnd (csnd D124))))))))
def casn : Code → Code
 | .rangeFunc _ _ a _ => a
 | x => x
def cbdy : Code → Code
 | .rangeFunc _ _ _ b => b
 | x => x
theorem openAll_snoc {k : Nat} {x : Record × Int} : ∀ {J : book_journal} {l : List (Record × Int)}, openAll k J (l ++ [x]) = (openAll k J l).bind fun J => openStep k J x
 | J, [] => by simp only [List.nil_append, openAll, Option.bind_some]; cases openStep k J x <;> rfl
 | J, y :: l => by
  simp only [List.cons_append, openAll]
  cases openStep k J y with
  | none => rfl
  | some J' => simp only [Option.bind_some]; exact openAll_snoc
theorem openAll_app {k : Nat} : ∀ {J : book_journal} {l m : List (Record × Int)} {Z : book_journal}, openAll k J (l ++ m) = some Z → ∃ J', openAll k J l = some J'
 | J, [], m, Z, h => ⟨J, rfl⟩
 | J, y :: l, m, Z, h => by
  simp only [List.cons_append, openAll] at h ⊢
  obtain ⟨J', h1, h2⟩ := bind_some h
  rw [h1]
  exact openAll_app h2
noncomputable def opCC (k : Nat) (J0 : book_journal) (pre : List (Record × Int)) : Fra := opC ((openAll k J0 pre).getD J0)
noncomputable def opRec (a : Act) (D : Nat) (fn : FuncId) (s : LoopState) (p : Option Code) : Loop := { state := s, pending := p, fn, tmps := a.tmps, params := #[42, 43], assign := casn R124, body := cbdy R124, defers := D }
theorem op_as [Md] {Q : Exit → Act → World → Prop} {N0 : Nat} {W1 : World} {fm : FM} {ts : List Tie} {a : Act} {w : World} {x : Record × Int} {f : Fra} {J : book_journal} (hS : SR N0 W1 Try.f124.ntmps (opS x f J) a w fm ts)
  (hn : ∀ a' w' fm' ts', SR N0 W1 Try.f124.ntmps (opA x f J) a' w' fm' ts' → Later N0 fm ts fm' ts' → Q .normal a' w') : (casn R124).wpIn FW 0 Try.prog Q a w := by
 refine (show K Try.prog Q ([.code (casn R124)] ++ []) .normal a w from ?_)
 refine AK.segs (Φ := fun _ _ => False) (todo := [.sc F124.oa]) hS (op_assign x f J _) (fun R hR => .sc (by rfl) (by rfl) (.back hR .nil)) ?_ (fun _ _ _ _ _ _ h => h.elim)
 intro st' a' w' fm' ts' hw hS' hL
 obtain ⟨fm2, ts2, h1, h2⟩ := hw _ _ _ _ _ _ hS'
 exact hn _ _ _ _ h1 (hL.trans h2)
theorem op_bd [Md] (k : Nat) {Q : Exit → Act → World → Prop} {N0 : Nat} {W1 : World} {fm : FM} {ts : List Tie} {a : Act} {w : World} {x : Record × Int} {f : Fra} {J J' : book_journal} (h0 : openStep k J x = some J') (hS : SR N0 W1 Try.f124.ntmps (opA x f J) a w fm ts)
  (hn : ∀ a' w' fm' ts', SR N0 W1 Try.f124.ntmps (opN f J') a' w' fm' ts' → Later N0 fm ts fm' ts' → Q .normal a' w') : (cbdy R124).wpIn FW 0 Try.prog Q a w := by
 refine (show K Try.prog Q ([.code (cbdy R124)] ++ []) .normal a w from ?_)
 refine AK.segs (Φ := fun _ _ => False) (todo := [.sc F124.ob]) hS (op_body k x f J J' h0 _) (fun R hR => .sc (by rfl) (by rfl) (.back hR .nil)) ?_ (fun _ _ _ _ _ _ h => h.elim)
 intro st' a' w' fm' ts' hw hS' hL
 obtain ⟨fm2, ts2, h1, h2⟩ := hw _ _ _ _ _ _ hS'
 exact hn _ _ _ _ h1 (hL.trans h2)
theorem below_put {N0 l : Nat} {W : World} {o o' : Obj} (hN : N0 ≤ l) (h : W.heap[l]? = some o) : Below N0 W (W.putObj l o') :=
 (Below.refl N0 W).grown (grownBy_putObj' W l o') (by have := (Array.getElem?_eq_some_iff.1 h).1; omega) (fun k e => by cases e; omega)
theorem op_yc (k : Nat) (J0 : book_journal) (xs : List (Record × Int)) (Z : book_journal) (hZ : openAll k J0 xs = some Z) {N0 : Nat} {W1 : World} {l D : Nat} {fn : FuncId} {tc : Tie} {a : Act} {c9 : Nat} (hN : N0 ≤ l) (hsz : a.tmps.size = Try.f124.ntmps)
  (hl : W1.heap[l]? = some (.loop (opRec a D fn .ready none))) (h9 : tc 1 = some (.box c9)) (ha : a.tmps[9]? = some (.pointer (some ⟨c9, 0, none⟩))) : YC N0 W1 l tc (opCC k J0) xs := by
 intro pre x hpx f fm ts w vs hr hts hvs
 obtain ⟨suf, hsuf⟩ := hpx
 obtain ⟨J', hJ'⟩ := openAll_app (l := pre ++ [x]) (m := suf) (by rw [hsuf]; exact hZ)
 have hJ2 := hJ'
 rw [openAll_snoc] at hJ2
 obtain ⟨J, hJ, hst⟩ := bind_some hJ2
 have hlw := hr.oth l _ hl rfl
 have hnt : Try.f124.ntmps = 63 := by rfl
 obtain ⟨v0, v1, rfl⟩ : ∃ v0 v1, vs = [v0, v1] := by
  have := hvs.1
  match vs, this with
  | [v0, v1], _ => exact ⟨v0, v1, rfl⟩
 have hy := run_yield (P := Try.prog) (args := #[v0, v1]) hlw (by rfl)
 refine ⟨_, _, _, _, hy, ?_⟩
 have hr' : HR N0 W1 fm ts [f, opC J] w := by
  have h := hr
  unfold opCC at h
  rw [hJ] at h
  exact h
 have hSS : @SR ⟨some l, []⟩ N0 W1 Try.f124.ntmps (opS x f J) { tmps := (a.tmps.setIfInBounds 42 v0).setIfInBounds 43 v1, defers := [] } w fm (noTie :: ts) := by
  refine @SR.mk ⟨some l, []⟩ _ _ _ _ _ _ _ _ hr'.push ?_ (fun _ _ => rfl) (by simp [hsz]) rfl
  intro t y hy
  unfold opS at hy
  simp only [look] at hy
  split at hy
  ·subst_vars
   obtain rfl := Option.some.inj hy
   refine ⟨_, by rw [Array.getElem?_setIfInBounds, if_neg (by decide), Array.getElem?_setIfInBounds, if_neg (by decide)]; exact ha, .ptr 2 1 0 c9 ?_⟩
   have h1 := hts 0 1
   have h2 : tb (ts.drop 1) 0 1 = some (.box c9) := h1.box h9
   rw [tb_drop] at h2
   exact h2
  ·split at hy
   ·subst_vars
    obtain rfl := Option.some.inj hy
    refine ⟨v0, by rw [Array.getElem?_setIfInBounds, if_neg (by decide), Array.getElem?_setIfInBounds, if_pos rfl, if_pos (by rw [hsz, hnt]; decide)], ?_⟩
    have := hvs.2 0 _ v0 rfl rfl
    have h3 : VR fm [] (.agg (Record.c x.1)) v0 := (hr.bareL (VRs.one this) (ys := [.agg (Record.c x.1)]) (by simp only [AV.frzL, AV.frz, (vk_Record.ice x.1).frz, Option.map_some])).2 0 _ _ rfl rfl
    exact h3.mono (FmLe.refl _) (TsLe.nil _)
   ·split at hy
    ·subst_vars
     obtain rfl := Option.some.inj hy
     refine ⟨v1, by rw [Array.getElem?_setIfInBounds, if_pos rfl, if_pos (by rw [Array.size_setIfInBounds, hsz, hnt]; decide)], ?_⟩
     have := hvs.2 1 _ v1 rfl rfl
     have h3 : VR fm [] (.int .i64 x.2) v1 := (hr.bareL (VRs.one this) (ys := [.int .i64 x.2]) rfl).2 0 _ _ rfl rfl
     exact h3.mono (FmLe.refl _) (TsLe.nil _)
    ·cases hy
 refine roundIn_of_wpIn trivial ?_
 have hfold : (((opRec a D fn .ready none).params.zip #[v0, v1]).foldl (fun tmps (x : Tmp × Value) => match x with | (t, a) => tmps.setIfInBounds t a) (opRec a D fn .ready none).tmps) = (a.tmps.setIfInBounds 42 v0).setIfInBounds 43 v1 := by
  simp [opRec]
 rw [hfold]
 refine @op_as ⟨some l, []⟩ _ _ _ _ _ _ _ x f J hSS ?_
 intro a1 w1 fm1 ts1 hS1 hL1
 obtain ⟨g1, g2, g3, g4, g5⟩ := hS1
 have hl1 := g1.oth l _ hl rfl
 refine ⟨_, run_beginRound hl1 rfl, ?_⟩
 have hS1' : @SR ⟨some l, []⟩ N0 (w1.putObj l (.loop { opRec a D fn .ready none with state := .busy })) Try.f124.ntmps (opA x f J) a1 (w1.putObj l (.loop { opRec a D fn .ready none with state := .busy })) fm1 ts1 :=
  @SR.mk ⟨some l, []⟩ _ _ _ _ _ _ _ _ (g1.other hl1 rfl hN) g2 g3 g4 g5
 refine @op_bd ⟨some l, []⟩ k _ _ _ _ _ _ _ x f J J' hst hS1' ?_
 intro a2 w2 fm2 ts2 hS2 hL2
 obtain ⟨k1, k2, k3, k4, k5⟩ := hS2
 have hlt := (Array.getElem?_eq_some_iff.1 hl1).1
 have hl2 := k1.oth l (.loop { opRec a D fn .ready none with state := .busy }) (World.putObj_heap_same hlt) rfl
 refine ⟨_, _, run_endRound none hl2, rfl, fm2, ts2.drop 1, ?_, hL1.fle.trans hL2.fle, ?_, ?_⟩
 ·have k6 := k1.other (o' := .loop { opRec a D fn .ready none with state := .ready, pending := none }) hl2 rfl hN
  cases ts2 with
  | nil => have := k6.len; simp at this
  | cons t0 rest =>
   have k7 := k6.pop
   have hbel : Below N0 W1 (w2.putObj l (.loop { opRec a D fn .ready none with state := .ready, pending := none })) :=
    ((g1.bel.trans (below_put hN hl1)).trans k1.bel).trans (below_put hN hl2)
   have hoth : ∀ (b : Nat) (o : Obj), W1.heap[b]? = some o → othO o = true → (w2.putObj l (.loop { opRec a D fn .ready none with state := .ready, pending := none })).heap[b]? = some o := by
    intro b o hb ho
    by_cases hbl : b = l
    ·subst hbl
     rw [hl] at hb
     obtain rfl := Option.some.inj hb
     exact World.putObj_heap_same (Array.getElem?_eq_some_iff.1 hl2).1
    ·rw [World.putObj_heap_other (by omega)]
     refine k1.oth b o ?_ ho
     rw [World.putObj_heap_other (by omega)]
     exact g1.oth b o hb ho
   have k8 : HR N0 W1 fm2 rest [f, opC J'] (w2.putObj l (.loop { opRec a D fn .ready none with state := .ready, pending := none })) := { k7 with bel := hbel, oth := hoth }
   unfold opCC
   rw [hJ']
   exact k8
 ·have h := hL1.tle.trans hL2.tle
  simpa using h
 ·intro l' k' h
  exact hL2.no l' k' (hL1.no l' k' (by simpa using h))
theorem book_disk_open_ok (k : Nat) (d0 : book_disk) (area1 : Int) (r : book_journal × Bool) (h0 : book_disk_open k d0 area1 = some r) : PCall Try.prog 124 [.rptr 2 [book_disk.c d0] 0 0, .int .i64 area1] (fun y => y = .tup [.agg (book_journal.c r.1), .bool r.2]) := by
 refine ⟨⟨Try.f124, by rfl, by rfl, by rfl⟩, fun fm w vs hin hv => ?_⟩
 have hnt : Try.f124.ntmps = 63 := by rfl
 refine callsIn_wide.1 (callsIn_of_wp_marks (F := FW) (n := 0) (fn := Try.f124) (c := D124) (by rfl) (by rfl) trivial ?_)
 have hS := SR.enter (HR.nothing hin) (vs := vs) (args := [.rptr 2 [book_disk.c d0] 0 0, .int .i64 area1]) (n := Try.f124.ntmps) ⟨hv.1, fun i x v p q => (hv.2 i x v p q).mono (FmLe.refl _) (TsLe.nil _)⟩ (by rw [hnt]; simp)
 have e124 : D124 = .seq (cfst D124) (.seq (cfst (csnd D124)) (.seq (cfst (csnd (csnd D124))) (.seq (cfst (csnd (csnd (csnd D124)))) (.seq (cfst (csnd (csnd (csnd (csnd D124))))) (.seq (cfst (csnd (csnd (csnd (csnd (csnd D124)))))) (.seq (.seq (cfst (cfst (csnd (csnd (csnd (csnd (csnd (csnd D124)))))))) (.block 0 R124)) (csnd (csnd (csnd (csnd (csnd (csnd (csnd D124))))))))))))) := by rfl
 refine (show K Try.prog _ [.code D124] .normal _ w from ?_)
 rw [e124]
 refine K_seq ?_
 refine K_under (t := [.code (cfst (csnd D124)), .code (cfst (csnd (csnd D124))), .code (cfst (csnd (csnd (csnd D124)))), .code (cfst (csnd (csnd (csnd (csnd D124))))), .code (cfst (csnd (csnd (csnd (csnd (csnd D124)))))), .code (cfst (cfst (csnd (csnd (csnd (csnd (csnd (csnd D124)))))))), .code (.block 0 R124), .code (csnd (csnd (csnd (csnd (csnd (csnd (csnd D124)))))))])
  (fun e a w h => K_seqs _ _ _ (K_under (fun e a w h => K_seqs _ _ _ (K_under (fun e a w h => K_seqs _ _ _ (K_under (fun e a w h => K_seqs _ _ _ (K_under (fun e a w h => K_seqs _ _ _ (K_under (fun e a w h => K_seqs _ _ _ (K_seqs _ _ _ h)) _ _ _ h)) _ _ _ h)) _ _ _ h)) _ _ _ h)) _ _ _ h)) _ _ _ ?_
 refine AK.segs (cs := [.code (cfst D124), .code (cfst (csnd D124)), .code (cfst (csnd (csnd D124))), .code (cfst (csnd (csnd (csnd D124)))), .code (cfst (csnd (csnd (csnd (csnd D124))))), .code (cfst (csnd (csnd (csnd (csnd (csnd D124)))))), .code (cfst (cfst (csnd (csnd (csnd (csnd (csnd (csnd D124))))))))])
  (t := [.code (.block 0 R124), .code (csnd (csnd (csnd (csnd (csnd (csnd (csnd D124)))))))]) (todo := [.sc F124.o0, .sc F124.o1, .sc F124.o2, .sc F124.o3, .sc F124.o4, .sc F124.o5, .sc F124.o6]) hS (op_head k d0 area1 r h0)
  (fun R hR => .sc (by rfl) (by rfl) (.sc (by rfl) (by rfl) (.sc (by rfl) (by rfl) (.sc (by rfl) (by rfl) (.sc (by rfl) (by rfl) (.sc (by rfl) (by rfl) (.sc (by rfl) (by rfl) (.back hR .nil)))))))) ?_ ?_
 rotate_left
 ·
  rintro e st a w2 fm2 ts2 ⟨rfl, rfl, hE⟩ hS2 hL2
  refine K_ret_all ?_ _
  obtain ⟨u, fm3, h1, h2, h3, h4⟩ := fin_ok (P := Try.prog) T_ok hS2 hE
  show LeavesInM FW 0 Try.prog Try.f124 a.tmps _ a.defers .returning w2
  rw [hS2.dfr]
  exact ⟨u, h1, u, _, fm3, rfl, rfl, h3, h2, hL2.fle.trans h4, hS2.hr.bel⟩
 ·rintro st0 a0 w0 fm0 ts0 ⟨e, x3, x4, xs, J, hxs, hJ, rfl, hw⟩ hS0 hL0
  obtain ⟨fm1, ts1, hS1, hL1⟩ := hw _ _ _ _ _ _ hS0
  have hL01 := hL0.trans hL1
  obtain ⟨tc, rfl⟩ : ∃ tc, ts1 = [tc] := by
   have := hS1.hr.len
   match ts1, this with
   | [tc], _ => exact ⟨tc, rfl⟩
  refine K_block ?_
  have e2 : R124 = .rangeFunc (.tmp 41) #[42, 43] (casn R124) (cbdy R124) := by rfl
  rw [e2]
  refine (show (Code.rangeFunc (.tmp 41) #[42, 43] (casn R124) (cbdy R124)).wpIn FW 0 Try.prog (K Try.prog _ [.blk 0, .code (csnd (csnd (csnd (csnd (csnd (csnd (csnd D124)))))))]) a0 w0 from ?_)
  refine wpIn_rangeFunc ?_
  intro fn _
  obtain ⟨v41, h41, r41⟩ := hS1.tm 41 (readFn d0 area1) rfl
  obtain ⟨p9, h9, r9⟩ := hS1.tm 9 (.ptr 0 1 0) rfl
  obtain ⟨c9, rfl, hc9⟩ : ∃ c9, p9 = .pointer (some ⟨c9, 0, none⟩) ∧ tc 1 = some (.box c9) := by
   cases r9 with
   | ptr _ _ _ c h => exact ⟨c, rfl, h⟩
  obtain ⟨vd, va, rfl, hd, ha⟩ : ∃ vd va, v41 = .func (.func 153) #[] #[vd, va] ∧ VR fm1 [] (.rptr 1 [[.rptr 2 [book_disk.c d0] 0 0]] 0 0) vd ∧ VR fm1 [] (.rptr 1 [[.int .i64 area1]] 0 0) va := by
   have hb : VR fm1 [] (readFn d0 area1) v41 := (hS1.hr.bareL (VRs.one r41) (ys := [readFn d0 area1]) (by simp only [readFn, AV.frzL, AV.frz])).2 0 _ _ rfl rfl
   unfold readFn at hb
   cases hb with
   | fn f first cap vf vc h1 h2 h3 h4 =>
    have e1 : vf = #[] := Array.size_eq_zero_iff.1 (by simpa using h1.symm)
    obtain ⟨l, rfl⟩ : ∃ l, vc = l.toArray := ⟨vc.toList, by simp⟩
    match l, h2, h4 with
    | [vd, va], h2, h4 => exact ⟨vd, va, by rw [e1], h4 0 _ vd rfl rfl, h4 1 _ va rfl rfl⟩
  have hN1 : w.heap.size ≤ w0.heap.size := hS1.hr.size
  obtain ⟨rec, hrec⟩ : ∃ rec, rec = opRec a0 w0.heap.size fn .ready none := ⟨_, rfl⟩
  obtain ⟨W1, hW1⟩ : ∃ W1, W1 = (w0.alloc (.deferred (some []))).alloc (.loop rec) := ⟨_, rfl⟩
  have hl : W1.heap[w0.heap.size + 1]? = some (.loop rec) := by
   rw [hW1]; have := World.alloc_heap_new (w0.alloc (.deferred (some []))) (.loop rec); rwa [World.size_alloc] at this
  have hD : W1.heap[w0.heap.size]? = some (.deferred (some [])) := by
   rw [hW1]; exact (Below.heap_alloc _ _ _ (by simp)).trans (World.alloc_heap_new w0 _)
  have hr1 : HR w.heap.size W1 fm1 [tc] [opCC k (openJ d0 area1 e) []] W1 := by
   rw [hW1]; exact ((hS1.hr.alloc _).alloc _).rebase
  have hbW : Below w.heap.size w W1 := by
   rw [hW1]; exact (hS1.hr.bel.alloc hN1 _).alloc (by simp; omega) _
  have hv41 : a0.eval (.tmp 41) = .func (.func 153) #[] #[vd, va] := by simp [Act.eval, Array.getD_eq_getD_getElem?, h41]
  refine ⟨w0.heap.size + 1, [{ target := .collected w0.heap.size, args := #[] }], W1, { target := .fn (.func 153) #[vd, va], args := #[.func (.yield (w0.heap.size + 1)) #[] #[]] }, W1, 153,
   #[.func (.yield (w0.heap.size + 1)) #[] #[]] ++ #[vd, va], W1, ?_, ?_, ?_, ?_, (fun h => by simp [FW] at h), ?_⟩
  ·rw [hW1, hrec]; exact run_enterLoop_outer _ _ _ _ _
  ·simp [resolve, Deferred.ofValue, Act.eval, h41]
  ·intro f' hf'; trivial
  ·simp [invoke, callFunc]; rfl
  refine callsIn_wide.2 ?_
  refine (it_ok k d0 area1 xs hxs (op_yc k (openJ d0 area1 e) xs J hJ (by omega) hS1.size (by rw [hl, hrec]) hc9 h9) hr1 hd ha).mono ?_
  rintro e3 w3 ⟨⟨v, rfl⟩, fm3, ts3, hr3, hup3, hts3, hno3⟩
  have hNl : w.heap.size ≤ w0.heap.size + 1 := by omega
  have hl3 := hr3.oth _ _ hl rfl
  refine ⟨_, _, run_endLoop hl3 (by rw [hrec]; simp [opRec]), ?_⟩
  have hr4 := hr3.other (o' := .loop { rec with state := .exhausted }) hl3 rfl hNl
  have hC : opCC k (openJ d0 area1 e) xs = opC J := by unfold opCC; rw [hJ]; rfl
  rw [hC] at hr4
  have hD4 : (w3.putObj (w0.heap.size + 1) (.loop { rec with state := .exhausted })).heap[w0.heap.size]? = some (.deferred (some [])) := by
   rw [World.putObj_heap_other (by omega)]; exact hr3.oth _ _ hD rfl
  have hb4 : Below w.heap.size w3 (w3.putObj (w0.heap.size + 1) (.loop { rec with state := .exhausted })) := below_put hNl hl3
  generalize hw4 : w3.putObj (w0.heap.size + 1) (.loop { rec with state := .exhausted }) = w4 at hr4 hD4 hb4 ⊢
  have hpend : rec.pending = none := by rw [hrec]; rfl
  rw [hpend]
  refine (show K Try.prog _ [.code (csnd (csnd (csnd (csnd (csnd (csnd (csnd D124)))))))] .normal _ w4 from ?_)
  have hSR : @SR ⟨none, [{ target := .collected w0.heap.size, args := #[] }]⟩ w.heap.size w4 Try.f124.ntmps (opR J (openCnt x3 x4)) { a0 with defers := [{ target := .collected w0.heap.size, args := #[] }] ++ a0.defers } w4 fm3 ts3 := by
   have hdf := hS1.dfr
   refine @SR.mk ⟨none, [{ target := .collected w0.heap.size, args := #[] }]⟩ _ _ _ _ _ _ _ _ hr4 ?_ (fun k hk => hno3 0 k (hS1.nx k hk)) hS1.size ?_
   ·intro t x hx
    have hx' : look (opSt d0 area1 e (openCnt x3 x4)).tm t = some x := look_left (a := (opR J (openCnt x3 x4)).tm) [(41, readFn d0 area1)] hx
    obtain ⟨u, h1, h2⟩ := hS1.tm t x hx'
    exact ⟨u, h1, h2.mono hup3.le hts3⟩
   ·show [_] ++ a0.defers = _
    rw [hdf]; rfl
  rw [K_md md0 ⟨none, [{ target := .collected w0.heap.size, args := #[] }]⟩ rfl]
  refine @AK.last ⟨none, [{ target := .collected w0.heap.size, args := #[] }]⟩ _ _ _ _ _ _ _ _ _ _ (fun e st => e = .ret ∧ PEnds T Try.f124.results.toList (fun y => NL y (.tup [.agg (book_journal.c J), .bool (decide (J.records ≥ openCnt x3 x4))])) .ret st) _ F124.o7 hSR
   (@op_rest ⟨none, [{ target := .collected w0.heap.size, args := #[] }]⟩ J (openCnt x3 x4)) (by rfl) (by rfl) ?_
  rintro e5 st5 a5 w5 fm5 ts5 ⟨rfl, hE⟩ hS5 hL5
  obtain ⟨s1, s2, s3, s4, s5⟩ := hS5
  have s5' : a5.defers = [{ target := .collected w0.heap.size, args := #[] }] := s5
  have hD5 := s1.oth _ _ hD4 rfl
  show LeavesInM FW 0 Try.prog Try.f124 a5.tmps _ a5.defers .returning w5
  rw [s5']
  refine ⟨by simp, .inl ⟨w0.heap.size, _, rfl, run_takeDeferred hD5, ?_⟩⟩
  have hS6 : @SR md0 w.heap.size (w5.putObj w0.heap.size (.deferred none)) Try.f124.ntmps st5 { a5 with defers := [] } (w5.putObj w0.heap.size (.deferred none)) fm5 ts5 := @SR.mk md0 _ _ _ _ _ _ _ _ (s1.other hD5 rfl hN1) s2 s3 s4 rfl
  obtain ⟨u, fm6, h1, h2, h3, h4⟩ := fin_ok (P := Try.prog) T_ok hS6 hE
  exact ⟨u, h1, u, _, fm6, rfl, rfl, h3, h2, ((hL01.fle.trans hup3).trans hL5.fle).trans h4, (((hbW.trans hr3.bel).trans hb4).trans s1.bel).trans (below_put hN1 hD5)⟩
def F80.c : SC :=
 (.seq
 (.reg [oq 2 (.alloc 145) 0 [],
 sb 3 false 4 [3]])
 (.seq
 (.reg [mv 9 0 130 [],
 oq 10 (.call ⟨.value (.func 124), #[.tmp 9, .const (.int .i64 0)], #[130, 3]⟩) 146 [9],
 mv 8 10 146 [10],
 xt 11 8 0 145 [],
 xt 12 8 1 4 [8],
 oq 4 (.alloc 145) 0 [],
 ⟨none, .store 145 (.tmp 4) (.tmp 11), 0, none, [11]⟩,
 sg 5 12 4 [12]])
 (.seq
 (.reg [mv 14 0 130 [0],
 oq 15 (.call ⟨.value (.func 124), #[.tmp 14, .const (.int .i64 1)], #[130, 3]⟩) 146 [14],
 mv 13 15 146 [15],
 xt 16 13 0 145 [],
 xt 17 13 1 4 [13],
 oq 6 (.alloc 145) 0 [],
 ⟨none, .store 145 (.tmp 6) (.tmp 16), 0, none, [16]⟩,
 sg 7 17 4 [17]])
 (.seq
 (.seq
 (.reg [mv 18 7 4 [7],
 mv 19 18 4 [18],
 og 20 (.move (.tmp 5)) 4 19 true [],
 og 21 (.unOp .not 4 (.tmp 20)) 4 19 true [20],
 og 22 (.move (.tmp 21)) 4 19 true [21],
 og 23 (.fieldAddr 145 (.tmp 6) 2) 0 22 false [],
 og 24 (.load 3 (.tmp 23)) 3 22 false [23],
 og 25 (.fieldAddr 145 (.tmp 4) 2) 0 22 false [],
 og 26 (.load 3 (.tmp 25)) 3 22 false [25],
 og 27 (.binOp .gtr 3 (.tmp 24) (.tmp 26) 3) 4 22 false [24, 26],
 og 28 (.pick (.tmp 22) (.const (.bool true)) (.tmp 27)) 4 19 true [22, 27],
 oq 29 (.pick (.tmp 19) (.tmp 28) (.const (.bool false))) 4 [19, 28]])
 (.cond (.tmp 29)
 (.seq
 (.reg [ld 30 145 6 [6],
 ⟨none, .store 145 (.tmp 2) (.tmp 30), 0, none, [30]⟩,
 sb 3 true 4 []])
 .ret)
 .skip))
 (.seq
 (.reg [ld 31 145 4 [4],
 mv 32 5 4 [5],
 ⟨none, .store 145 (.tmp 2) (.tmp 31), 0, none, [31]⟩,
 sg 3 32 4 [32]])
 .ret)))))
theorem F80.rs : Try.f80.results.toList = [.cell 2 145, .tmp 3] := rfl
def book_disk_meant (k : Nat) (d0 : book_disk) : Option (book_journal × Bool) :=
 (book_disk_open k d0 0).bind fun x1 =>
 (book_disk_open k d0 1).bind fun x2 =>
 bif x2.2 then
  bif x1.2 then
   bif decide (x1.1.epoch < x2.1.epoch) then
    some (x2.1, true)
   else
    some (x1.1, true)
  else
   some (x2.1, true)
 else
  some (x1.1, x1.2)
theorem book_disk_meant_ok (k : Nat) (d0 : book_disk) (r : book_journal × Bool) (h0 : book_disk_meant k d0 = some r) : PCall Try.prog 80 [.rptr 2 [book_disk.c d0] 0 0] (fun y => y = .tup [.agg (book_journal.c r.1), .bool r.2]) := by
 refine PB (fn := Try.f80) (sc := F80.c) ?_
 refine rS ?_
 simp only [book_disk_meant] at h0
 try simp only [F80.c, go_sem]
 obtain ⟨x1, yx1, h0⟩ := bs h0
 refine zc0 (book_disk_open_ok k _ _ _ yx1) ?_ (by first | rfl | simp [AV.refsL, AV.refs, AV.scal, AV.leaf]) ?_
 try simp only [go_sem]
 try simp only [go_sem]
 obtain ⟨x2, yx2, h0⟩ := bs h0
 refine zc0 (book_disk_open_ok k _ _ _ yx2) ?_ (by first | rfl | simp [AV.refsL, AV.refs, AV.scal, AV.leaf]) ?_
 try simp only [go_sem]
 try simp only [go_sem]
 refine AKev_bif h0 ?_ ?_ <;> intro c3 h0
 try simp only [c3, go_sem]
 refine AKev_bif h0 ?_ ?_ <;> intro c4 h0
 try simp only [c4, c3, go_sem]
 refine AKev_bif h0 ?_ ?_ <;> intro c5 h0
 try simp only [c5, c3, c4, go_sem]
 obtain rfl := Option.some.inj h0
 refine AKev_ret rfl ?_
 try simp only [F80.rs, c3, c4, c5, go_sem]
 try simp only [c5, c3, c4, go_sem]
 obtain rfl := Option.some.inj h0
 refine AKev_ret rfl ?_
 try simp only [F80.rs, c3, c4, c5, go_sem]
 try simp only [c4, c3, go_sem]
 obtain rfl := Option.some.inj h0
 refine AKev_ret rfl ?_
 try simp only [F80.rs, c3, c4, go_sem]
 try simp only [c3, go_sem]
 obtain rfl := Option.some.inj h0
 refine AKev_ret rfl ?_
 try simp only [F80.rs, c3, go_sem]
def F81.s0 : SC :=
 (.seq
 (.reg [b2 14 .lss 3 13 12 3 0 []])
 (.seq
 (.cond (.tmp 14)
 .skip
 (.exit 0))
 (.seq
 (.block 1
 (.seq
 (.reg [mv 15 13 3 [],
 sg 5 15 3 [15]])
 (.seq
 (.dreg [mv 16 0 44 [],
 mv 17 5 3 [],
 ia 18 44 16 17 [],
 ld 19 25 18 [],
 mv 20 1 44 [],
 mv 21 5 3 [],
 ia 22 44 20 21 [],
 ld 23 25 22 [],
 b2 24 .neq 25 19 23 25 4 []] [[], [], [0, 1], [0, 1, 2], [], [], [4, 5], [4, 5, 6], [0, 1, 2, 3, 4, 5, 6, 7]] [5, 16, 17, 18, 19, 20, 21, 22, 23])
 (.cond (.tmp 24)
 (.seq
 (.reg [sb 4 false 4 []])
 .ret)
 .skip))))
 (.reg [bn 25 .add 3 13 1 3 3 [13],
 mv 13 25 3 [25]]))))
def F81.c : SC :=
 (.seq
 (.reg [sb 4 false 4 [4]])
 (.seq
 (.seq
 (.reg [mv 6 0 44 [],
 ln 7 6 44 3 [6],
 mv 8 1 44 [],
 ln 9 8 44 3 [8],
 b2 10 .neq 3 7 9 3 4 [7, 9]])
 (.cond (.tmp 10)
 (.seq
 (.reg [sb 4 false 4 []])
 .ret)
 .skip))
 (.seq
 (.seq
 (.reg [mv 11 0 44 [],
 ln 12 11 44 3 [11],
 oq 13 (.move (.const (.int .i64 0))) 3 []])
 (.block 0
 (.loop F81.s0)))
 (.seq
 (.reg [sb 4 true 4 []])
 .ret))))
theorem F81.rs : Try.f81.results.toList = [.tmp 4] := rfl
def slices_Equal_api_Record.b0 (k : Nat) (s10 : (List Record)) (s21 : (List Record)) : Int → Option (Stp (Int) (Unit) (Bool)) := fun (i2 : Int) =>
 bif decide (i2 < (s10.length : Int)) then
  (at? s10 i2).bind fun x4 =>
  (at? s21 i2).bind fun x5 =>
  bif (!(decide (x4.At.House = x5.At.House) && (decide (x4.At.No = x5.At.No) && (decide (x4.Kind = x5.Kind) && (decide (x4.Day = x5.Day) && (decide (x4.Known = x5.Known) && (decide (x4.Of.House = x5.Of.House) && (decide (x4.Of.No = x5.Of.No) && (x4.Text.toList == x5.Text.toList))))))))) then
   some (.ret false)
  else
   some (.next (w64 (i2 + 1)))
 else
  some (.brk ())
noncomputable def slices_Equal_api_Record.h0 (s10 : (List Record)) (s21 : (List Record)) : Int → St := fun (i2 : Int) => ⟨[(0, .sl 8 (List.map Record.c s10)), (1, .sl 8 (List.map Record.c s21)), (12, .int .i64 (s10.length : Int)), (13, .int .i64 i2)], [], [], 1, Try.f81.ntmps⟩
noncomputable def slices_Equal_api_Record.x0 : Unit → St := fun (_ : Unit) => ⟨[], [], [], 1, Try.f81.ntmps⟩
def slices_Equal_api_Record (k : Nat) (s10 : (List Record)) (s21 : (List Record)) : Option (Bool) :=
 bif (!decide ((s10.length : Int) = (s21.length : Int))) then
  some false
 else
  (whl (slices_Equal_api_Record.b0 k s10 s21) k 0).bind fun r7 => match r7 with
  | .next _ => none
  | .ret v_ => some v_
  | .brk _ =>
   some true
theorem slices_Equal_api_Record_ok (k : Nat) (s10 : (List Record)) (s21 : (List Record)) (r : Bool) (h0 : slices_Equal_api_Record k s10 s21 = some r) : PCall Try.prog 81 [.sl 8 (List.map Record.c s10), .sl 8 (List.map Record.c s21)] (fun y => y = .bool r) := by
 refine PB (fn := Try.f81) (sc := F81.c) ?_
 refine rS ?_
 simp only [slices_Equal_api_Record] at h0
 try simp only [F81.c, go_sem]
 refine AKev_bif h0 ?_ ?_ <;> intro c1 h0
 have c1 := bnot_t c1
 try simp only [c1, go_sem]
 obtain rfl := Option.some.inj h0
 refine AKev_ret rfl ?_
 try simp only [F81.rs, c1, go_sem]
 have c1 := bnot_f c1
 try simp only [c1, go_sem]
 obtain ⟨r7, yr7, h0⟩ := bs h0
 refine AKev_loopS yr7 (slices_Equal_api_Record.h0 s10 s21) (slices_Equal_api_Record.x0) ?_ ?_ ?_
 refine Weak.go [0, 1, 12, 13] [] rfl ?_
 try simp only [slices_Equal_api_Record.h0, c1, go_sem]
 rintro i2 x_1 Bk1 Br1 h1 hnext1 hbrk1 hret1
 refine rS ?_
 simp only [slices_Equal_api_Record.b0] at h1
 try simp only [F81.s0, slices_Equal_api_Record.h0, c1, go_sem]
 refine AKev_bif h1 ?_ ?_ <;> intro c3 h1
 try simp only [c3, c1, go_sem]
 refine AKev_region T_ok follows_ok 1000 ?_
 try simp only [c1, c3, go_sem]
 obtain ⟨x4, yx4, h1⟩ := bs h1
 try simp only [aa yx4, c1, c3, go_sem]
 obtain ⟨x5, yx5, h1⟩ := bs h1
 try simp only [aa yx5, c1, c3, aa yx4, go_sem]
 refine DG_done ⟨calm_of (by simp only [skel, List.reverse_cons, List.reverse_nil, List.nil_append, List.cons_append, List.map_cons, List.map_nil, List.append_nil]; rfl) (by first | decide +kernel | rfl), run_sound T_ok 1000 _ _ ?_⟩
 try simp only [c1, c3, aa yx4, aa yx5, go_sem]
 refine AKev_bif h1 ?_ ?_ <;> intro c6 h1
 have c6 := bnot_t c6
 try simp only [c6, c1, c3, aa yx4, aa yx5, go_sem]
 obtain rfl := hret1 _ (Option.some.inj h1).symm
 simp only at h0
 obtain rfl := Option.some.inj h0
 refine AKev_ret rfl ?_
 try simp only [F81.rs, c1, c3, aa yx4, aa yx5, c6, go_sem]
 have c6 := bnot_f c6
 try simp only [c6, c1, c3, aa yx4, aa yx5, go_sem]
 refine AKev_backB (hnext1 _ _ (Option.some.inj h1).symm ?_)
 refine Weak.go [0, 1, 12, 13] [] rfl ?_
 try simp only [slices_Equal_api_Record.h0, c1, c3, aa yx4, aa yx5, c6, go_sem]
 try simp only [c3, c1, go_sem]
 refine AKev_backB (hbrk1 _ _ (Option.some.inj h1).symm ?_)
 refine Weak.go [] [] rfl ?_
 try simp only [slices_Equal_api_Record.x0, c1, c3, go_sem]
 rintro _ hr_
 subst hr_
 simp only at h0
 refine rS ?_
 try simp only [slices_Equal_api_Record.x0, c1, go_sem]
 obtain rfl := Option.some.inj h0
 refine AKev_ret rfl ?_
 try simp only [F81.rs, c1, go_sem]
def F82.s0 : SC :=
 (.seq
 (.seq
 (.reg [mv 10 8 3 [],
 bn 11 .lss 3 10 602 3 4 [10]])
 (.cond (.tmp 11)
 .skip
 (.exit 0)))
 (.seq
 (.block 1
 (.reg [mv 14 7 3 [7],
 mv 15 0 130 [],
 mv 16 1 3 [],
 mv 17 8 3 [],
 oq 18 (.call ⟨.value (.func 125), #[.tmp 15, .tmp 16, .tmp 17], #[130, 3, 3]⟩) 126 [15, 16, 17],
 cf1 19 126 18 126 3 [18],
 oq 20 (.call ⟨.builtin .max, #[.tmp 14, .tmp 19], #[3, 3]⟩) 3 [14, 19],
 sg 7 20 3 [20]]))
 (.reg [mv 12 8 3 [8],
 bn 13 .add 3 12 1 3 3 [12],
 sg 8 13 3 [13]])))
def F82.c : SC :=
 (.seq
 (.reg [sn 6 0 3 [6]])
 (.seq
 (.reg [sn 7 0 3 []])
 (.seq
 (.seq
 (.reg [mv 9 2 3 [2],
 sg 8 9 3 [9]])
 (.block 0
 (.loop F82.s0)))
 (.seq
 (.reg [mv 21 7 3 [7],
 sg 6 21 3 [21]])
 .ret))))
theorem F82.rs : Try.f82.results.toList = [.tmp 6] := rfl
def book_disk_epoch.b0 (k : Nat) (d0 : book_disk) (area1 : Int) : (Int × Int) → Option (Stp (Int × Int) (Int) (Int)) := fun (s : Int × Int) => match s with
 | (i1, i2) =>
   bif decide (i2 < (602 : Int)) then
    (book_disk_half k d0 area1 i2).bind fun x5 =>
    (book_half_epoch k x5).bind fun x6 =>
    some (.next (max i1 x6, w64 (i2 + 1)))
   else
    some (.brk i1)
noncomputable def book_disk_epoch.h0 (d0 : book_disk) (area1 : Int) : (Int × Int) → St := fun (s : Int × Int) => match s with
 | (i1, i2) => ⟨[(0, .rptr 2 [book_disk.c d0] 0 0), (1, .int .i64 area1), (7, .int .i64 i1), (8, .int .i64 i2)], [], [], 1, Try.f82.ntmps⟩
noncomputable def book_disk_epoch.x0 : Int → St := fun (i3 : Int) => ⟨[(7, .int .i64 i3)], [], [], 1, Try.f82.ntmps⟩
def book_disk_epoch (k : Nat) (d0 : book_disk) (area1 : Int) (from2 : Int) : Option (Int) :=
 (whl (book_disk_epoch.b0 k d0 area1) k (0, from2)).bind fun r7 => match r7 with
 | .next _ => none
 | .ret v_ => some v_
 | .brk i3 =>
  some i3
theorem book_disk_epoch_ok (k : Nat) (d0 : book_disk) (area1 : Int) (from2 : Int) (r : Int) (h0 : book_disk_epoch k d0 area1 from2 = some r) : PCall Try.prog 82 [.rptr 2 [book_disk.c d0] 0 0, .int .i64 area1, .int .i64 from2] (fun y => y = .int .i64 r) := by
 refine PB (fn := Try.f82) (sc := F82.c) ?_
 refine rS ?_
 simp only [book_disk_epoch] at h0
 try simp only [F82.c, go_sem]
 obtain ⟨r7, yr7, h0⟩ := bs h0
 refine AKev_loopS yr7 (book_disk_epoch.h0 d0 area1) (book_disk_epoch.x0) ?_ ?_ ?_
 refine Weak.go [0, 1, 7, 8] [] rfl ?_
 try simp only [book_disk_epoch.h0, go_sem]
 rintro ⟨i1, i2⟩ x_1 Bk1 Br1 h1 hnext1 hbrk1 hret1
 refine rS ?_
 simp only [book_disk_epoch.b0] at h1
 try simp only [F82.s0, book_disk_epoch.h0, go_sem]
 refine AKev_bif h1 ?_ ?_ <;> intro c4 h1
 try simp only [c4, go_sem]
 obtain ⟨x5, yx5, h1⟩ := bs h1
 refine zc0 (book_disk_half_ok k _ _ _ _ yx5) ?_ (by first | rfl | simp [AV.refsL, AV.refs, AV.scal, AV.leaf]) ?_
 try simp only [c4, go_sem]
 try simp only [c4, go_sem]
 obtain ⟨x6, yx6, h1⟩ := bs h1
 refine zc0 (book_half_epoch_ok k _ _ yx6) ?_ (by first | rfl | simp [AV.refsL, AV.refs, AV.scal, AV.leaf]) ?_
 try simp only [c4, go_sem]
 try simp only [c4, go_sem]
 refine AKev_backB (hnext1 _ _ (Option.some.inj h1).symm ?_)
 refine Weak.go [0, 1, 7, 8] [] rfl ?_
 try simp only [book_disk_epoch.h0, c4, go_sem]
 try simp only [c4, go_sem]
 refine AKev_backB (hbrk1 _ _ (Option.some.inj h1).symm ?_)
 refine Weak.go [7] [] rfl ?_
 try simp only [book_disk_epoch.x0, c4, go_sem]
 rintro i3 hr_
 subst hr_
 simp only at h0
 refine rS ?_
 try simp only [book_disk_epoch.x0, go_sem]
 obtain rfl := Option.some.inj h0
 refine AKev_ret rfl ?_
 try simp only [F82.rs, go_sem]
def F24.c : SC :=
 (.seq
 (.reg [oq 2 (.box 42 (.tmp 0)) 0 [0],
 oq 3 (.box 48 (.tmp 1)) 0 [1],
 sn 4 0 28 [4]])
 (.seq
 (.seq
 (.reg [ld 8 42 2 [],
 cf1 9 78 8 42 4 [8],
 oq 10 (.unOp .not 4 (.tmp 9)) 4 [9]])
 (.cond (.tmp 10)
 (.seq
 (.reg [sn 4 94 28 []])
 .ret)
 .skip))
 (.seq
 (.reg [ld 11 42 2 [2],
 cf1 12 72 11 42 130 [11],
 cf1 13 79 12 130 130 [12],
 sg 5 13 130 [13]])
 (.seq
 (.reg [mv 15 5 130 [],
 cf1 16 80 15 130 146 [15],
 mv 14 16 146 [16],
 xt 17 14 0 145 [],
 xt 18 14 1 4 [14],
 oq 6 (.alloc 145) 0 [],
 ⟨none, .store 145 (.tmp 6) (.tmp 17), 0, none, [17]⟩,
 sg 7 18 4 [18]])
 (.seq
 (.seq
 (.reg [mv 19 7 4 [7],
 oq 20 (.unOp .not 4 (.tmp 19)) 4 [19],
 mv 21 20 4 [20],
 og 22 (.fieldAddr 48 (.tmp 3) 1) 0 21 false [],
 og 23 (.load 3 (.tmp 22)) 3 21 false [22],
 og 24 (.fieldAddr 145 (.tmp 6) 1) 0 21 false [],
 og 25 (.load 3 (.tmp 24)) 3 21 false [24],
 og 26 (.binOp .neq 3 (.tmp 23) (.tmp 25) 3) 4 21 false [23, 25],
 oq 27 (.pick (.tmp 21) (.const (.bool true)) (.tmp 26)) 4 [21, 26],
 mv 28 27 4 [27],
 og 29 (.fieldAddr 48 (.tmp 3) 3) 0 28 false [],
 og 30 (.load 3 (.tmp 29)) 3 28 false [29],
 og 31 (.fieldAddr 145 (.tmp 6) 3) 0 28 false [],
 og 32 (.load 3 (.tmp 31)) 3 28 false [31],
 og 33 (.binOp .neq 3 (.tmp 30) (.tmp 32) 3) 4 28 false [30, 32],
 oq 34 (.pick (.tmp 28) (.const (.bool true)) (.tmp 33)) 4 [28, 33],
 mv 35 34 4 [34],
 og 36 (.fieldAddr 48 (.tmp 3) 0) 0 35 false [],
 og 37 (.fieldAddr 46 (.tmp 36) 0) 0 35 false [36],
 og 38 (.load 44 (.tmp 37)) 44 35 false [37],
 og 39 (.fieldAddr 145 (.tmp 6) 4) 0 35 false [],
 og 40 (.fieldAddr 46 (.tmp 39) 0) 0 35 false [39],
 og 41 (.load 44 (.tmp 40)) 44 35 false [40],
 og 42 (.call ⟨.value (.func 81), #[.tmp 38, .tmp 41], #[44, 44]⟩) 4 35 false [38, 41],
 og 43 (.unOp .not 4 (.tmp 42)) 4 35 false [42],
 oq 44 (.pick (.tmp 35) (.const (.bool true)) (.tmp 43)) 4 [35, 43],
 mv 45 44 4 [44],
 og 46 (.fieldAddr 48 (.tmp 3) 2) 0 45 false [],
 og 47 (.load 3 (.tmp 46)) 3 45 false [46],
 og 48 (.call ⟨.value (.func 65), #[.tmp 47, .const (.int .i64 1), .const (.int .i64 1000000)], #[3, 3, 3]⟩) 4 45 false [47],
 og 49 (.unOp .not 4 (.tmp 48)) 4 45 false [48],
 oq 50 (.pick (.tmp 45) (.const (.bool true)) (.tmp 49)) 4 [45, 49]])
 (.cond (.tmp 50)
 (.seq
 (.reg [sn 4 94 28 []])
 .ret)
 .skip))
 (.seq
 (.seq
 (.dreg [fa 51 48 3 2 [],
 ld 52 3 51 [],
 mv 53 5 130 [],
 oq 54 (.call ⟨.value (.func 82), #[.tmp 53, .const (.int .i64 0), .const (.int .i64 0)], #[130, 3, 3]⟩) 3 [],
 mv 55 5 130 [],
 oq 56 (.call ⟨.value (.func 82), #[.tmp 55, .const (.int .i64 1), .const (.int .i64 0)], #[130, 3, 3]⟩) 3 [],
 oq 57 (.call ⟨.builtin .max, #[.tmp 54, .tmp 56], #[3, 3]⟩) 3 [],
 b2 58 .lss 3 52 57 3 4 [],
 mv 59 58 4 [],
 og 60 (.fieldAddr 48 (.tmp 3) 2) 0 59 false [],
 og 61 (.load 3 (.tmp 60)) 3 59 false [],
 og 62 (.move (.tmp 5)) 130 59 false [],
 og 63 (.fieldAddr 145 (.tmp 6) 1) 0 59 false [],
 og 64 (.load 3 (.tmp 63)) 3 59 false [],
 og 65 (.fieldAddr 145 (.tmp 6) 3) 0 59 false [],
 og 66 (.load 3 (.tmp 65)) 3 59 false [],
 og 67 (.call ⟨.value (.func 82), #[.tmp 62, .tmp 64, .tmp 66], #[130, 3, 3]⟩) 3 59 false [],
 og 68 (.binOp .leq 3 (.tmp 61) (.tmp 67) 3) 4 59 false [],
 oq 69 (.pick (.tmp 59) (.const (.bool true)) (.tmp 68)) 4 []] [[], [0], [], [2], [], [4, 2, 3], [2, 3, 4, 5], [0, 1, 2, 3, 4, 5, 6], [0, 1, 2, 3, 4, 5, 6, 7], [0, 1, 2, 3, 4, 5, 6, 7, 8], [0, 1, 2, 3, 4, 5, 6, 7, 8, 9], [0, 1, 2, 3, 4, 5, 6, 7, 8], [0, 1, 2, 3, 4, 5, 6, 7, 8], [0, 1, 2, 3, 4, 5, 6, 7, 8, 12], [0, 1, 2, 3, 4, 5, 6, 7, 8], [0, 1, 2, 3, 4, 5, 6, 7, 8, 14], [0, 1, 2, 3, 4, 5, 6, 7, 8, 11, 12, 13, 14, 15], [0, 1, 2, 3, 4, 5, 6, 7, 8, 9, 10, 11, 12, 13, 14, 15, 16], [0, 1, 2, 3, 4, 5, 6, 7, 8, 9, 10, 11, 12, 13, 14, 15, 16, 17]] [3, 5, 6, 51, 52, 53, 54, 55, 56, 57, 58, 59, 60, 61, 62, 63, 64, 65, 66, 67, 68])
 (.cond (.tmp 69)
 (.seq
 (.reg [sn 4 94 28 []])
 .ret)
 .skip))
 (.seq
 (.reg [sn 4 0 28 []])
 .ret)))))))
theorem F24.rs : Try.f24.results.toList = [.tmp 4] := rfl
def book_CheckLedger (k : Nat) (d0 : Disk) (l1 : Ledger) : Option (Int) :=
 (book_isDisk k d0).bind fun x1 =>
 bif (!x1) then
  some 94
 else
  (book_copyOf k d0).bind fun x4 =>
  (book_disk_sync k x4).bind fun x6 =>
  (book_disk_meant k (⟨(⟨x6.Disk.Pages, []⟩ : Disk)⟩ : book_disk)).bind fun x7 =>
  bif x7.2 then
   bif decide (l1.Area = x7.1.area) then
    bif decide (l1.Used = x7.1.used) then
     (slices_Equal_api_Record k l1.Book.Records x7.1.book.Records).bind fun x11 =>
     bif x11 then
      (book_isWithin k l1.Epoch 1 1000000).bind fun x13 =>
      bif (!x13) then
       some 94
      else
       (book_disk_epoch k (⟨(⟨x6.Disk.Pages, []⟩ : Disk)⟩ : book_disk) 0 0).bind fun x15 =>
       (book_disk_epoch k (⟨(⟨x6.Disk.Pages, []⟩ : Disk)⟩ : book_disk) 1 0).bind fun x16 =>
       bif (!decide (l1.Epoch < max x15 x16)) then
        (book_disk_epoch k (⟨(⟨x6.Disk.Pages, []⟩ : Disk)⟩ : book_disk) x7.1.area x7.1.used).bind fun x18 =>
        bif decide (l1.Epoch ≤ x18) then
         some 94
        else
         some 0
       else
        some 94
     else
      some 94
    else
     some 94
   else
    some 94
  else
   some 94
theorem book_CheckLedger_ok (k : Nat) (d0 : Disk) (l1 : Ledger) (r : Int) (h0 : book_CheckLedger k d0 l1 = some r) : PCall Try.prog 24 [.agg (Disk.c d0), .agg (Ledger.c l1)] (fun y => y = .int .i64 r) := by
 refine PB (fn := Try.f24) (sc := F24.c) ?_
 refine rS ?_
 simp only [book_CheckLedger] at h0
 try simp only [F24.c, go_sem]
 obtain ⟨x1, yx1, h0⟩ := bs h0
 refine zc0 (book_isDisk_ok k _ _ yx1) ?_ (by first | rfl | simp [AV.refsL, AV.refs, AV.scal, AV.leaf]) ?_
 try simp only [go_sem]
 try simp only [go_sem]
 refine AKev_bif h0 ?_ ?_ <;> intro c2 h0
 have c2 := bnot_t c2
 try simp only [c2, go_sem]
 obtain rfl := Option.some.inj h0
 refine AKev_ret rfl ?_
 try simp only [F24.rs, c2, go_sem]
 have c2 := bnot_f c2
 try simp only [c2, go_sem]
 obtain ⟨x4, yx4, h0⟩ := bs h0
 refine AKev_give T_ok 1000 [] [] (book_copyOf_ok k _ _ yx4) ?_ rfl ?_
 try simp only [gOK, c2, go_sem]
 try simp only [c2, go_sem]
 obtain ⟨x6, yx6, h0⟩ := bs h0
 refine AKev_norm [3, 10] [112, 113, 114, 16] 4 rfl ?_
 try simp only [c2, go_sem]
 refine AKev_mcall (book_disk_sync_ok k _ _ yx6) ?_ ?_
 try simp only [c2, go_sem]
 try simp only [List.take_succ_cons, List.drop_succ_cons, List.length_cons, List.length_nil, c2, go_sem]
 refine AK.weak (Weak.fz 1 rfl (fun _ h => by cases h)) ?_
 try simp only [c2, go_sem]
 refine AK.nlbox 0 1 65 rfl rfl ?_
 try simp only [c2, go_sem]
 refine AK.weak (Weak.fz 0 rfl (fun _ h => by cases h; rfl)) ?_
 try simp only [c2, go_sem]
 refine rS ?_
 try simp only [c2, go_sem]
 obtain ⟨x7, yx7, h0⟩ := bs h0
 refine zc0 (book_disk_meant_ok k _ _ yx7) ?_ (by first | rfl | simp [AV.refsL, AV.refs, AV.scal, AV.leaf]) ?_
 try simp only [c2, go_sem]
 try simp only [c2, go_sem]
 refine AKev_bif h0 ?_ ?_ <;> intro c8 h0
 try simp only [c8, c2, go_sem]
 refine AKev_bif h0 ?_ ?_ <;> intro c9 h0
 try simp only [c9, c2, c8, go_sem]
 refine AKev_bif h0 ?_ ?_ <;> intro c10 h0
 try simp only [c10, c2, c8, c9, go_sem]
 obtain ⟨x11, yx11, h0⟩ := bs h0
 refine zc0 (slices_Equal_api_Record_ok k _ _ _ yx11) ?_ (by first | rfl | simp [AV.refsL, AV.refs, AV.scal, AV.leaf]) ?_
 try simp only [c2, c8, c9, c10, go_sem]
 try simp only [c2, c8, c9, c10, go_sem]
 refine AKev_bif h0 ?_ ?_ <;> intro c12 h0
 try simp only [c12, c2, c8, c9, c10, go_sem]
 obtain ⟨x13, yx13, h0⟩ := bs h0
 refine zc0 (book_isWithin_ok k _ _ _ _ yx13) ?_ (by first | rfl | simp [AV.refsL, AV.refs, AV.scal, AV.leaf]) ?_
 try simp only [c2, c8, c9, c10, c12, go_sem]
 try simp only [c2, c8, c9, c10, c12, go_sem]
 refine AKev_bif h0 ?_ ?_ <;> intro c14 h0
 have c14 := bnot_t c14
 try simp only [c14, c2, c8, c9, c10, c12, go_sem]
 obtain rfl := Option.some.inj h0
 refine AKev_ret rfl ?_
 try simp only [F24.rs, c2, c8, c9, c10, c12, c14, go_sem]
 have c14 := bnot_f c14
 try simp only [c14, c2, c8, c9, c10, c12, go_sem]
 refine AKev_region T_ok follows_ok 1000 ?_
 try simp only [c2, c8, c9, c10, c12, c14, go_sem]
 obtain ⟨x15, yx15, h0⟩ := bs h0
 refine DG_call0 1000 (book_disk_epoch_ok k _ _ _ _ yx15) ?_ (by first | rfl | simp [AV.refsL, AV.refs, AV.scal, AV.leaf]) ?_
 try simp only [c2, c8, c9, c10, c12, c14, go_sem]
 try simp only [c2, c8, c9, c10, c12, c14, go_sem]
 obtain ⟨x16, yx16, h0⟩ := bs h0
 refine DG_call0 1000 (book_disk_epoch_ok k _ _ _ _ yx16) ?_ (by first | rfl | simp [AV.refsL, AV.refs, AV.scal, AV.leaf]) ?_
 try simp only [c2, c8, c9, c10, c12, c14, go_sem]
 try simp only [c2, c8, c9, c10, c12, c14, go_sem]
 refine DG_bif h0 ?_ ?_ <;> intro c17 h0
 have c17 := bnot_t c17
 try simp only [c17, c2, c8, c9, c10, c12, c14, go_sem]
 obtain ⟨x18, yx18, h0⟩ := bs h0
 refine DG_call0 1000 (book_disk_epoch_ok k _ _ _ _ yx18) ?_ (by first | rfl | simp [AV.refsL, AV.refs, AV.scal, AV.leaf]) ?_
 try simp only [c2, c8, c9, c10, c12, c14, c17, go_sem]
 try simp only [c2, c8, c9, c10, c12, c14, c17, go_sem]
 refine DG_done ⟨calm_of (by simp only [skel, List.reverse_cons, List.reverse_nil, List.nil_append, List.cons_append, List.map_cons, List.map_nil, List.append_nil]; rfl) (by first | decide +kernel | rfl), run_sound T_ok 1000 _ _ ?_⟩
 try simp only [c2, c8, c9, c10, c12, c14, c17, go_sem]
 refine AKev_bif h0 ?_ ?_ <;> intro c19 h0
 try simp only [c19, c2, c8, c9, c10, c12, c14, c17, go_sem]
 obtain rfl := Option.some.inj h0
 refine AKev_ret rfl ?_
 try simp only [F24.rs, c2, c8, c9, c10, c12, c14, c17, c19, go_sem]
 try simp only [c19, c2, c8, c9, c10, c12, c14, c17, go_sem]
 obtain rfl := Option.some.inj h0
 refine AKev_ret rfl ?_
 try simp only [F24.rs, c2, c8, c9, c10, c12, c14, c17, c19, go_sem]
 have c17 := bnot_f c17
 try simp only [c17, c2, c8, c9, c10, c12, c14, go_sem]
 refine DG_done ⟨calm_of (by simp only [skel, List.reverse_cons, List.reverse_nil, List.nil_append, List.cons_append, List.map_cons, List.map_nil, List.append_nil]; rfl) (by first | decide +kernel | rfl), run_sound T_ok 1000 _ _ ?_⟩
 try simp only [c2, c8, c9, c10, c12, c14, c17, go_sem]
 obtain rfl := Option.some.inj h0
 refine AKev_ret rfl ?_
 try simp only [F24.rs, c2, c8, c9, c10, c12, c14, c17, go_sem]
 try simp only [c12, c2, c8, c9, c10, go_sem]
 obtain rfl := Option.some.inj h0
 refine AKev_ret rfl ?_
 try simp only [F24.rs, c2, c8, c9, c10, c12, go_sem]
 try simp only [c10, c2, c8, c9, go_sem]
 obtain rfl := Option.some.inj h0
 refine AKev_ret rfl ?_
 try simp only [F24.rs, c2, c8, c9, c10, go_sem]
 try simp only [c9, c2, c8, go_sem]
 obtain rfl := Option.some.inj h0
 refine AKev_ret rfl ?_
 try simp only [F24.rs, c2, c8, c9, go_sem]
 try simp only [c8, c2, go_sem]
 obtain rfl := Option.some.inj h0
 refine AKev_ret rfl ?_
 try simp only [F24.rs, c2, c8, go_sem]
def F73.c : SC :=
 (.seq
 (.reg [oq 1 (.box 48 (.tmp 0)) 0 [0],
 oq 2 (.alloc 48) 0 []])
 (.seq
 (.reg [fa 3 48 1 0 [],
 ld 4 46 3 [3],
 cf1 5 96 4 46 46 [4],
 fa 6 48 1 0 [],
 ⟨none, .store 46 (.tmp 6) (.tmp 5), 0, none, [5, 6]⟩])
 (.seq
 (.reg [ld 7 48 1 [1],
 ⟨none, .store 48 (.tmp 2) (.tmp 7), 0, none, [7]⟩])
 .ret)))
theorem F73.rs : Try.f73.results.toList = [.cell 2 48] := rfl
def book_copyLedger (k : Nat) (l0 : Ledger) : Option (Ledger) :=
 (book_copied k l0.Book).bind fun x1 =>
 some (⟨x1, l0.Area, l0.Epoch, l0.Used⟩ : Ledger)
theorem book_copyLedger_ok (k : Nat) (l0 : Ledger) (r : Ledger) (h0 : book_copyLedger k l0 = some r) : PCall Try.prog 73 [.agg (Ledger.c l0)] (fun y => y = .agg (Ledger.c r)) := by
 refine PB (fn := Try.f73) (sc := F73.c) ?_
 refine rS ?_
 simp only [book_copyLedger] at h0
 try simp only [F73.c, go_sem]
 obtain ⟨x1, yx1, h0⟩ := bs h0
 refine zc0 (book_copied_ok k _ _ yx1) ?_ (by first | rfl | simp [AV.refsL, AV.refs, AV.scal, AV.leaf]) ?_
 try simp only [go_sem]
 try simp only [go_sem]
 obtain rfl := Option.some.inj h0
 refine AKev_ret rfl ?_
 try simp only [F73.rs, go_sem]
def F74.s1 : SC :=
 (.block 3
 (.seq
 (.reg [mv 37 2 3 [],
 mv 38 9 3 [],
 b2 39 .add 3 37 38 3 3 [37, 38],
 bn 40 .rem 3 39 2 3 3 [39],
 mv 41 3 124 [],
 mv 42 9 3 [],
 ia 43 124 41 42 [41, 42],
 ld 44 126 43 [43],
 ia 45 139 11 40 [40],
 ⟨none, .store 122 (.tmp 45) (.tmp 44), 0, none, [44, 45]⟩])
 (.seq
 (.reg [mv 46 9 3 [9],
 bn 47 .add 3 46 1 3 3 [46],
 sg 9 47 3 [47]])
 (.seq
 (.reg [mv 48 9 3 [],
 mv 49 3 124 [],
 ln 50 49 124 3 [49],
 b2 51 .eql 3 48 50 3 4 [48, 50],
 mv 52 51 4 [51],
 og 53 (.move (.tmp 2)) 3 52 false [],
 og 54 (.move (.tmp 9)) 3 52 false [],
 og 55 (.binOp .add 3 (.tmp 53) (.tmp 54) 3) 3 52 false [53, 54],
 og 56 (.binOp .rem 3 (.tmp 55) (.const (.int .i64 2)) 3) 3 52 false [55],
 og 57 (.binOp .eql 3 (.tmp 56) (.const (.int .i64 0)) 3) 4 52 false [56],
 oq 58 (.pick (.tmp 52) (.const (.bool true)) (.tmp 57)) 4 [52, 57]])
 (.cond (.tmp 58)
 (.exit 2)
 .skip)))))
def F74.s0 : SC :=
 (.seq
 (.seq
 (.reg [mv 18 9 3 [],
 mv 19 3 124 [],
 ln 20 19 124 3 [19],
 b2 21 .lss 3 18 20 3 4 [18, 20]])
 (.cond (.tmp 21)
 .skip
 (.exit 0)))
 (.block 1
 (.seq
 (.reg [mv 22 1 3 [],
 bn 23 .mul 3 22 301 3 3 [22],
 mv 24 2 3 [],
 mv 25 9 3 [],
 b2 26 .add 3 24 25 3 3 [24, 25],
 bn 27 .quo 3 26 2 3 3 [26],
 b2 28 .add 3 23 27 3 3 [23, 27],
 sg 10 28 3 [28]])
 (.seq
 (.reg [mv 29 8 130 [],
 oq 30 (.nilCheck (.tmp 29)) 0 [29],
 fa 31 134 30 0 [30],
 fa 32 42 31 0 [31],
 ld 33 39 32 [32],
 mv 34 10 3 [],
 ia 35 39 33 34 [33, 34],
 ld 36 139 35 [35],
 oq 11 (.alloc 139) 0 [],
 ⟨none, .store 139 (.tmp 11) (.tmp 36), 0, none, [36]⟩])
 (.seq
 (.block 2
 (.loop F74.s1))
 (.dreg [mv 59 0 130 [],
 mv 60 0 130 [],
 oq 61 (.nilCheck (.tmp 60)) 0 [],
 fa 62 134 61 0 [],
 fa 63 42 62 1 [],
 ld 64 40 63 [],
 mv 65 10 3 [],
 ld 66 139 11 [],
 oq 67 (.build 141 #[(0, .tmp 65), (1, .tmp 66)]) 141 [],
 oq 68 (.buildSlice 40 1 #[(0, .tmp 67)]) 40 [],
 oq 69 (.call ⟨.builtin .append, #[.tmp 64, .tmp 68], #[40, 40]⟩) 40 [],
 oq 70 (.nilCheck (.tmp 59)) 0 [],
 fa 71 134 70 0 [],
 fa 72 42 71 1 [],
 ⟨none, .store 40 (.tmp 72) (.tmp 69), 0, none, []⟩] [[], [], [1], [1, 2], [1, 2, 3], [1, 2, 3, 4], [], [], [6, 7], [6, 7, 8], [1, 2, 3, 4, 5, 6, 7, 8, 9], [0, 1, 2, 3, 4, 5, 6, 7, 8, 9, 10], [0, 1, 2, 3, 4, 5, 6, 7, 8, 9, 10, 11], [0, 1, 2, 3, 4, 5, 6, 7, 8, 9, 10, 11, 12], [0, 1, 2, 3, 4, 5, 6, 7, 8, 9, 10, 11, 12, 13]] [10, 11, 59, 60, 61, 62, 63, 64, 65, 66, 67, 68, 69, 70, 71, 72]))))))
def F74.c : SC :=
 (.seq
 (.reg [mv 12 0 130 [],
 oq 13 (.nilCheck (.tmp 12)) 0 [12],
 fa 14 134 13 0 [13],
 ld 15 42 14 [14],
 cf1 16 72 15 42 130 [15],
 cf1 17 79 16 130 130 [16],
 sg 8 17 130 [17]])
 (.seq
 (.reg [sn 9 0 3 []])
 (.block 0
 (.loop F74.s0))))
theorem F74.rs : Try.f74.results.toList = [] := rfl
def book_disk_write.b1 (k : Nat) (from2 : Int) (l3 : (List (Vec 32 Int))) : ((Vec 2 (Vec 32 Int)) × Int) → Option (Stp ((Vec 2 (Vec 32 Int)) × Int) ((Vec 2 (Vec 32 Int)) × Int) (book_disk)) := fun (s : (Vec 2 (Vec 32 Int)) × Int) => match s with
 | (s10, i11) =>
   (at? l3 i11).bind fun x14 =>
   (s10.at? (Int.tmod (w64 (from2 + i11)) 2)).bind fun x15 =>
   bif (!decide (w64 (i11 + 1) = (l3.length : Int))) then
    bif decide (Int.tmod (w64 (from2 + (w64 (i11 + 1)))) 2 = (0 : Int)) then
     some (.brk (s10.set (Int.tmod (w64 (from2 + i11)) 2) x14, w64 (i11 + 1)))
    else
     some (.next (s10.set (Int.tmod (w64 (from2 + i11)) 2) x14, w64 (i11 + 1)))
   else
    some (.brk (s10.set (Int.tmod (w64 (from2 + i11)) 2) x14, w64 (i11 + 1)))
def book_disk_write.b0 (k : Nat) (area1 : Int) (from2 : Int) (l3 : (List (Vec 32 Int))) (x4 : book_disk) : (Int × (List Write)) → Option (Stp (Int × (List Write)) ((List Write)) (book_disk)) := fun (s : Int × (List Write)) => match s with
 | (i5, l6) =>
   bif decide (i5 < (l3.length : Int)) then
    (at? x4.Disk.Pages (w64 ((w64 (area1 * 301)) + (w64 (Int.tdiv (w64 (from2 + i5)) 2))))).bind fun x9 =>
    (whl (book_disk_write.b1 k from2 l3) k (x9, i5)).bind fun r19 => match r19 with
    | .next _ => none
    | .ret v_ => some (.ret v_)
    | .brk (s12, i13) =>
     (push? 72 l6 (⟨w64 ((w64 (area1 * 301)) + (w64 (Int.tdiv (w64 (from2 + i5)) 2))), s12⟩ : Write)).bind fun l20 =>
     some (.next (i13, l20))
   else
    some (.brk l6)
noncomputable def book_disk_write.h1 (f1 : Fra) (H : Heap) (d0 : book_disk) (area1 : Int) (from2 : Int) (l3 : (List (Vec 32 Int))) (x4 : book_disk) (i5 : Int) (l6 : (List Write)) : ((Vec 2 (Vec 32 Int)) × Int) → St := fun (s : (Vec 2 (Vec 32 Int)) × Int) => match s with
 | (s10, i11) => ⟨[(0, .ptr 1 0 0), (1, .int .i64 area1), (2, .int .i64 from2), (3, .sl 32 (List.map (Vec.c (n := 32) eU8) l3)), (8, .ptr 0 0 0), (9, .int .i64 i11), (10, .int .i64 (w64 ((w64 (area1 * 301)) + (w64 (Int.tdiv (w64 (from2 + i5)) 2))))), (11, .ptr 0 2 0)], [(0, .box ([.loc 0 1 64 0 x4.Disk.Pages.length x4.Disk.Pages.length, .nil])), (1, .arr 139 64 (List.map (Vec.c (n := 2) (Vec.c (n := 32) eU8)) x4.Disk.Pages)), (2, .box (Vec.c (n := 2) (Vec.c (n := 32) eU8) s10))], ((0, .box ([.loc 0 1 64 0 d0.Disk.Pages.length d0.Disk.Pages.length, .loc 0 2 65 0 l6.length l6.length])) :: (1, .arr 139 64 (List.map (Vec.c (n := 2) (Vec.c (n := 32) eU8)) d0.Disk.Pages)) :: (2, .arr 141 65 (List.map Write.c l6)) :: f1) :: H, 3, Try.f74.ntmps⟩
noncomputable def book_disk_write.x1 (f1 : Fra) (H : Heap) (d0 : book_disk) (area1 : Int) (from2 : Int) (l3 : (List (Vec 32 Int))) (x4 : book_disk) (i5 : Int) (l6 : (List Write)) : ((Vec 2 (Vec 32 Int)) × Int) → St := fun (s : (Vec 2 (Vec 32 Int)) × Int) => match s with
 | (s12, i13) => ⟨[(0, .ptr 1 0 0), (1, .int .i64 area1), (2, .int .i64 from2), (3, .sl 32 (List.map (Vec.c (n := 32) eU8) l3)), (8, .ptr 0 0 0), (9, .int .i64 i13), (10, .int .i64 (w64 ((w64 (area1 * 301)) + (w64 (Int.tdiv (w64 (from2 + i5)) 2))))), (11, .ptr 0 2 0)], [(0, .box ([.loc 0 1 64 0 x4.Disk.Pages.length x4.Disk.Pages.length, .nil])), (1, .arr 139 64 (List.map (Vec.c (n := 2) (Vec.c (n := 32) eU8)) x4.Disk.Pages)), (2, .box (Vec.c (n := 2) (Vec.c (n := 32) eU8) s12))], ((0, .box ([.loc 0 1 64 0 d0.Disk.Pages.length d0.Disk.Pages.length, .loc 0 2 65 0 l6.length l6.length])) :: (1, .arr 139 64 (List.map (Vec.c (n := 2) (Vec.c (n := 32) eU8)) d0.Disk.Pages)) :: (2, .arr 141 65 (List.map Write.c l6)) :: f1) :: H, 3, Try.f74.ntmps⟩
noncomputable def book_disk_write.h0 (f1 : Fra) (H : Heap) (d0 : book_disk) (area1 : Int) (from2 : Int) (l3 : (List (Vec 32 Int))) (x4 : book_disk) : (Int × (List Write)) → St := fun (s : Int × (List Write)) => match s with
 | (i5, l6) => ⟨[(0, .ptr 1 0 0), (1, .int .i64 area1), (2, .int .i64 from2), (3, .sl 32 (List.map (Vec.c (n := 32) eU8) l3)), (8, .ptr 0 0 0), (9, .int .i64 i5)], [(0, .box ([.loc 0 1 64 0 x4.Disk.Pages.length x4.Disk.Pages.length, .nil])), (1, .arr 139 64 (List.map (Vec.c (n := 2) (Vec.c (n := 32) eU8)) x4.Disk.Pages))], ((0, .box ([.loc 0 1 64 0 d0.Disk.Pages.length d0.Disk.Pages.length, .loc 0 2 65 0 l6.length l6.length])) :: (1, .arr 139 64 (List.map (Vec.c (n := 2) (Vec.c (n := 32) eU8)) d0.Disk.Pages)) :: (2, .arr 141 65 (List.map Write.c l6)) :: f1) :: H, 2, Try.f74.ntmps⟩
noncomputable def book_disk_write.x0 (f1 : Fra) (H : Heap) (d0 : book_disk) : (List Write) → St := fun (l7 : (List Write)) => ⟨[], [], ((0, .box ([.loc 0 1 64 0 d0.Disk.Pages.length d0.Disk.Pages.length, .loc 0 2 65 0 l7.length l7.length])) :: (1, .arr 139 64 (List.map (Vec.c (n := 2) (Vec.c (n := 32) eU8)) d0.Disk.Pages)) :: (2, .arr 141 65 (List.map Write.c l7)) :: f1) :: H, 1, Try.f74.ntmps⟩
def book_disk_write (k : Nat) (d0 : book_disk) (area1 : Int) (from2 : Int) (l3 : (List (Vec 32 Int))) : Option (book_disk) :=
 (book_copyOf k d0.Disk).bind fun x2 =>
 (book_disk_sync k x2).bind fun x4 =>
 (whl (book_disk_write.b0 k area1 from2 l3 x4) k (0, d0.Disk.Wait)).bind fun r21 => match r21 with
 | .next _ => none
 | .ret v_ => some v_
 | .brk l7 =>
  some (⟨(⟨d0.Disk.Pages, l7⟩ : Disk)⟩ : book_disk)
theorem book_disk_write_ok (k : Nat) (d0 : book_disk) (area1 : Int) (from2 : Int) (l3 : (List (Vec 32 Int))) (r : book_disk) (h0 : book_disk_write k d0 area1 from2 l3 = some r) : MCall Try.prog 74 [.ptr 1 0 0, .int .i64 area1, .int .i64 from2, .sl 32 (List.map (Vec.c (n := 32) eU8) l3)] [(0, .box ([.loc 0 1 64 0 d0.Disk.Pages.length d0.Disk.Pages.length, .loc 0 2 65 0 d0.Disk.Wait.length d0.Disk.Wait.length])), (1, .arr 139 64 (List.map (Vec.c (n := 2) (Vec.c (n := 32) eU8)) d0.Disk.Pages)), (2, .arr 141 65 (List.map Write.c d0.Disk.Wait))] (fun y fr X' => y = .tup [] ∧ fr = [] ∧ X' = [(0, .box ([.loc 0 1 64 0 r.Disk.Pages.length r.Disk.Pages.length, .loc 0 2 65 0 r.Disk.Wait.length r.Disk.Wait.length])), (1, .arr 139 64 (List.map (Vec.c (n := 2) (Vec.c (n := 32) eU8)) r.Disk.Pages)), (2, .arr 141 65 (List.map Write.c r.Disk.Wait))]) := by
 refine MCall.of_body T_ok (fn := Try.f74) (sc := F74.c) (by rfl) (by rfl) (by decide +kernel) (by rfl) (by decide +kernel) (Nat.le_of_ble_eq_true rfl) (fun f1 H => ?_)
 refine rS ?_
 simp only [List.cons_append, List.nil_append]
 simp only [book_disk_write] at h0
 try simp only [F74.c, go_sem]
 obtain ⟨x2, yx2, h0⟩ := bs h0
 refine AKev_glent T_ok 1000 (book_copyOf_ok k _ _ yx2) ?_ rfl ⟨(by simp [Blk.lo, AV.lo]), Lf.map (Lf.vec (Lf.vec lf_u8)) _, Lf.map lf_Write _, trivial⟩ ?_
 try simp only [boxF, go_sem]
 try simp only [go_sem]
 obtain ⟨x4, yx4, h0⟩ := bs h0
 refine AKev_norm [0, 1, 2, 3] [64, 65, 66] 3 rfl ?_
 try simp only [go_sem]
 refine AKev_mcall (book_disk_sync_ok k _ _ yx4) ?_ ?_
 try simp only [go_sem]
 try simp only [List.take_succ_cons, List.drop_succ_cons, List.length_cons, List.length_nil, go_sem]
 refine rS ?_
 try simp only [go_sem]
 obtain ⟨r21, yr21, h0⟩ := bs h0
 refine AKev_loopS yr21 (book_disk_write.h0 f1 H d0 area1 from2 l3 x4) (book_disk_write.x0 f1 H d0) ?_ ?_ ?_
 refine Weak.go [0, 1, 2, 3, 8, 9] [0, 1] rfl ?_
 try simp only [book_disk_write.h0, go_sem]
 repeat' (first | exact NL.refl _ | exact NL.nil _ | exact NLs.refl _ | exact NLs.nil | exact NLss.refl _ | exact NLss.nil | exact NLT.nil | exact NLF.nil | refine NLT.cons _ _ _ _ _ ?_ ?_ | refine NLF.cons _ _ _ _ _ ?_ ?_ | refine NLB.box _ _ ?_ | refine NLB.arr _ _ _ _ ?_ | refine NLs.cons ?_ ?_ | refine NL.aggs ?_ | refine NL.tups ?_ | refine NL.sls ?_ | refine NLss.append ?_ ?_ | refine NLss.cons ?_ ?_ | refine And.intro ?_ ?_ | rfl)
 rintro ⟨i5, l6⟩ x_1 Bk1 Br1 h1 hnext1 hbrk1 hret1
 refine rS ?_
 simp only [book_disk_write.b0] at h1
 try simp only [F74.s0, book_disk_write.h0, go_sem]
 refine AKev_bif h1 ?_ ?_ <;> intro c8 h1
 try simp only [c8, go_sem]
 obtain ⟨x9, yx9, h1⟩ := bs h1
 try simp only [at_in yx9, at_get (Vec.c (n := 2) (Vec.c (n := 32) eU8)) yx9, c8, go_sem]
 obtain ⟨r19, yr19, h1⟩ := bs h1
 refine AKev_loopS yr19 (book_disk_write.h1 f1 H d0 area1 from2 l3 x4 i5 l6) (book_disk_write.x1 f1 H d0 area1 from2 l3 x4 i5 l6) ?_ ?_ ?_
 refine Weak.go [0, 1, 2, 3, 8, 9, 10, 11] [0, 1, 322] rfl ?_
 try simp only [book_disk_write.h1, c8, at_in yx9, at_get (Vec.c (n := 2) (Vec.c (n := 32) eU8)) yx9, go_sem]
 repeat' (first | exact NL.refl _ | exact NL.nil _ | exact NLs.refl _ | exact NLs.nil | exact NLss.refl _ | exact NLss.nil | exact NLT.nil | exact NLF.nil | refine NLT.cons _ _ _ _ _ ?_ ?_ | refine NLF.cons _ _ _ _ _ ?_ ?_ | refine NLB.box _ _ ?_ | refine NLB.arr _ _ _ _ ?_ | refine NLs.cons ?_ ?_ | refine NL.aggs ?_ | refine NL.tups ?_ | refine NL.sls ?_ | refine NLss.append ?_ ?_ | refine NLss.cons ?_ ?_ | refine And.intro ?_ ?_ | rfl)
 rintro ⟨s10, i11⟩ x_2 Bk2 Br2 h2 hnext2 hbrk2 hret2
 refine rS ?_
 simp only [book_disk_write.b1] at h2
 try simp only [F74.s1, book_disk_write.h1, c8, at_in yx9, at_get (Vec.c (n := 2) (Vec.c (n := 32) eU8)) yx9, go_sem]
 obtain ⟨x14, yx14, h2⟩ := bs h2
 try simp only [aa yx14, c8, at_in yx9, at_get (Vec.c (n := 2) (Vec.c (n := 32) eU8)) yx9, go_sem]
 obtain ⟨x15, yx15, h2⟩ := bs h2
 have uyx15 := UpdE.at (fun q_ => ((VK.vec vk_u8 32).len q_ : ((Vec.c (n := 32) eU8) q_).length = 32)) (UpdE.self (fun q_ => ((VK.vec (VK.vec vk_u8 32) 2).len q_ : (Vec.c (n := 2) (Vec.c (n := 32) eU8) q_).length = 64)) s10) yx15
 have buyx15 := uyx15.bound (fun q_ => ((VK.vec vk_u8 32).len q_ : ((Vec.c (n := 32) eU8) q_).length = 32))
 have guyx15 := uyx15.get (fun q_ => ((VK.vec vk_u8 32).len q_ : ((Vec.c (n := 32) eU8) q_).length = 32))
 try simp only [List.length_cons, List.length_nil, go_sem] at buyx15 guyx15
 have q16 := uyx15.ow x14
 try simp only [List.length_cons, List.length_nil, go_sem] at q16
 try simp only [vat_in yx15, buyx15, guyx15, q16, c8, at_in yx9, at_get (Vec.c (n := 2) (Vec.c (n := 32) eU8)) yx9, aa yx14, go_sem]
 refine AKev_bif h2 ?_ ?_ <;> intro c17 h2
 have c17 := bnot_t c17
 try simp only [c17, c8, at_in yx9, at_get (Vec.c (n := 2) (Vec.c (n := 32) eU8)) yx9, aa yx14, vat_in yx15, buyx15, guyx15, go_sem]
 refine AKev_bif h2 ?_ ?_ <;> intro c18 h2
 try simp only [c18, c8, at_in yx9, at_get (Vec.c (n := 2) (Vec.c (n := 32) eU8)) yx9, aa yx14, vat_in yx15, buyx15, guyx15, c17, go_sem]
 refine AKev_backB (hbrk2 _ _ (Option.some.inj h2).symm ?_)
 refine Weak.go [0, 1, 2, 3, 8, 9, 10, 11] [0, 1, 2] rfl ?_
 try simp only [book_disk_write.x1, c8, at_in yx9, at_get (Vec.c (n := 2) (Vec.c (n := 32) eU8)) yx9, aa yx14, vat_in yx15, buyx15, guyx15, c17, c18, go_sem]
 repeat' (first | exact NL.refl _ | exact NL.nil _ | exact NLs.refl _ | exact NLs.nil | exact NLss.refl _ | exact NLss.nil | exact NLT.nil | exact NLF.nil | refine NLT.cons _ _ _ _ _ ?_ ?_ | refine NLF.cons _ _ _ _ _ ?_ ?_ | refine NLB.box _ _ ?_ | refine NLB.arr _ _ _ _ ?_ | refine NLs.cons ?_ ?_ | refine NL.aggs ?_ | refine NL.tups ?_ | refine NL.sls ?_ | refine NLss.append ?_ ?_ | refine NLss.cons ?_ ?_ | refine And.intro ?_ ?_ | rfl)
 try simp only [c18, c8, at_in yx9, at_get (Vec.c (n := 2) (Vec.c (n := 32) eU8)) yx9, aa yx14, vat_in yx15, buyx15, guyx15, c17, go_sem]
 refine AKev_backB (hnext2 _ _ (Option.some.inj h2).symm ?_)
 refine Weak.go [0, 1, 2, 3, 8, 9, 10, 11] [0, 1, 2] rfl ?_
 try simp only [book_disk_write.h1, c8, at_in yx9, at_get (Vec.c (n := 2) (Vec.c (n := 32) eU8)) yx9, aa yx14, vat_in yx15, buyx15, guyx15, c17, c18, go_sem]
 repeat' (first | exact NL.refl _ | exact NL.nil _ | exact NLs.refl _ | exact NLs.nil | exact NLss.refl _ | exact NLss.nil | exact NLT.nil | exact NLF.nil | refine NLT.cons _ _ _ _ _ ?_ ?_ | refine NLF.cons _ _ _ _ _ ?_ ?_ | refine NLB.box _ _ ?_ | refine NLB.arr _ _ _ _ ?_ | refine NLs.cons ?_ ?_ | refine NL.aggs ?_ | refine NL.tups ?_ | refine NL.sls ?_ | refine NLss.append ?_ ?_ | refine NLss.cons ?_ ?_ | refine And.intro ?_ ?_ | rfl)
 have c17 := bnot_f c17
 try simp only [c17, c8, at_in yx9, at_get (Vec.c (n := 2) (Vec.c (n := 32) eU8)) yx9, aa yx14, vat_in yx15, buyx15, guyx15, go_sem]
 refine AKev_backB (hbrk2 _ _ (Option.some.inj h2).symm ?_)
 refine Weak.go [0, 1, 2, 3, 8, 9, 10, 11] [0, 1, 2] rfl ?_
 try simp only [book_disk_write.x1, c8, at_in yx9, at_get (Vec.c (n := 2) (Vec.c (n := 32) eU8)) yx9, aa yx14, vat_in yx15, buyx15, guyx15, c17, go_sem]
 repeat' (first | exact NL.refl _ | exact NL.nil _ | exact NLs.refl _ | exact NLs.nil | exact NLss.refl _ | exact NLss.nil | exact NLT.nil | exact NLF.nil | refine NLT.cons _ _ _ _ _ ?_ ?_ | refine NLF.cons _ _ _ _ _ ?_ ?_ | refine NLB.box _ _ ?_ | refine NLB.arr _ _ _ _ ?_ | refine NLs.cons ?_ ?_ | refine NL.aggs ?_ | refine NL.tups ?_ | refine NL.sls ?_ | refine NLss.append ?_ ?_ | refine NLss.cons ?_ ?_ | refine And.intro ?_ ?_ | rfl)
 rintro ⟨s12, i13⟩ hr_
 subst hr_
 simp only at h1
 refine rS ?_
 try simp only [book_disk_write.x1, c8, at_in yx9, at_get (Vec.c (n := 2) (Vec.c (n := 32) eU8)) yx9, go_sem]
 refine AKev_region T_ok follows_ok 1000 ?_
 try simp only [c8, at_in yx9, at_get (Vec.c (n := 2) (Vec.c (n := 32) eU8)) yx9, go_sem]
 obtain ⟨l20, yl20, h1⟩ := bs h1
 have eyl20 := push_map Write.c yl20
 have tyl20 := push_take Write.c yl20
 have nyl20 := push_len yl20
 have myl20 := push_room yl20
 try simp only [c8, at_in yx9, at_get (Vec.c (n := 2) (Vec.c (n := 32) eU8)) yx9, go_sem] at eyl20 tyl20 nyl20 myl20
 try simp only [myl20, eyl20, c8, at_in yx9, at_get (Vec.c (n := 2) (Vec.c (n := 32) eU8)) yx9, nyl20, tyl20, go_sem]
 refine DG_done ⟨calm_of (by simp only [skel, List.reverse_cons, List.reverse_nil, List.nil_append, List.cons_append, List.map_cons, List.map_nil, List.append_nil]; rfl) (by first | decide +kernel | rfl), run_sound T_ok 1000 _ _ ?_⟩
 try simp only [c8, at_in yx9, at_get (Vec.c (n := 2) (Vec.c (n := 32) eU8)) yx9, eyl20, nyl20, tyl20, go_sem]
 refine AKev_backB (hnext1 _ _ (Option.some.inj h1).symm ?_)
 refine Weak.go [0, 1, 2, 3, 8, 9] [0, 1] rfl ?_
 try simp only [book_disk_write.h0, c8, at_in yx9, at_get (Vec.c (n := 2) (Vec.c (n := 32) eU8)) yx9, eyl20, nyl20, tyl20, go_sem]
 repeat' (first | exact NL.refl _ | exact NL.nil _ | exact NLs.refl _ | exact NLs.nil | exact NLss.refl _ | exact NLss.nil | exact NLT.nil | exact NLF.nil | refine NLT.cons _ _ _ _ _ ?_ ?_ | refine NLF.cons _ _ _ _ _ ?_ ?_ | refine NLB.box _ _ ?_ | refine NLB.arr _ _ _ _ ?_ | refine NLs.cons ?_ ?_ | refine NL.aggs ?_ | refine NL.tups ?_ | refine NL.sls ?_ | refine NLss.append ?_ ?_ | refine NLss.cons ?_ ?_ | refine And.intro ?_ ?_ | rfl)
 try simp only [c8, go_sem]
 refine AKev_backB (hbrk1 _ _ (Option.some.inj h1).symm ?_)
 refine Weak.go [] [] rfl ?_
 try simp only [book_disk_write.x0, c8, go_sem]
 rintro l7 hr_
 subst hr_
 simp only at h0
 refine rS ?_
 try simp only [book_disk_write.x0, go_sem]
 obtain rfl := Option.some.inj h0
 refine AKev_mret (by simp) ?_ ?_
 try simp only [F74.rs, tupOf, Option.bind_some, go_sem]
 try simp only [List.cons_append, List.nil_append, go_sem]
def F20.c : SC :=
 (.seq
 (.reg [oq 3 (.box 42 (.tmp 0)) 0 [0],
 oq 4 (.box 48 (.tmp 1)) 0 [1],
 oq 5 (.box 25 (.tmp 2)) 0 [2],
 oq 6 (.alloc 42) 0 [],
 oq 7 (.alloc 48) 0 [],
 sn 8 0 28 [8]])
 (.seq
 (.seq
 (.reg [ld 15 42 3 [],
 ld 16 48 4 [],
 cf2 17 24 15 16 42 48 28 [15, 16],
 sg 9 17 28 [17]])
 (.seq
 (.reg [mv 18 9 28 [],
 bn 19 .neq 28 18 0 28 4 [18]])
 (.cond (.tmp 19)
 (.seq
 (.reg [oq 20 (.build 42 #[]) 42 [],
 oq 21 (.build 48 #[]) 48 [],
 mv 22 9 28 [9],
 ⟨none, .store 42 (.tmp 6) (.tmp 20), 0, none, [20]⟩,
 ⟨none, .store 48 (.tmp 7) (.tmp 21), 0, none, [21]⟩,
 sg 8 22 28 [22]])
 .ret)
 .skip)))
 (.seq
 (.reg [fa 24 48 4 0 [],
 ld 25 46 24 [24],
 ld 26 25 5 [],
 cf2 27 71 25 26 46 25 73 [25, 26],
 mv 23 27 73 [27],
 xt 28 23 0 46 [],
 xt 29 23 1 28 [23],
 oq 10 (.alloc 46) 0 [],
 ⟨none, .store 46 (.tmp 10) (.tmp 28), 0, none, [28]⟩,
 sg 11 29 28 [29]])
 (.seq
 (.seq
 (.reg [mv 30 11 28 [],
 bn 31 .neq 28 30 0 28 4 [30]])
 (.cond (.tmp 31)
 (.seq
 (.reg [oq 32 (.build 42 #[]) 42 [],
 oq 33 (.build 48 #[]) 48 [],
 mv 34 11 28 [11],
 ⟨none, .store 42 (.tmp 6) (.tmp 32), 0, none, [32]⟩,
 ⟨none, .store 48 (.tmp 7) (.tmp 33), 0, none, [33]⟩,
 sg 8 34 28 [34]])
 .ret)
 .skip))
 (.seq
 (.reg [ld 35 42 3 [3],
 cf1 36 72 35 42 130 [35],
 sg 12 36 130 [36]])
 (.seq
 (.reg [ld 37 48 4 [],
 cf1 38 73 37 48 48 [37],
 oq 13 (.alloc 48) 0 [],
 ⟨none, .store 48 (.tmp 13) (.tmp 38), 0, none, [38]⟩])
 (.seq
 (.seq
 (.reg [fa 39 46 10 0 [],
 ld 40 44 39 [39],
 ln 41 40 44 3 [40],
 fa 42 48 4 0 [],
 fa 43 46 42 0 [42],
 ld 44 44 43 [43],
 ln 45 44 44 3 [44],
 b2 46 .eql 3 41 45 3 4 [41, 45]])
 (.cond (.tmp 46)
 (.seq
 (.dreg [mv 47 12 130 [],
 oq 48 (.nilCheck (.tmp 47)) 0 [],
 fa 49 134 48 0 [],
 ld 50 42 49 [],
 ld 51 48 13 [],
 ⟨none, .store 42 (.tmp 6) (.tmp 50), 0, none, []⟩,
 ⟨none, .store 48 (.tmp 7) (.tmp 51), 0, none, []⟩,
 sn 8 0 28 []] [[], [0], [0, 1], [0, 1, 2], [], [0, 1, 2, 3], [4, 0, 1, 2, 3, 5], [4, 0, 1, 2, 3, 5, 6]] [12, 13, 47, 48, 49, 50, 51])
 .ret)
 .skip))
 (.seq
 (.reg [ld 52 25 5 [5],
 fa 53 48 4 0 [],
 fa 54 46 53 0 [53],
 ld 55 44 54 [54],
 ln 56 55 44 3 [55],
 fa 57 48 4 2 [],
 ld 58 3 57 [57],
 oq 59 (.call ⟨.value (.func 66), #[.tmp 52, .tmp 56, .tmp 58], #[25, 3, 3]⟩) 124 [52, 56, 58],
 sg 14 59 124 [59]])
 (.seq
 (.seq
 (.reg [fa 60 48 4 3 [],
 ld 61 3 60 [60],
 mv 62 14 124 [],
 ln 63 62 124 3 [62],
 b2 64 .add 3 61 63 3 3 [61, 63],
 bn 65 .gtr 3 64 602 3 4 [64]])
 (.cond (.tmp 65)
 (.seq
 (.reg [oq 66 (.build 42 #[]) 42 [],
 oq 67 (.build 48 #[]) 48 [],
 ⟨none, .store 42 (.tmp 6) (.tmp 66), 0, none, [66]⟩,
 ⟨none, .store 48 (.tmp 7) (.tmp 67), 0, none, [67]⟩,
 sn 8 2 28 []])
 .ret)
 .skip))
 (.seq
 (.reg [mv 68 12 130 [],
 fa 69 48 4 1 [],
 ld 70 3 69 [69],
 fa 71 48 4 3 [],
 ld 72 3 71 [71],
 mv 73 14 124 [],
 oq 74 (.call ⟨.value (.func 74), #[.tmp 68, .tmp 70, .tmp 72, .tmp 73], #[130, 3, 3, 124]⟩) 0 [68, 70, 72, 73, 74]])
 (.seq
 (.seq
 (.reg [mv 75 12 130 [],
 oq 76 (.nilCheck (.tmp 75)) 0 [75],
 fa 77 134 76 0 [76],
 fa 78 42 77 1 [77],
 ld 79 40 78 [78],
 ln 80 79 40 3 [79],
 bn 81 .gtr 3 80 1200 3 4 [80]])
 (.cond (.tmp 81)
 (.seq
 (.reg [oq 82 (.build 42 #[]) 42 [],
 oq 83 (.build 48 #[]) 48 [],
 ⟨none, .store 42 (.tmp 6) (.tmp 82), 0, none, [82]⟩,
 ⟨none, .store 48 (.tmp 7) (.tmp 83), 0, none, [83]⟩,
 sn 8 2 28 []])
 .ret)
 .skip))
 (.seq
 (.dreg [ld 84 46 10 [],
 fa 85 48 4 3 [],
 ld 86 3 85 [],
 mv 87 14 124 [],
 ln 88 87 124 3 [],
 b2 89 .add 3 86 88 3 3 [],
 fa 90 48 13 0 [],
 ⟨none, .store 46 (.tmp 90) (.tmp 84), 0, none, []⟩,
 fa 91 48 13 3 [],
 ⟨none, .store 3 (.tmp 91) (.tmp 89), 0, none, []⟩] [[], [], [1], [], [3], [1, 2, 3, 4], [0], [0, 6], [0, 1, 2, 3, 4, 5, 6, 7], [0, 1, 2, 3, 4, 5, 6, 7, 8]] [4, 10, 14, 84, 85, 86, 87, 88, 89, 90, 91])
 (.seq
 (.dreg [mv 92 12 130 [],
 oq 93 (.nilCheck (.tmp 92)) 0 [],
 fa 94 134 93 0 [],
 ld 95 42 94 [],
 ld 96 48 13 [],
 ⟨none, .store 42 (.tmp 6) (.tmp 95), 0, none, []⟩,
 ⟨none, .store 48 (.tmp 7) (.tmp 96), 0, none, []⟩,
 sn 8 0 28 []] [[], [0], [0, 1], [0, 1, 2], [], [0, 1, 2, 3], [4, 0, 1, 2, 3, 5], [4, 0, 1, 2, 3, 5, 6]] [12, 13, 92, 93, 94, 95, 96])
 .ret)))))))))))))
theorem F20.rs : Try.f20.results.toList = [.cell 6 42, .cell 7 48, .tmp 8] := rfl
def book_Append (k : Nat) (d0 : Disk) (l1 : Ledger) (r2 : Record) : Option (Disk × Ledger × Int) :=
 (book_CheckLedger k d0 l1).bind fun x1 =>
 bif (!decide (x1 = (0 : Int))) then
  some ((⟨[], []⟩ : Disk), (⟨(⟨[]⟩ : Book), 0, 0, 0⟩ : Ledger), x1)
 else
  (book_added k l1.Book r2).bind fun x3 =>
  bif (!decide (x3.2 = (0 : Int))) then
   some ((⟨[], []⟩ : Disk), (⟨(⟨[]⟩ : Book), 0, 0, 0⟩ : Ledger), x3.2)
  else
   (book_copyOf k d0).bind fun x6 =>
   (book_copyLedger k l1).bind fun x7 =>
   bif decide ((x3.1.Records.length : Int) = (l1.Book.Records.length : Int)) then
    some (x6.Disk, x7, 0)
   else
    (book_parts k r2 (l1.Book.Records.length : Int) l1.Epoch).bind fun x9 =>
    bif decide ((602 : Int) < w64 (l1.Used + (x9.length : Int))) then
     some ((⟨[], []⟩ : Disk), (⟨(⟨[]⟩ : Book), 0, 0, 0⟩ : Ledger), 2)
    else
     (book_disk_write k x6 l1.Area l1.Used x9).bind fun x12 =>
     bif decide ((1200 : Int) < ((x12.Disk.Wait.length : Nat) : Int)) then
      some ((⟨[], []⟩ : Disk), (⟨(⟨[]⟩ : Book), 0, 0, 0⟩ : Ledger), 2)
     else
      some (x12.Disk, (⟨x3.1, x7.Area, x7.Epoch, w64 (l1.Used + (x9.length : Int))⟩ : Ledger), 0)
theorem book_Append_ok (k : Nat) (d0 : Disk) (l1 : Ledger) (r2 : Record) (r : Disk × Ledger × Int) (h0 : book_Append k d0 l1 r2 = some r) : PCall Try.prog 20 [.agg (Disk.c d0), .agg (Ledger.c l1), .agg (Record.c r2)] (fun y => y = .tup [.agg (Disk.c r.1), .agg (Ledger.c r.2.1), .int .i64 r.2.2]) := by
 refine PB (fn := Try.f20) (sc := F20.c) ?_
 refine rS ?_
 simp only [book_Append] at h0
 try simp only [F20.c, go_sem]
 obtain ⟨x1, yx1, h0⟩ := bs h0
 refine zc0 (book_CheckLedger_ok k _ _ _ yx1) ?_ (by first | rfl | simp [AV.refsL, AV.refs, AV.scal, AV.leaf]) ?_
 try simp only [go_sem]
 try simp only [go_sem]
 refine AKev_bif h0 ?_ ?_ <;> intro c2 h0
 have c2 := bnot_t c2
 try simp only [c2, go_sem]
 obtain rfl := Option.some.inj h0
 refine AKev_ret rfl ?_
 try simp only [F20.rs, c2, go_sem]
 have c2 := bnot_f c2
 try simp only [c2, go_sem]
 obtain ⟨x3, yx3, h0⟩ := bs h0
 refine zc0 (book_added_ok k _ _ _ yx3) ?_ (by first | rfl | simp [AV.refsL, AV.refs, AV.scal, AV.leaf]) ?_
 try simp only [c2, go_sem]
 try simp only [c2, go_sem]
 refine AKev_bif h0 ?_ ?_ <;> intro c4 h0
 have c4 := bnot_t c4
 try simp only [c4, c2, go_sem]
 obtain rfl := Option.some.inj h0
 refine AKev_ret rfl ?_
 try simp only [F20.rs, c2, c4, go_sem]
 have c4 := bnot_f c4
 try simp only [c4, c2, go_sem]
 obtain ⟨x6, yx6, h0⟩ := bs h0
 refine AKev_give T_ok 1000 [] [] (book_copyOf_ok k _ _ yx6) ?_ rfl ?_
 try simp only [gOK, c2, c4, go_sem]
 try simp only [c2, c4, go_sem]
 obtain ⟨x7, yx7, h0⟩ := bs h0
 refine zc0 (book_copyLedger_ok k _ _ yx7) ?_ (by first | rfl | simp [AV.refsL, AV.refs, AV.scal, AV.leaf]) ?_
 try simp only [c2, c4, go_sem]
 try simp only [c2, c4, go_sem]
 refine AKev_bif h0 ?_ ?_ <;> intro c8 h0
 try simp only [c8, c2, c4, go_sem]
 refine AKev_region T_ok follows_ok 1000 ?_
 try simp only [c2, c4, c8, go_sem]
 refine DG_done ⟨calm_of (by simp only [skel, List.reverse_cons, List.reverse_nil, List.nil_append, List.cons_append, List.map_cons, List.map_nil, List.append_nil]; rfl) (by first | decide +kernel | rfl), run_sound T_ok 1000 _ _ ?_⟩
 try simp only [c2, c4, c8, go_sem]
 obtain rfl := Option.some.inj h0
 refine AKev_ret rfl ?_
 try simp only [F20.rs, c2, c4, c8, go_sem]
 try simp only [c8, c2, c4, go_sem]
 obtain ⟨x9, yx9, h0⟩ := bs h0
 refine zc0 (book_parts_ok k _ _ _ _ yx9) ?_ (by first | rfl | simp [AV.refsL, AV.refs, AV.scal, AV.leaf]) ?_
 try simp only [c2, c4, c8, go_sem]
 try simp only [c2, c4, c8, go_sem]
 refine AKev_bif h0 ?_ ?_ <;> intro c10 h0
 try simp only [c10, c2, c4, c8, go_sem]
 obtain rfl := Option.some.inj h0
 refine AKev_ret rfl ?_
 try simp only [F20.rs, c2, c4, c8, c10, go_sem]
 try simp only [c10, c2, c4, c8, go_sem]
 obtain ⟨x12, yx12, h0⟩ := bs h0
 refine AKev_norm [4, 6, 7, 9, 10, 11, 12, 13, 14, 19, 31, 46, 65] [400, 401, 402, 16, 48, 49, 50, 64, 65, 304, 464] 11 rfl ?_
 try simp only [c2, c4, c8, c10, go_sem]
 refine AKev_mcall (book_disk_write_ok k _ _ _ _ _ yx12) ?_ ?_
 try simp only [c2, c4, c8, c10, go_sem]
 try simp only [List.take_succ_cons, List.drop_succ_cons, List.length_cons, List.length_nil, c2, c4, c8, c10, go_sem]
 refine rS ?_
 try simp only [c2, c4, c8, c10, go_sem]
 refine AKev_bif h0 ?_ ?_ <;> intro c13 h0
 try simp only [c13, c2, c4, c8, c10, go_sem]
 obtain rfl := Option.some.inj h0
 refine AKev_ret rfl ?_
 try simp only [F20.rs, c2, c4, c8, c10, c13, go_sem]
 try simp only [c13, c2, c4, c8, c10, go_sem]
 refine AKev_region T_ok follows_ok 1000 ?_
 try simp only [c2, c4, c8, c10, c13, go_sem]
 refine DG_done ⟨calm_of (by simp only [skel, List.reverse_cons, List.reverse_nil, List.nil_append, List.cons_append, List.map_cons, List.map_nil, List.append_nil]; rfl) (by first | decide +kernel | rfl), run_sound T_ok 1000 _ _ ?_⟩
 try simp only [c2, c4, c8, c10, c13, go_sem]
 refine AKev_region T_ok follows_ok 1000 ?_
 try simp only [c2, c4, c8, c10, c13, go_sem]
 refine DG_done ⟨calm_of (by simp only [skel, List.reverse_cons, List.reverse_nil, List.nil_append, List.cons_append, List.map_cons, List.map_nil, List.append_nil]; rfl) (by first | decide +kernel | rfl), run_sound T_ok 1000 _ _ ?_⟩
 try simp only [c2, c4, c8, c10, c13, go_sem]
 obtain rfl := Option.some.inj h0
 refine AKev_ret rfl ?_
 try simp only [F20.rs, c2, c4, c8, c10, c13, go_sem]
def F26.c : SC :=
 (.seq
 (.reg [oq 1 (.box 25 (.tmp 0)) 0 [0],
 oq 2 (.assign (.const (.slice none 0 0))) 56 [2],
 sn 3 0 28 [3]])
 (.seq
 (.seq
 (.reg [ld 5 25 1 [],
 cf1 6 30 5 25 28 [5],
 sg 4 6 28 [6]])
 (.seq
 (.reg [mv 7 4 28 [],
 bn 8 .neq 28 7 0 28 4 [7]])
 (.cond (.tmp 8)
 (.seq
 (.reg [mv 9 4 28 [4],
 oq 2 (.assign (.const (.slice none 0 0))) 56 [],
 sg 3 9 28 [9]])
 .ret)
 .skip)))
 (.seq
 (.reg [ld 10 25 1 [1],
 cf1 11 88 10 25 56 [10],
 sg 2 11 56 [11],
 sn 3 0 28 []])
 .ret)))
theorem F26.rs : Try.f26.results.toList = [.tmp 2, .tmp 3] := rfl
def book_Encode (k : Nat) (r0 : Record) : Option ((List Int) × Int) :=
 (book_CheckRecord k r0).bind fun x1 =>
 bif (!decide (x1 = (0 : Int))) then
  some ([], x1)
 else
  (book_coded k r0).bind fun x3 =>
  some (x3, 0)
theorem book_Encode_ok (k : Nat) (r0 : Record) (r : (List Int) × Int) (h0 : book_Encode k r0 = some r) : PCall Try.prog 26 [.agg (Record.c r0)] (fun y => y = .tup [.sl 1 (List.map eU8 r.1), .int .i64 r.2]) := by
 refine PB (fn := Try.f26) (sc := F26.c) ?_
 refine rS ?_
 simp only [book_Encode] at h0
 try simp only [F26.c, go_sem]
 obtain ⟨x1, yx1, h0⟩ := bs h0
 refine zc0 (book_CheckRecord_ok k _ _ yx1) ?_ (by first | rfl | simp [AV.refsL, AV.refs, AV.scal, AV.leaf]) ?_
 try simp only [go_sem]
 try simp only [go_sem]
 refine AKev_bif h0 ?_ ?_ <;> intro c2 h0
 have c2 := bnot_t c2
 try simp only [c2, go_sem]
 obtain rfl := Option.some.inj h0
 refine AKev_ret rfl ?_
 try simp only [F26.rs, c2, go_sem]
 have c2 := bnot_f c2
 try simp only [c2, go_sem]
 obtain ⟨x3, yx3, h0⟩ := bs h0
 refine zc0 (book_coded_ok k _ _ yx3) ?_ (by first | rfl | simp [AV.refsL, AV.refs, AV.scal, AV.leaf]) ?_
 try simp only [c2, go_sem]
 try simp only [c2, go_sem]
 obtain rfl := Option.some.inj h0
 refine AKev_ret rfl ?_
 try simp only [F26.rs, c2, go_sem]
def F32.c : SC :=
 (.seq
 (.reg [oq 1 (.box 42 (.tmp 0)) 0 [0],
 oq 2 (.alloc 42) 0 [],
 oq 3 (.alloc 48) 0 [],
 sn 4 0 28 [4]])
 (.seq
 (.seq
 (.reg [ld 9 42 1 [],
 cf1 10 78 9 42 4 [9],
 oq 11 (.unOp .not 4 (.tmp 10)) 4 [10]])
 (.cond (.tmp 11)
 (.seq
 (.reg [oq 12 (.build 42 #[]) 42 [],
 oq 13 (.build 48 #[]) 48 [],
 ⟨none, .store 42 (.tmp 2) (.tmp 12), 0, none, [12]⟩,
 ⟨none, .store 48 (.tmp 3) (.tmp 13), 0, none, [13]⟩,
 sn 4 94 28 []])
 .ret)
 .skip))
 (.seq
 (.reg [ld 14 42 1 [1],
 cf1 15 72 14 42 130 [14],
 cf1 16 79 15 130 130 [15],
 sg 5 16 130 [16]])
 (.seq
 (.reg [mv 18 5 130 [],
 cf1 19 80 18 130 146 [18],
 mv 17 19 146 [19],
 xt 20 17 0 145 [],
 xt 21 17 1 4 [17],
 oq 6 (.alloc 145) 0 [],
 ⟨none, .store 145 (.tmp 6) (.tmp 20), 0, none, [20]⟩,
 sg 7 21 4 [21]])
 (.seq
 (.seq
 (.reg [mv 22 7 4 [7],
 oq 23 (.unOp .not 4 (.tmp 22)) 4 [22]])
 (.cond (.tmp 23)
 (.seq
 (.reg [oq 24 (.build 42 #[]) 42 [],
 oq 25 (.build 48 #[]) 48 [],
 ⟨none, .store 42 (.tmp 2) (.tmp 24), 0, none, [24]⟩,
 ⟨none, .store 48 (.tmp 3) (.tmp 25), 0, none, [25]⟩,
 sn 4 95 28 []])
 .ret)
 .skip))
 (.seq
 (.reg [mv 26 5 130 [],
 oq 27 (.call ⟨.value (.func 82), #[.tmp 26, .const (.int .i64 0), .const (.int .i64 0)], #[130, 3, 3]⟩) 3 [26],
 mv 28 5 130 [],
 oq 29 (.call ⟨.value (.func 82), #[.tmp 28, .const (.int .i64 1), .const (.int .i64 0)], #[130, 3, 3]⟩) 3 [28],
 oq 30 (.call ⟨.builtin .max, #[.tmp 27, .tmp 29], #[3, 3]⟩) 3 [27, 29],
 oq 31 (.binOp .add 3 (.const (.int .i64 1)) (.tmp 30) 3) 3 [30],
 sg 8 31 3 [31]])
 (.seq
 (.seq
 (.reg [mv 32 8 3 [],
 bn 33 .gtr 3 32 1000000 3 4 [32]])
 (.cond (.tmp 33)
 (.seq
 (.reg [oq 34 (.build 42 #[]) 42 [],
 oq 35 (.build 48 #[]) 48 [],
 ⟨none, .store 42 (.tmp 2) (.tmp 34), 0, none, [34]⟩,
 ⟨none, .store 48 (.tmp 3) (.tmp 35), 0, none, [35]⟩,
 sn 4 2 28 []])
 .ret)
 .skip))
 (.seq
 (.dreg [mv 36 5 130 [],
 oq 37 (.nilCheck (.tmp 36)) 0 [],
 fa 38 134 37 0 [],
 ld 39 42 38 [],
 fa 40 145 6 4 [],
 ld 41 46 40 [],
 fa 42 145 6 1 [],
 ld 43 3 42 [],
 mv 44 8 3 [],
 fa 45 145 6 3 [],
 ld 46 3 45 [],
 oq 47 (.build 48 #[(0, .tmp 41), (1, .tmp 43), (2, .tmp 44), (3, .tmp 46)]) 48 [],
 ⟨none, .store 42 (.tmp 2) (.tmp 39), 0, none, []⟩,
 ⟨none, .store 48 (.tmp 3) (.tmp 47), 0, none, []⟩,
 sn 4 0 28 []] [[], [0], [0, 1], [0, 1, 2], [], [4], [], [6], [], [], [9], [4, 5, 6, 7, 8, 9, 10], [0, 1, 2, 3], [4, 5, 6, 7, 8, 9, 10, 11, 0, 1, 2, 3, 12], [4, 5, 6, 7, 8, 9, 10, 11, 0, 1, 2, 3, 12, 13]] [5, 6, 8, 36, 37, 38, 39, 40, 41, 42, 43, 44, 45, 46, 47])
 .ret))))))))
theorem F32.rs : Try.f32.results.toList = [.cell 2 42, .cell 3 48, .tmp 4] := rfl
def book_Open (k : Nat) (d0 : Disk) : Option (Disk × Ledger × Int) :=
 (book_isDisk k d0).bind fun x1 =>
 bif (!x1) then
  some ((⟨[], []⟩ : Disk), (⟨(⟨[]⟩ : Book), 0, 0, 0⟩ : Ledger), 94)
 else
  (book_copyOf k d0).bind fun x4 =>
  (book_disk_sync k x4).bind fun x6 =>
  (book_disk_meant k (⟨(⟨x6.Disk.Pages, []⟩ : Disk)⟩ : book_disk)).bind fun x7 =>
  bif (!x7.2) then
   some ((⟨[], []⟩ : Disk), (⟨(⟨[]⟩ : Book), 0, 0, 0⟩ : Ledger), 95)
  else
   (book_disk_epoch k (⟨(⟨x6.Disk.Pages, []⟩ : Disk)⟩ : book_disk) 0 0).bind fun x9 =>
   (book_disk_epoch k (⟨(⟨x6.Disk.Pages, []⟩ : Disk)⟩ : book_disk) 1 0).bind fun x10 =>
   bif decide ((1000000 : Int) < w64 (1 + (max x9 x10))) then
    some ((⟨[], []⟩ : Disk), (⟨(⟨[]⟩ : Book), 0, 0, 0⟩ : Ledger), 2)
   else
    some ((⟨((⟨(⟨x6.Disk.Pages, []⟩ : Disk)⟩ : book_disk).Disk).Pages, ((⟨(⟨x6.Disk.Pages, []⟩ : Disk)⟩ : book_disk).Disk).Wait⟩ : Disk), (⟨x7.1.book, x7.1.area, w64 (1 + (max x9 x10)), x7.1.used⟩ : Ledger), 0)
theorem book_Open_ok (k : Nat) (d0 : Disk) (r : Disk × Ledger × Int) (h0 : book_Open k d0 = some r) : PCall Try.prog 32 [.agg (Disk.c d0)] (fun y => y = .tup [.agg (Disk.c r.1), .agg (Ledger.c r.2.1), .int .i64 r.2.2]) := by
 refine PB (fn := Try.f32) (sc := F32.c) ?_
 refine rS ?_
 simp only [book_Open] at h0
 try simp only [F32.c, go_sem]
 obtain ⟨x1, yx1, h0⟩ := bs h0
 refine zc0 (book_isDisk_ok k _ _ yx1) ?_ (by first | rfl | simp [AV.refsL, AV.refs, AV.scal, AV.leaf]) ?_
 try simp only [go_sem]
 try simp only [go_sem]
 refine AKev_bif h0 ?_ ?_ <;> intro c2 h0
 have c2 := bnot_t c2
 try simp only [c2, go_sem]
 obtain rfl := Option.some.inj h0
 refine AKev_ret rfl ?_
 try simp only [F32.rs, c2, go_sem]
 have c2 := bnot_f c2
 try simp only [c2, go_sem]
 obtain ⟨x4, yx4, h0⟩ := bs h0
 refine AKev_give T_ok 1000 [] [] (book_copyOf_ok k _ _ yx4) ?_ rfl ?_
 try simp only [gOK, c2, go_sem]
 try simp only [c2, go_sem]
 obtain ⟨x6, yx6, h0⟩ := bs h0
 refine AKev_norm [2, 3, 11] [128, 129, 130, 16, 17, 18, 32, 33] 8 rfl ?_
 try simp only [c2, go_sem]
 refine AKev_mcall (book_disk_sync_ok k _ _ yx6) ?_ ?_
 try simp only [c2, go_sem]
 try simp only [List.take_succ_cons, List.drop_succ_cons, List.length_cons, List.length_nil, c2, go_sem]
 refine AK.weak (Weak.fz 1 rfl (fun _ h => by cases h)) ?_
 try simp only [c2, go_sem]
 refine AK.nlbox 0 1 65 rfl rfl ?_
 try simp only [c2, go_sem]
 refine AK.weak (Weak.fz 0 rfl (fun _ h => by cases h; rfl)) ?_
 try simp only [c2, go_sem]
 refine rS ?_
 try simp only [c2, go_sem]
 obtain ⟨x7, yx7, h0⟩ := bs h0
 refine zc0 (book_disk_meant_ok k _ _ yx7) ?_ (by first | rfl | simp [AV.refsL, AV.refs, AV.scal, AV.leaf]) ?_
 try simp only [c2, go_sem]
 try simp only [c2, go_sem]
 refine AKev_bif h0 ?_ ?_ <;> intro c8 h0
 have c8 := bnot_t c8
 try simp only [c8, c2, go_sem]
 obtain rfl := Option.some.inj h0
 refine AKev_ret rfl ?_
 try simp only [F32.rs, c2, c8, go_sem]
 have c8 := bnot_f c8
 try simp only [c8, c2, go_sem]
 obtain ⟨x9, yx9, h0⟩ := bs h0
 refine zc0 (book_disk_epoch_ok k _ _ _ _ yx9) ?_ (by first | rfl | simp [AV.refsL, AV.refs, AV.scal, AV.leaf]) ?_
 try simp only [c2, c8, go_sem]
 try simp only [c2, c8, go_sem]
 obtain ⟨x10, yx10, h0⟩ := bs h0
 refine zc0 (book_disk_epoch_ok k _ _ _ _ yx10) ?_ (by first | rfl | simp [AV.refsL, AV.refs, AV.scal, AV.leaf]) ?_
 try simp only [c2, c8, go_sem]
 try simp only [c2, c8, go_sem]
 refine AKev_bif h0 ?_ ?_ <;> intro c11 h0
 try simp only [c11, c2, c8, go_sem]
 obtain rfl := Option.some.inj h0
 refine AKev_ret rfl ?_
 try simp only [F32.rs, c2, c8, c11, go_sem]
 try simp only [c11, c2, c8, go_sem]
 refine AKev_region T_ok follows_ok 1000 ?_
 try simp only [c2, c8, c11, go_sem]
 refine DG_done ⟨calm_of (by simp only [skel, List.reverse_cons, List.reverse_nil, List.nil_append, List.cons_append, List.map_cons, List.map_nil, List.append_nil]; rfl) (by first | decide +kernel | rfl), run_sound T_ok 1000 _ _ ?_⟩
 try simp only [c2, c8, c11, go_sem]
 obtain rfl := Option.some.inj h0
 refine AKev_ret rfl ?_
 try simp only [F32.rs, c2, c8, c11, go_sem]
def F36.s1 : SC :=
 (.seq
 (.reg [bn 42 .lss 3 41 2 3 0 []])
 (.seq
 (.cond (.tmp 42)
 .skip
 (.exit 2))
 (.seq
 (.block 3
 (.seq
 (.reg [mv 43 41 3 [],
 sg 9 43 3 [43]])
 (.seq
 (.reg [mv 44 8 3 [],
 mv 45 9 3 [],
 b2 46 .shr 3 44 45 3 3 [44, 45],
 bn 47 .and 3 46 1 3 3 [46],
 bn 48 .eql 3 47 1 3 4 [47]])
 (.cond (.tmp 48)
 (.dreg [mv 49 5 130 [],
 oq 50 (.nilCheck (.tmp 49)) 0 [],
 fa 51 134 50 0 [],
 fa 52 42 51 0 [],
 ld 53 39 52 [],
 fa 54 141 7 0 [],
 ld 55 3 54 [],
 mv 56 9 3 [],
 mv 57 9 3 [],
 fa 58 141 7 1 [],
 ia 59 139 58 57 [],
 ld 60 122 59 [],
 ia 61 39 53 55 [],
 ia 62 139 61 56 [],
 ⟨none, .store 122 (.tmp 62) (.tmp 60), 0, none, []⟩] [[], [0], [0, 1], [0, 1, 2], [0, 1, 2, 3], [], [5], [], [], [], [9, 8], [9, 8, 10], [0, 1, 2, 3, 4, 5, 6], [0, 1, 2, 3, 4, 5, 6, 12, 7, 8, 9, 10, 11], [0, 1, 2, 3, 4, 5, 6, 12, 7, 8, 9, 10, 11, 13]] [9, 49, 50, 51, 52, 53, 54, 55, 56, 57, 58, 59, 60, 61, 62])
 .skip))))
 (.reg [bn 63 .add 3 41 1 3 3 [41],
 mv 41 63 3 [63]]))))
def F36.s0 : SC :=
 (.seq
 (.reg [b2 26 .lss 3 25 24 3 0 []])
 (.seq
 (.cond (.tmp 26)
 .skip
 (.exit 0))
 (.seq
 (.block 1
 (.seq
 (.reg [mv 27 25 3 [],
 ia 28 40 23 25 [],
 ld 29 141 28 [28],
 oq 7 (.alloc 141) 0 [],
 sg 6 27 3 [27],
 ⟨none, .store 141 (.tmp 7) (.tmp 29), 0, none, [29]⟩])
 (.seq
 (.reg [sn 8 0 3 []])
 (.seq
 (.seq
 (.reg [mv 30 1 63 [],
 ln 31 30 63 3 [30],
 bn 32 .gtr 3 31 0 3 4 [31]])
 (.cond (.tmp 32)
 (.reg [mv 33 1 63 [],
 mv 34 6 3 [6],
 mv 35 1 63 [],
 ln 36 35 63 3 [35],
 b2 37 .rem 3 34 36 3 3 [34, 36],
 ia 38 63 33 37 [33, 37],
 ld 39 3 38 [38],
 bn 40 .and 3 39 3 3 3 [39],
 sg 8 40 3 [40]])
 .skip))
 (.seq
 (.reg [oq 41 (.move (.const (.int .i64 0))) 3 []])
 (.block 2
 (.loop F36.s1)))))))
 (.reg [bn 64 .add 3 25 1 3 3 [25],
 mv 25 64 3 [64]]))))
def F36.c : SC :=
 (.seq
 (.reg [oq 2 (.box 42 (.tmp 0)) 0 [0],
 oq 4 (.alloc 42) 0 []])
 (.seq
 (.reg [ld 10 42 2 [],
 cf1 11 72 10 42 130 [10],
 sg 5 11 130 [11]])
 (.seq
 (.seq
 (.reg [ld 12 42 2 [2],
 cf1 13 78 12 42 4 [12],
 oq 14 (.unOp .not 4 (.tmp 13)) 4 [13]])
 (.cond (.tmp 14)
 (.seq
 (.reg [mv 15 5 130 [5],
 oq 16 (.nilCheck (.tmp 15)) 0 [15],
 fa 17 134 16 0 [16],
 ld 18 42 17 [17],
 ⟨none, .store 42 (.tmp 4) (.tmp 18), 0, none, [18]⟩])
 .ret)
 .skip))
 (.seq
 (.seq
 (.reg [mv 19 5 130 [],
 oq 20 (.nilCheck (.tmp 19)) 0 [19],
 fa 21 134 20 0 [20],
 fa 22 42 21 1 [21],
 ld 23 40 22 [22],
 ln 24 23 40 3 [],
 oq 25 (.move (.const (.int .i64 0))) 3 []])
 (.block 0
 (.loop F36.s0)))
 (.seq
 (.reg [mv 65 5 130 [],
 oq 66 (.nilCheck (.tmp 65)) 0 [65],
 fa 67 134 66 0 [66],
 fa 68 42 67 1 [67],
 ⟨none, .store 40 (.tmp 68) (.const (.slice none 0 0)), 0, none, [68]⟩])
 (.seq
 (.reg [mv 69 5 130 [5],
 oq 70 (.nilCheck (.tmp 69)) 0 [69],
 fa 71 134 70 0 [70],
 ld 72 42 71 [71],
 ⟨none, .store 42 (.tmp 4) (.tmp 72), 0, none, [72]⟩])
 .ret))))))
theorem F36.rs : Try.f36.results.toList = [.cell 4 42] := rfl
def book_Crash.b1 (k : Nat) (x9 : Write) (x12 : Int) : (Int × (List (Vec 2 (Vec 32 Int)))) → Option (Stp (Int × (List (Vec 2 (Vec 32 Int)))) ((List (Vec 2 (Vec 32 Int)))) (Disk)) := fun (s : Int × (List (Vec 2 (Vec 32 Int)))) => match s with
 | (i13, l14) =>
   bif decide (i13 < (2 : Int)) then
    (sh? i13).bind fun _ =>
    bif decide (bAnd .i64 (Int.fdiv (bAnd .i64 x12 3) (2 ^ (min (Int.toNat i13) 64))) 1 = (1 : Int)) then
     (x9.Page.at? i13).bind fun x19 =>
     (at? l14 x9.At).bind fun x20 =>
     (x20.at? i13).bind fun x21 =>
     (set? l14 x9.At (x20.set i13 x19)).bind fun l23 =>
     some (.next (w64 (i13 + 1), l23))
    else
     some (.next (w64 (i13 + 1), l14))
   else
    some (.brk l14)
def book_Crash.b1_2 (k : Nat) (x9 : Write) : (Int × (List (Vec 2 (Vec 32 Int)))) → Option (Stp (Int × (List (Vec 2 (Vec 32 Int)))) ((List (Vec 2 (Vec 32 Int)))) (Disk)) := fun (s : Int × (List (Vec 2 (Vec 32 Int)))) => match s with
 | (i25, l26) =>
   bif decide (i25 < (2 : Int)) then
    (sh? i25).bind fun _ =>
    bif decide (bAnd .i64 (Int.fdiv 0 (2 ^ (min (Int.toNat i25) 64))) 1 = (1 : Int)) then
     (x9.Page.at? i25).bind fun x31 =>
     (at? l26 x9.At).bind fun x32 =>
     (x32.at? i25).bind fun x33 =>
     (set? l26 x9.At (x32.set i25 x31)).bind fun l35 =>
     some (.next (w64 (i25 + 1), l35))
    else
     some (.next (w64 (i25 + 1), l26))
   else
    some (.brk l26)
def book_Crash.b0 (k : Nat) (picks1 : (List Int)) (x2 : book_disk) : (Int × (List (Vec 2 (Vec 32 Int)))) → Option (Stp (Int × (List (Vec 2 (Vec 32 Int)))) ((List (Vec 2 (Vec 32 Int)))) (Disk)) := fun (s : Int × (List (Vec 2 (Vec 32 Int)))) => match s with
 | (i5, l6) =>
   bif decide (i5 < ((x2.Disk.Wait.length : Nat) : Int)) then
    (at? x2.Disk.Wait i5).bind fun x9 =>
    bif decide ((0 : Int) < (picks1.length : Int)) then
     (nz? (picks1.length : Int)).bind fun _ =>
     (at? picks1 (Int.tmod i5 (picks1.length : Int))).bind fun x12 =>
     (whl (book_Crash.b1 k x9 x12) k (0, l6)).bind fun r24 => match r24 with
     | .next _ => none
     | .ret v_ => some (.ret v_)
     | .brk l15 =>
      some (.next (w64 (i5 + 1), l15))
    else
     (whl (book_Crash.b1_2 k x9) k (0, l6)).bind fun r36 => match r36 with
     | .next _ => none
     | .ret v_ => some (.ret v_)
     | .brk l27 =>
      some (.next (w64 (i5 + 1), l27))
   else
    some (.brk l6)
noncomputable def book_Crash.h1 (picks1 : (List Int)) (x2 : book_disk) (i5 : Int) (x9 : Write) (x12 : Int) : (Int × (List (Vec 2 (Vec 32 Int)))) → St := fun (s : Int × (List (Vec 2 (Vec 32 Int)))) => match s with
 | (i13, l14) => ⟨[(1, .sl 1 (List.map eI picks1)), (4, .ptr 0 0 0), (5, .ptr 0 3 0), (7, .ptr 0 6 0), (8, .int .i64 (bAnd .i64 x12 3)), (23, .loc 0 5 65 0 x2.Disk.Wait.length x2.Disk.Wait.length), (24, .int .i64 ((x2.Disk.Wait.length : Nat) : Int)), (25, .int .i64 i5), (41, .int .i64 i13)], [(0, .box ([.loc 0 1 64 0 0 0, .loc 0 2 65 0 0 0])), (1, .arr 139 64 (List.map (Vec.c (n := 2) (Vec.c (n := 32) eU8)) [])), (2, .arr 141 65 (List.map Write.c [])), (3, .box ([.loc 0 4 64 0 l14.length l14.length, .loc 0 5 65 0 x2.Disk.Wait.length x2.Disk.Wait.length])), (4, .arr 139 64 (List.map (Vec.c (n := 2) (Vec.c (n := 32) eU8)) l14)), (5, .arr 141 65 (List.map Write.c x2.Disk.Wait)), (6, .box ([.int .i64 x9.At] ++ (Vec.c (n := 2) (Vec.c (n := 32) eU8) x9.Page)))], [], 7, Try.f36.ntmps⟩
noncomputable def book_Crash.x1 (picks1 : (List Int)) (x2 : book_disk) (i5 : Int) : (List (Vec 2 (Vec 32 Int))) → St := fun (l15 : (List (Vec 2 (Vec 32 Int)))) => ⟨[(1, .sl 1 (List.map eI picks1)), (4, .ptr 0 0 0), (5, .ptr 0 3 0), (23, .loc 0 5 65 0 x2.Disk.Wait.length x2.Disk.Wait.length), (24, .int .i64 ((x2.Disk.Wait.length : Nat) : Int)), (25, .int .i64 i5)], [(0, .box ([.loc 0 1 64 0 0 0, .loc 0 2 65 0 0 0])), (1, .arr 139 64 (List.map (Vec.c (n := 2) (Vec.c (n := 32) eU8)) [])), (2, .arr 141 65 (List.map Write.c [])), (3, .box ([.loc 0 4 64 0 l15.length l15.length, .loc 0 5 65 0 x2.Disk.Wait.length x2.Disk.Wait.length])), (4, .arr 139 64 (List.map (Vec.c (n := 2) (Vec.c (n := 32) eU8)) l15)), (5, .arr 141 65 (List.map Write.c x2.Disk.Wait))], [], 6, Try.f36.ntmps⟩
noncomputable def book_Crash.h1_2 (picks1 : (List Int)) (x2 : book_disk) (i5 : Int) (x9 : Write) : (Int × (List (Vec 2 (Vec 32 Int)))) → St := fun (s : Int × (List (Vec 2 (Vec 32 Int)))) => match s with
 | (i25, l26) => ⟨[(1, .sl 1 (List.map eI picks1)), (4, .ptr 0 0 0), (5, .ptr 0 3 0), (7, .ptr 0 6 0), (8, .int .i64 0), (23, .loc 0 5 65 0 x2.Disk.Wait.length x2.Disk.Wait.length), (24, .int .i64 ((x2.Disk.Wait.length : Nat) : Int)), (25, .int .i64 i5), (41, .int .i64 i25)], [(0, .box ([.loc 0 1 64 0 0 0, .loc 0 2 65 0 0 0])), (1, .arr 139 64 (List.map (Vec.c (n := 2) (Vec.c (n := 32) eU8)) [])), (2, .arr 141 65 (List.map Write.c [])), (3, .box ([.loc 0 4 64 0 l26.length l26.length, .loc 0 5 65 0 x2.Disk.Wait.length x2.Disk.Wait.length])), (4, .arr 139 64 (List.map (Vec.c (n := 2) (Vec.c (n := 32) eU8)) l26)), (5, .arr 141 65 (List.map Write.c x2.Disk.Wait)), (6, .box ([.int .i64 x9.At] ++ (Vec.c (n := 2) (Vec.c (n := 32) eU8) x9.Page)))], [], 7, Try.f36.ntmps⟩
noncomputable def book_Crash.x1_2 (picks1 : (List Int)) (x2 : book_disk) (i5 : Int) : (List (Vec 2 (Vec 32 Int))) → St := fun (l27 : (List (Vec 2 (Vec 32 Int)))) => ⟨[(1, .sl 1 (List.map eI picks1)), (4, .ptr 0 0 0), (5, .ptr 0 3 0), (23, .loc 0 5 65 0 x2.Disk.Wait.length x2.Disk.Wait.length), (24, .int .i64 ((x2.Disk.Wait.length : Nat) : Int)), (25, .int .i64 i5)], [(0, .box ([.loc 0 1 64 0 0 0, .loc 0 2 65 0 0 0])), (1, .arr 139 64 (List.map (Vec.c (n := 2) (Vec.c (n := 32) eU8)) [])), (2, .arr 141 65 (List.map Write.c [])), (3, .box ([.loc 0 4 64 0 l27.length l27.length, .loc 0 5 65 0 x2.Disk.Wait.length x2.Disk.Wait.length])), (4, .arr 139 64 (List.map (Vec.c (n := 2) (Vec.c (n := 32) eU8)) l27)), (5, .arr 141 65 (List.map Write.c x2.Disk.Wait))], [], 6, Try.f36.ntmps⟩
noncomputable def book_Crash.h0 (picks1 : (List Int)) (x2 : book_disk) : (Int × (List (Vec 2 (Vec 32 Int)))) → St := fun (s : Int × (List (Vec 2 (Vec 32 Int)))) => match s with
 | (i5, l6) => ⟨[(1, .sl 1 (List.map eI picks1)), (4, .ptr 0 0 0), (5, .ptr 0 3 0), (23, .loc 0 5 65 0 x2.Disk.Wait.length x2.Disk.Wait.length), (24, .int .i64 ((x2.Disk.Wait.length : Nat) : Int)), (25, .int .i64 i5)], [(0, .box ([.loc 0 1 64 0 0 0, .loc 0 2 65 0 0 0])), (1, .arr 139 64 (List.map (Vec.c (n := 2) (Vec.c (n := 32) eU8)) [])), (2, .arr 141 65 (List.map Write.c [])), (3, .box ([.loc 0 4 64 0 l6.length l6.length, .loc 0 5 65 0 x2.Disk.Wait.length x2.Disk.Wait.length])), (4, .arr 139 64 (List.map (Vec.c (n := 2) (Vec.c (n := 32) eU8)) l6)), (5, .arr 141 65 (List.map Write.c x2.Disk.Wait))], [], 6, Try.f36.ntmps⟩
noncomputable def book_Crash.x0 (x2 : book_disk) : (List (Vec 2 (Vec 32 Int))) → St := fun (l7 : (List (Vec 2 (Vec 32 Int)))) => ⟨[(4, .ptr 0 0 0), (5, .ptr 0 3 0)], [(0, .box ([.loc 0 1 64 0 0 0, .loc 0 2 65 0 0 0])), (1, .arr 139 64 (List.map (Vec.c (n := 2) (Vec.c (n := 32) eU8)) [])), (2, .arr 141 65 (List.map Write.c [])), (3, .box ([.loc 0 4 64 0 l7.length l7.length, .loc 0 5 65 0 x2.Disk.Wait.length x2.Disk.Wait.length])), (4, .arr 139 64 (List.map (Vec.c (n := 2) (Vec.c (n := 32) eU8)) l7)), (5, .arr 141 65 (List.map Write.c x2.Disk.Wait))], [], 6, Try.f36.ntmps⟩
def book_Crash (k : Nat) (d0 : Disk) (picks1 : (List Int)) : Option (Disk) :=
 (book_copyOf k d0).bind fun x2 =>
 (book_isDisk k d0).bind fun x3 =>
 bif (!x3) then
  some x2.Disk
 else
  (whl (book_Crash.b0 k picks1 x2) k (0, x2.Disk.Pages)).bind fun r37 => match r37 with
  | .next _ => none
  | .ret v_ => some v_
  | .brk l7 =>
   some (⟨l7, []⟩ : Disk)
theorem book_Crash_ok (k : Nat) (d0 : Disk) (picks1 : (List Int)) (r : Disk) (h0 : book_Crash k d0 picks1 = some r) : PCall Try.prog 36 [.agg (Disk.c d0), .sl 1 (List.map eI picks1)] (fun y => y = .agg (Disk.c r)) := by
 refine PB (fn := Try.f36) (sc := F36.c) ?_
 refine rS ?_
 simp only [book_Crash] at h0
 try simp only [F36.c, go_sem]
 obtain ⟨x2, yx2, h0⟩ := bs h0
 refine AKev_give T_ok 1000 [] [] (book_copyOf_ok k _ _ yx2) ?_ rfl ?_
 try simp only [gOK, go_sem]
 try simp only [go_sem]
 obtain ⟨x3, yx3, h0⟩ := bs h0
 refine zc0 (book_isDisk_ok k _ _ yx3) ?_ (by first | rfl | simp [AV.refsL, AV.refs, AV.scal, AV.leaf]) ?_
 try simp only [go_sem]
 try simp only [go_sem]
 refine AKev_bif h0 ?_ ?_ <;> intro c4 h0
 have c4 := bnot_t c4
 try simp only [c4, go_sem]
 obtain rfl := Option.some.inj h0
 refine AKev_ret rfl ?_
 try simp only [F36.rs, c4, go_sem]
 have c4 := bnot_f c4
 try simp only [c4, go_sem]
 obtain ⟨r37, yr37, h0⟩ := bs h0
 refine AKev_loopS yr37 (book_Crash.h0 picks1 x2) (book_Crash.x0 x2) ?_ ?_ ?_
 refine Weak.go [1, 4, 5, 23, 24, 25] [16, 17, 18, 48, 49, 50] rfl ?_
 try simp only [book_Crash.h0, c4, go_sem]
 rintro ⟨i5, l6⟩ x_1 Bk1 Br1 h1 hnext1 hbrk1 hret1
 refine rS ?_
 simp only [book_Crash.b0] at h1
 try simp only [F36.s0, book_Crash.h0, c4, go_sem]
 refine AKev_bif h1 ?_ ?_ <;> intro c8 h1
 try simp only [c8, c4, go_sem]
 obtain ⟨x9, yx9, h1⟩ := bs h1
 try simp only [aa yx9, c4, c8, go_sem]
 refine AKev_bif h1 ?_ ?_ <;> intro c10 h1
 try simp only [c10, c4, c8, aa yx9, go_sem]
 obtain ⟨u11, yu11, h1⟩ := bs h1
 try simp only [nz_some yu11, c4, c8, aa yx9, c10, go_sem]
 obtain ⟨x12, yx12, h1⟩ := bs h1
 try simp only [aa yx12, c4, c8, aa yx9, c10, nz_some yu11, go_sem]
 obtain ⟨r24, yr24, h1⟩ := bs h1
 refine AKev_loopS yr24 (book_Crash.h1 picks1 x2 i5 x9 x12) (book_Crash.x1 picks1 x2 i5) ?_ ?_ ?_
 refine Weak.go [1, 4, 5, 7, 8, 23, 24, 25, 41] [0, 1, 2, 3, 4, 5, 70] rfl ?_
 try simp only [book_Crash.h1, c4, c8, aa yx9, c10, nz_some yu11, aa yx12, go_sem]
 rintro ⟨i13, l14⟩ x_2 Bk2 Br2 h2 hnext2 hbrk2 hret2
 refine rS ?_
 simp only [book_Crash.b1] at h2
 try simp only [F36.s1, book_Crash.h1, c4, c8, aa yx9, c10, nz_some yu11, aa yx12, go_sem]
 refine AKev_bif h2 ?_ ?_ <;> intro c16 h2
 try simp only [c16, c4, c8, aa yx9, c10, nz_some yu11, aa yx12, go_sem]
 obtain ⟨u17, yu17, h2⟩ := bs h2
 try simp only [sh_nn yu17, c4, c8, aa yx9, c10, nz_some yu11, aa yx12, c16, go_sem]
 refine AKev_bif h2 ?_ ?_ <;> intro c18 h2
 try simp only [c18, c4, c8, aa yx9, c10, nz_some yu11, aa yx12, c16, sh_nn yu17, go_sem]
 refine AKev_region T_ok follows_ok 1000 ?_
 try simp only [c4, c8, aa yx9, c10, nz_some yu11, aa yx12, c16, sh_nn yu17, c18, go_sem]
 obtain ⟨x19, yx19, h2⟩ := bs h2
 have uyx19 := UpdE.at (fun q_ => ((VK.vec vk_u8 32).len q_ : ((Vec.c (n := 32) eU8) q_).length = 32)) (UpdE.skip (UpdE.self (fun q_ => ((VK.vec (VK.vec vk_u8 32) 2).len q_ : (Vec.c (n := 2) (Vec.c (n := 32) eU8) q_).length = 64)) x9.Page) ([.int .i64 x9.At] : List AV)) yx19
 have buyx19 := uyx19.bound (fun q_ => ((VK.vec vk_u8 32).len q_ : ((Vec.c (n := 32) eU8) q_).length = 32))
 have guyx19 := uyx19.get (fun q_ => ((VK.vec vk_u8 32).len q_ : ((Vec.c (n := 32) eU8) q_).length = 32))
 try simp only [List.length_cons, List.length_nil, go_sem] at buyx19 guyx19
 try simp only [vat_in yx19, buyx19, guyx19, c4, c8, aa yx9, c10, nz_some yu11, aa yx12, c16, sh_nn yu17, c18, go_sem]
 obtain ⟨x20, yx20, h2⟩ := bs h2
 try simp only [at_in yx20, at_get (Vec.c (n := 2) (Vec.c (n := 32) eU8)) yx20, c4, c8, aa yx9, c10, nz_some yu11, aa yx12, c16, sh_nn yu17, c18, vat_in yx19, buyx19, guyx19, go_sem]
 obtain ⟨x21, yx21, h2⟩ := bs h2
 have uyx21 := UpdE.at (fun q_ => ((VK.vec vk_u8 32).len q_ : ((Vec.c (n := 32) eU8) q_).length = 32)) (UpdE.self (fun q_ => ((VK.vec (VK.vec vk_u8 32) 2).len q_ : (Vec.c (n := 2) (Vec.c (n := 32) eU8) q_).length = 64)) x20) yx21
 have buyx21 := uyx21.bound (fun q_ => ((VK.vec vk_u8 32).len q_ : ((Vec.c (n := 32) eU8) q_).length = 32))
 have guyx21 := uyx21.get (fun q_ => ((VK.vec vk_u8 32).len q_ : ((Vec.c (n := 32) eU8) q_).length = 32))
 try simp only [List.length_cons, List.length_nil, go_sem] at buyx21 guyx21
 try simp only [vat_in yx21, buyx21, guyx21, c4, c8, aa yx9, c10, nz_some yu11, aa yx12, c16, sh_nn yu17, c18, vat_in yx19, buyx19, guyx19, at_in yx20, at_get (Vec.c (n := 2) (Vec.c (n := 32) eU8)) yx20, go_sem]
 obtain ⟨l23, yl23, h2⟩ := bs h2
 have q22 := uyx21.ow x19
 try simp only [List.length_cons, List.length_nil, go_sem] at q22
 have eyl23 := set_map (Vec.c (n := 2) (Vec.c (n := 32) eU8)) yl23
 try simp only [go_sem] at eyl23
 try simp only [q22, eyl23, c4, c8, aa yx9, c10, nz_some yu11, aa yx12, c16, sh_nn yu17, c18, vat_in yx19, buyx19, guyx19, at_in yx20, at_get (Vec.c (n := 2) (Vec.c (n := 32) eU8)) yx20, vat_in yx21, buyx21, guyx21, set_len yl23, set_take (Vec.c (n := 2) (Vec.c (n := 32) eU8)) yl23, go_sem]
 refine DG_done ⟨calm_of (by simp only [skel, List.reverse_cons, List.reverse_nil, List.nil_append, List.cons_append, List.map_cons, List.map_nil, List.append_nil]; rfl) (by first | decide +kernel | rfl), run_sound T_ok 1000 _ _ ?_⟩
 try simp only [c4, c8, aa yx9, c10, nz_some yu11, aa yx12, c16, sh_nn yu17, c18, vat_in yx19, buyx19, guyx19, at_in yx20, at_get (Vec.c (n := 2) (Vec.c (n := 32) eU8)) yx20, vat_in yx21, buyx21, guyx21, eyl23, set_len yl23, set_take (Vec.c (n := 2) (Vec.c (n := 32) eU8)) yl23, go_sem]
 refine AKev_backB (hnext2 _ _ (Option.some.inj h2).symm ?_)
 refine Weak.go [1, 4, 5, 7, 8, 23, 24, 25, 41] [0, 1, 2, 3, 4, 5, 6] rfl ?_
 try simp only [book_Crash.h1, c4, c8, aa yx9, c10, nz_some yu11, aa yx12, c16, sh_nn yu17, c18, vat_in yx19, buyx19, guyx19, at_in yx20, at_get (Vec.c (n := 2) (Vec.c (n := 32) eU8)) yx20, vat_in yx21, buyx21, guyx21, eyl23, set_len yl23, set_take (Vec.c (n := 2) (Vec.c (n := 32) eU8)) yl23, go_sem]
 try simp only [c18, c4, c8, aa yx9, c10, nz_some yu11, aa yx12, c16, sh_nn yu17, go_sem]
 refine AKev_backB (hnext2 _ _ (Option.some.inj h2).symm ?_)
 refine Weak.go [1, 4, 5, 7, 8, 23, 24, 25, 41] [0, 1, 2, 3, 4, 5, 6] rfl ?_
 try simp only [book_Crash.h1, c4, c8, aa yx9, c10, nz_some yu11, aa yx12, c16, sh_nn yu17, c18, go_sem]
 try simp only [c16, c4, c8, aa yx9, c10, nz_some yu11, aa yx12, go_sem]
 refine AKev_backB (hbrk2 _ _ (Option.some.inj h2).symm ?_)
 refine Weak.go [1, 4, 5, 23, 24, 25] [0, 1, 2, 3, 4, 5] rfl ?_
 try simp only [book_Crash.x1, c4, c8, aa yx9, c10, nz_some yu11, aa yx12, c16, go_sem]
 rintro l15 hr_
 subst hr_
 simp only at h1
 refine rS ?_
 try simp only [book_Crash.x1, c4, c8, aa yx9, c10, nz_some yu11, aa yx12, go_sem]
 refine AKev_backB (hnext1 _ _ (Option.some.inj h1).symm ?_)
 refine Weak.go [1, 4, 5, 23, 24, 25] [0, 1, 2, 3, 4, 5] rfl ?_
 try simp only [book_Crash.h0, c4, c8, aa yx9, c10, nz_some yu11, aa yx12, go_sem]
 try simp only [c10, c4, c8, aa yx9, go_sem]
 obtain ⟨r36, yr36, h1⟩ := bs h1
 refine AKev_loopS yr36 (book_Crash.h1_2 picks1 x2 i5 x9) (book_Crash.x1_2 picks1 x2 i5) ?_ ?_ ?_
 refine Weak.go [1, 4, 5, 7, 8, 23, 24, 25, 41] [0, 1, 2, 3, 4, 5, 70] rfl ?_
 try simp only [book_Crash.h1_2, c4, c8, aa yx9, c10, go_sem]
 rintro ⟨i25, l26⟩ x_2 Bk2 Br2 h2 hnext2 hbrk2 hret2
 refine rS ?_
 simp only [book_Crash.b1_2] at h2
 try simp only [F36.s1, book_Crash.h1_2, c4, c8, aa yx9, c10, go_sem]
 refine AKev_bif h2 ?_ ?_ <;> intro c28 h2
 try simp only [c28, c4, c8, aa yx9, c10, go_sem]
 obtain ⟨u29, yu29, h2⟩ := bs h2
 try simp only [sh_nn yu29, c4, c8, aa yx9, c10, c28, go_sem]
 refine AKev_bif h2 ?_ ?_ <;> intro c30 h2
 try simp only [c30, c4, c8, aa yx9, c10, c28, sh_nn yu29, go_sem]
 refine AKev_region T_ok follows_ok 1000 ?_
 try simp only [c4, c8, aa yx9, c10, c28, sh_nn yu29, c30, go_sem]
 obtain ⟨x31, yx31, h2⟩ := bs h2
 have uyx31 := UpdE.at (fun q_ => ((VK.vec vk_u8 32).len q_ : ((Vec.c (n := 32) eU8) q_).length = 32)) (UpdE.skip (UpdE.self (fun q_ => ((VK.vec (VK.vec vk_u8 32) 2).len q_ : (Vec.c (n := 2) (Vec.c (n := 32) eU8) q_).length = 64)) x9.Page) ([.int .i64 x9.At] : List AV)) yx31
 have buyx31 := uyx31.bound (fun q_ => ((VK.vec vk_u8 32).len q_ : ((Vec.c (n := 32) eU8) q_).length = 32))
 have guyx31 := uyx31.get (fun q_ => ((VK.vec vk_u8 32).len q_ : ((Vec.c (n := 32) eU8) q_).length = 32))
 try simp only [List.length_cons, List.length_nil, go_sem] at buyx31 guyx31
 try simp only [vat_in yx31, buyx31, guyx31, c4, c8, aa yx9, c10, c28, sh_nn yu29, c30, go_sem]
 obtain ⟨x32, yx32, h2⟩ := bs h2
 try simp only [at_in yx32, at_get (Vec.c (n := 2) (Vec.c (n := 32) eU8)) yx32, c4, c8, aa yx9, c10, c28, sh_nn yu29, c30, vat_in yx31, buyx31, guyx31, go_sem]
 obtain ⟨x33, yx33, h2⟩ := bs h2
 have uyx33 := UpdE.at (fun q_ => ((VK.vec vk_u8 32).len q_ : ((Vec.c (n := 32) eU8) q_).length = 32)) (UpdE.self (fun q_ => ((VK.vec (VK.vec vk_u8 32) 2).len q_ : (Vec.c (n := 2) (Vec.c (n := 32) eU8) q_).length = 64)) x32) yx33
 have buyx33 := uyx33.bound (fun q_ => ((VK.vec vk_u8 32).len q_ : ((Vec.c (n := 32) eU8) q_).length = 32))
 have guyx33 := uyx33.get (fun q_ => ((VK.vec vk_u8 32).len q_ : ((Vec.c (n := 32) eU8) q_).length = 32))
 try simp only [List.length_cons, List.length_nil, go_sem] at buyx33 guyx33
 try simp only [vat_in yx33, buyx33, guyx33, c4, c8, aa yx9, c10, c28, sh_nn yu29, c30, vat_in yx31, buyx31, guyx31, at_in yx32, at_get (Vec.c (n := 2) (Vec.c (n := 32) eU8)) yx32, go_sem]
 obtain ⟨l35, yl35, h2⟩ := bs h2
 have q34 := uyx33.ow x31
 try simp only [List.length_cons, List.length_nil, go_sem] at q34
 have eyl35 := set_map (Vec.c (n := 2) (Vec.c (n := 32) eU8)) yl35
 try simp only [go_sem] at eyl35
 try simp only [q34, eyl35, c4, c8, aa yx9, c10, c28, sh_nn yu29, c30, vat_in yx31, buyx31, guyx31, at_in yx32, at_get (Vec.c (n := 2) (Vec.c (n := 32) eU8)) yx32, vat_in yx33, buyx33, guyx33, set_len yl35, set_take (Vec.c (n := 2) (Vec.c (n := 32) eU8)) yl35, go_sem]
 refine DG_done ⟨calm_of (by simp only [skel, List.reverse_cons, List.reverse_nil, List.nil_append, List.cons_append, List.map_cons, List.map_nil, List.append_nil]; rfl) (by first | decide +kernel | rfl), run_sound T_ok 1000 _ _ ?_⟩
 try simp only [c4, c8, aa yx9, c10, c28, sh_nn yu29, c30, vat_in yx31, buyx31, guyx31, at_in yx32, at_get (Vec.c (n := 2) (Vec.c (n := 32) eU8)) yx32, vat_in yx33, buyx33, guyx33, eyl35, set_len yl35, set_take (Vec.c (n := 2) (Vec.c (n := 32) eU8)) yl35, go_sem]
 refine AKev_backB (hnext2 _ _ (Option.some.inj h2).symm ?_)
 refine Weak.go [1, 4, 5, 7, 8, 23, 24, 25, 41] [0, 1, 2, 3, 4, 5, 6] rfl ?_
 try simp only [book_Crash.h1_2, c4, c8, aa yx9, c10, c28, sh_nn yu29, c30, vat_in yx31, buyx31, guyx31, at_in yx32, at_get (Vec.c (n := 2) (Vec.c (n := 32) eU8)) yx32, vat_in yx33, buyx33, guyx33, eyl35, set_len yl35, set_take (Vec.c (n := 2) (Vec.c (n := 32) eU8)) yl35, go_sem]
 try simp only [c30, c4, c8, aa yx9, c10, c28, sh_nn yu29, go_sem]
 refine AKev_backB (hnext2 _ _ (Option.some.inj h2).symm ?_)
 refine Weak.go [1, 4, 5, 7, 8, 23, 24, 25, 41] [0, 1, 2, 3, 4, 5, 6] rfl ?_
 try simp only [book_Crash.h1_2, c4, c8, aa yx9, c10, c28, sh_nn yu29, c30, go_sem]
 try simp only [c28, c4, c8, aa yx9, c10, go_sem]
 refine AKev_backB (hbrk2 _ _ (Option.some.inj h2).symm ?_)
 refine Weak.go [1, 4, 5, 23, 24, 25] [0, 1, 2, 3, 4, 5] rfl ?_
 try simp only [book_Crash.x1_2, c4, c8, aa yx9, c10, c28, go_sem]
 rintro l27 hr_
 subst hr_
 simp only at h1
 refine rS ?_
 try simp only [book_Crash.x1_2, c4, c8, aa yx9, c10, go_sem]
 refine AKev_backB (hnext1 _ _ (Option.some.inj h1).symm ?_)
 refine Weak.go [1, 4, 5, 23, 24, 25] [0, 1, 2, 3, 4, 5] rfl ?_
 try simp only [book_Crash.h0, c4, c8, aa yx9, c10, go_sem]
 try simp only [c8, c4, go_sem]
 refine AKev_backB (hbrk1 _ _ (Option.some.inj h1).symm ?_)
 refine Weak.go [4, 5] [0, 1, 2, 3, 4, 5] rfl ?_
 try simp only [book_Crash.x0, c4, c8, go_sem]
 rintro l7 hr_
 subst hr_
 simp only at h0
 refine rS ?_
 try simp only [book_Crash.x0, c4, go_sem]
 obtain rfl := Option.some.inj h0
 refine AKev_ret rfl ?_
 try simp only [F36.rs, c4, go_sem]
def F43.c : SC :=
 (.seq
 (.reg [oq 0 (.alloc 42) 0 [],
 oq 1 (.alloc 48) 0 []])
 (.seq
 (.reg [oq 3 (.makeSlice 39 (.const (.int .i64 602)) (.const (.int .i64 602))) 39 [],
 oq 4 (.build 42 #[(0, .tmp 3)]) 42 [3],
 oq 2 (.alloc 42) 0 [],
 ⟨none, .store 42 (.tmp 2) (.tmp 4), 0, none, [4]⟩])
 (.seq
 (.dreg [fa 5 42 2 0 [],
 ld 6 39 5 [],
 oq 7 (.call ⟨.value (.func 101), #[.const (.int .i64 1), .const (.int .i64 0)], #[3, 3]⟩) 126 [],
 oq 8 (.indexAddr 39 (.tmp 6) (.const (.int .i64 0))) 0 [],
 oq 9 (.indexAddr 139 (.tmp 8) (.const (.int .i64 0))) 0 [],
 ⟨none, .store 122 (.tmp 9) (.tmp 7), 0, none, []⟩] [[], [0], [], [0, 1], [0, 1, 3, 2], [0, 1, 3, 2, 4]] [5, 6, 7, 8, 9])
 (.seq
 (.reg [ld 10 42 2 [2],
 oq 11 (.build 48 #[(2, .const (.int .i64 1)), (3, .const (.int .i64 1))]) 48 [],
 ⟨none, .store 42 (.tmp 0) (.tmp 10), 0, none, [10]⟩,
 ⟨none, .store 48 (.tmp 1) (.tmp 11), 0, none, [11]⟩])
 .ret))))
theorem F43.rs : Try.f43.results.toList = [.cell 0 42, .cell 1 48] := rfl
def book_New (k : Nat) : Option (Disk × Ledger) :=
 (mkl? 602 64 ((Vec.rep 2 ((Vec.rep 32 (0 : Int)) : (Vec 32 Int))) : (Vec 2 (Vec 32 Int)))).bind fun l1 =>
 (book_head k 1 0).bind fun x2 =>
 (at? l1 0).bind fun x3 =>
 (x3.at? 0).bind fun x4 =>
 (set? l1 0 (x3.set 0 x2)).bind fun l6 =>
 some ((⟨l6, []⟩ : Disk), (⟨(⟨[]⟩ : Book), 0, 1, 1⟩ : Ledger))
theorem book_New_ok (k : Nat) (r : Disk × Ledger) (h0 : book_New k = some r) : PCall Try.prog 43 [] (fun y => y = .tup [.agg (Disk.c r.1), .agg (Ledger.c r.2)]) := by
 refine PB (fn := Try.f43) (sc := F43.c) ?_
 refine rS ?_
 simp only [book_New] at h0
 try simp only [F43.c, go_sem]
 have hz := bs h0; clear h0; cases hz; rename_i l1 hz; cases hz; rename_i yl1 h0
 obtain ⟨_, kyl1⟩ := mkl_some yl1
 have eyl1 : List.replicate 602 (Vec.c (n := 2) (Vec.c (n := 32) eU8) (Vec.rep 2 ((Vec.rep 32 (0 : Int)) : (Vec 32 Int)))) = List.map (Vec.c (n := 2) (Vec.c (n := 32) eU8)) l1 := mkl_map (Vec.c (n := 2) (Vec.c (n := 32) eU8)) yl1
 have nyl1 : l1.length = 602 := mkl_len yl1
 have tyl1 : List.take 602 (List.map (Vec.c (n := 2) (Vec.c (n := 32) eU8)) l1) = List.map (Vec.c (n := 2) (Vec.c (n := 32) eU8)) l1 := mkl_take (Vec.c (n := 2) (Vec.c (n := 32) eU8)) yl1
 try simp only [mk_some kyl1, eyl1, nyl1, tyl1, (@id (Int.toNat 602 = 602) rfl), go_sem]
 refine AKev_region T_ok follows_ok 1000 ?_
 try simp only [eyl1, nyl1, tyl1, (@id (Int.toNat 602 = 602) rfl), go_sem]
 have hz := bs h0; clear h0; cases hz; rename_i x2 hz; cases hz; rename_i yx2 h0
 refine DG_call0 1000 (book_head_ok k _ _ _ yx2) ?_ (by first | rfl | simp [AV.refsL, AV.refs, AV.scal, AV.leaf]) ?_
 try simp only [eyl1, nyl1, tyl1, (@id (Int.toNat 602 = 602) rfl), go_sem]
 try simp only [eyl1, nyl1, tyl1, (@id (Int.toNat 602 = 602) rfl), go_sem]
 have hz := bs h0; clear h0; cases hz; rename_i x3 hz; cases hz; rename_i yx3 h0
 have eyx3 := at_in yx3
 simp only [eyl1, nyl1, tyl1, (@id (Int.toNat 602 = 602) rfl), go_sem] at eyx3
 try simp only [eyx3, at_get (Vec.c (n := 2) (Vec.c (n := 32) eU8)) yx3, eyl1, nyl1, tyl1, (@id (Int.toNat 602 = 602) rfl), go_sem]
 have hz := bs h0; clear h0; cases hz; rename_i x4 hz; cases hz; rename_i yx4 h0
 have uyx4 := UpdE.at (fun q_ => ((VK.vec vk_u8 32).len q_ : ((Vec.c (n := 32) eU8) q_).length = 32)) (UpdE.self (fun q_ => ((VK.vec (VK.vec vk_u8 32) 2).len q_ : (Vec.c (n := 2) (Vec.c (n := 32) eU8) q_).length = 64)) x3) yx4
 have buyx4 := uyx4.bound (fun q_ => ((VK.vec vk_u8 32).len q_ : ((Vec.c (n := 32) eU8) q_).length = 32))
 have guyx4 := uyx4.get (fun q_ => ((VK.vec vk_u8 32).len q_ : ((Vec.c (n := 32) eU8) q_).length = 32))
 try simp only [List.length_cons, List.length_nil, go_sem] at buyx4 guyx4
 try simp only [vat_in yx4, buyx4, guyx4, eyl1, nyl1, tyl1, (@id (Int.toNat 602 = 602) rfl), eyx3, at_get (Vec.c (n := 2) (Vec.c (n := 32) eU8)) yx3, go_sem]
 have hz := bs h0; clear h0; cases hz; rename_i l6 hz; cases hz; rename_i yl6 h0
 have q5 := uyx4.ow x2
 try simp only [List.length_cons, List.length_nil, go_sem] at q5
 have eyl6 := set_map (Vec.c (n := 2) (Vec.c (n := 32) eU8)) yl6
 try simp only [go_sem] at eyl6
 have tyl6 := set_take (Vec.c (n := 2) (Vec.c (n := 32) eU8)) yl6
 try simp only [eyl1, nyl1, tyl1, (@id (Int.toNat 602 = 602) rfl), eyx3, at_get (Vec.c (n := 2) (Vec.c (n := 32) eU8)) yx3, vat_in yx4, buyx4, guyx4, go_sem] at tyl6
 try simp only [q5, eyl6, eyl1, nyl1, tyl1, (@id (Int.toNat 602 = 602) rfl), eyx3, at_get (Vec.c (n := 2) (Vec.c (n := 32) eU8)) yx3, vat_in yx4, buyx4, guyx4, set_len yl6, tyl6, go_sem]
 refine DG_done ⟨calm_of (by simp only [skel, List.reverse_cons, List.reverse_nil, List.nil_append, List.cons_append, List.map_cons, List.map_nil, List.append_nil]; rfl) (by first | decide +kernel | rfl), run_sound T_ok 1000 _ _ ?_⟩
 try simp only [eyl1, nyl1, tyl1, (@id (Int.toNat 602 = 602) rfl), eyx3, at_get (Vec.c (n := 2) (Vec.c (n := 32) eU8)) yx3, vat_in yx4, buyx4, guyx4, eyl6, set_len yl6, tyl6, go_sem]
 obtain rfl := Option.some.inj h0
 refine AKev_ret rfl ?_
 try simp only [F43.rs, eyl1, nyl1, tyl1, (@id (Int.toNat 602 = 602) rfl), eyx3, at_get (Vec.c (n := 2) (Vec.c (n := 32) eU8)) yx3, vat_in yx4, buyx4, guyx4, eyl6, set_len yl6, tyl6, go_sem]
end Go.Abs
namespace Go.Abs
open Go Go.Proofs Go.RowKit Go.Lib
def F14.c : SC :=
 (.seq
 (.reg [sb 0 false 4 [0]])
 (.seq
 (.reg [oq 26 (.build 23 #[(0, .const (.int .i64 2))]) 23 [],
 oq 27 (.build 25 #[(0, .tmp 26), (1, .const (.int .i64 5)), (2, .const (.int .i64 10)), (3, .const (.int .i64 12)), (5, .const (.string ⟨#[98, 101, 110, 116, 32, 49, 48, 48, 48]⟩))]) 25 [26],
 oq 1 (.alloc 25) 0 [],
 ⟨none, .store 25 (.tmp 1) (.tmp 27), 0, none, [27]⟩])
 (.seq
 (.reg [ld 29 25 1 [],
 cf1 30 26 29 25 57 [29],
 mv 28 30 57 [30],
 xt 31 28 0 56 [],
 xt 32 28 1 28 [28],
 sg 2 31 56 [31],
 sg 3 32 28 [32]])
 (.seq
 (.reg [ld 34 25 1 [],
 oq 35 (.call ⟨.value (.func 15), #[.tmp 34, .const (.int .i64 0), .const (.int .i64 1)], #[25, 3, 3]⟩) 29 [34],
 mv 33 35 29 [35],
 xt 36 33 0 27 [],
 xt 37 33 1 28 [33],
 sg 4 36 27 [36],
 sg 5 37 28 [37]])
 (.seq
 (.reg [oq 39 (.call ⟨.value (.func 43), #[], #[]⟩) 76 [],
 mv 38 39 76 [39],
 xt 40 38 0 42 [],
 xt 41 38 1 48 [38],
 oq 6 (.alloc 42) 0 [],
 oq 7 (.alloc 48) 0 [],
 ⟨none, .store 42 (.tmp 6) (.tmp 40), 0, none, [40]⟩,
 ⟨none, .store 48 (.tmp 7) (.tmp 41), 0, none, [41]⟩])
 (.seq
 (.reg [ld 43 42 6 [6],
 ld 44 48 7 [7],
 ld 45 25 1 [],
 oq 46 (.call ⟨.value (.func 20), #[.tmp 43, .tmp 44, .tmp 45], #[42, 48, 25]⟩) 50 [43, 44, 45],
 mv 42 46 50 [46],
 xt 47 42 0 42 [],
 xt 48 42 1 48 [],
 xt 49 42 2 28 [42],
 oq 8 (.alloc 42) 0 [],
 oq 9 (.alloc 48) 0 [],
 ⟨none, .store 42 (.tmp 8) (.tmp 47), 0, none, [47]⟩,
 ⟨none, .store 48 (.tmp 9) (.tmp 48), 0, none, [48]⟩,
 sg 10 49 28 [49]])
 (.seq
 (.reg [ld 51 42 8 [],
 oq 52 (.buildSlice 63 2 #[(0, .const (.int .i64 2)), (1, .const (.int .i64 0))]) 63 [],
 cf2 53 36 51 52 42 63 42 [51, 52],
 cf1 54 32 53 42 50 [53],
 mv 50 54 50 [54],
 xt 55 50 0 42 [],
 xt 56 50 1 48 [],
 xt 57 50 2 28 [50],
 oq 11 (.alloc 42) 0 [],
 oq 12 (.alloc 48) 0 [],
 ⟨none, .store 42 (.tmp 11) (.tmp 55), 0, none, [55]⟩,
 ⟨none, .store 48 (.tmp 12) (.tmp 56), 0, none, [56]⟩,
 sg 13 57 28 [57]])
 (.seq
 (.reg [ld 59 42 11 [11],
 ld 60 48 12 [],
 ld 61 25 1 [1],
 oq 62 (.call ⟨.value (.func 20), #[.tmp 59, .tmp 60, .tmp 61], #[42, 48, 25]⟩) 50 [59, 60, 61],
 mv 58 62 50 [62],
 xt 63 58 0 42 [],
 xt 64 58 1 48 [],
 xt 65 58 2 28 [58],
 oq 14 (.alloc 42) 0 [],
 oq 15 (.alloc 48) 0 [],
 ⟨none, .store 42 (.tmp 14) (.tmp 63), 0, none, [63]⟩,
 ⟨none, .store 48 (.tmp 15) (.tmp 64), 0, none, [64]⟩,
 sg 16 65 28 [65]])
 (.seq
 (.reg [ld 67 42 14 [],
 oq 68 (.buildSlice 63 2 #[(0, .const (.int .i64 0)), (1, .const (.int .i64 1))]) 63 [],
 cf2 69 36 67 68 42 63 42 [67, 68],
 cf1 70 32 69 42 50 [69],
 mv 66 70 50 [70],
 xt 71 66 0 42 [],
 xt 72 66 1 48 [],
 xt 73 66 2 28 [66],
 oq 17 (.alloc 42) 0 [],
 oq 18 (.alloc 48) 0 [],
 ⟨none, .store 42 (.tmp 17) (.tmp 71), 0, none, [17, 71]⟩,
 ⟨none, .store 48 (.tmp 18) (.tmp 72), 0, none, [72]⟩,
 sg 19 73 28 [73]])
 (.seq
 (.reg [ld 75 42 14 [14],
 oq 76 (.buildSlice 63 2 #[(0, .const (.int .i64 3)), (1, .const (.int .i64 3))]) 63 [],
 cf2 77 36 75 76 42 63 42 [75, 76],
 cf1 78 32 77 42 50 [77],
 mv 74 78 50 [78],
 xt 79 74 0 42 [],
 xt 80 74 1 48 [],
 xt 81 74 2 28 [74],
 oq 20 (.alloc 42) 0 [],
 oq 21 (.alloc 48) 0 [],
 ⟨none, .store 42 (.tmp 20) (.tmp 79), 0, none, [20, 79]⟩,
 ⟨none, .store 48 (.tmp 21) (.tmp 80), 0, none, [80]⟩,
 sg 22 81 28 [81]])
 (.seq
 (.reg [mv 82 3 28 [3],
 bn 83 .eql 28 82 0 28 4 [82],
 mv 84 83 4 [83],
 og 85 (.move (.tmp 5)) 28 84 true [5],
 og 86 (.binOp .eql 28 (.tmp 85) (.const (.int .i64 0)) 28) 4 84 true [85],
 oq 87 (.pick (.tmp 84) (.tmp 86) (.const (.bool false))) 4 [84, 86],
 mv 88 87 4 [87],
 og 89 (.move (.tmp 10)) 28 88 true [10],
 og 90 (.binOp .eql 28 (.tmp 89) (.const (.int .i64 0)) 28) 4 88 true [89],
 oq 91 (.pick (.tmp 88) (.tmp 90) (.const (.bool false))) 4 [88, 90],
 mv 92 91 4 [91],
 og 93 (.move (.tmp 13)) 28 92 true [13],
 og 94 (.binOp .eql 28 (.tmp 93) (.const (.int .i64 0)) 28) 4 92 true [93],
 oq 95 (.pick (.tmp 92) (.tmp 94) (.const (.bool false))) 4 [92, 94],
 mv 96 95 4 [95],
 og 97 (.move (.tmp 16)) 28 96 true [16],
 og 98 (.binOp .eql 28 (.tmp 97) (.const (.int .i64 0)) 28) 4 96 true [97],
 oq 99 (.pick (.tmp 96) (.tmp 98) (.const (.bool false))) 4 [96, 98],
 mv 100 99 4 [99],
 og 101 (.move (.tmp 19)) 28 100 true [19],
 og 102 (.binOp .eql 28 (.tmp 101) (.const (.int .i64 0)) 28) 4 100 true [101],
 oq 103 (.pick (.tmp 100) (.tmp 102) (.const (.bool false))) 4 [100, 102],
 mv 104 103 4 [103],
 og 105 (.move (.tmp 22)) 28 104 true [22],
 og 106 (.binOp .eql 28 (.tmp 105) (.const (.int .i64 0)) 28) 4 104 true [105],
 oq 107 (.pick (.tmp 104) (.tmp 106) (.const (.bool false))) 4 [104, 106],
 sg 23 107 4 [107]])
 (.seq
 (.reg [mv 108 2 56 [2],
 ln 109 108 56 3 [108],
 bn 110 .eql 3 109 25 3 4 [109],
 mv 111 110 4 [110],
 og 112 (.move (.tmp 4)) 27 111 true [],
 og 113 (.call ⟨.builtin .len, #[.tmp 112], #[27]⟩) 3 111 true [112],
 og 114 (.binOp .eql 3 (.tmp 113) (.const (.int .i64 2)) 3) 4 111 true [113],
 oq 115 (.pick (.tmp 111) (.tmp 114) (.const (.bool false))) 4 [111, 114],
 mv 116 115 4 [115],
 og 117 (.move (.tmp 4)) 27 116 true [],
 og 118 (.indexAddr 27 (.tmp 117) (.const (.int .i64 1))) 0 116 true [117],
 og 119 (.indexAddr 122 (.tmp 118) (.const (.int .i64 6))) 0 116 true [118],
 og 120 (.load 5 (.tmp 119)) 5 116 true [119],
 og 121 (.binOp .eql 5 (.tmp 120) (.const (.int .u8 1)) 5) 4 116 true [120],
 oq 122 (.pick (.tmp 116) (.tmp 121) (.const (.bool false))) 4 [116, 121],
 mv 123 122 4 [122],
 og 124 (.move (.tmp 4)) 27 123 true [],
 og 125 (.indexAddr 27 (.tmp 124) (.const (.int .i64 1))) 0 123 true [124],
 og 126 (.indexAddr 122 (.tmp 125) (.const (.int .i64 7))) 0 123 true [125],
 og 127 (.load 5 (.tmp 126)) 5 123 true [126],
 og 128 (.binOp .eql 5 (.tmp 127) (.const (.int .u8 2)) 5) 4 123 true [127],
 oq 129 (.pick (.tmp 123) (.tmp 128) (.const (.bool false))) 4 [123, 128],
 mv 130 129 4 [129],
 og 131 (.move (.tmp 4)) 27 130 true [4],
 og 132 (.indexAddr 27 (.tmp 131) (.const (.int .i64 0))) 0 130 true [131],
 og 133 (.indexAddr 122 (.tmp 132) (.const (.int .i64 31))) 0 130 true [132],
 og 134 (.load 5 (.tmp 133)) 5 130 true [133],
 og 135 (.binOp .eql 5 (.tmp 134) (.const (.int .u8 165)) 5) 4 130 true [134],
 oq 136 (.pick (.tmp 130) (.tmp 135) (.const (.bool false))) 4 [130, 135],
 sg 24 136 4 [136]])
 (.seq
 (.reg [fa 137 42 8 1 [8],
 ld 138 40 137 [137],
 ln 139 138 40 3 [138],
 bn 140 .eql 3 139 2 3 4 [139],
 mv 141 140 4 [140],
 og 142 (.fieldAddr 48 (.tmp 9) 3) 0 141 true [9],
 og 143 (.load 3 (.tmp 142)) 3 141 true [142],
 og 144 (.binOp .eql 3 (.tmp 143) (.const (.int .i64 3)) 3) 4 141 true [143],
 oq 145 (.pick (.tmp 141) (.tmp 144) (.const (.bool false))) 4 [141, 144],
 mv 146 145 4 [145],
 og 147 (.fieldAddr 48 (.tmp 12) 0) 0 146 true [],
 og 148 (.fieldAddr 46 (.tmp 147) 0) 0 146 true [147],
 og 149 (.load 44 (.tmp 148)) 44 146 true [148],
 og 150 (.call ⟨.builtin .len, #[.tmp 149], #[44]⟩) 3 146 true [149],
 og 151 (.binOp .eql 3 (.tmp 150) (.const (.int .i64 0)) 3) 4 146 true [150],
 oq 152 (.pick (.tmp 146) (.tmp 151) (.const (.bool false))) 4 [146, 151],
 mv 153 152 4 [152],
 og 154 (.fieldAddr 48 (.tmp 12) 2) 0 153 true [12],
 og 155 (.load 3 (.tmp 154)) 3 153 true [154],
 og 156 (.binOp .eql 3 (.tmp 155) (.const (.int .i64 2)) 3) 4 153 true [155],
 oq 157 (.pick (.tmp 153) (.tmp 156) (.const (.bool false))) 4 [153, 156],
 mv 158 157 4 [157],
 og 159 (.fieldAddr 48 (.tmp 15) 3) 0 158 true [15],
 og 160 (.load 3 (.tmp 159)) 3 158 true [159],
 og 161 (.binOp .eql 3 (.tmp 160) (.const (.int .i64 3)) 3) 4 158 true [160],
 oq 162 (.pick (.tmp 158) (.tmp 161) (.const (.bool false))) 4 [158, 161],
 sg 25 162 4 [162]])
 (.seq
 (.reg [mv 163 23 4 [23],
 mv 164 163 4 [163],
 og 165 (.move (.tmp 24)) 4 164 true [24],
 oq 166 (.pick (.tmp 164) (.tmp 165) (.const (.bool false))) 4 [164, 165],
 mv 167 166 4 [166],
 og 168 (.move (.tmp 25)) 4 167 true [25],
 oq 169 (.pick (.tmp 167) (.tmp 168) (.const (.bool false))) 4 [167, 168],
 mv 170 169 4 [169],
 og 171 (.fieldAddr 48 (.tmp 18) 0) 0 170 true [],
 og 172 (.fieldAddr 46 (.tmp 171) 0) 0 170 true [171],
 og 173 (.load 44 (.tmp 172)) 44 170 true [172],
 og 174 (.call ⟨.builtin .len, #[.tmp 173], #[44]⟩) 3 170 true [173],
 og 175 (.binOp .eql 3 (.tmp 174) (.const (.int .i64 0)) 3) 4 170 true [174],
 oq 176 (.pick (.tmp 170) (.tmp 175) (.const (.bool false))) 4 [170, 175],
 mv 177 176 4 [176],
 og 178 (.fieldAddr 48 (.tmp 18) 2) 0 177 true [18],
 og 179 (.load 3 (.tmp 178)) 3 177 true [178],
 og 180 (.binOp .eql 3 (.tmp 179) (.const (.int .i64 3)) 3) 4 177 true [179],
 oq 181 (.pick (.tmp 177) (.tmp 180) (.const (.bool false))) 4 [177, 180],
 mv 182 181 4 [181],
 og 183 (.fieldAddr 48 (.tmp 21) 0) 0 182 true [],
 og 184 (.fieldAddr 46 (.tmp 183) 0) 0 182 true [183],
 og 185 (.load 44 (.tmp 184)) 44 182 true [184],
 og 186 (.call ⟨.builtin .len, #[.tmp 185], #[44]⟩) 3 182 true [185],
 og 187 (.binOp .eql 3 (.tmp 186) (.const (.int .i64 1)) 3) 4 182 true [186],
 oq 188 (.pick (.tmp 182) (.tmp 187) (.const (.bool false))) 4 [182, 187],
 mv 189 188 4 [188],
 og 190 (.fieldAddr 48 (.tmp 21) 2) 0 189 true [21],
 og 191 (.load 3 (.tmp 190)) 3 189 true [190],
 og 192 (.binOp .eql 3 (.tmp 191) (.const (.int .i64 3)) 3) 4 189 true [191],
 oq 193 (.pick (.tmp 189) (.tmp 192) (.const (.bool false))) 4 [189, 192],
 sg 0 193 4 [193]])
 .ret))))))))))))))
theorem F14.rs : Try.f14.results.toList = [.tmp 0] := rfl
def L09_sane (k : Nat) : Option (Bool) :=
 (book_Encode k (⟨(⟨2, 0⟩ : Entry), 5, 10, 12, (⟨0, 0⟩ : Entry), (⟨#[98, 101, 110, 116, 32, 49, 48, 48, 48]⟩ : ByteArray)⟩ : Record)).bind fun x1 =>
 (book_Halves k (⟨(⟨2, 0⟩ : Entry), 5, 10, 12, (⟨0, 0⟩ : Entry), (⟨#[98, 101, 110, 116, 32, 49, 48, 48, 48]⟩ : ByteArray)⟩ : Record) 0 1).bind fun x2 =>
 (book_New k).bind fun x3 =>
 (book_Append k x3.1 x3.2 (⟨(⟨2, 0⟩ : Entry), 5, 10, 12, (⟨0, 0⟩ : Entry), (⟨#[98, 101, 110, 116, 32, 49, 48, 48, 48]⟩ : ByteArray)⟩ : Record)).bind fun x4 =>
 (book_Crash k x4.1 [2, 0]).bind fun x5 =>
 (book_Open k x5).bind fun x6 =>
 (book_Append k x6.1 x6.2.1 (⟨(⟨2, 0⟩ : Entry), 5, 10, 12, (⟨0, 0⟩ : Entry), (⟨#[98, 101, 110, 116, 32, 49, 48, 48, 48]⟩ : ByteArray)⟩ : Record)).bind fun x7 =>
 (book_Crash k x7.1 [0, 1]).bind fun x8 =>
 (book_Open k x8).bind fun x9 =>
 (book_Crash k x7.1 [3, 3]).bind fun x10 =>
 (book_Open k x10).bind fun x11 =>
 bif decide (x1.2 = (0 : Int)) then
  bif decide (x2.2 = (0 : Int)) then
   bif decide (x4.2.2 = (0 : Int)) then
    bif decide (x6.2.2 = (0 : Int)) then
     bif decide (x7.2.2 = (0 : Int)) then
      bif decide (x9.2.2 = (0 : Int)) then
       bif decide ((x1.1.length : Int) = (25 : Int)) then
        bif decide ((x2.1.length : Int) = (2 : Int)) then
         (at? x2.1 1).bind fun x20 =>
         (x20.at? 6).bind fun x21 =>
         bif decide (x21 = (1 : Int)) then
          (x20.at? 7).bind fun x23 =>
          bif decide (x23 = (2 : Int)) then
           (at? x2.1 0).bind fun x25 =>
           (x25.at? 31).bind fun x26 =>
           bif decide ((x4.1.Wait.length : Int) = (2 : Int)) then
            bif decide (x4.2.1.Used = (3 : Int)) then
             bif decide ((x6.2.1.Book.Records.length : Int) = (0 : Int)) then
              bif decide (x6.2.1.Epoch = (2 : Int)) then
               bif decide (x11.2.2 = (0 : Int)) then
                bif decide (x26 = (165 : Int)) then
                 bif decide (x7.2.1.Used = (3 : Int)) then
                  bif decide ((x9.2.1.Book.Records.length : Int) = (0 : Int)) then
                   bif decide (x9.2.1.Epoch = (3 : Int)) then
                    bif decide ((x11.2.1.Book.Records.length : Int) = (1 : Int)) then
                     some (decide (x11.2.1.Epoch = (3 : Int)))
                    else
                     none
                   else
                    none
                  else
                   none
                 else
                  none
                else
                 none
               else
                none
              else
               none
             else
              none
            else
             none
           else
            none
          else
           none
         else
          none
        else
         none
       else
        none
      else
       none
     else
      none
    else
     none
   else
    none
  else
   none
 else
  none
theorem L09_sane_ok (k : Nat) (r : Bool) (h0 : L09_sane k = some r) : PCall Try.prog 14 [] (fun y => y = .bool r) := by
 refine PCall.nlr (PCall.of_body T_ok (fn := Try.f14) (sc := F14.c) (by rfl) (by rfl) (by decide +kernel) (by rfl) (by decide +kernel) (Nat.le_of_ble_eq_true rfl) ?_)
 refine run_sound T_ok 1000 _ _ ?_
 simp only [L09_sane] at h0
 try simp only [F14.c, go_sem]
 obtain ⟨x1, yx1, h0⟩ := bind_some h0
 refine AKev_call0 T_ok 1000 (book_Encode_ok k _ _ yx1) ?_ (by first | rfl | simp [AV.refsL, AV.refs, AV.scal, AV.leaf]) ?_
 ·try simp only [go_sem]
 try simp only [go_sem]
 obtain ⟨x2, yx2, h0⟩ := bind_some h0
 refine AKev_call0 T_ok 1000 (book_Halves_ok k _ _ _ _ yx2) ?_ (by first | rfl | simp [AV.refsL, AV.refs, AV.scal, AV.leaf]) ?_
 ·try simp only [go_sem]
 try simp only [go_sem]
 obtain ⟨x3, yx3, h0⟩ := bind_some h0
 refine AKev_call0 T_ok 1000 (book_New_ok k _ yx3) ?_ (by first | rfl | simp [AV.refsL, AV.refs, AV.scal, AV.leaf]) ?_
 ·try simp only [go_sem]
 try simp only [go_sem]
 obtain ⟨x4, yx4, h0⟩ := bind_some h0
 refine AKev_call0 T_ok 1000 (book_Append_ok k _ _ _ _ yx4) ?_ (by first | rfl | simp [AV.refsL, AV.refs, AV.scal, AV.leaf]) ?_
 ·try simp only [go_sem]
 try simp only [go_sem]
 obtain ⟨x5, yx5, h0⟩ := bind_some h0
 refine AKev_take T_ok 1000 [656] (book_Crash_ok k _ _ _ yx5) ?_ ?_
 ·try simp only [go_sem]
 try simp only [go_sem]
 obtain ⟨x6, yx6, h0⟩ := bind_some h0
 refine AKev_call0 T_ok 1000 (book_Open_ok k _ _ yx6) ?_ (by first | rfl | simp [AV.refsL, AV.refs, AV.scal, AV.leaf]) ?_
 ·try simp only [go_sem]
 try simp only [go_sem]
 obtain ⟨x7, yx7, h0⟩ := bind_some h0
 refine AKev_call0 T_ok 1000 (book_Append_ok k _ _ _ _ yx7) ?_ (by first | rfl | simp [AV.refsL, AV.refs, AV.scal, AV.leaf]) ?_
 ·try simp only [go_sem]
 try simp only [go_sem]
 obtain ⟨x8, yx8, h0⟩ := bind_some h0
 refine AKev_take T_ok 1000 [1072] (book_Crash_ok k _ _ _ yx8) ?_ ?_
 ·try simp only [go_sem]
 try simp only [go_sem]
 obtain ⟨x9, yx9, h0⟩ := bind_some h0
 refine AKev_call0 T_ok 1000 (book_Open_ok k _ _ yx9) ?_ (by first | rfl | simp [AV.refsL, AV.refs, AV.scal, AV.leaf]) ?_
 ·try simp only [go_sem]
 try simp only [go_sem]
 obtain ⟨x10, yx10, h0⟩ := bind_some h0
 refine AKev_take T_ok 1000 [1280] (book_Crash_ok k _ _ _ yx10) ?_ ?_
 ·try simp only [go_sem]
 try simp only [go_sem]
 obtain ⟨x11, yx11, h0⟩ := bind_some h0
 refine AKev_call0 T_ok 1000 (book_Open_ok k _ _ yx11) ?_ (by first | rfl | simp [AV.refsL, AV.refs, AV.scal, AV.leaf]) ?_
 ·try simp only [go_sem]
 try simp only [go_sem]
 refine AKev_bif h0 (fun c12 h0 => ?_) (fun c12 h0 => ?_)
 ·try simp only [c12, go_sem]
  refine AKev_bif h0 (fun c13 h0 => ?_) (fun c13 h0 => ?_)
  ·try simp only [c13, c12, go_sem]
   refine AKev_bif h0 (fun c14 h0 => ?_) (fun c14 h0 => ?_)
   ·try simp only [c14, c12, c13, go_sem]
    refine AKev_bif h0 (fun c15 h0 => ?_) (fun c15 h0 => ?_)
    ·try simp only [c15, c12, c13, c14, go_sem]
     refine AKev_bif h0 (fun c16 h0 => ?_) (fun c16 h0 => ?_)
     ·try simp only [c16, c12, c13, c14, c15, go_sem]
      refine AKev_bif h0 (fun c17 h0 => ?_) (fun c17 h0 => ?_)
      ·try simp only [c17, c12, c13, c14, c15, c16, go_sem]
       refine AKev_bif h0 (fun c18 h0 => ?_) (fun c18 h0 => ?_)
       ·try simp only [c18, c12, c13, c14, c15, c16, c17, go_sem]
        refine AKev_bif h0 (fun c19 h0 => ?_) (fun c19 h0 => ?_)
        ·try simp only [c19, c12, c13, c14, c15, c16, c17, c18, go_sem]
         obtain ⟨x20, yx20, h0⟩ := bind_some h0
         try simp only [at_in yx20, at_get (Vec.c (n := 32) eU8) yx20, c12, c13, c14, c15, c16, c17, c18, c19, go_sem]
         obtain ⟨x21, yx21, h0⟩ := bind_some h0
         have uyx21 := UpdE.at (fun q_ => (vk_u8.len q_ : (eU8 q_).length = 1)) (UpdE.self (fun q_ => ((VK.vec vk_u8 32).len q_ : (Vec.c (n := 32) eU8 q_).length = 32)) x20) yx21
         have buyx21 := uyx21.bound (fun q_ => (vk_u8.len q_ : (eU8 q_).length = 1))
         have guyx21 := uyx21.get (fun q_ => (vk_u8.len q_ : (eU8 q_).length = 1))
         try simp only [List.length_cons, List.length_nil, go_sem] at buyx21 guyx21
         try simp only [vat_in yx21, buyx21, guyx21, c12, c13, c14, c15, c16, c17, c18, c19, at_in yx20, at_get (Vec.c (n := 32) eU8) yx20, go_sem]
         refine AKev_bif h0 (fun c22 h0 => ?_) (fun c22 h0 => ?_)
         ·try simp only [c22, at_in yx20, at_get (Vec.c (n := 32) eU8) yx20, c12, c13, c14, c15, c16, c17, c18, c19, vat_in yx21, buyx21, guyx21, go_sem]
          obtain ⟨x23, yx23, h0⟩ := bind_some h0
          have uyx23 := UpdE.at (fun q_ => (vk_u8.len q_ : (eU8 q_).length = 1)) (UpdE.self (fun q_ => ((VK.vec vk_u8 32).len q_ : (Vec.c (n := 32) eU8 q_).length = 32)) x20) yx23
          have buyx23 := uyx23.bound (fun q_ => (vk_u8.len q_ : (eU8 q_).length = 1))
          have guyx23 := uyx23.get (fun q_ => (vk_u8.len q_ : (eU8 q_).length = 1))
          try simp only [List.length_cons, List.length_nil, go_sem] at buyx23 guyx23
          try simp only [vat_in yx23, buyx23, guyx23, c12, c13, c14, c15, c16, c17, c18, c19, at_in yx20, at_get (Vec.c (n := 32) eU8) yx20, vat_in yx21, buyx21, guyx21, c22, go_sem]
          refine AKev_bif h0 (fun c24 h0 => ?_) (fun c24 h0 => ?_)
          ·try simp only [c24, c12, c13, c14, c15, c16, c17, c18, c19, at_in yx20, at_get (Vec.c (n := 32) eU8) yx20, vat_in yx21, buyx21, guyx21, c22, vat_in yx23, buyx23, guyx23, go_sem]
           obtain ⟨x25, yx25, h0⟩ := bind_some h0
           try simp only [at_in yx25, at_get (Vec.c (n := 32) eU8) yx25, c12, c13, c14, c15, c16, c17, c18, c19, at_in yx20, at_get (Vec.c (n := 32) eU8) yx20, vat_in yx21, buyx21, guyx21, c22, vat_in yx23, buyx23, guyx23, c24, go_sem]
           obtain ⟨x26, yx26, h0⟩ := bind_some h0
           have uyx26 := UpdE.at (fun q_ => (vk_u8.len q_ : (eU8 q_).length = 1)) (UpdE.self (fun q_ => ((VK.vec vk_u8 32).len q_ : (Vec.c (n := 32) eU8 q_).length = 32)) x25) yx26
           have buyx26 := uyx26.bound (fun q_ => (vk_u8.len q_ : (eU8 q_).length = 1))
           have guyx26 := uyx26.get (fun q_ => (vk_u8.len q_ : (eU8 q_).length = 1))
           try simp only [List.length_cons, List.length_nil, go_sem] at buyx26 guyx26
           try simp only [vat_in yx26, buyx26, guyx26, c12, c13, c14, c15, c16, c17, c18, c19, at_in yx20, at_get (Vec.c (n := 32) eU8) yx20, vat_in yx21, buyx21, guyx21, c22, vat_in yx23, buyx23, guyx23, c24, at_in yx25, at_get (Vec.c (n := 32) eU8) yx25, go_sem]
           refine AKev_bif h0 (fun c27 h0 => ?_) (fun c27 h0 => ?_)
           ·try simp only [c27, c12, c13, c14, c15, c16, c17, c18, c19, at_in yx20, at_get (Vec.c (n := 32) eU8) yx20, vat_in yx21, buyx21, guyx21, c22, vat_in yx23, buyx23, guyx23, c24, at_in yx25, at_get (Vec.c (n := 32) eU8) yx25, vat_in yx26, buyx26, guyx26, go_sem]
            refine AKev_bif h0 (fun c28 h0 => ?_) (fun c28 h0 => ?_)
            ·try simp only [c28, c12, c13, c14, c15, c16, c17, c18, c19, at_in yx20, at_get (Vec.c (n := 32) eU8) yx20, vat_in yx21, buyx21, guyx21, c22, vat_in yx23, buyx23, guyx23, c24, at_in yx25, at_get (Vec.c (n := 32) eU8) yx25, vat_in yx26, buyx26, guyx26, c27, go_sem]
             refine AKev_bif h0 (fun c29 h0 => ?_) (fun c29 h0 => ?_)
             ·try simp only [c29, c12, c13, c14, c15, c16, c17, c18, c19, at_in yx20, at_get (Vec.c (n := 32) eU8) yx20, vat_in yx21, buyx21, guyx21, c22, vat_in yx23, buyx23, guyx23, c24, at_in yx25, at_get (Vec.c (n := 32) eU8) yx25, vat_in yx26, buyx26, guyx26, c27, c28, go_sem]
              refine AKev_bif h0 (fun c30 h0 => ?_) (fun c30 h0 => ?_)
              ·try simp only [c30, c12, c13, c14, c15, c16, c17, c18, c19, at_in yx20, at_get (Vec.c (n := 32) eU8) yx20, vat_in yx21, buyx21, guyx21, c22, vat_in yx23, buyx23, guyx23, c24, at_in yx25, at_get (Vec.c (n := 32) eU8) yx25, vat_in yx26, buyx26, guyx26, c27, c28, c29, go_sem]
               refine AKev_bif h0 (fun c31 h0 => ?_) (fun c31 h0 => ?_)
               ·try simp only [c31, c12, c13, c14, c15, c16, c17, c18, c19, at_in yx20, at_get (Vec.c (n := 32) eU8) yx20, vat_in yx21, buyx21, guyx21, c22, vat_in yx23, buyx23, guyx23, c24, at_in yx25, at_get (Vec.c (n := 32) eU8) yx25, vat_in yx26, buyx26, guyx26, c27, c28, c29, c30, go_sem]
                refine AKev_bif h0 (fun c32 h0 => ?_) (fun c32 h0 => ?_)
                ·try simp only [c32, c12, c13, c14, c15, c16, c17, c18, c19, at_in yx20, at_get (Vec.c (n := 32) eU8) yx20, vat_in yx21, buyx21, guyx21, c22, vat_in yx23, buyx23, guyx23, c24, at_in yx25, at_get (Vec.c (n := 32) eU8) yx25, vat_in yx26, buyx26, guyx26, c27, c28, c29, c30, c31, go_sem]
                 refine AKev_bif h0 (fun c33 h0 => ?_) (fun c33 h0 => ?_)
                 ·try simp only [c33, c12, c13, c14, c15, c16, c17, c18, c19, at_in yx20, at_get (Vec.c (n := 32) eU8) yx20, vat_in yx21, buyx21, guyx21, c22, vat_in yx23, buyx23, guyx23, c24, at_in yx25, at_get (Vec.c (n := 32) eU8) yx25, vat_in yx26, buyx26, guyx26, c27, c28, c29, c30, c31, c32, go_sem]
                  refine AKev_bif h0 (fun c34 h0 => ?_) (fun c34 h0 => ?_)
                  ·try simp only [c34, c12, c13, c14, c15, c16, c17, c18, c19, at_in yx20, at_get (Vec.c (n := 32) eU8) yx20, vat_in yx21, buyx21, guyx21, c22, vat_in yx23, buyx23, guyx23, c24, at_in yx25, at_get (Vec.c (n := 32) eU8) yx25, vat_in yx26, buyx26, guyx26, c27, c28, c29, c30, c31, c32, c33, go_sem]
                   refine AKev_bif h0 (fun c35 h0 => ?_) (fun c35 h0 => ?_)
                   ·try simp only [c35, c12, c13, c14, c15, c16, c17, c18, c19, at_in yx20, at_get (Vec.c (n := 32) eU8) yx20, vat_in yx21, buyx21, guyx21, c22, vat_in yx23, buyx23, guyx23, c24, at_in yx25, at_get (Vec.c (n := 32) eU8) yx25, vat_in yx26, buyx26, guyx26, c27, c28, c29, c30, c31, c32, c33, c34, go_sem]
                    refine AKev_bif h0 (fun c36 h0 => ?_) (fun c36 h0 => ?_)
                    ·try simp only [c36, c12, c13, c14, c15, c16, c17, c18, c19, at_in yx20, at_get (Vec.c (n := 32) eU8) yx20, vat_in yx21, buyx21, guyx21, c22, vat_in yx23, buyx23, guyx23, c24, at_in yx25, at_get (Vec.c (n := 32) eU8) yx25, vat_in yx26, buyx26, guyx26, c27, c28, c29, c30, c31, c32, c33, c34, c35, go_sem]
                     obtain rfl := Option.some.inj h0
                     refine AKev_ret rfl ?_
                     try simp only [F14.rs, c12, c13, c14, c15, c16, c17, c18, c19, at_in yx20, at_get (Vec.c (n := 32) eU8) yx20, vat_in yx21, buyx21, guyx21, c22, vat_in yx23, buyx23, guyx23, c24, at_in yx25, at_get (Vec.c (n := 32) eU8) yx25, vat_in yx26, buyx26, guyx26, c27, c28, c29, c30, c31, c32, c33, c34, c35, c36, go_sem]
                    ·cases h0
                   ·cases h0
                  ·cases h0
                 ·cases h0
                ·cases h0
               ·cases h0
              ·cases h0
             ·cases h0
            ·cases h0
           ·cases h0
          ·cases h0
         ·cases h0
        ·cases h0
       ·cases h0
      ·cases h0
     ·cases h0
    ·cases h0
   ·cases h0
  ·cases h0
 ·cases h0
def F39.c : SC :=
 (.seq
 (.reg [sn 4 0 3 [4]])
 (.seq
 (.reg [mv 5 0 3 [0],
 mv 6 1 3 [],
 b2 7 .rem 3 5 6 3 3 [5, 6],
 mv 8 1 3 [],
 b2 9 .add 3 7 8 3 3 [7, 8],
 mv 10 1 3 [1],
 b2 11 .rem 3 9 10 3 3 [9, 10],
 sg 4 11 3 [11]])
 .ret))
theorem F39.rs : Try.f39.results.toList = [.tmp 4] := rfl
def R09_Mod (k : Nat) (n0 : Int) (m1 : Int) : Option (Int) :=
 (nz? m1).bind fun _ =>
 some (Int.tmod (w64 ((Int.tmod n0 m1) + m1)) m1)
theorem R09_Mod_ok (k : Nat) (n0 : Int) (m1 : Int) (r : Int) (h0 : R09_Mod k n0 m1 = some r) : PCall Try.prog 39 [.int .i64 n0, .int .i64 m1] (fun y => y = .int .i64 r) := by
 refine PB (fn := Try.f39) (sc := F39.c) ?_
 refine rS ?_
 simp only [R09_Mod] at h0
 try simp only [F39.c, go_sem]
 obtain ⟨u1, yu1, h0⟩ := bs h0
 try simp only [nz_some yu1, go_sem]
 obtain rfl := Option.some.inj h0
 refine AKev_ret rfl ?_
 try simp only [F39.rs, nz_some yu1, go_sem]
def F105.s0 : SC :=
 (.seq
 (.seq
 (.reg [mv 5 4 3 [],
 mv 6 0 44 [],
 ln 7 6 44 3 [6],
 b2 8 .lss 3 5 7 3 4 [5, 7]])
 (.cond (.tmp 8)
 .skip
 (.exit 0)))
 (.seq
 (.block 1
 (.reg [mv 11 0 44 [],
 mv 12 4 3 [],
 ia 13 44 11 12 [11, 12],
 fa 14 25 13 0 [13],
 fa 15 23 14 0 [14],
 ld 16 3 15 [15],
 ia 17 95 3 16 [],
 ld 18 3 17 [17],
 bn 19 .add 3 18 1 3 3 [18],
 ia 20 95 3 16 [16],
 ⟨none, .store 3 (.tmp 20) (.tmp 19), 0, none, [19, 20]⟩]))
 (.reg [mv 9 4 3 [4],
 bn 10 .add 3 9 1 3 3 [9],
 sg 4 10 3 [10]])))
def F105.c : SC :=
 (.seq
 (.reg [oq 2 (.alloc 95) 0 []])
 (.seq
 (.reg [oq 3 (.alloc 95) 0 []])
 (.seq
 (.seq
 (.reg [sn 4 0 3 []])
 (.block 0
 (.loop F105.s0)))
 (.seq
 (.reg [ld 21 95 3 [3],
 ⟨none, .store 95 (.tmp 2) (.tmp 21), 0, none, [21]⟩])
 .ret))))
theorem F105.rs : Try.f105.results.toList = [.cell 2 95] := rfl
def R09_many.b0 (k : Nat) (l0 : (List Record)) : ((Vec 6 Int) × Int) → Option (Stp ((Vec 6 Int) × Int) ((Vec 6 Int)) ((Vec 6 Int))) := fun (s : (Vec 6 Int) × Int) => match s with
 | (s1, i2) =>
   bif decide (i2 < (l0.length : Int)) then
    (at? l0 i2).bind fun x5 =>
    (s1.at? x5.At.House).bind fun x6 =>
    some (.next (s1.set x5.At.House (w64 (x6 + 1)), w64 (i2 + 1)))
   else
    some (.brk s1)
noncomputable def R09_many.h0 (l0 : (List Record)) : ((Vec 6 Int) × Int) → St := fun (s : (Vec 6 Int) × Int) => match s with
 | (s1, i2) => ⟨[(0, .sl 8 (List.map Record.c l0)), (2, .ptr 0 0 0), (3, .ptr 0 1 0), (4, .int .i64 i2)], [(0, .box (Vec.c (n := 6) eI (Vec.rep 6 (0 : Int)))), (1, .box (Vec.c (n := 6) eI s1))], [], 2, Try.f105.ntmps⟩
noncomputable def R09_many.x0 : (Vec 6 Int) → St := fun (s3 : (Vec 6 Int)) => ⟨[(2, .ptr 0 0 0), (3, .ptr 0 1 0)], [(0, .box (Vec.c (n := 6) eI (Vec.rep 6 (0 : Int)))), (1, .box (Vec.c (n := 6) eI s3))], [], 2, Try.f105.ntmps⟩
def R09_many (k : Nat) (l0 : (List Record)) : Option ((Vec 6 Int)) :=
 (whl (R09_many.b0 k l0) k ((Vec.rep 6 (0 : Int)), 0)).bind fun r8 => match r8 with
 | .next _ => none
 | .ret v_ => some v_
 | .brk s3 =>
  some s3
theorem R09_many_ok (k : Nat) (l0 : (List Record)) (r : (Vec 6 Int)) (h0 : R09_many k l0 = some r) : PCall Try.prog 105 [.sl 8 (List.map Record.c l0)] (fun y => y = .agg ((Vec.c (n := 6) eI) r)) := by
 refine PB (fn := Try.f105) (sc := F105.c) ?_
 refine rS ?_
 simp only [R09_many] at h0
 try simp only [F105.c, go_sem]
 obtain ⟨r8, yr8, h0⟩ := bs h0
 refine AKev_loopS yr8 (R09_many.h0 l0) (R09_many.x0) ?_ ?_ ?_
 refine Weak.go [0, 2, 3, 4] [0, 16] rfl ?_
 try simp only [R09_many.h0, go_sem]
 rintro ⟨s1, i2⟩ x_1 Bk1 Br1 h1 hnext1 hbrk1 hret1
 refine rS ?_
 simp only [R09_many.b0] at h1
 try simp only [F105.s0, R09_many.h0, go_sem]
 refine AKev_bif h1 ?_ ?_ <;> intro c4 h1
 try simp only [c4, go_sem]
 obtain ⟨x5, yx5, h1⟩ := bs h1
 try simp only [aa yx5, c4, go_sem]
 obtain ⟨x6, yx6, h1⟩ := bs h1
 have uyx6 := UpdE.at (fun q_ => (vk_i.len q_ : (eI q_).length = 1)) (UpdE.self (fun q_ => ((VK.vec vk_i 6).len q_ : (Vec.c (n := 6) eI q_).length = 6)) s1) yx6
 have buyx6 := uyx6.bound (fun q_ => (vk_i.len q_ : (eI q_).length = 1))
 have guyx6 := uyx6.get (fun q_ => (vk_i.len q_ : (eI q_).length = 1))
 try simp only [List.length_cons, List.length_nil, go_sem] at buyx6 guyx6
 have q7 := uyx6.ow (w64 (x6 + 1))
 try simp only [List.length_cons, List.length_nil, go_sem] at q7
 try simp only [vat_in yx6, buyx6, guyx6, q7, c4, aa yx5, go_sem]
 refine AKev_backB (hnext1 _ _ (Option.some.inj h1).symm ?_)
 refine Weak.go [0, 2, 3, 4] [0, 1] rfl ?_
 try simp only [R09_many.h0, c4, aa yx5, vat_in yx6, buyx6, guyx6, go_sem]
 try simp only [c4, go_sem]
 refine AKev_backB (hbrk1 _ _ (Option.some.inj h1).symm ?_)
 refine Weak.go [2, 3] [0, 1] rfl ?_
 try simp only [R09_many.x0, c4, go_sem]
 rintro s3 hr_
 subst hr_
 simp only at h0
 refine rS ?_
 try simp only [R09_many.x0, go_sem]
 obtain rfl := Option.some.inj h0
 refine AKev_ret rfl ?_
 try simp only [F105.rs, go_sem]
def F95.c : SC :=
 (.seq
 (.reg [oq 3 (.box 79 (.tmp 1)) 0 [1],
 oq 4 (.alloc 25) 0 []])
 (.seq
 (.reg [oq 8 (.indexAddr 79 (.tmp 3) (.const (.int .i64 0))) 0 [],
 ld 9 3 8 [8],
 oq 10 (.call ⟨.value (.func 39), #[.tmp 9, .const (.int .i64 3)], #[3, 3]⟩) 3 [9],
 sg 5 10 3 [10]])
 (.seq
 (.dreg [mv 11 5 3 [],
 mv 12 0 44 [],
 cf1 13 105 12 44 95 [],
 mv 14 5 3 [],
 oq 15 (.index 95 (.tmp 13) (.tmp 14)) 3 [],
 oq 16 (.build 23 #[(0, .tmp 11), (1, .tmp 15)]) 23 [],
 oq 17 (.indexAddr 79 (.tmp 3) (.const (.int .i64 1))) 0 [],
 ld 18 3 17 [],
 oq 19 (.call ⟨.value (.func 39), #[.tmp 18, .const (.int .i64 6)], #[3, 3]⟩) 3 [],
 oq 20 (.indexAddr 79 (.tmp 3) (.const (.int .i64 2))) 0 [],
 ld 21 3 20 [],
 oq 22 (.call ⟨.value (.func 39), #[.tmp 21, .const (.int .i64 50)], #[3, 3]⟩) 3 [],
 oq 23 (.indexAddr 79 (.tmp 3) (.const (.int .i64 3))) 0 [],
 ld 24 3 23 [],
 oq 25 (.call ⟨.value (.func 39), #[.tmp 24, .const (.int .i64 50)], #[3, 3]⟩) 3 [],
 oq 26 (.build 25 #[(0, .tmp 16), (1, .tmp 19), (2, .tmp 22), (3, .tmp 25)]) 25 [],
 oq 6 (.alloc 25) 0 [],
 ⟨none, .store 25 (.tmp 6) (.tmp 26), 0, none, []⟩] [[], [], [1], [], [1, 2, 3], [0, 1, 2, 3, 4], [], [6], [6, 7, 1, 2], [], [9], [9, 10, 6, 7, 1, 2, 8], [], [12], [12, 13, 9, 10, 6, 7, 1, 2, 8, 11], [0, 1, 2, 3, 4, 5, 6, 7, 8, 9, 10, 11, 12, 13, 14], [], [16, 0, 1, 2, 3, 4, 5, 6, 7, 8, 9, 10, 11, 12, 13, 14, 15]] [0, 11, 12, 13, 14, 15, 16, 17, 18, 19, 20, 21, 22, 23, 24, 25, 26])
 (.seq
 (.seq
 (.reg [fa 27 25 6 1 [],
 ld 28 3 27 [27],
 bn 29 .eql 3 28 0 3 4 [28],
 mv 30 29 4 [29],
 og 31 (.fieldAddr 25 (.tmp 6) 0) 0 30 true [],
 og 32 (.fieldAddr 23 (.tmp 31) 1) 0 30 true [31],
 og 33 (.load 3 (.tmp 32)) 3 30 true [32],
 og 34 (.binOp .gtr 3 (.tmp 33) (.const (.int .i64 0)) 3) 4 30 true [33],
 oq 35 (.pick (.tmp 30) (.tmp 34) (.const (.bool false))) 4 [30, 34]])
 (.cond (.tmp 35)
 (.seq
 (.reg [fa 36 25 6 2 [],
 ⟨none, .store 3 (.tmp 36) (.const (.int .i64 0)), 0, none, [36]⟩])
 (.seq
 (.reg [mv 37 5 3 [5],
 oq 38 (.indexAddr 79 (.tmp 3) (.const (.int .i64 2))) 0 [3],
 ld 39 3 38 [38],
 fa 40 25 6 0 [],
 fa 41 23 40 1 [40],
 ld 42 3 41 [41],
 cf2 43 39 39 42 3 3 3 [39, 42],
 oq 44 (.build 23 #[(0, .tmp 37), (1, .tmp 43)]) 23 [37, 43],
 fa 45 25 6 4 [],
 ⟨none, .store 23 (.tmp 45) (.tmp 44), 0, none, [44, 45]⟩])
 (.seq
 (.reg [ld 46 25 6 [6],
 ⟨none, .store 25 (.tmp 4) (.tmp 46), 0, none, [46]⟩])
 .ret)))
 .skip))
 (.seq
 (.seq
 (.reg [fa 47 25 6 1 [],
 ld 48 3 47 [47],
 bn 49 .eql 3 48 0 3 4 [48]])
 (.cond (.tmp 49)
 (.reg [fa 50 25 6 1 [],
 ⟨none, .store 3 (.tmp 50) (.const (.int .i64 7)), 0, none, [50]⟩])
 .skip))
 (.seq
 (.reg [oq 51 (.buildSlice 182 5 #[(0, .const (.string ⟨#[]⟩)), (1, .const (.string ⟨#[97]⟩)), (2, .const (.string ⟨#[112, 105, 101, 99, 101, 32, 49, 55]⟩)), (3, .const (.string ⟨#[48, 32, 48, 32, 49, 32, 48, 32, 48, 32, 48]⟩)), (4, .const (.string ⟨#[97, 32, 116, 101, 120, 116, 32, 111, 102, 32, 97, 32, 108, 101, 110, 103, 116, 104, 32, 116, 104, 97, 116, 32, 116, 97, 107, 101, 115, 32, 116, 104, 114, 101, 101, 32, 104, 97, 108, 118, 101, 115, 32, 111, 102, 32, 97, 32, 112, 97, 103, 101]⟩))]) 182 [],
 sg 7 51 182 [51]])
 (.seq
 (.reg [mv 52 7 182 [7],
 oq 53 (.indexAddr 79 (.tmp 3) (.const (.int .i64 4))) 0 [3],
 ld 54 3 53 [53],
 oq 55 (.call ⟨.value (.func 39), #[.tmp 54, .const (.int .i64 5)], #[3, 3]⟩) 3 [54],
 ia 56 182 52 55 [52, 55],
 ld 57 9 56 [56],
 fa 58 25 6 5 [],
 ⟨none, .store 9 (.tmp 58) (.tmp 57), 0, none, [57, 58]⟩])
 (.seq
 (.reg [ld 59 25 6 [6],
 ⟨none, .store 25 (.tmp 4) (.tmp 59), 0, none, [59]⟩])
 .ret))))))))
theorem F95.rs : Try.f95.results.toList = [.cell 4 25] := rfl
def R09_record (k : Nat) (l0 : (List Record)) (n1 : (Vec 5 Int)) : Option (Record) :=
 (n1.at? 0).bind fun x1 =>
 (R09_Mod k x1 3).bind fun x2 =>
 (R09_many k l0).bind fun x3 =>
 (x3.at? x2).bind fun x4 =>
 (n1.at? 1).bind fun x5 =>
 (R09_Mod k x5 6).bind fun x6 =>
 (n1.at? 2).bind fun x7 =>
 (R09_Mod k x7 50).bind fun x8 =>
 (n1.at? 3).bind fun x9 =>
 (R09_Mod k x9 50).bind fun x10 =>
 bif decide (x6 = (0 : Int)) then
  bif decide ((0 : Int) < x4) then
   (R09_Mod k x7 x4).bind fun x13 =>
   some (⟨(⟨x2, x4⟩ : Entry), x6, 0, x10, (⟨x2, x13⟩ : Entry), ByteArray.empty⟩ : Record)
  else
   (n1.at? 4).bind fun x14 =>
   (R09_Mod k x14 5).bind fun x15 =>
   (at? [ByteArray.empty, (⟨#[97]⟩ : ByteArray), (⟨#[112, 105, 101, 99, 101, 32, 49, 55]⟩ : ByteArray), (⟨#[48, 32, 48, 32, 49, 32, 48, 32, 48, 32, 48]⟩ : ByteArray), (⟨#[97, 32, 116, 101, 120, 116, 32, 111, 102, 32, 97, 32, 108, 101, 110, 103, 116, 104, 32, 116, 104, 97, 116, 32, 116, 97, 107, 101, 115, 32, 116, 104, 114, 101, 101, 32, 104, 97, 108, 118, 101, 115, 32, 111, 102, 32, 97, 32, 112, 97, 103, 101]⟩ : ByteArray)] x15).bind fun x16 =>
   some (⟨(⟨x2, x4⟩ : Entry), 7, x8, x10, (⟨0, 0⟩ : Entry), x16⟩ : Record)
 else
  (n1.at? 4).bind fun x17 =>
  (R09_Mod k x17 5).bind fun x18 =>
  (at? [ByteArray.empty, (⟨#[97]⟩ : ByteArray), (⟨#[112, 105, 101, 99, 101, 32, 49, 55]⟩ : ByteArray), (⟨#[48, 32, 48, 32, 49, 32, 48, 32, 48, 32, 48]⟩ : ByteArray), (⟨#[97, 32, 116, 101, 120, 116, 32, 111, 102, 32, 97, 32, 108, 101, 110, 103, 116, 104, 32, 116, 104, 97, 116, 32, 116, 97, 107, 101, 115, 32, 116, 104, 114, 101, 101, 32, 104, 97, 108, 118, 101, 115, 32, 111, 102, 32, 97, 32, 112, 97, 103, 101]⟩ : ByteArray)] x18).bind fun x19 =>
  some (⟨(⟨x2, x4⟩ : Entry), x6, x8, x10, (⟨0, 0⟩ : Entry), x19⟩ : Record)
theorem R09_record_ok (k : Nat) (l0 : (List Record)) (n1 : (Vec 5 Int)) (r : Record) (h0 : R09_record k l0 n1 = some r) : PCall Try.prog 95 [.sl 8 (List.map Record.c l0), .agg ((Vec.c (n := 5) eI) n1)] (fun y => y = .agg (Record.c r)) := by
 refine PB (fn := Try.f95) (sc := F95.c) ?_
 refine rS ?_
 simp only [R09_record] at h0
 try simp only [F95.c, go_sem]
 obtain ⟨x1, yx1, h0⟩ := bs h0
 have uyx1 := UpdE.at (fun q_ => (vk_i.len q_ : (eI q_).length = 1)) (UpdE.self (fun q_ => ((VK.vec vk_i 5).len q_ : (Vec.c (n := 5) eI q_).length = 5)) n1) yx1
 have buyx1 := uyx1.bound (fun q_ => (vk_i.len q_ : (eI q_).length = 1))
 have guyx1 := uyx1.get (fun q_ => (vk_i.len q_ : (eI q_).length = 1))
 try simp only [List.length_cons, List.length_nil, go_sem] at buyx1 guyx1
 try simp only [vat_in yx1, buyx1, guyx1, go_sem]
 obtain ⟨x2, yx2, h0⟩ := bs h0
 refine zc0 (R09_Mod_ok k _ _ _ yx2) ?_ (by first | rfl | simp [AV.refsL, AV.refs, AV.scal, AV.leaf]) ?_
 try simp only [vat_in yx1, buyx1, guyx1, go_sem]
 try simp only [vat_in yx1, buyx1, guyx1, go_sem]
 refine AKev_region T_ok follows_ok 1000 ?_
 try simp only [vat_in yx1, buyx1, guyx1, go_sem]
 obtain ⟨x3, yx3, h0⟩ := bs h0
 refine DG_call0 1000 (R09_many_ok k _ _ yx3) ?_ (by first | rfl | simp [AV.refsL, AV.refs, AV.scal, AV.leaf]) ?_
 try simp only [vat_in yx1, buyx1, guyx1, go_sem]
 try simp only [vat_in yx1, buyx1, guyx1, go_sem]
 obtain ⟨x4, yx4, h0⟩ := bs h0
 have uyx4 := UpdE.idx (fun q_ => (vk_i.len q_ : (eI q_).length = 1)) yx4
 have buyx4 := uyx4.bound (fun q_ => (vk_i.len q_ : (eI q_).length = 1))
 have guyx4 := uyx4.get (fun q_ => (vk_i.len q_ : (eI q_).length = 1))
 try simp only [go_sem] at buyx4 guyx4
 try simp only [vat_in yx4, buyx4, guyx4, vat_in yx1, buyx1, guyx1, go_sem]
 obtain ⟨x5, yx5, h0⟩ := bs h0
 have uyx5 := UpdE.at (fun q_ => (vk_i.len q_ : (eI q_).length = 1)) (UpdE.self (fun q_ => ((VK.vec vk_i 5).len q_ : (Vec.c (n := 5) eI q_).length = 5)) n1) yx5
 have buyx5 := uyx5.bound (fun q_ => (vk_i.len q_ : (eI q_).length = 1))
 have guyx5 := uyx5.get (fun q_ => (vk_i.len q_ : (eI q_).length = 1))
 try simp only [List.length_cons, List.length_nil, go_sem] at buyx5 guyx5
 try simp only [vat_in yx5, buyx5, guyx5, vat_in yx1, buyx1, guyx1, vat_in yx4, buyx4, guyx4, go_sem]
 obtain ⟨x6, yx6, h0⟩ := bs h0
 refine DG_call0 1000 (R09_Mod_ok k _ _ _ yx6) ?_ (by first | rfl | simp [AV.refsL, AV.refs, AV.scal, AV.leaf]) ?_
 try simp only [vat_in yx1, buyx1, guyx1, vat_in yx4, buyx4, guyx4, vat_in yx5, buyx5, guyx5, go_sem]
 try simp only [vat_in yx1, buyx1, guyx1, vat_in yx4, buyx4, guyx4, vat_in yx5, buyx5, guyx5, go_sem]
 obtain ⟨x7, yx7, h0⟩ := bs h0
 have uyx7 := UpdE.at (fun q_ => (vk_i.len q_ : (eI q_).length = 1)) (UpdE.self (fun q_ => ((VK.vec vk_i 5).len q_ : (Vec.c (n := 5) eI q_).length = 5)) n1) yx7
 have buyx7 := uyx7.bound (fun q_ => (vk_i.len q_ : (eI q_).length = 1))
 have guyx7 := uyx7.get (fun q_ => (vk_i.len q_ : (eI q_).length = 1))
 try simp only [List.length_cons, List.length_nil, go_sem] at buyx7 guyx7
 try simp only [vat_in yx7, buyx7, guyx7, vat_in yx1, buyx1, guyx1, vat_in yx4, buyx4, guyx4, vat_in yx5, buyx5, guyx5, go_sem]
 obtain ⟨x8, yx8, h0⟩ := bs h0
 refine DG_call0 1000 (R09_Mod_ok k _ _ _ yx8) ?_ (by first | rfl | simp [AV.refsL, AV.refs, AV.scal, AV.leaf]) ?_
 try simp only [vat_in yx1, buyx1, guyx1, vat_in yx4, buyx4, guyx4, vat_in yx5, buyx5, guyx5, vat_in yx7, buyx7, guyx7, go_sem]
 try simp only [vat_in yx1, buyx1, guyx1, vat_in yx4, buyx4, guyx4, vat_in yx5, buyx5, guyx5, vat_in yx7, buyx7, guyx7, go_sem]
 obtain ⟨x9, yx9, h0⟩ := bs h0
 have uyx9 := UpdE.at (fun q_ => (vk_i.len q_ : (eI q_).length = 1)) (UpdE.self (fun q_ => ((VK.vec vk_i 5).len q_ : (Vec.c (n := 5) eI q_).length = 5)) n1) yx9
 have buyx9 := uyx9.bound (fun q_ => (vk_i.len q_ : (eI q_).length = 1))
 have guyx9 := uyx9.get (fun q_ => (vk_i.len q_ : (eI q_).length = 1))
 try simp only [List.length_cons, List.length_nil, go_sem] at buyx9 guyx9
 try simp only [vat_in yx9, buyx9, guyx9, vat_in yx1, buyx1, guyx1, vat_in yx4, buyx4, guyx4, vat_in yx5, buyx5, guyx5, vat_in yx7, buyx7, guyx7, go_sem]
 obtain ⟨x10, yx10, h0⟩ := bs h0
 refine DG_call0 1000 (R09_Mod_ok k _ _ _ yx10) ?_ (by first | rfl | simp [AV.refsL, AV.refs, AV.scal, AV.leaf]) ?_
 try simp only [vat_in yx1, buyx1, guyx1, vat_in yx4, buyx4, guyx4, vat_in yx5, buyx5, guyx5, vat_in yx7, buyx7, guyx7, vat_in yx9, buyx9, guyx9, go_sem]
 try simp only [vat_in yx1, buyx1, guyx1, vat_in yx4, buyx4, guyx4, vat_in yx5, buyx5, guyx5, vat_in yx7, buyx7, guyx7, vat_in yx9, buyx9, guyx9, go_sem]
 refine DG_done ⟨calm_of (by simp only [skel, List.reverse_cons, List.reverse_nil, List.nil_append, List.cons_append, List.map_cons, List.map_nil, List.append_nil]; rfl) (by first | decide +kernel | rfl), run_sound T_ok 1000 _ _ ?_⟩
 try simp only [vat_in yx1, buyx1, guyx1, vat_in yx4, buyx4, guyx4, vat_in yx5, buyx5, guyx5, vat_in yx7, buyx7, guyx7, vat_in yx9, buyx9, guyx9, go_sem]
 refine AKev_bif h0 ?_ ?_ <;> intro c11 h0
 try simp only [c11, vat_in yx1, buyx1, guyx1, vat_in yx4, buyx4, guyx4, vat_in yx5, buyx5, guyx5, vat_in yx7, buyx7, guyx7, vat_in yx9, buyx9, guyx9, go_sem]
 refine AKev_bif h0 ?_ ?_ <;> intro c12 h0
 try simp only [c12, vat_in yx7, buyx7, guyx7, vat_in yx1, buyx1, guyx1, vat_in yx4, buyx4, guyx4, vat_in yx5, buyx5, guyx5, vat_in yx9, buyx9, guyx9, c11, go_sem]
 obtain ⟨x13, yx13, h0⟩ := bs h0
 refine zc0 (R09_Mod_ok k _ _ _ yx13) ?_ (by first | rfl | simp [AV.refsL, AV.refs, AV.scal, AV.leaf]) ?_
 try simp only [vat_in yx1, buyx1, guyx1, vat_in yx4, buyx4, guyx4, vat_in yx5, buyx5, guyx5, vat_in yx7, buyx7, guyx7, vat_in yx9, buyx9, guyx9, c11, c12, go_sem]
 try simp only [vat_in yx1, buyx1, guyx1, vat_in yx4, buyx4, guyx4, vat_in yx5, buyx5, guyx5, vat_in yx7, buyx7, guyx7, vat_in yx9, buyx9, guyx9, c11, c12, go_sem]
 obtain rfl := Option.some.inj h0
 refine AKev_ret rfl ?_
 try simp only [F95.rs, vat_in yx1, buyx1, guyx1, vat_in yx4, buyx4, guyx4, vat_in yx5, buyx5, guyx5, vat_in yx7, buyx7, guyx7, vat_in yx9, buyx9, guyx9, c11, c12, go_sem]
 try simp only [c12, vat_in yx1, buyx1, guyx1, vat_in yx4, buyx4, guyx4, vat_in yx5, buyx5, guyx5, vat_in yx7, buyx7, guyx7, vat_in yx9, buyx9, guyx9, c11, go_sem]
 obtain ⟨x14, yx14, h0⟩ := bs h0
 have uyx14 := UpdE.at (fun q_ => (vk_i.len q_ : (eI q_).length = 1)) (UpdE.self (fun q_ => ((VK.vec vk_i 5).len q_ : (Vec.c (n := 5) eI q_).length = 5)) n1) yx14
 have buyx14 := uyx14.bound (fun q_ => (vk_i.len q_ : (eI q_).length = 1))
 have guyx14 := uyx14.get (fun q_ => (vk_i.len q_ : (eI q_).length = 1))
 try simp only [List.length_cons, List.length_nil, go_sem] at buyx14 guyx14
 try simp only [vat_in yx14, buyx14, guyx14, vat_in yx1, buyx1, guyx1, vat_in yx4, buyx4, guyx4, vat_in yx5, buyx5, guyx5, vat_in yx7, buyx7, guyx7, vat_in yx9, buyx9, guyx9, c11, c12, go_sem]
 obtain ⟨x15, yx15, h0⟩ := bs h0
 refine zc0 (R09_Mod_ok k _ _ _ yx15) ?_ (by first | rfl | simp [AV.refsL, AV.refs, AV.scal, AV.leaf]) ?_
 try simp only [vat_in yx1, buyx1, guyx1, vat_in yx4, buyx4, guyx4, vat_in yx5, buyx5, guyx5, vat_in yx7, buyx7, guyx7, vat_in yx9, buyx9, guyx9, c11, c12, vat_in yx14, buyx14, guyx14, go_sem]
 try simp only [vat_in yx1, buyx1, guyx1, vat_in yx4, buyx4, guyx4, vat_in yx5, buyx5, guyx5, vat_in yx7, buyx7, guyx7, vat_in yx9, buyx9, guyx9, c11, c12, vat_in yx14, buyx14, guyx14, go_sem]
 obtain ⟨x16, yx16, h0⟩ := bs h0
 have eyx16 := at_in yx16
 simp only [vat_in yx1, buyx1, guyx1, vat_in yx4, buyx4, guyx4, vat_in yx5, buyx5, guyx5, vat_in yx7, buyx7, guyx7, vat_in yx9, buyx9, guyx9, c11, c12, vat_in yx14, buyx14, guyx14, go_sem] at eyx16
 have gyx16 := at_get eS yx16
 try simp only [vat_in yx1, buyx1, guyx1, vat_in yx4, buyx4, guyx4, vat_in yx5, buyx5, guyx5, vat_in yx7, buyx7, guyx7, vat_in yx9, buyx9, guyx9, c11, c12, vat_in yx14, buyx14, guyx14, go_sem] at gyx16
 try simp only [eyx16, gyx16, vat_in yx1, buyx1, guyx1, vat_in yx4, buyx4, guyx4, vat_in yx5, buyx5, guyx5, vat_in yx7, buyx7, guyx7, vat_in yx9, buyx9, guyx9, c11, c12, vat_in yx14, buyx14, guyx14, go_sem]
 obtain rfl := Option.some.inj h0
 refine AKev_ret rfl ?_
 try simp only [F95.rs, vat_in yx1, buyx1, guyx1, vat_in yx4, buyx4, guyx4, vat_in yx5, buyx5, guyx5, vat_in yx7, buyx7, guyx7, vat_in yx9, buyx9, guyx9, c11, c12, vat_in yx14, buyx14, guyx14, eyx16, gyx16, go_sem]
 try simp only [c11, vat_in yx1, buyx1, guyx1, vat_in yx4, buyx4, guyx4, vat_in yx5, buyx5, guyx5, vat_in yx7, buyx7, guyx7, vat_in yx9, buyx9, guyx9, go_sem]
 obtain ⟨x17, yx17, h0⟩ := bs h0
 have uyx17 := UpdE.at (fun q_ => (vk_i.len q_ : (eI q_).length = 1)) (UpdE.self (fun q_ => ((VK.vec vk_i 5).len q_ : (Vec.c (n := 5) eI q_).length = 5)) n1) yx17
 have buyx17 := uyx17.bound (fun q_ => (vk_i.len q_ : (eI q_).length = 1))
 have guyx17 := uyx17.get (fun q_ => (vk_i.len q_ : (eI q_).length = 1))
 try simp only [List.length_cons, List.length_nil, go_sem] at buyx17 guyx17
 try simp only [vat_in yx17, buyx17, guyx17, vat_in yx1, buyx1, guyx1, vat_in yx4, buyx4, guyx4, vat_in yx5, buyx5, guyx5, vat_in yx7, buyx7, guyx7, vat_in yx9, buyx9, guyx9, c11, go_sem]
 obtain ⟨x18, yx18, h0⟩ := bs h0
 refine zc0 (R09_Mod_ok k _ _ _ yx18) ?_ (by first | rfl | simp [AV.refsL, AV.refs, AV.scal, AV.leaf]) ?_
 try simp only [vat_in yx1, buyx1, guyx1, vat_in yx4, buyx4, guyx4, vat_in yx5, buyx5, guyx5, vat_in yx7, buyx7, guyx7, vat_in yx9, buyx9, guyx9, c11, vat_in yx17, buyx17, guyx17, go_sem]
 try simp only [vat_in yx1, buyx1, guyx1, vat_in yx4, buyx4, guyx4, vat_in yx5, buyx5, guyx5, vat_in yx7, buyx7, guyx7, vat_in yx9, buyx9, guyx9, c11, vat_in yx17, buyx17, guyx17, go_sem]
 obtain ⟨x19, yx19, h0⟩ := bs h0
 have eyx19 := at_in yx19
 simp only [vat_in yx1, buyx1, guyx1, vat_in yx4, buyx4, guyx4, vat_in yx5, buyx5, guyx5, vat_in yx7, buyx7, guyx7, vat_in yx9, buyx9, guyx9, c11, vat_in yx17, buyx17, guyx17, go_sem] at eyx19
 have gyx19 := at_get eS yx19
 try simp only [vat_in yx1, buyx1, guyx1, vat_in yx4, buyx4, guyx4, vat_in yx5, buyx5, guyx5, vat_in yx7, buyx7, guyx7, vat_in yx9, buyx9, guyx9, c11, vat_in yx17, buyx17, guyx17, go_sem] at gyx19
 try simp only [eyx19, gyx19, vat_in yx1, buyx1, guyx1, vat_in yx4, buyx4, guyx4, vat_in yx5, buyx5, guyx5, vat_in yx7, buyx7, guyx7, vat_in yx9, buyx9, guyx9, c11, vat_in yx17, buyx17, guyx17, go_sem]
 obtain rfl := Option.some.inj h0
 refine AKev_ret rfl ?_
 try simp only [F95.rs, vat_in yx1, buyx1, guyx1, vat_in yx4, buyx4, guyx4, vat_in yx5, buyx5, guyx5, vat_in yx7, buyx7, guyx7, vat_in yx9, buyx9, guyx9, c11, vat_in yx17, buyx17, guyx17, eyx19, gyx19, go_sem]
def F38.s0 : SC :=
 (.seq
 (.seq
 (.reg [mv 7 6 3 [],
 mv 8 0 68 [],
 ln 9 8 68 3 [8],
 b2 10 .lss 3 7 9 3 4 [7, 9],
 mv 11 10 4 [10],
 og 12 (.move (.tmp 6)) 3 11 true [],
 og 13 (.move (.tmp 1)) 3 11 true [],
 og 14 (.binOp .lss 3 (.tmp 12) (.tmp 13) 3) 4 11 true [12, 13],
 oq 15 (.pick (.tmp 11) (.tmp 14) (.const (.bool false))) 4 [11, 14]])
 (.cond (.tmp 15)
 .skip
 (.exit 0)))
 (.seq
 (.block 1
 (.reg [mv 18 5 44 [],
 mv 19 5 44 [5],
 mv 20 0 68 [],
 mv 21 6 3 [],
 ia 22 68 20 21 [20, 21],
 ld 23 79 22 [22],
 cf2 24 95 19 23 44 79 25 [19, 23],
 oq 25 (.buildSlice 44 1 #[(0, .tmp 24)]) 44 [24],
 oq 26 (.call ⟨.builtin .append, #[.tmp 18, .tmp 25], #[44, 44]⟩) 44 [18, 25],
 sg 5 26 44 [26]]))
 (.reg [mv 16 6 3 [6],
 bn 17 .add 3 16 1 3 3 [16],
 sg 6 17 3 [17]])))
def F38.c : SC :=
 (.seq
 (.reg [oq 4 (.assign (.const (.slice none 0 0))) 44 [4]])
 (.seq
 (.reg [oq 5 (.assign (.const (.slice none 0 0))) 44 []])
 (.seq
 (.seq
 (.reg [sn 6 0 3 []])
 (.block 0
 (.loop F38.s0)))
 (.seq
 (.reg [mv 27 5 44 [5],
 sg 4 27 44 [27]])
 .ret))))
theorem F38.rs : Try.f38.results.toList = [.tmp 4] := rfl
def R09_Records.b0 (k : Nat) (l0 : (List (Vec 5 Int))) (most1 : Int) : (Int × (List Record)) → Option (Stp (Int × (List Record)) ((List Record)) ((List Record))) := fun (s : Int × (List Record)) => match s with
 | (i1, l2) =>
   bif decide (i1 < (l0.length : Int)) then
    bif decide (i1 < most1) then
     (at? l0 i1).bind fun x6 =>
     (R09_record k l2 x6).bind fun x7 =>
     (push? 72 l2 x7).bind fun l8 =>
     some (.next (w64 (i1 + 1), l8))
    else
     some (.brk l2)
   else
    some (.brk l2)
noncomputable def R09_Records.h0 (l0 : (List (Vec 5 Int))) (most1 : Int) : (Int × (List Record)) → St := fun (s : Int × (List Record)) => match s with
 | (i1, l2) => ⟨[(0, .sl 5 (List.map (Vec.c (n := 5) eI) l0)), (1, .int .i64 most1), (5, .loc 0 0 8 0 l2.length l2.length), (6, .int .i64 i1)], [(0, .arr 25 8 (List.map Record.c l2))], [], 1, Try.f38.ntmps⟩
noncomputable def R09_Records.x0 : (List Record) → St := fun (l3 : (List Record)) => ⟨[(5, .loc 0 0 8 0 l3.length l3.length)], [(0, .arr 25 8 (List.map Record.c l3))], [], 1, Try.f38.ntmps⟩
def R09_Records (k : Nat) (l0 : (List (Vec 5 Int))) (most1 : Int) : Option ((List Record)) :=
 (whl (R09_Records.b0 k l0 most1) k (0, [])).bind fun r9 => match r9 with
 | .next _ => none
 | .ret v_ => some v_
 | .brk l3 =>
  some l3
theorem R09_Records_ok (k : Nat) (l0 : (List (Vec 5 Int))) (most1 : Int) (r : (List Record)) (h0 : R09_Records k l0 most1 = some r) : PCall Try.prog 38 [.sl 5 (List.map (Vec.c (n := 5) eI) l0), .int .i64 most1] (fun y => y = .sl 8 (List.map Record.c r)) := by
 refine PB (fn := Try.f38) (sc := F38.c) ?_
 refine rS ?_
 simp only [R09_Records] at h0
 try simp only [F38.c, go_sem]
 obtain ⟨r9, yr9, h0⟩ := bs h0
 refine AKev_loopS yr9 (R09_Records.h0 l0 most1) (R09_Records.x0) ?_ ?_ ?_
 refine Weak.go [0, 1, 5, 6] [16] rfl ?_
 try simp only [R09_Records.h0, go_sem]
 rintro ⟨i1, l2⟩ x_1 Bk1 Br1 h1 hnext1 hbrk1 hret1
 refine rS ?_
 simp only [R09_Records.b0] at h1
 try simp only [F38.s0, R09_Records.h0, go_sem]
 refine AKev_bif h1 ?_ ?_ <;> intro c4 h1
 try simp only [c4, go_sem]
 refine AKev_bif h1 ?_ ?_ <;> intro c5 h1
 try simp only [c5, c4, go_sem]
 obtain ⟨x6, yx6, h1⟩ := bs h1
 try simp only [aa yx6, c4, c5, go_sem]
 obtain ⟨x7, yx7, h1⟩ := bs h1
 refine zc0 (R09_record_ok k _ _ _ yx7) ?_ (by first | rfl | simp [AV.refsL, AV.refs, AV.scal, AV.leaf]) ?_
 try simp only [c4, c5, aa yx6, go_sem]
 try simp only [c4, c5, aa yx6, go_sem]
 obtain ⟨l8, yl8, h1⟩ := bs h1
 have eyl8 := push_map Record.c yl8
 have tyl8 := push_take Record.c yl8
 have nyl8 := push_len yl8
 have myl8 := push_room yl8
 try simp only [c4, c5, aa yx6, go_sem] at eyl8 tyl8 nyl8 myl8
 try simp only [myl8, eyl8, c4, c5, aa yx6, nyl8, tyl8, go_sem]
 refine AKev_backB (hnext1 _ _ (Option.some.inj h1).symm ?_)
 refine Weak.go [0, 1, 5, 6] [0] rfl ?_
 try simp only [R09_Records.h0, c4, c5, aa yx6, eyl8, nyl8, tyl8, go_sem]
 try simp only [c5, c4, go_sem]
 refine AKev_backB (hbrk1 _ _ (Option.some.inj h1).symm ?_)
 refine Weak.go [5] [0] rfl ?_
 try simp only [R09_Records.x0, c4, c5, go_sem]
 try simp only [c4, go_sem]
 refine AKev_backB (hbrk1 _ _ (Option.some.inj h1).symm ?_)
 refine Weak.go [5] [0] rfl ?_
 try simp only [R09_Records.x0, c4, go_sem]
 rintro l3 hr_
 subst hr_
 simp only at h0
 refine rS ?_
 try simp only [R09_Records.x0, go_sem]
 obtain rfl := Option.some.inj h0
 refine AKev_ret rfl ?_
 try simp only [F38.rs, go_sem]
def F51.s0 : SC :=
 (.seq
 (.reg [b2 14 .lss 3 13 12 3 0 []])
 (.seq
 (.cond (.tmp 14)
 .skip
 (.exit 0))
 (.seq
 (.block 1
 (.seq
 (.reg [mv 15 13 3 [],
 ia 16 44 11 13 [],
 ld 17 25 16 [16],
 oq 5 (.alloc 25) 0 [],
 sg 4 15 3 [15],
 ⟨none, .store 25 (.tmp 5) (.tmp 17), 0, none, [17]⟩])
 (.seq
 (.seq
 (.dreg [ld 18 25 5 [],
 cf1 19 92 18 25 4 [],
 oq 20 (.unOp .not 4 (.tmp 19)) 4 [],
 mv 21 20 4 [],
 og 22 (.move (.tmp 4)) 3 21 false [],
 og 23 (.binOp .gtr 3 (.tmp 22) (.const (.int .i64 0)) 3) 4 21 false [],
 og 24 (.move (.tmp 23)) 4 21 false [],
 og 25 (.fieldAddr 46 (.tmp 1) 0) 0 24 true [],
 og 26 (.load 44 (.tmp 25)) 44 24 true [],
 og 27 (.move (.tmp 4)) 3 24 true [],
 og 28 (.binOp .sub 3 (.tmp 27) (.const (.int .i64 1)) 3) 3 24 true [],
 og 29 (.indexAddr 44 (.tmp 26) (.tmp 28)) 0 24 true [],
 og 30 (.fieldAddr 25 (.tmp 29) 0) 0 24 true [],
 og 31 (.load 23 (.tmp 30)) 23 24 true [],
 og 32 (.fieldAddr 25 (.tmp 5) 0) 0 24 true [],
 og 33 (.load 23 (.tmp 32)) 23 24 true [],
 og 34 (.call ⟨.value (.func 103), #[.tmp 31, .tmp 33], #[23, 23]⟩) 3 24 true [],
 og 35 (.binOp .geq 3 (.tmp 34) (.const (.int .i64 0)) 3) 4 24 true [],
 og 36 (.pick (.tmp 24) (.tmp 35) (.const (.bool false))) 4 21 false [],
 oq 37 (.pick (.tmp 21) (.const (.bool true)) (.tmp 36)) 4 [],
 mv 38 37 4 [],
 og 39 (.fieldAddr 25 (.tmp 5) 0) 0 38 false [],
 og 40 (.fieldAddr 23 (.tmp 39) 1) 0 38 false [],
 og 41 (.load 3 (.tmp 40)) 3 38 false [],
 og 42 (.fieldAddr 25 (.tmp 5) 0) 0 38 false [],
 og 43 (.fieldAddr 23 (.tmp 42) 0) 0 38 false [],
 og 44 (.load 3 (.tmp 43)) 3 38 false [],
 og 45 (.indexAddr 95 (.tmp 3) (.tmp 44)) 0 38 false [],
 og 46 (.load 3 (.tmp 45)) 3 38 false [],
 og 47 (.binOp .neq 3 (.tmp 41) (.tmp 46) 3) 4 38 false [],
 oq 48 (.pick (.tmp 38) (.const (.bool true)) (.tmp 47)) 4 []] [[], [0], [0, 1], [0, 1, 2], [0, 1, 2, 3], [0, 1, 2, 3, 4], [0, 1, 2, 3, 4, 5], [0, 1, 2, 3, 4, 5, 6], [0, 1, 2, 3, 4, 5, 6, 7], [0, 1, 2, 3, 4, 5, 6], [0, 1, 2, 3, 4, 5, 6, 9], [0, 1, 2, 3, 4, 5, 6, 7, 8, 9, 10], [0, 1, 2, 3, 4, 5, 6, 7, 8, 9, 10, 11], [0, 1, 2, 3, 4, 5, 6, 7, 8, 9, 10, 11, 12], [0, 1, 2, 3, 4, 5, 6], [0, 1, 2, 3, 4, 5, 6, 14], [0, 1, 2, 3, 4, 5, 6, 7, 8, 9, 10, 11, 12, 13, 14, 15], [0, 1, 2, 3, 4, 5, 6, 7, 8, 9, 10, 11, 12, 13, 14, 15, 16], [0, 1, 2, 3, 4, 5, 6, 7, 8, 9, 10, 11, 12, 13, 14, 15, 16, 17], [0, 1, 2, 3, 4, 5, 6, 7, 8, 9, 10, 11, 12, 13, 14, 15, 16, 17, 18], [0, 1, 2, 3, 4, 5, 6, 7, 8, 9, 10, 11, 12, 13, 14, 15, 16, 17, 18, 19], [0, 1, 2, 3, 4, 5, 6, 7, 8, 9, 10, 11, 12, 13, 14, 15, 16, 17, 18, 19, 20], [0, 1, 2, 3, 4, 5, 6, 7, 8, 9, 10, 11, 12, 13, 14, 15, 16, 17, 18, 19, 20, 21], [0, 1, 2, 3, 4, 5, 6, 7, 8, 9, 10, 11, 12, 13, 14, 15, 16, 17, 18, 19, 20, 21, 22], [0, 1, 2, 3, 4, 5, 6, 7, 8, 9, 10, 11, 12, 13, 14, 15, 16, 17, 18, 19, 20], [0, 1, 2, 3, 4, 5, 6, 7, 8, 9, 10, 11, 12, 13, 14, 15, 16, 17, 18, 19, 20, 24], [0, 1, 2, 3, 4, 5, 6, 7, 8, 9, 10, 11, 12, 13, 14, 15, 16, 17, 18, 19, 20, 24, 25], [0, 1, 2, 3, 4, 5, 6, 7, 8, 9, 10, 11, 12, 13, 14, 15, 16, 17, 18, 19, 20, 24, 25, 26], [0, 1, 2, 3, 4, 5, 6, 7, 8, 9, 10, 11, 12, 13, 14, 15, 16, 17, 18, 19, 20, 24, 25, 26, 27], [0, 1, 2, 3, 4, 5, 6, 7, 8, 9, 10, 11, 12, 13, 14, 15, 16, 17, 18, 19, 20, 21, 22, 23, 24, 25, 26, 27, 28], [0, 1, 2, 3, 4, 5, 6, 7, 8, 9, 10, 11, 12, 13, 14, 15, 16, 17, 18, 19, 20, 21, 22, 23, 24, 25, 26, 27, 28, 29]] [4, 18, 19, 20, 21, 22, 23, 24, 25, 26, 27, 28, 29, 30, 31, 32, 33, 34, 35, 36, 37, 38, 39, 40, 41, 42, 43, 44, 45, 46, 47])
 (.cond (.tmp 48)
 (.seq
 (.reg [sn 2 91 28 []])
 .ret)
 .skip))
 (.reg [fa 49 25 5 0 [5],
 fa 50 23 49 0 [49],
 ld 51 3 50 [50],
 ia 52 95 3 51 [],
 ld 53 3 52 [52],
 bn 54 .add 3 53 1 3 3 [53],
 ia 55 95 3 51 [51],
 ⟨none, .store 3 (.tmp 55) (.tmp 54), 0, none, [54, 55]⟩]))))
 (.reg [bn 56 .add 3 13 1 3 3 [13],
 mv 13 56 3 [56]]))))
def F51.c : SC :=
 (.seq
 (.reg [oq 1 (.box 46 (.tmp 0)) 0 [0],
 sn 2 0 28 [2]])
 (.seq
 (.reg [oq 3 (.alloc 95) 0 []])
 (.seq
 (.seq
 (.reg [fa 6 46 1 0 [],
 ld 7 44 6 [6],
 ln 8 7 44 3 [7],
 bn 9 .gtr 3 8 60 3 4 [8]])
 (.cond (.tmp 9)
 (.seq
 (.reg [sn 2 91 28 []])
 .ret)
 .skip))
 (.seq
 (.seq
 (.reg [fa 10 46 1 0 [],
 ld 11 44 10 [10],
 ln 12 11 44 3 [],
 oq 13 (.move (.const (.int .i64 0))) 3 []])
 (.block 0
 (.loop F51.s0)))
 (.seq
 (.reg [sn 2 0 28 []])
 .ret)))))
theorem F51.rs : Try.f51.results.toList = [.tmp 2] := rfl
def book_Check.b0 (k : Nat) (b0 : Book) : ((Vec 6 Int) × Int) → Option (Stp ((Vec 6 Int) × Int) (Unit) (Int)) := fun (s : (Vec 6 Int) × Int) => match s with
 | (s2, i3) =>
   bif decide (i3 < (b0.Records.length : Int)) then
    (at? b0.Records i3).bind fun x5 =>
    (book_isRecord k x5).bind fun x6 =>
    bif x6 then
     bif decide ((0 : Int) < i3) then
      (at? b0.Records (w64 (i3 - 1))).bind fun x9 =>
      (book_compare k x9.At x5.At).bind fun x10 =>
      bif (!decide ((0 : Int) ≤ x10)) then
       (s2.at? x5.At.House).bind fun x12 =>
       bif (!decide (x5.At.No = x12)) then
        some (.ret 91)
       else
        some (.next (s2.set x5.At.House (w64 (x12 + 1)), w64 (i3 + 1)))
      else
       some (.ret 91)
     else
      (s2.at? x5.At.House).bind fun x15 =>
      bif (!decide (x5.At.No = x15)) then
       some (.ret 91)
      else
       some (.next (s2.set x5.At.House (w64 (x15 + 1)), w64 (i3 + 1)))
    else
     some (.ret 91)
   else
    some (.brk ())
noncomputable def book_Check.h0 (b0 : Book) : ((Vec 6 Int) × Int) → St := fun (s : (Vec 6 Int) × Int) => match s with
 | (s2, i3) => ⟨[(1, .ptr 0 0 0), (3, .ptr 0 1 0), (11, .sl 8 (List.map Record.c b0.Records)), (12, .int .i64 (b0.Records.length : Int)), (13, .int .i64 i3)], [(0, .box ([.sl 8 (List.map Record.c b0.Records)])), (1, .box (Vec.c (n := 6) eI s2))], [], 2, Try.f51.ntmps⟩
noncomputable def book_Check.x0 : Unit → St := fun (_ : Unit) => ⟨[], [], [], 1, Try.f51.ntmps⟩
def book_Check (k : Nat) (b0 : Book) : Option (Int) :=
 bif decide ((60 : Int) < (b0.Records.length : Int)) then
  some 91
 else
  (whl (book_Check.b0 k b0) k ((Vec.rep 6 (0 : Int)), 0)).bind fun r18 => match r18 with
  | .next _ => none
  | .ret v_ => some v_
  | .brk _ =>
   some 0
theorem book_Check_ok (k : Nat) (b0 : Book) (r : Int) (h0 : book_Check k b0 = some r) : PCall Try.prog 51 [.agg (Book.c b0)] (fun y => y = .int .i64 r) := by
 refine PB (fn := Try.f51) (sc := F51.c) ?_
 refine rS ?_
 simp only [book_Check] at h0
 try simp only [F51.c, go_sem]
 refine AKev_bif h0 ?_ ?_ <;> intro c1 h0
 try simp only [c1, go_sem]
 obtain rfl := Option.some.inj h0
 refine AKev_ret rfl ?_
 try simp only [F51.rs, c1, go_sem]
 try simp only [c1, go_sem]
 obtain ⟨r18, yr18, h0⟩ := bs h0
 refine AKev_loopS yr18 (book_Check.h0 b0) (book_Check.x0) ?_ ?_ ?_
 refine Weak.go [1, 3, 11, 12, 13] [0, 32] rfl ?_
 try simp only [book_Check.h0, c1, go_sem]
 rintro ⟨s2, i3⟩ x_1 Bk1 Br1 h1 hnext1 hbrk1 hret1
 refine rS ?_
 simp only [book_Check.b0] at h1
 try simp only [F51.s0, book_Check.h0, c1, go_sem]
 refine AKev_bif h1 ?_ ?_ <;> intro c4 h1
 try simp only [c4, c1, go_sem]
 obtain ⟨x5, yx5, h1⟩ := bs h1
 try simp only [aa yx5, c1, c4, go_sem]
 refine AKev_region T_ok follows_ok 1000 ?_
 try simp only [c1, c4, aa yx5, go_sem]
 obtain ⟨x6, yx6, h1⟩ := bs h1
 refine DG_call0 1000 (book_isRecord_ok k _ _ yx6) ?_ (by first | rfl | simp [AV.refsL, AV.refs, AV.scal, AV.leaf]) ?_
 try simp only [c1, c4, aa yx5, go_sem]
 try simp only [c1, c4, aa yx5, go_sem]
 refine DG_bif h1 ?_ ?_ <;> intro c7 h1
 try simp only [c7, c1, c4, aa yx5, go_sem]
 refine DG_bif h1 ?_ ?_ <;> intro c8 h1
 try simp only [c8, c1, c4, aa yx5, c7, go_sem]
 obtain ⟨x9, yx9, h1⟩ := bs h1
 try simp only [aa yx9, c1, c4, aa yx5, c7, c8, go_sem]
 obtain ⟨x10, yx10, h1⟩ := bs h1
 refine DG_call0 1000 (book_compare_ok k _ _ _ yx10) ?_ (by first | rfl | simp [AV.refsL, AV.refs, AV.scal, AV.leaf]) ?_
 try simp only [c1, c4, aa yx5, c7, c8, aa yx9, go_sem]
 try simp only [c1, c4, aa yx5, c7, c8, aa yx9, go_sem]
 refine DG_bif h1 ?_ ?_ <;> intro c11 h1
 have c11 := bnot_t c11
 try simp only [c11, c1, c4, aa yx5, c7, c8, aa yx9, go_sem]
 obtain ⟨x12, yx12, h1⟩ := bs h1
 have uyx12 := UpdE.at (fun q_ => (vk_i.len q_ : (eI q_).length = 1)) (UpdE.self (fun q_ => ((VK.vec vk_i 6).len q_ : (Vec.c (n := 6) eI q_).length = 6)) s2) yx12
 have buyx12 := uyx12.bound (fun q_ => (vk_i.len q_ : (eI q_).length = 1))
 have guyx12 := uyx12.get (fun q_ => (vk_i.len q_ : (eI q_).length = 1))
 try simp only [List.length_cons, List.length_nil, go_sem] at buyx12 guyx12
 try simp only [vat_in yx12, buyx12, guyx12, c1, c4, aa yx5, c7, c8, aa yx9, c11, go_sem]
 refine DG_done ⟨calm_of (by simp only [skel, List.reverse_cons, List.reverse_nil, List.nil_append, List.cons_append, List.map_cons, List.map_nil, List.append_nil]; rfl) (by first | decide +kernel | rfl), run_sound T_ok 1000 _ _ ?_⟩
 try simp only [c1, c4, aa yx5, c7, c8, aa yx9, c11, vat_in yx12, buyx12, guyx12, go_sem]
 refine AKev_bif h1 ?_ ?_ <;> intro c13 h1
 have c13 := bnot_t c13
 try simp only [c13, c1, c4, aa yx5, c7, c8, aa yx9, c11, vat_in yx12, buyx12, guyx12, go_sem]
 obtain rfl := hret1 _ (Option.some.inj h1).symm
 simp only at h0
 obtain rfl := Option.some.inj h0
 refine AKev_ret rfl ?_
 try simp only [F51.rs, c1, c4, aa yx5, c7, c8, aa yx9, c11, vat_in yx12, buyx12, guyx12, c13, go_sem]
 have c13 := bnot_f c13
 have q14 := uyx12.ow (w64 (x12 + 1))
 try simp only [List.length_cons, List.length_nil, go_sem] at q14
 try simp only [c13, vat_in yx12, buyx12, guyx12, q14, c1, c4, aa yx5, c7, c8, aa yx9, c11, go_sem]
 refine AKev_backB (hnext1 _ _ (Option.some.inj h1).symm ?_)
 refine Weak.go [1, 3, 11, 12, 13] [0, 1] rfl ?_
 try simp only [book_Check.h0, c1, c4, aa yx5, c7, c8, aa yx9, c11, vat_in yx12, buyx12, guyx12, c13, go_sem]
 have c11 := bnot_f c11
 try simp only [c11, c1, c4, aa yx5, c7, c8, aa yx9, go_sem]
 refine DG_done ⟨calm_of (by simp only [skel, List.reverse_cons, List.reverse_nil, List.nil_append, List.cons_append, List.map_cons, List.map_nil, List.append_nil]; rfl) (by first | decide +kernel | rfl), run_sound T_ok 1000 _ _ ?_⟩
 try simp only [c1, c4, aa yx5, c7, c8, aa yx9, c11, go_sem]
 obtain rfl := hret1 _ (Option.some.inj h1).symm
 simp only at h0
 obtain rfl := Option.some.inj h0
 refine AKev_ret rfl ?_
 try simp only [F51.rs, c1, c4, aa yx5, c7, c8, aa yx9, c11, go_sem]
 try simp only [c8, c1, c4, aa yx5, c7, go_sem]
 obtain ⟨x15, yx15, h1⟩ := bs h1
 have uyx15 := UpdE.at (fun q_ => (vk_i.len q_ : (eI q_).length = 1)) (UpdE.self (fun q_ => ((VK.vec vk_i 6).len q_ : (Vec.c (n := 6) eI q_).length = 6)) s2) yx15
 have buyx15 := uyx15.bound (fun q_ => (vk_i.len q_ : (eI q_).length = 1))
 have guyx15 := uyx15.get (fun q_ => (vk_i.len q_ : (eI q_).length = 1))
 try simp only [List.length_cons, List.length_nil, go_sem] at buyx15 guyx15
 try simp only [vat_in yx15, buyx15, guyx15, c1, c4, aa yx5, c7, c8, go_sem]
 refine DG_done ⟨calm_of (by simp only [skel, List.reverse_cons, List.reverse_nil, List.nil_append, List.cons_append, List.map_cons, List.map_nil, List.append_nil]; rfl) (by first | decide +kernel | rfl), run_sound T_ok 1000 _ _ ?_⟩
 try simp only [c1, c4, aa yx5, c7, c8, vat_in yx15, buyx15, guyx15, go_sem]
 refine AKev_bif h1 ?_ ?_ <;> intro c16 h1
 have c16 := bnot_t c16
 try simp only [c16, c1, c4, aa yx5, c7, c8, vat_in yx15, buyx15, guyx15, go_sem]
 obtain rfl := hret1 _ (Option.some.inj h1).symm
 simp only at h0
 obtain rfl := Option.some.inj h0
 refine AKev_ret rfl ?_
 try simp only [F51.rs, c1, c4, aa yx5, c7, c8, vat_in yx15, buyx15, guyx15, c16, go_sem]
 have c16 := bnot_f c16
 have q17 := uyx15.ow (w64 (x15 + 1))
 try simp only [List.length_cons, List.length_nil, go_sem] at q17
 try simp only [c16, vat_in yx15, buyx15, guyx15, q17, c1, c4, aa yx5, c7, c8, go_sem]
 refine AKev_backB (hnext1 _ _ (Option.some.inj h1).symm ?_)
 refine Weak.go [1, 3, 11, 12, 13] [0, 1] rfl ?_
 try simp only [book_Check.h0, c1, c4, aa yx5, c7, c8, vat_in yx15, buyx15, guyx15, c16, go_sem]
 try simp only [c7, c1, c4, aa yx5, go_sem]
 refine DG_done ⟨calm_of (by simp only [skel, List.reverse_cons, List.reverse_nil, List.nil_append, List.cons_append, List.map_cons, List.map_nil, List.append_nil]; rfl) (by first | decide +kernel | rfl), run_sound T_ok 1000 _ _ ?_⟩
 try simp only [c1, c4, aa yx5, c7, go_sem]
 obtain rfl := hret1 _ (Option.some.inj h1).symm
 simp only at h0
 obtain rfl := Option.some.inj h0
 refine AKev_ret rfl ?_
 try simp only [F51.rs, c1, c4, aa yx5, c7, go_sem]
 try simp only [c4, c1, go_sem]
 refine AKev_backB (hbrk1 _ _ (Option.some.inj h1).symm ?_)
 refine Weak.go [] [] rfl ?_
 try simp only [book_Check.x0, c1, c4, go_sem]
 rintro _ hr_
 subst hr_
 simp only at h0
 refine rS ?_
 try simp only [book_Check.x0, c1, go_sem]
 obtain rfl := Option.some.inj h0
 refine AKev_ret rfl ?_
 try simp only [F51.rs, c1, go_sem]
def F40.s0 : SC :=
 (.seq
 (.reg [b2 26 .lss 3 25 24 3 0 []])
 (.seq
 (.cond (.tmp 26)
 .skip
 (.exit 0))
 (.seq
 (.block 1
 (.seq
 (.reg [ia 27 44 23 25 [],
 ld 28 25 27 [27],
 oq 8 (.alloc 25) 0 [],
 ⟨none, .store 25 (.tmp 8) (.tmp 28), 0, none, [28]⟩])
 (.seq
 (.reg [ld 30 46 6 [],
 fa 31 25 8 0 [],
 ld 32 23 31 [31],
 cf2 33 97 30 32 46 23 164 [30, 32],
 mv 29 33 164 [33],
 xt 34 29 0 3 [],
 xt 35 29 1 4 [29],
 sg 9 34 3 [34],
 sg 10 35 4 [35]])
 (.seq
 (.seq
 (.dreg [mv 36 10 4 [],
 mv 37 36 4 [],
 og 38 (.fieldAddr 46 (.tmp 6) 0) 0 37 true [],
 og 39 (.load 44 (.tmp 38)) 44 37 true [],
 og 40 (.move (.tmp 9)) 3 37 true [],
 og 41 (.indexAddr 44 (.tmp 39) (.tmp 40)) 0 37 true [],
 og 42 (.load 25 (.tmp 41)) 25 37 true [],
 og 43 (.load 25 (.tmp 8)) 25 37 true [],
 og 44 (.binOp .neq 25 (.tmp 42) (.tmp 43) 25) 4 37 true [],
 oq 45 (.pick (.tmp 37) (.tmp 44) (.const (.bool false))) 4 []] [[], [0], [0, 1], [0, 1, 2], [0, 1], [0, 1, 2, 3, 4], [0, 1, 2, 3, 4, 5], [0, 1], [0, 1, 2, 3, 4, 5, 6, 7], [0, 1, 2, 3, 4, 5, 6, 7, 8]] [36, 37, 38, 39, 40, 41, 42, 43, 44])
 (.cond (.tmp 45)
 (.seq
 (.reg [oq 46 (.build 46 #[]) 46 [],
 ⟨none, .store 46 (.tmp 4) (.tmp 46), 0, none, [46]⟩,
 sn 5 92 28 []])
 .ret)
 .skip))
 (.seq
 (.reg [mv 47 10 4 [10],
 oq 48 (.unOp .not 4 (.tmp 47)) 4 [47]])
 (.cond (.tmp 48)
 (.reg [fa 49 46 6 0 [],
 ld 50 44 49 [49],
 mv 51 9 3 [9],
 ld 52 25 8 [8],
 oq 53 (.buildSlice 44 1 #[(0, .tmp 52)]) 44 [52],
 oq 54 (.call ⟨.value (.func 98), #[.tmp 50, .tmp 51, .tmp 53], #[44, 3, 44]⟩) 44 [50, 51, 53],
 fa 55 46 6 0 [],
 ⟨none, .store 44 (.tmp 55) (.tmp 54), 0, none, [54, 55]⟩])
 .skip))))))
 (.reg [bn 56 .add 3 25 1 3 3 [25],
 mv 25 56 3 [56]]))))
def F40.c : SC :=
 (.seq
 (.reg [oq 2 (.box 46 (.tmp 0)) 0 [0],
 oq 3 (.box 46 (.tmp 1)) 0 [1],
 oq 4 (.alloc 46) 0 [],
 sn 5 0 28 [5]])
 (.seq
 (.seq
 (.reg [ld 11 46 2 [],
 cf1 12 51 11 46 28 [11],
 bn 13 .neq 28 12 0 28 4 [12],
 mv 14 13 4 [13],
 og 15 (.load 46 (.tmp 3)) 46 14 false [],
 og 16 (.call ⟨.value (.func 51), #[.tmp 15], #[46]⟩) 28 14 false [15],
 og 17 (.binOp .neq 28 (.tmp 16) (.const (.int .i64 0)) 28) 4 14 false [16],
 oq 18 (.pick (.tmp 14) (.const (.bool true)) (.tmp 17)) 4 [14, 17]])
 (.cond (.tmp 18)
 (.seq
 (.reg [oq 19 (.build 46 #[]) 46 [],
 ⟨none, .store 46 (.tmp 4) (.tmp 19), 0, none, [19]⟩,
 sn 5 91 28 []])
 .ret)
 .skip))
 (.seq
 (.reg [ld 20 46 2 [2],
 cf1 21 96 20 46 46 [20],
 oq 6 (.alloc 46) 0 [],
 ⟨none, .store 46 (.tmp 6) (.tmp 21), 0, none, [21]⟩])
 (.seq
 (.seq
 (.reg [fa 22 46 3 0 [3],
 ld 23 44 22 [22],
 ln 24 23 44 3 [],
 oq 25 (.move (.const (.int .i64 0))) 3 []])
 (.block 0
 (.loop F40.s0)))
 (.seq
 (.seq
 (.reg [fa 57 46 6 0 [],
 ld 58 44 57 [57],
 ln 59 58 44 3 [58],
 bn 60 .gtr 3 59 60 3 4 [59]])
 (.cond (.tmp 60)
 (.seq
 (.reg [oq 61 (.build 46 #[]) 46 [],
 ⟨none, .store 46 (.tmp 4) (.tmp 61), 0, none, [61]⟩,
 sn 5 2 28 []])
 .ret)
 .skip))
 (.seq
 (.reg [ld 62 46 6 [6],
 ⟨none, .store 46 (.tmp 4) (.tmp 62), 0, none, [62]⟩,
 sn 5 0 28 []])
 .ret))))))
theorem F40.rs : Try.f40.results.toList = [.cell 4 46, .tmp 5] := rfl
def book_Join.b0 (k : Nat) (b1 : Book) : (Int × (List Record)) → Option (Stp (Int × (List Record)) ((List Record)) (Book × Int)) := fun (s : Int × (List Record)) => match s with
 | (i7, l8) =>
   bif decide (i7 < (b1.Records.length : Int)) then
    (at? b1.Records i7).bind fun x11 =>
    (book_find k (⟨l8⟩ : Book) x11.At).bind fun x12 =>
    bif x12.2 then
     (at? l8 x12.1).bind fun x14 =>
     bif (!(decide (x14.At.House = x11.At.House) && (decide (x14.At.No = x11.At.No) && (decide (x14.Kind = x11.Kind) && (decide (x14.Day = x11.Day) && (decide (x14.Known = x11.Known) && (decide (x14.Of.House = x11.Of.House) && (decide (x14.Of.No = x11.Of.No) && (x14.Text.toList == x11.Text.toList))))))))) then
      some (.ret ((⟨[]⟩ : Book), 92))
     else
      some (.next (w64 (i7 + 1), l8))
    else
     (slices_Insert_api_Record k l8 x12.1 [x11]).bind fun x17 =>
     some (.next (w64 (i7 + 1), x17))
   else
    some (.brk l8)
noncomputable def book_Join.h0 (b1 : Book) : (Int × (List Record)) → St := fun (s : Int × (List Record)) => match s with
 | (i7, l8) => ⟨[(4, .ptr 0 0 0), (6, .ptr 0 2 0), (23, .sl 8 (List.map Record.c b1.Records)), (24, .int .i64 (b1.Records.length : Int)), (25, .int .i64 i7)], [(0, .box ([.loc 0 1 8 0 0 0])), (1, .arr 25 8 (List.map Record.c [])), (2, .box ([.loc 0 3 8 0 l8.length l8.length])), (3, .arr 25 8 (List.map Record.c l8))], [], 4, Try.f40.ntmps⟩
noncomputable def book_Join.x0 : (List Record) → St := fun (l9 : (List Record)) => ⟨[(4, .ptr 0 0 0), (6, .ptr 0 2 0)], [(0, .box ([.loc 0 1 8 0 0 0])), (1, .arr 25 8 (List.map Record.c [])), (2, .box ([.loc 0 3 8 0 l9.length l9.length])), (3, .arr 25 8 (List.map Record.c l9))], [], 4, Try.f40.ntmps⟩
def book_Join (k : Nat) (a0 : Book) (b1 : Book) : Option (Book × Int) :=
 (book_Check k a0).bind fun x1 =>
 bif decide (x1 = (0 : Int)) then
  (book_Check k b1).bind fun x3 =>
  bif (!decide (x3 = (0 : Int))) then
   some ((⟨[]⟩ : Book), 91)
  else
   (book_copied_o k a0).bind fun x6 =>
   (whl (book_Join.b0 k b1) k (0, x6.Records)).bind fun r18 => match r18 with
   | .next _ => none
   | .ret v_ => some v_
   | .brk l9 =>
    bif decide ((60 : Int) < ((l9.length : Nat) : Int)) then
     some ((⟨[]⟩ : Book), 2)
    else
     some ((⟨l9⟩ : Book), 0)
 else
  some ((⟨[]⟩ : Book), 91)
theorem book_Join_ok (k : Nat) (a0 : Book) (b1 : Book) (r : Book × Int) (h0 : book_Join k a0 b1 = some r) : PCall Try.prog 40 [.agg (Book.c a0), .agg (Book.c b1)] (fun y => y = .tup [.agg (Book.c r.1), .int .i64 r.2]) := by
 refine PB (fn := Try.f40) (sc := F40.c) ?_
 refine rS ?_
 simp only [book_Join] at h0
 try simp only [F40.c, go_sem]
 obtain ⟨x1, yx1, h0⟩ := bs h0
 refine zc0 (book_Check_ok k _ _ yx1) ?_ (by first | rfl | simp [AV.refsL, AV.refs, AV.scal, AV.leaf]) ?_
 try simp only [go_sem]
 try simp only [go_sem]
 refine AKev_bif h0 ?_ ?_ <;> intro c2 h0
 try simp only [c2, go_sem]
 obtain ⟨x3, yx3, h0⟩ := bs h0
 refine zc0 (book_Check_ok k _ _ yx3) ?_ (by first | rfl | simp [AV.refsL, AV.refs, AV.scal, AV.leaf]) ?_
 try simp only [c2, go_sem]
 try simp only [c2, go_sem]
 refine AKev_bif h0 ?_ ?_ <;> intro c4 h0
 have c4 := bnot_t c4
 try simp only [c4, c2, go_sem]
 obtain rfl := Option.some.inj h0
 refine AKev_ret rfl ?_
 try simp only [F40.rs, c2, c4, go_sem]
 have c4 := bnot_f c4
 try simp only [c4, c2, go_sem]
 obtain ⟨x6, yx6, h0⟩ := bs h0
 refine AKev_giveF [] [] (book_copied_o_ok k _ _ yx6) ?_ rfl ?_
 try simp only [gOK, c2, c4, go_sem]
 try simp only [c2, c4, go_sem]
 refine rS ?_
 try simp only [c2, c4, go_sem]
 obtain ⟨r18, yr18, h0⟩ := bs h0
 refine AKev_loopS yr18 (book_Join.h0 b1) (book_Join.x0) ?_ ?_ ?_
 refine Weak.go [4, 6, 23, 24, 25] [32, 33, 224, 208] rfl ?_
 try simp only [book_Join.h0, c2, c4, go_sem]
 rintro ⟨i7, l8⟩ x_1 Bk1 Br1 h1 hnext1 hbrk1 hret1
 refine rS ?_
 simp only [book_Join.b0] at h1
 try simp only [F40.s0, book_Join.h0, c2, c4, go_sem]
 refine AKev_bif h1 ?_ ?_ <;> intro c10 h1
 try simp only [c10, c2, c4, go_sem]
 obtain ⟨x11, yx11, h1⟩ := bs h1
 try simp only [aa yx11, c2, c4, c10, go_sem]
 obtain ⟨x12, yx12, h1⟩ := bs h1
 refine zc0 (book_find_ok k _ _ _ yx12) ?_ (by first | rfl | simp [AV.refsL, AV.refs, AV.scal, AV.leaf]) ?_
 try simp only [c2, c4, c10, aa yx11, go_sem]
 try simp only [c2, c4, c10, aa yx11, go_sem]
 refine AKev_region T_ok follows_ok 1000 ?_
 try simp only [c2, c4, c10, aa yx11, go_sem]
 refine DG_bif h1 ?_ ?_ <;> intro c13 h1
 try simp only [c13, c2, c4, c10, aa yx11, go_sem]
 obtain ⟨x14, yx14, h1⟩ := bs h1
 try simp only [aa yx14, c2, c4, c10, aa yx11, c13, go_sem]
 refine DG_done ⟨calm_of (by simp only [skel, List.reverse_cons, List.reverse_nil, List.nil_append, List.cons_append, List.map_cons, List.map_nil, List.append_nil]; rfl) (by first | decide +kernel | rfl), run_sound T_ok 1000 _ _ ?_⟩
 try simp only [c2, c4, c10, aa yx11, c13, aa yx14, go_sem]
 refine AKev_bif h1 ?_ ?_ <;> intro c15 h1
 have c15 := bnot_t c15
 try simp only [c15, c2, c4, c10, aa yx11, c13, aa yx14, go_sem]
 obtain rfl := hret1 _ (Option.some.inj h1).symm
 simp only at h0
 obtain rfl := Option.some.inj h0
 refine AKev_ret rfl ?_
 try simp only [F40.rs, c2, c4, c10, aa yx11, c13, aa yx14, c15, go_sem]
 have c15 := bnot_f c15
 try simp only [c15, c2, c4, c10, aa yx11, c13, aa yx14, go_sem]
 refine AKev_backB (hnext1 _ _ (Option.some.inj h1).symm ?_)
 refine Weak.go [4, 6, 23, 24, 25] [0, 1, 2, 3] rfl ?_
 try simp only [book_Join.h0, c2, c4, c10, aa yx11, c13, aa yx14, c15, go_sem]
 try simp only [c13, c2, c4, c10, aa yx11, go_sem]
 refine DG_done ⟨calm_of (by simp only [skel, List.reverse_cons, List.reverse_nil, List.nil_append, List.cons_append, List.map_cons, List.map_nil, List.append_nil]; rfl) (by first | decide +kernel | rfl), run_sound T_ok 1000 _ _ ?_⟩
 try simp only [c2, c4, c10, aa yx11, c13, go_sem]
 obtain ⟨x17, yx17, h1⟩ := bs h1
 refine AKev_give T_ok 1000 [] [3, 484] (slices_Insert_api_Record_ok k _ _ _ _ yx17) ?_ rfl ?_
 try simp only [gOK, List.length_map, c2, c4, c10, aa yx11, c13, go_sem]
 try simp only [c2, c4, c10, aa yx11, c13, go_sem]
 refine AKev_backB (hnext1 _ _ (Option.some.inj h1).symm ?_)
 refine Weak.go [4, 6, 23, 24, 25] [0, 1, 2, 500] rfl ?_
 try simp only [book_Join.h0, c2, c4, c10, aa yx11, c13, go_sem]
 try simp only [c10, c2, c4, go_sem]
 refine AKev_backB (hbrk1 _ _ (Option.some.inj h1).symm ?_)
 refine Weak.go [4, 6] [0, 1, 2, 3] rfl ?_
 try simp only [book_Join.x0, c2, c4, c10, go_sem]
 rintro l9 hr_
 subst hr_
 simp only at h0
 refine rS ?_
 try simp only [book_Join.x0, c2, c4, go_sem]
 refine AKev_bif h0 ?_ ?_ <;> intro c19 h0
 try simp only [c19, c2, c4, go_sem]
 obtain rfl := Option.some.inj h0
 refine AKev_ret rfl ?_
 try simp only [F40.rs, c2, c4, c19, go_sem]
 try simp only [c19, c2, c4, go_sem]
 obtain rfl := Option.some.inj h0
 refine AKev_ret rfl ?_
 try simp only [F40.rs, c2, c4, c19, go_sem]
 try simp only [c2, go_sem]
 obtain rfl := Option.some.inj h0
 refine AKev_ret rfl ?_
 try simp only [F40.rs, c2, go_sem]
def F59.s0 : SC :=
 (.seq
 (.seq
 (.reg [mv 12 6 3 [],
 mv 13 0 44 [],
 ln 14 13 44 3 [13],
 b2 15 .lss 3 12 14 3 4 [12, 14],
 mv 16 15 4 [15],
 og 17 (.move (.tmp 5)) 4 16 true [],
 oq 18 (.pick (.tmp 16) (.tmp 17) (.const (.bool false))) 4 [16, 17]])
 (.cond (.tmp 18)
 .skip
 (.exit 0)))
 (.seq
 (.block 1
 (.dreg [mv 21 0 44 [],
 mv 22 6 3 [],
 ia 23 44 21 22 [],
 ld 24 25 23 [],
 mv 25 1 44 [],
 mv 26 6 3 [],
 ia 27 44 25 26 [],
 ld 28 25 27 [],
 b2 29 .eql 25 24 28 25 4 [],
 sg 5 29 4 []] [[], [], [0, 1], [0, 1, 2], [], [], [4, 5], [4, 5, 6], [0, 1, 2, 3, 4, 5, 6, 7], [0, 1, 2, 3, 4, 5, 6, 7, 8]] [21, 22, 23, 24, 25, 26, 27, 28, 29]))
 (.reg [mv 19 6 3 [6],
 bn 20 .add 3 19 1 3 3 [19],
 sg 6 20 3 [20]])))
def F59.c : SC :=
 (.seq
 (.reg [sb 4 false 4 [4]])
 (.seq
 (.reg [mv 7 0 44 [],
 ln 8 7 44 3 [7],
 mv 9 1 44 [],
 ln 10 9 44 3 [9],
 b2 11 .eql 3 8 10 3 4 [8, 10],
 sg 5 11 4 [11]])
 (.seq
 (.seq
 (.reg [sn 6 0 3 []])
 (.block 0
 (.loop F59.s0)))
 (.seq
 (.reg [mv 30 5 4 [5],
 sg 4 30 4 [30]])
 .ret))))
theorem F59.rs : Try.f59.results.toList = [.tmp 4] := rfl
def R09_SameRecords.b0 (k : Nat) (a0 : (List Record)) (b1 : (List Record)) : (Bool × Int) → Option (Stp (Bool × Int) (Bool) (Bool)) := fun (s : Bool × Int) => match s with
 | (b2, i3) =>
   bif decide (i3 < (a0.length : Int)) then
    bif b2 then
     (at? a0 i3).bind fun x7 =>
     (at? b1 i3).bind fun x8 =>
     some (.next ((decide (x7.At.House = x8.At.House) && (decide (x7.At.No = x8.At.No) && (decide (x7.Kind = x8.Kind) && (decide (x7.Day = x8.Day) && (decide (x7.Known = x8.Known) && (decide (x7.Of.House = x8.Of.House) && (decide (x7.Of.No = x8.Of.No) && (x7.Text.toList == x8.Text.toList)))))))), w64 (i3 + 1)))
    else
     some (.brk b2)
   else
    some (.brk b2)
noncomputable def R09_SameRecords.h0 (a0 : (List Record)) (b1 : (List Record)) : (Bool × Int) → St := fun (s : Bool × Int) => match s with
 | (b2, i3) => ⟨[(0, .sl 8 (List.map Record.c a0)), (1, .sl 8 (List.map Record.c b1)), (5, .bool b2), (6, .int .i64 i3)], [], [], 1, Try.f59.ntmps⟩
noncomputable def R09_SameRecords.x0 : Bool → St := fun (b4 : Bool) => ⟨[(5, .bool b4)], [], [], 1, Try.f59.ntmps⟩
def R09_SameRecords (k : Nat) (a0 : (List Record)) (b1 : (List Record)) : Option (Bool) :=
 (whl (R09_SameRecords.b0 k a0 b1) k (decide ((a0.length : Int) = (b1.length : Int)), 0)).bind fun r9 => match r9 with
 | .next _ => none
 | .ret v_ => some v_
 | .brk b4 =>
  some b4
theorem R09_SameRecords_ok (k : Nat) (a0 : (List Record)) (b1 : (List Record)) (r : Bool) (h0 : R09_SameRecords k a0 b1 = some r) : PCall Try.prog 59 [.sl 8 (List.map Record.c a0), .sl 8 (List.map Record.c b1)] (fun y => y = .bool r) := by
 refine PB (fn := Try.f59) (sc := F59.c) ?_
 refine rS ?_
 simp only [R09_SameRecords] at h0
 try simp only [F59.c, go_sem]
 obtain ⟨r9, yr9, h0⟩ := bs h0
 refine AKev_loopS yr9 (R09_SameRecords.h0 a0 b1) (R09_SameRecords.x0) ?_ ?_ ?_
 refine Weak.go [0, 1, 5, 6] [] rfl ?_
 try simp only [R09_SameRecords.h0, go_sem]
 rintro ⟨b2, i3⟩ x_1 Bk1 Br1 h1 hnext1 hbrk1 hret1
 refine rS ?_
 simp only [R09_SameRecords.b0] at h1
 try simp only [F59.s0, R09_SameRecords.h0, go_sem]
 refine AKev_bif h1 ?_ ?_ <;> intro c5 h1
 try simp only [c5, go_sem]
 refine AKev_bif h1 ?_ ?_ <;> intro c6 h1
 try simp only [c6, c5, go_sem]
 refine AKev_region T_ok follows_ok 1000 ?_
 try simp only [c5, c6, go_sem]
 obtain ⟨x7, yx7, h1⟩ := bs h1
 try simp only [aa yx7, c5, c6, go_sem]
 obtain ⟨x8, yx8, h1⟩ := bs h1
 try simp only [aa yx8, c5, c6, aa yx7, go_sem]
 refine DG_done ⟨calm_of (by simp only [skel, List.reverse_cons, List.reverse_nil, List.nil_append, List.cons_append, List.map_cons, List.map_nil, List.append_nil]; rfl) (by first | decide +kernel | rfl), run_sound T_ok 1000 _ _ ?_⟩
 try simp only [c5, c6, aa yx7, aa yx8, go_sem]
 refine AKev_backB (hnext1 _ _ (Option.some.inj h1).symm ?_)
 refine Weak.go [0, 1, 5, 6] [] rfl ?_
 try simp only [R09_SameRecords.h0, c5, c6, aa yx7, aa yx8, go_sem]
 try simp only [c6, c5, go_sem]
 refine AKev_backB (hbrk1 _ _ (Option.some.inj h1).symm ?_)
 refine Weak.go [5] [] rfl ?_
 try simp only [R09_SameRecords.x0, c5, c6, go_sem]
 try simp only [c5, go_sem]
 refine AKev_backB (hbrk1 _ _ (Option.some.inj h1).symm ?_)
 refine Weak.go [5] [] rfl ?_
 try simp only [R09_SameRecords.x0, c5, go_sem]
 rintro b4 hr_
 subst hr_
 simp only at h0
 refine rS ?_
 try simp only [R09_SameRecords.x0, go_sem]
 obtain rfl := Option.some.inj h0
 refine AKev_ret rfl ?_
 try simp only [F59.rs, go_sem]
def F42.c : SC :=
 (.seq
 (.reg [oq 2 (.box 46 (.tmp 0)) 0 [0],
 oq 3 (.box 46 (.tmp 1)) 0 [1],
 sb 4 false 4 [4]])
 (.seq
 (.reg [fa 5 46 2 0 [2],
 ld 6 44 5 [5],
 fa 7 46 3 0 [3],
 ld 8 44 7 [7],
 cf2 9 59 6 8 44 44 4 [6, 8],
 sg 4 9 4 [9]])
 .ret))
theorem F42.rs : Try.f42.results.toList = [.tmp 4] := rfl
def R09_SameBook (k : Nat) (a0 : Book) (b1 : Book) : Option (Bool) :=
 (R09_SameRecords k a0.Records b1.Records).bind fun x1 =>
 some x1
theorem R09_SameBook_ok (k : Nat) (a0 : Book) (b1 : Book) (r : Bool) (h0 : R09_SameBook k a0 b1 = some r) : PCall Try.prog 42 [.agg (Book.c a0), .agg (Book.c b1)] (fun y => y = .bool r) := by
 refine PB (fn := Try.f42) (sc := F42.c) ?_
 refine rS ?_
 simp only [R09_SameBook] at h0
 try simp only [F42.c, go_sem]
 obtain ⟨x1, yx1, h0⟩ := bs h0
 refine zc0 (R09_SameRecords_ok k _ _ _ yx1) ?_ (by first | rfl | simp [AV.refsL, AV.refs, AV.scal, AV.leaf]) ?_
 try simp only [go_sem]
 try simp only [go_sem]
 obtain rfl := Option.some.inj h0
 refine AKev_ret rfl ?_
 try simp only [F42.rs, go_sem]
def F99.s0 : SC :=
 (.seq
 (.seq
 (.reg [mv 6 5 3 [],
 mv 7 0 44 [],
 ln 8 7 44 3 [7],
 b2 9 .lss 3 6 8 3 4 [6, 8]])
 (.cond (.tmp 9)
 .skip
 (.exit 0)))
 (.seq
 (.block 1
 (.seq
 (.dreg [mv 12 0 44 [],
 mv 13 5 3 [],
 ia 14 44 12 13 [],
 fa 15 25 14 0 [],
 ld 16 23 15 [],
 ld 17 23 3 [],
 b2 18 .eql 23 16 17 23 4 []] [[], [], [0, 1], [0, 1, 2], [0, 1, 2, 3], [], [0, 1, 2, 3, 4, 5]] [12, 13, 14, 15, 16, 17])
 (.cond (.tmp 18)
 (.seq
 (.reg [mv 19 5 3 [5],
 sg 4 19 3 [19]])
 .ret)
 .skip)))
 (.reg [mv 10 5 3 [5],
 bn 11 .add 3 10 1 3 3 [10],
 sg 5 11 3 [11]])))
def F99.c : SC :=
 (.seq
 (.reg [oq 3 (.box 23 (.tmp 1)) 0 [1],
 sn 4 0 3 [4]])
 (.seq
 (.seq
 (.reg [sn 5 0 3 []])
 (.block 0
 (.loop F99.s0)))
 (.seq
 (.reg [sn 4 (-1) 3 []])
 .ret)))
theorem F99.rs : Try.f99.results.toList = [.tmp 4] := rfl
def R09_find.b0 (k : Nat) (l0 : (List Record)) (at1 : Entry) : Int → Option (Stp (Int) (Unit) (Int)) := fun (i1 : Int) =>
 bif decide (i1 < (l0.length : Int)) then
  (at? l0 i1).bind fun x3 =>
  bif (decide (x3.At.House = at1.House) && decide (x3.At.No = at1.No)) then
   some (.ret i1)
  else
   some (.next (w64 (i1 + 1)))
 else
  some (.brk ())
noncomputable def R09_find.h0 (l0 : (List Record)) (at1 : Entry) : Int → St := fun (i1 : Int) => ⟨[(0, .sl 8 (List.map Record.c l0)), (3, .ptr 0 0 0), (5, .int .i64 i1)], [(0, .box ([.int .i64 at1.House, .int .i64 at1.No]))], [], 1, Try.f99.ntmps⟩
noncomputable def R09_find.x0 : Unit → St := fun (_ : Unit) => ⟨[], [], [], 1, Try.f99.ntmps⟩
def R09_find (k : Nat) (l0 : (List Record)) (at1 : Entry) : Option (Int) :=
 (whl (R09_find.b0 k l0 at1) k 0).bind fun r5 => match r5 with
 | .next _ => none
 | .ret v_ => some v_
 | .brk _ =>
  some (-1)
theorem R09_find_ok (k : Nat) (l0 : (List Record)) (at1 : Entry) (r : Int) (h0 : R09_find k l0 at1 = some r) : PCall Try.prog 99 [.sl 8 (List.map Record.c l0), .agg (Entry.c at1)] (fun y => y = .int .i64 r) := by
 refine PB (fn := Try.f99) (sc := F99.c) ?_
 refine rS ?_
 simp only [R09_find] at h0
 try simp only [F99.c, go_sem]
 obtain ⟨r5, yr5, h0⟩ := bs h0
 refine AKev_loopS yr5 (R09_find.h0 l0 at1) (R09_find.x0) ?_ ?_ ?_
 refine Weak.go [0, 3, 5] [0] rfl ?_
 try simp only [R09_find.h0, go_sem]
 rintro i1 x_1 Bk1 Br1 h1 hnext1 hbrk1 hret1
 refine rS ?_
 simp only [R09_find.b0] at h1
 try simp only [F99.s0, R09_find.h0, go_sem]
 refine AKev_bif h1 ?_ ?_ <;> intro c2 h1
 try simp only [c2, go_sem]
 refine AKev_region T_ok follows_ok 1000 ?_
 try simp only [c2, go_sem]
 obtain ⟨x3, yx3, h1⟩ := bs h1
 try simp only [aa yx3, c2, go_sem]
 refine DG_done ⟨calm_of (by simp only [skel, List.reverse_cons, List.reverse_nil, List.nil_append, List.cons_append, List.map_cons, List.map_nil, List.append_nil]; rfl) (by first | decide +kernel | rfl), run_sound T_ok 1000 _ _ ?_⟩
 try simp only [c2, aa yx3, go_sem]
 refine AKev_bif h1 ?_ ?_ <;> intro c4 h1
 try simp only [c4, c2, aa yx3, go_sem]
 obtain rfl := hret1 _ (Option.some.inj h1).symm
 simp only at h0
 obtain rfl := Option.some.inj h0
 refine AKev_ret rfl ?_
 try simp only [F99.rs, c2, aa yx3, c4, go_sem]
 try simp only [c4, c2, aa yx3, go_sem]
 refine AKev_backB (hnext1 _ _ (Option.some.inj h1).symm ?_)
 refine Weak.go [0, 3, 5] [0] rfl ?_
 try simp only [R09_find.h0, c2, aa yx3, c4, go_sem]
 try simp only [c2, go_sem]
 refine AKev_backB (hbrk1 _ _ (Option.some.inj h1).symm ?_)
 refine Weak.go [] [] rfl ?_
 try simp only [R09_find.x0, c2, go_sem]
 rintro _ hr_
 subst hr_
 simp only at h0
 refine rS ?_
 try simp only [R09_find.x0, go_sem]
 obtain rfl := Option.some.inj h0
 refine AKev_ret rfl ?_
 try simp only [F99.rs, go_sem]
def F100.c : SC :=
 (.seq
 (.reg [oq 2 (.assign (.const (.slice none 0 0))) 44 [2]])
 (.seq
 (.reg [oq 3 (.buildSlice 44 0 #[]) 44 [],
 mv 4 0 44 [0],
 oq 5 (.call ⟨.builtin .append, #[.tmp 3, .tmp 4], #[44, 44]⟩) 44 [3, 4],
 sg 2 5 44 [5]])
 .ret))
theorem F100.rs : Try.f100.results.toList = [.tmp 2] := rfl
def R09_copied_o (k : Nat) (l0 : (List Record)) : Option ((List Record)) :=
 (room? l0.length 72).bind fun _ =>
 some l0
theorem R09_copied_o_ok (k : Nat) (l0 : (List Record)) (r : (List Record)) (h0 : R09_copied_o k l0 = some r) : GCall Try.prog 100 [.sl 8 (List.map Record.c l0)] [] (fun y fr => y = .loc 0 0 8 0 r.length r.length ∧ fr = [(0, .arr 25 8 (List.map Record.c r))]) := by
 have hr := GCall.own (et := 25) (sz := 8) (ls := List.map Record.c r) (GCall.of_body T_ok (f := 100) (fn := Try.f100) (sc := F100.c) (args := [.sl 8 (List.map Record.c l0)]) (fr0 := []) (by rfl) (by rfl) (by decide +kernel) (by rfl) (by decide +kernel) (Nat.le_of_ble_eq_true rfl) (fun H => ?_))
 simpa only [List.length_map] using hr
 refine rS ?_
 simp only [R09_copied_o] at h0
 try simp only [F100.c, go_sem]
 obtain ⟨u1, yu1, h0⟩ := bs h0
 try simp only [room_some yu1, go_sem]
 obtain rfl := Option.some.inj h0
 refine AKev_gret rfl ?_
 try simp only [F100.rs, oOK, Option.map_some, tupOf, cut0_map, cut_map, Nat.le_refl, List.take_length, go_sem]
def F108.c : SC :=
 (.seq
 (.reg [oq 2 (.box 23 (.tmp 0)) 0 [0],
 oq 3 (.box 23 (.tmp 1)) 0 [1],
 sb 4 false 4 [4]])
 (.seq
 (.reg [fa 5 23 2 0 [],
 ld 6 3 5 [5],
 fa 7 23 3 0 [],
 ld 8 3 7 [7],
 b2 9 .lss 3 6 8 3 4 [6, 8],
 mv 10 9 4 [9],
 og 11 (.fieldAddr 23 (.tmp 2) 0) 0 10 false [],
 og 12 (.load 3 (.tmp 11)) 3 10 false [11],
 og 13 (.fieldAddr 23 (.tmp 3) 0) 0 10 false [],
 og 14 (.load 3 (.tmp 13)) 3 10 false [13],
 og 15 (.binOp .eql 3 (.tmp 12) (.tmp 14) 3) 4 10 false [12, 14],
 og 16 (.move (.tmp 15)) 4 10 false [15],
 og 17 (.fieldAddr 23 (.tmp 2) 1) 0 16 true [2],
 og 18 (.load 3 (.tmp 17)) 3 16 true [17],
 og 19 (.fieldAddr 23 (.tmp 3) 1) 0 16 true [3],
 og 20 (.load 3 (.tmp 19)) 3 16 true [19],
 og 21 (.binOp .lss 3 (.tmp 18) (.tmp 20) 3) 4 16 true [18, 20],
 og 22 (.pick (.tmp 16) (.tmp 21) (.const (.bool false))) 4 10 false [16, 21],
 oq 23 (.pick (.tmp 10) (.const (.bool true)) (.tmp 22)) 4 [10, 22],
 sg 4 23 4 [23]])
 .ret))
theorem F108.rs : Try.f108.results.toList = [.tmp 4] := rfl
def R09_ahead (k : Nat) (a0 : Entry) (b1 : Entry) : Option (Bool) :=
 bif (!decide (a0.House < b1.House)) then
  bif decide (a0.House = b1.House) then
   some (decide (a0.No < b1.No))
  else
   some false
 else
  some true
theorem R09_ahead_ok (k : Nat) (a0 : Entry) (b1 : Entry) (r : Bool) (h0 : R09_ahead k a0 b1 = some r) : PCall Try.prog 108 [.agg (Entry.c a0), .agg (Entry.c b1)] (fun y => y = .bool r) := by
 refine PB (fn := Try.f108) (sc := F108.c) ?_
 refine rS ?_
 simp only [R09_ahead] at h0
 try simp only [F108.c, go_sem]
 refine AKev_bif h0 ?_ ?_ <;> intro c1 h0
 have c1 := bnot_t c1
 try simp only [c1, go_sem]
 refine AKev_bif h0 ?_ ?_ <;> intro c2 h0
 try simp only [c2, c1, go_sem]
 obtain rfl := Option.some.inj h0
 refine AKev_ret rfl ?_
 try simp only [F108.rs, c1, c2, go_sem]
 try simp only [c2, c1, go_sem]
 obtain rfl := Option.some.inj h0
 refine AKev_ret rfl ?_
 try simp only [F108.rs, c1, c2, go_sem]
 have c1 := bnot_f c1
 try simp only [c1, go_sem]
 obtain rfl := Option.some.inj h0
 refine AKev_ret rfl ?_
 try simp only [F108.rs, c1, go_sem]
def F75.s0 : SC :=
 (.seq
 (.seq
 (.dreg [mv 39 7 3 [],
 mv 40 0 44 [],
 ln 41 40 44 3 [],
 b2 42 .lss 3 39 41 3 4 [],
 mv 43 42 4 [],
 og 44 (.move (.tmp 0)) 44 43 true [],
 og 45 (.move (.tmp 7)) 3 43 true [],
 og 46 (.indexAddr 44 (.tmp 44) (.tmp 45)) 0 43 true [],
 og 47 (.fieldAddr 25 (.tmp 46) 0) 0 43 true [],
 og 48 (.load 23 (.tmp 47)) 23 43 true [],
 og 49 (.fieldAddr 25 (.tmp 3) 0) 0 43 true [],
 og 50 (.load 23 (.tmp 49)) 23 43 true [],
 og 51 (.call ⟨.value (.func 108), #[.tmp 48, .tmp 50], #[23, 23]⟩) 4 43 true [],
 oq 52 (.pick (.tmp 43) (.tmp 51) (.const (.bool false))) 4 []] [[], [], [1], [0, 1, 2], [0, 1, 2, 3], [0, 1, 2, 3, 4], [0, 1, 2, 3, 4], [0, 1, 2, 3, 4, 5, 6], [0, 1, 2, 3, 4, 5, 6, 7], [0, 1, 2, 3, 4, 5, 6, 7, 8], [0, 1, 2, 3, 4], [0, 1, 2, 3, 4, 10], [0, 1, 2, 3, 4, 5, 6, 7, 8, 9, 10, 11], [0, 1, 2, 3, 4, 5, 6, 7, 8, 9, 10, 11, 12]] [39, 40, 41, 42, 43, 44, 45, 46, 47, 48, 49, 50, 51])
 (.cond (.tmp 52)
 .skip
 (.exit 0)))
 (.block 1
 (.reg [mv 53 7 3 [7],
 bn 54 .add 3 53 1 3 3 [53],
 sg 7 54 3 [54]])))
def F75.c : SC :=
 (.seq
 (.reg [oq 3 (.box 25 (.tmp 1)) 0 [1],
 oq 4 (.assign (.const (.slice none 0 0))) 44 [4],
 sn 5 0 28 [5]])
 (.seq
 (.reg [mv 8 0 44 [],
 fa 9 25 3 0 [],
 ld 10 23 9 [9],
 cf2 11 99 8 10 44 23 3 [8, 10],
 sg 6 11 3 [11]])
 (.seq
 (.seq
 (.dreg [mv 12 6 3 [],
 bn 13 .geq 3 12 0 3 4 [],
 mv 14 13 4 [],
 og 15 (.move (.tmp 0)) 44 14 true [],
 og 16 (.move (.tmp 6)) 3 14 true [],
 og 17 (.indexAddr 44 (.tmp 15) (.tmp 16)) 0 14 true [],
 og 18 (.load 25 (.tmp 17)) 25 14 true [],
 og 19 (.load 25 (.tmp 3)) 25 14 true [],
 og 20 (.binOp .eql 25 (.tmp 18) (.tmp 19) 25) 4 14 true [],
 oq 21 (.pick (.tmp 14) (.tmp 20) (.const (.bool false))) 4 []] [[], [0], [0, 1], [0, 1, 2], [0, 1, 2], [0, 1, 2, 3, 4], [0, 1, 2, 3, 4, 5], [0, 1, 2], [0, 1, 2, 3, 4, 5, 6, 7], [0, 1, 2, 3, 4, 5, 6, 7, 8]] [12, 13, 14, 15, 16, 17, 18, 19, 20])
 (.cond (.tmp 21)
 (.seq
 (.reg [mv 22 0 44 [0],
 cf1 23 100 22 44 44 [22],
 sg 4 23 44 [23],
 sn 5 0 28 []])
 .ret)
 .skip))
 (.seq
 (.seq
 (.reg [mv 24 6 3 [6],
 bn 25 .geq 3 24 0 3 4 [24]])
 (.cond (.tmp 25)
 (.seq
 (.reg [oq 4 (.assign (.const (.slice none 0 0))) 44 [],
 sn 5 92 28 []])
 .ret)
 .skip))
 (.seq
 (.seq
 (.dreg [fa 26 25 3 0 [],
 fa 27 23 26 1 [],
 ld 28 3 27 [],
 mv 29 0 44 [],
 cf1 30 105 29 44 95 [],
 fa 31 25 3 0 [],
 fa 32 23 31 0 [],
 ld 33 3 32 [],
 oq 34 (.index 95 (.tmp 30) (.tmp 33)) 3 [],
 b2 35 .gtr 3 28 34 3 4 []] [[], [0], [0, 1], [], [3], [], [5], [5, 6], [3, 4, 5, 6, 7], [0, 1, 2, 3, 4, 5, 6, 7, 8]] [26, 27, 28, 29, 30, 31, 32, 33, 34])
 (.cond (.tmp 35)
 (.seq
 (.reg [oq 4 (.assign (.const (.slice none 0 0))) 44 [],
 sn 5 93 28 []])
 .ret)
 .skip))
 (.seq
 (.seq
 (.reg [mv 36 0 44 [],
 ln 37 36 44 3 [36],
 bn 38 .eql 3 37 60 3 4 [37]])
 (.cond (.tmp 38)
 (.seq
 (.reg [oq 4 (.assign (.const (.slice none 0 0))) 44 [],
 sn 5 2 28 []])
 .ret)
 .skip))
 (.seq
 (.reg [sn 7 0 3 []])
 (.seq
 (.block 0
 (.loop F75.s0))
 (.seq
 (.dreg [mv 55 0 44 [],
 mv 56 7 3 [],
 oq 57 (.slice 44 (.tmp 55) none (some (.tmp 56)) none) 44 [],
 cf1 58 100 57 44 44 [],
 ld 59 25 3 [],
 oq 60 (.buildSlice 44 1 #[(0, .tmp 59)]) 44 [],
 oq 61 (.call ⟨.builtin .append, #[.tmp 58, .tmp 60], #[44, 44]⟩) 44 [],
 mv 62 0 44 [],
 mv 63 7 3 [],
 oq 64 (.slice 44 (.tmp 62) (some (.tmp 63)) none none) 44 [],
 oq 65 (.call ⟨.builtin .append, #[.tmp 61, .tmp 64], #[44, 44]⟩) 44 [],
 sg 4 65 44 [],
 sn 5 0 28 []] [[], [], [0, 1], [0, 1, 2], [], [4], [0, 1, 2, 3, 4, 5], [], [], [7, 8], [0, 1, 2, 3, 4, 5, 6, 7, 8, 9], [0, 1, 2, 3, 4, 5, 6, 7, 8, 9, 10], [0, 1, 2, 3, 4, 5, 6, 7, 8, 9, 10, 11]] [0, 3, 7, 55, 56, 57, 58, 59, 60, 61, 62, 63, 64, 65])
 .ret)))))))))
theorem F75.rs : Try.f75.results.toList = [.tmp 4, .tmp 5] := rfl
def R09_added.b0 (k : Nat) (l0 : (List Record)) (r1 : Record) : Int → Option (Stp (Int) (Int) ((List Record) × Int)) := fun (i11 : Int) =>
 bif decide (i11 < (l0.length : Int)) then
  (at? l0 i11).bind fun x14 =>
  (R09_ahead k x14.At r1.At).bind fun x15 =>
  bif x15 then
   some (.next (w64 (i11 + 1)))
  else
   some (.brk i11)
 else
  some (.brk i11)
noncomputable def R09_added.h0 (l0 : (List Record)) (r1 : Record) : Int → St := fun (i11 : Int) => ⟨[(0, .sl 8 (List.map Record.c l0)), (3, .ptr 0 0 0), (7, .int .i64 i11)], [(0, .box ([.int .i64 r1.At.House, .int .i64 r1.At.No, .int .i64 r1.Kind, .int .i64 r1.Day, .int .i64 r1.Known, .int .i64 r1.Of.House, .int .i64 r1.Of.No, .str r1.Text]))], [], 1, Try.f75.ntmps⟩
noncomputable def R09_added.x0 (l0 : (List Record)) (r1 : Record) : Int → St := fun (i12 : Int) => ⟨[(0, .sl 8 (List.map Record.c l0)), (3, .ptr 0 0 0), (7, .int .i64 i12)], [(0, .box ([.int .i64 r1.At.House, .int .i64 r1.At.No, .int .i64 r1.Kind, .int .i64 r1.Day, .int .i64 r1.Known, .int .i64 r1.Of.House, .int .i64 r1.Of.No, .str r1.Text]))], [], 1, Try.f75.ntmps⟩
def R09_added (k : Nat) (l0 : (List Record)) (r1 : Record) : Option ((List Record) × Int) :=
 (R09_find k l0 r1.At).bind fun x1 =>
 bif decide ((0 : Int) ≤ x1) then
  (at? l0 x1).bind fun x3 =>
  bif (decide (x3.At.House = r1.At.House) && (decide (x3.At.No = r1.At.No) && (decide (x3.Kind = r1.Kind) && (decide (x3.Day = r1.Day) && (decide (x3.Known = r1.Known) && (decide (x3.Of.House = r1.Of.House) && (decide (x3.Of.No = r1.Of.No) && (x3.Text.toList == r1.Text.toList)))))))) then
   (R09_copied_o k l0).bind fun x6 =>
   some (x6, 0)
  else
   some ([], 92)
 else
  (R09_many k l0).bind fun x7 =>
  (x7.at? r1.At.House).bind fun x8 =>
  bif decide (x8 < r1.At.No) then
   some ([], 93)
  else
   bif decide ((l0.length : Int) = (60 : Int)) then
    some ([], 2)
   else
    (whl (R09_added.b0 k l0 r1) k 0).bind fun r17 => match r17 with
    | .next _ => none
    | .ret v_ => some v_
    | .brk i12 =>
     (sub? l0 0 i12).bind fun l18 =>
     (R09_copied_o k l18).bind fun x20 =>
     (push? 72 x20 r1).bind fun l21 =>
     (sub? l0 i12 l0.length).bind fun l22 =>
     (app? 72 l21 l22).bind fun l23 =>
     some (l23, 0)
theorem R09_added_ok (k : Nat) (l0 : (List Record)) (r1 : Record) (r : (List Record) × Int) (h0 : R09_added k l0 r1 = some r) : PCall Try.prog 75 [.sl 8 (List.map Record.c l0), .agg (Record.c r1)] (fun y => y = .tup [.sl 8 (List.map Record.c r.1), .int .i64 r.2]) := by
 refine PB (fn := Try.f75) (sc := F75.c) ?_
 refine rS ?_
 simp only [R09_added] at h0
 try simp only [F75.c, go_sem]
 obtain ⟨x1, yx1, h0⟩ := bs h0
 refine zc0 (R09_find_ok k _ _ _ yx1) ?_ (by first | rfl | simp [AV.refsL, AV.refs, AV.scal, AV.leaf]) ?_
 try simp only [go_sem]
 try simp only [go_sem]
 refine AKev_region T_ok follows_ok 1000 ?_
 try simp only [go_sem]
 refine DG_bif h0 ?_ ?_ <;> intro c2 h0
 try simp only [c2, go_sem]
 obtain ⟨x3, yx3, h0⟩ := bs h0
 try simp only [aa yx3, c2, go_sem]
 refine DG_done ⟨calm_of (by simp only [skel, List.reverse_cons, List.reverse_nil, List.nil_append, List.cons_append, List.map_cons, List.map_nil, List.append_nil]; rfl) (by first | decide +kernel | rfl), run_sound T_ok 1000 _ _ ?_⟩
 try simp only [c2, aa yx3, go_sem]
 refine AKev_bif h0 ?_ ?_ <;> intro c4 h0
 try simp only [c4, c2, aa yx3, go_sem]
 obtain ⟨x6, yx6, h0⟩ := bs h0
 refine AKev_give T_ok 1000 [] [] (R09_copied_o_ok k _ _ yx6) ?_ rfl ?_
 try simp only [gOK, List.length_map, c2, aa yx3, c4, go_sem]
 try simp only [c2, aa yx3, c4, go_sem]
 obtain rfl := Option.some.inj h0
 refine AKev_ret rfl ?_
 try simp only [F75.rs, c2, aa yx3, c4, go_sem]
 try simp only [c4, c2, aa yx3, go_sem]
 obtain rfl := Option.some.inj h0
 refine AKev_ret rfl ?_
 try simp only [F75.rs, c2, aa yx3, c4, go_sem]
 try simp only [c2, go_sem]
 refine DG_done ⟨calm_of (by simp only [skel, List.reverse_cons, List.reverse_nil, List.nil_append, List.cons_append, List.map_cons, List.map_nil, List.append_nil]; rfl) (by first | decide +kernel | rfl), run_sound T_ok 1000 _ _ ?_⟩
 try simp only [c2, go_sem]
 refine AKev_region T_ok follows_ok 1000 ?_
 try simp only [c2, go_sem]
 obtain ⟨x7, yx7, h0⟩ := bs h0
 refine DG_call0 1000 (R09_many_ok k _ _ yx7) ?_ (by first | rfl | simp [AV.refsL, AV.refs, AV.scal, AV.leaf]) ?_
 try simp only [c2, go_sem]
 try simp only [c2, go_sem]
 obtain ⟨x8, yx8, h0⟩ := bs h0
 have uyx8 := UpdE.idx (fun q_ => (vk_i.len q_ : (eI q_).length = 1)) yx8
 have buyx8 := uyx8.bound (fun q_ => (vk_i.len q_ : (eI q_).length = 1))
 have guyx8 := uyx8.get (fun q_ => (vk_i.len q_ : (eI q_).length = 1))
 try simp only [go_sem] at buyx8 guyx8
 try simp only [vat_in yx8, buyx8, guyx8, c2, go_sem]
 refine DG_done ⟨calm_of (by simp only [skel, List.reverse_cons, List.reverse_nil, List.nil_append, List.cons_append, List.map_cons, List.map_nil, List.append_nil]; rfl) (by first | decide +kernel | rfl), run_sound T_ok 1000 _ _ ?_⟩
 try simp only [c2, vat_in yx8, buyx8, guyx8, go_sem]
 refine AKev_bif h0 ?_ ?_ <;> intro c9 h0
 try simp only [c9, c2, vat_in yx8, buyx8, guyx8, go_sem]
 obtain rfl := Option.some.inj h0
 refine AKev_ret rfl ?_
 try simp only [F75.rs, c2, vat_in yx8, buyx8, guyx8, c9, go_sem]
 try simp only [c9, c2, vat_in yx8, buyx8, guyx8, go_sem]
 refine AKev_bif h0 ?_ ?_ <;> intro c10 h0
 try simp only [c10, c2, vat_in yx8, buyx8, guyx8, c9, go_sem]
 obtain rfl := Option.some.inj h0
 refine AKev_ret rfl ?_
 try simp only [F75.rs, c2, vat_in yx8, buyx8, guyx8, c9, c10, go_sem]
 try simp only [c10, c2, vat_in yx8, buyx8, guyx8, c9, go_sem]
 obtain ⟨r17, yr17, h0⟩ := bs h0
 refine AKev_loopS yr17 (R09_added.h0 l0 r1) (R09_added.x0 l0 r1) ?_ ?_ ?_
 refine Weak.go [0, 3, 7] [0] rfl ?_
 try simp only [R09_added.h0, c2, vat_in yx8, buyx8, guyx8, c9, c10, go_sem]
 rintro i11 x_1 Bk1 Br1 h1 hnext1 hbrk1 hret1
 refine rS ?_
 simp only [R09_added.b0] at h1
 try simp only [F75.s0, R09_added.h0, c2, vat_in yx8, buyx8, guyx8, c9, c10, go_sem]
 refine AKev_region T_ok follows_ok 1000 ?_
 try simp only [c2, vat_in yx8, buyx8, guyx8, c9, c10, go_sem]
 refine DG_bif h1 ?_ ?_ <;> intro c13 h1
 try simp only [c13, c2, vat_in yx8, buyx8, guyx8, c9, c10, go_sem]
 obtain ⟨x14, yx14, h1⟩ := bs h1
 try simp only [aa yx14, c2, vat_in yx8, buyx8, guyx8, c9, c10, c13, go_sem]
 obtain ⟨x15, yx15, h1⟩ := bs h1
 refine DG_call0 1000 (R09_ahead_ok k _ _ _ yx15) ?_ (by first | rfl | simp [AV.refsL, AV.refs, AV.scal, AV.leaf]) ?_
 try simp only [c2, vat_in yx8, buyx8, guyx8, c9, c10, c13, aa yx14, go_sem]
 try simp only [c2, vat_in yx8, buyx8, guyx8, c9, c10, c13, aa yx14, go_sem]
 refine DG_done ⟨calm_of (by simp only [skel, List.reverse_cons, List.reverse_nil, List.nil_append, List.cons_append, List.map_cons, List.map_nil, List.append_nil]; rfl) (by first | decide +kernel | rfl), run_sound T_ok 1000 _ _ ?_⟩
 try simp only [c2, vat_in yx8, buyx8, guyx8, c9, c10, c13, aa yx14, go_sem]
 refine AKev_bif h1 ?_ ?_ <;> intro c16 h1
 try simp only [c16, c2, vat_in yx8, buyx8, guyx8, c9, c10, c13, aa yx14, go_sem]
 refine AKev_backB (hnext1 _ _ (Option.some.inj h1).symm ?_)
 refine Weak.go [0, 3, 7] [0] rfl ?_
 try simp only [R09_added.h0, c2, vat_in yx8, buyx8, guyx8, c9, c10, c13, aa yx14, c16, go_sem]
 try simp only [c16, c2, vat_in yx8, buyx8, guyx8, c9, c10, c13, aa yx14, go_sem]
 refine AKev_backB (hbrk1 _ _ (Option.some.inj h1).symm ?_)
 refine Weak.go [0, 3, 7] [0] rfl ?_
 try simp only [R09_added.x0, c2, vat_in yx8, buyx8, guyx8, c9, c10, c13, aa yx14, c16, go_sem]
 try simp only [c13, c2, vat_in yx8, buyx8, guyx8, c9, c10, go_sem]
 refine DG_done ⟨calm_of (by simp only [skel, List.reverse_cons, List.reverse_nil, List.nil_append, List.cons_append, List.map_cons, List.map_nil, List.append_nil]; rfl) (by first | decide +kernel | rfl), run_sound T_ok 1000 _ _ ?_⟩
 try simp only [c2, vat_in yx8, buyx8, guyx8, c9, c10, c13, go_sem]
 refine AKev_backB (hbrk1 _ _ (Option.some.inj h1).symm ?_)
 refine Weak.go [0, 3, 7] [0] rfl ?_
 try simp only [R09_added.x0, c2, vat_in yx8, buyx8, guyx8, c9, c10, c13, go_sem]
 rintro i12 hr_
 subst hr_
 simp only at h0
 refine rS ?_
 try simp only [R09_added.x0, c2, vat_in yx8, buyx8, guyx8, c9, c10, go_sem]
 refine AKev_region T_ok follows_ok 1000 ?_
 try simp only [c2, vat_in yx8, buyx8, guyx8, c9, c10, go_sem]
 obtain ⟨l18, yl18, h0⟩ := bs h0
 have eyl18 := sub_map_hi Record.c yl18
 try simp only [go_sem] at eyl18
 try simp only [sub_bounds_hi yl18, eyl18, c2, vat_in yx8, buyx8, guyx8, c9, c10, go_sem]
 obtain ⟨x20, yx20, h0⟩ := bs h0
 refine DG_give 1000 [] [] (R09_copied_o_ok k _ _ yx20) ?_ rfl ?_
 try simp only [gOK, List.length_map, c2, vat_in yx8, buyx8, guyx8, c9, c10, eyl18, go_sem]
 try simp only [c2, vat_in yx8, buyx8, guyx8, c9, c10, eyl18, go_sem]
 obtain ⟨l21, yl21, h0⟩ := bs h0
 have eyl21 := push_map Record.c yl21
 have tyl21 := push_take Record.c yl21
 have nyl21 := push_len yl21
 have myl21 := push_room yl21
 try simp only [c2, vat_in yx8, buyx8, guyx8, c9, c10, eyl18, go_sem] at eyl21 tyl21 nyl21 myl21
 try simp only [myl21, eyl21, c2, vat_in yx8, buyx8, guyx8, c9, c10, eyl18, nyl21, tyl21, go_sem]
 obtain ⟨l22, yl22, h0⟩ := bs h0
 have eyl22 := sub_map_lo Record.c yl22
 try simp only [go_sem] at eyl22
 try simp only [sub_bounds_lo yl22, eyl22, c2, vat_in yx8, buyx8, guyx8, c9, c10, eyl18, eyl21, nyl21, tyl21, go_sem]
 obtain ⟨l23, yl23, h0⟩ := bs h0
 have eyl23 := app_map Record.c yl23
 have tyl23 := app_take Record.c yl23
 have nyl23 := app_len yl23
 have myl23 := app_room yl23
 try simp only [c2, vat_in yx8, buyx8, guyx8, c9, c10, eyl18, eyl21, nyl21, tyl21, eyl22, go_sem] at eyl23 tyl23 nyl23 myl23
 try simp only [myl23, eyl23, c2, vat_in yx8, buyx8, guyx8, c9, c10, eyl18, eyl21, nyl21, tyl21, eyl22, nyl23, tyl23, go_sem]
 refine DG_done ⟨calm_of (by simp only [skel, List.reverse_cons, List.reverse_nil, List.nil_append, List.cons_append, List.map_cons, List.map_nil, List.append_nil]; rfl) (by first | decide +kernel | rfl), run_sound T_ok 1000 _ _ ?_⟩
 try simp only [c2, vat_in yx8, buyx8, guyx8, c9, c10, eyl18, eyl21, nyl21, tyl21, eyl22, eyl23, nyl23, tyl23, go_sem]
 obtain rfl := Option.some.inj h0
 refine AKev_ret rfl ?_
 try simp only [F75.rs, c2, vat_in yx8, buyx8, guyx8, c9, c10, eyl18, eyl21, nyl21, tyl21, eyl22, eyl23, nyl23, tyl23, go_sem]
def F86.s0 : SC :=
 (.seq
 (.seq
 (.reg [mv 5 4 3 [],
 mv 6 0 44 [],
 ln 7 6 44 3 [6],
 b2 8 .lss 3 5 7 3 4 [5, 7]])
 (.cond (.tmp 8)
 .skip
 (.exit 0)))
 (.seq
 (.block 1
 (.reg [mv 12 3 44 [3],
 mv 13 0 44 [],
 mv 14 4 3 [],
 ia 15 44 13 14 [13, 14],
 ld 16 25 15 [15],
 cf2 17 75 12 16 44 25 100 [12, 16],
 mv 11 17 100 [17],
 xt 18 11 0 44 [],
 xt 19 11 1 28 [11, 19],
 sg 3 18 44 [18]]))
 (.reg [mv 9 4 3 [4],
 bn 10 .add 3 9 1 3 3 [9],
 sg 4 10 3 [10]])))
def F86.c : SC :=
 (.seq
 (.reg [oq 2 (.alloc 46) 0 []])
 (.seq
 (.reg [oq 3 (.assign (.const (.slice none 0 0))) 44 []])
 (.seq
 (.seq
 (.reg [sn 4 0 3 []])
 (.block 0
 (.loop F86.s0)))
 (.seq
 (.reg [mv 20 3 44 [3],
 oq 21 (.build 46 #[(0, .tmp 20)]) 46 [20],
 ⟨none, .store 46 (.tmp 2) (.tmp 21), 0, none, [21]⟩])
 .ret))))
theorem F86.rs : Try.f86.results.toList = [.cell 2 46] := rfl
def R09_book.b0 (k : Nat) (l0 : (List Record)) : ((List Record) × Int) → Option (Stp ((List Record) × Int) ((List Record)) (Book)) := fun (s : (List Record) × Int) => match s with
 | (l1, i2) =>
   bif decide (i2 < (l0.length : Int)) then
    (at? l0 i2).bind fun x5 =>
    (R09_added k l1 x5).bind fun x6 =>
    some (.next (x6.1, w64 (i2 + 1)))
   else
    some (.brk l1)
noncomputable def R09_book.h0 (l0 : (List Record)) : ((List Record) × Int) → St := fun (s : (List Record) × Int) => match s with
 | (l1, i2) => ⟨[(0, .sl 8 (List.map Record.c l0)), (2, .ptr 0 0 0), (3, .sl 8 (List.map Record.c l1)), (4, .int .i64 i2)], [(0, .box ([.loc 0 1 8 0 0 0])), (1, .arr 25 8 (List.map Record.c []))], [], 2, Try.f86.ntmps⟩
noncomputable def R09_book.x0 : (List Record) → St := fun (l3 : (List Record)) => ⟨[(2, .ptr 0 0 0), (3, .sl 8 (List.map Record.c l3))], [(0, .box ([.loc 0 1 8 0 0 0])), (1, .arr 25 8 (List.map Record.c []))], [], 2, Try.f86.ntmps⟩
def R09_book (k : Nat) (l0 : (List Record)) : Option (Book) :=
 (whl (R09_book.b0 k l0) k ([], 0)).bind fun r7 => match r7 with
 | .next _ => none
 | .ret v_ => some v_
 | .brk l3 =>
  some (⟨l3⟩ : Book)
theorem R09_book_ok (k : Nat) (l0 : (List Record)) (r : Book) (h0 : R09_book k l0 = some r) : PCall Try.prog 86 [.sl 8 (List.map Record.c l0)] (fun y => y = .agg (Book.c r)) := by
 refine PB (fn := Try.f86) (sc := F86.c) ?_
 refine rS ?_
 simp only [R09_book] at h0
 try simp only [F86.c, go_sem]
 obtain ⟨r7, yr7, h0⟩ := bs h0
 refine AKev_loopS yr7 (R09_book.h0 l0) (R09_book.x0) ?_ ?_ ?_
 refine Weak.trans (Weak.fz 16 rfl (fun _ h => by cases h)) ?_
 refine Weak.go [0, 2, 3, 4] [0, 1] rfl ?_
 try simp only [R09_book.h0, go_sem]
 rintro ⟨l1, i2⟩ x_1 Bk1 Br1 h1 hnext1 hbrk1 hret1
 refine rS ?_
 simp only [R09_book.b0] at h1
 try simp only [F86.s0, R09_book.h0, go_sem]
 refine AKev_bif h1 ?_ ?_ <;> intro c4 h1
 try simp only [c4, go_sem]
 obtain ⟨x5, yx5, h1⟩ := bs h1
 try simp only [aa yx5, c4, go_sem]
 obtain ⟨x6, yx6, h1⟩ := bs h1
 refine zc0 (R09_added_ok k _ _ _ yx6) ?_ (by first | rfl | simp [AV.refsL, AV.refs, AV.scal, AV.leaf]) ?_
 try simp only [c4, aa yx5, go_sem]
 try simp only [c4, aa yx5, go_sem]
 refine AKev_backB (hnext1 _ _ (Option.some.inj h1).symm ?_)
 refine Weak.go [0, 2, 3, 4] [0, 1] rfl ?_
 try simp only [R09_book.h0, c4, aa yx5, go_sem]
 try simp only [c4, go_sem]
 refine AKev_backB (hbrk1 _ _ (Option.some.inj h1).symm ?_)
 refine Weak.go [2, 3] [0, 1] rfl ?_
 try simp only [R09_book.x0, c4, go_sem]
 rintro l3 hr_
 subst hr_
 simp only at h0
 refine rS ?_
 try simp only [R09_book.x0, go_sem]
 obtain rfl := Option.some.inj h0
 refine AKev_ret rfl ?_
 try simp only [F86.rs, go_sem]
def F48.c : SC :=
 (.seq
 (.reg [oq 4 (.alloc 46) 0 []])
 (.seq
 (.reg [mv 5 0 68 [0],
 mv 6 1 3 [1],
 cf2 7 38 5 6 68 3 44 [5, 6],
 cf1 8 86 7 44 46 [7],
 ⟨none, .store 46 (.tmp 4) (.tmp 8), 0, none, [8]⟩])
 .ret))
theorem F48.rs : Try.f48.results.toList = [.cell 4 46] := rfl
def R09_Book (k : Nat) (l0 : (List (Vec 5 Int))) (most1 : Int) : Option (Book) :=
 (R09_Records k l0 most1).bind fun x1 =>
 (R09_book k x1).bind fun x2 =>
 some x2
theorem R09_Book_ok (k : Nat) (l0 : (List (Vec 5 Int))) (most1 : Int) (r : Book) (h0 : R09_Book k l0 most1 = some r) : PCall Try.prog 48 [.sl 5 (List.map (Vec.c (n := 5) eI) l0), .int .i64 most1] (fun y => y = .agg (Book.c r)) := by
 refine PB (fn := Try.f48) (sc := F48.c) ?_
 refine rS ?_
 simp only [R09_Book] at h0
 try simp only [F48.c, go_sem]
 obtain ⟨x1, yx1, h0⟩ := bs h0
 refine zc0 (R09_Records_ok k _ _ _ yx1) ?_ (by first | rfl | simp [AV.refsL, AV.refs, AV.scal, AV.leaf]) ?_
 try simp only [go_sem]
 try simp only [go_sem]
 obtain ⟨x2, yx2, h0⟩ := bs h0
 refine zc0 (R09_book_ok k _ _ yx2) ?_ (by first | rfl | simp [AV.refsL, AV.refs, AV.scal, AV.leaf]) ?_
 try simp only [go_sem]
 try simp only [go_sem]
 obtain rfl := Option.some.inj h0
 refine AKev_ret rfl ?_
 try simp only [F48.rs, go_sem]
def F49.s1 : SC :=
 (.seq
 (.seq
 (.reg [mv 15 7 3 [],
 fa 16 46 3 0 [],
 ld 17 44 16 [16],
 ln 18 17 44 3 [17],
 b2 19 .lss 3 15 18 3 4 [15, 18]])
 (.cond (.tmp 19)
 .skip
 (.exit 2)))
 (.seq
 (.block 3
 (.dreg [mv 22 6 4 [],
 mv 23 22 4 [],
 og 24 (.fieldAddr 46 (.tmp 2) 0) 0 23 false [],
 og 25 (.load 44 (.tmp 24)) 44 23 false [],
 og 26 (.move (.tmp 5)) 3 23 false [],
 og 27 (.indexAddr 44 (.tmp 25) (.tmp 26)) 0 23 false [],
 og 28 (.load 25 (.tmp 27)) 25 23 false [],
 og 29 (.fieldAddr 46 (.tmp 3) 0) 0 23 false [],
 og 30 (.load 44 (.tmp 29)) 44 23 false [],
 og 31 (.move (.tmp 7)) 3 23 false [],
 og 32 (.indexAddr 44 (.tmp 30) (.tmp 31)) 0 23 false [],
 og 33 (.load 25 (.tmp 32)) 25 23 false [],
 og 34 (.binOp .eql 25 (.tmp 28) (.tmp 33) 25) 4 23 false [],
 oq 35 (.pick (.tmp 23) (.const (.bool true)) (.tmp 34)) 4 [],
 sg 6 35 4 []] [[], [0], [0, 1], [0, 1, 2], [0, 1], [0, 1, 2, 3, 4], [0, 1, 2, 3, 4, 5], [0, 1], [0, 1, 7], [0, 1], [0, 1, 7, 8, 9], [0, 1, 7, 8, 9, 10], [0, 1, 2, 3, 4, 5, 6, 7, 8, 9, 10, 11], [0, 1, 2, 3, 4, 5, 6, 7, 8, 9, 10, 11, 12], [0, 1, 2, 3, 4, 5, 6, 7, 8, 9, 10, 11, 12, 13]] [22, 23, 24, 25, 26, 27, 28, 29, 30, 31, 32, 33, 34, 35]))
 (.reg [mv 20 7 3 [7],
 bn 21 .add 3 20 1 3 3 [20],
 sg 7 21 3 [21]])))
def F49.s0 : SC :=
 (.seq
 (.seq
 (.reg [mv 8 5 3 [],
 fa 9 46 2 0 [],
 ld 10 44 9 [9],
 ln 11 10 44 3 [10],
 b2 12 .lss 3 8 11 3 4 [8, 11]])
 (.cond (.tmp 12)
 .skip
 (.exit 0)))
 (.seq
 (.block 1
 (.seq
 (.reg [sb 6 false 4 []])
 (.seq
 (.seq
 (.reg [sn 7 0 3 []])
 (.block 2
 (.loop F49.s1)))
 (.seq
 (.reg [mv 36 6 4 [6],
 oq 37 (.unOp .not 4 (.tmp 36)) 4 [36]])
 (.cond (.tmp 37)
 (.seq
 (.reg [sb 4 false 4 []])
 .ret)
 .skip)))))
 (.reg [mv 13 5 3 [5],
 bn 14 .add 3 13 1 3 3 [13],
 sg 5 14 3 [14]])))
def F49.c : SC :=
 (.seq
 (.reg [oq 2 (.box 46 (.tmp 0)) 0 [0],
 oq 3 (.box 46 (.tmp 1)) 0 [1],
 sb 4 false 4 [4]])
 (.seq
 (.seq
 (.reg [sn 5 0 3 []])
 (.block 0
 (.loop F49.s0)))
 (.seq
 (.reg [sb 4 true 4 []])
 .ret)))
theorem F49.rs : Try.f49.results.toList = [.tmp 4] := rfl
def L09_within.b1 (k : Nat) (a0 : Book) (b1 : Book) (i1 : Int) : (Bool × Int) → Option (Stp (Bool × Int) (Bool) (Bool)) := fun (s : Bool × Int) => match s with
 | (b3, i4) =>
   bif decide (i4 < (b1.Records.length : Int)) then
    bif (!b3) then
     (at? a0.Records i1).bind fun x8 =>
     (at? b1.Records i4).bind fun x9 =>
     some (.next ((decide (x8.At.House = x9.At.House) && (decide (x8.At.No = x9.At.No) && (decide (x8.Kind = x9.Kind) && (decide (x8.Day = x9.Day) && (decide (x8.Known = x9.Known) && (decide (x8.Of.House = x9.Of.House) && (decide (x8.Of.No = x9.Of.No) && (x8.Text.toList == x9.Text.toList)))))))), w64 (i4 + 1)))
    else
     some (.next (true, w64 (i4 + 1)))
   else
    some (.brk b3)
def L09_within.b0 (k : Nat) (a0 : Book) (b1 : Book) : Int → Option (Stp (Int) (Unit) (Bool)) := fun (i1 : Int) =>
 bif decide (i1 < (a0.Records.length : Int)) then
  (whl (L09_within.b1 k a0 b1 i1) k (false, 0)).bind fun r10 => match r10 with
  | .next _ => none
  | .ret v_ => some (.ret v_)
  | .brk b5 =>
   bif (!b5) then
    some (.ret false)
   else
    some (.next (w64 (i1 + 1)))
 else
  some (.brk ())
noncomputable def L09_within.h1 (a0 : Book) (b1 : Book) (i1 : Int) : (Bool × Int) → St := fun (s : Bool × Int) => match s with
 | (b3, i4) => ⟨[(2, .ptr 0 0 0), (3, .ptr 0 1 0), (5, .int .i64 i1), (6, .bool b3), (7, .int .i64 i4)], [(0, .box ([.sl 8 (List.map Record.c a0.Records)])), (1, .box ([.sl 8 (List.map Record.c b1.Records)]))], [], 2, Try.f49.ntmps⟩
noncomputable def L09_within.x1 (a0 : Book) (b1 : Book) (i1 : Int) : Bool → St := fun (b5 : Bool) => ⟨[(2, .ptr 0 0 0), (3, .ptr 0 1 0), (5, .int .i64 i1), (6, .bool b5)], [(0, .box ([.sl 8 (List.map Record.c a0.Records)])), (1, .box ([.sl 8 (List.map Record.c b1.Records)]))], [], 2, Try.f49.ntmps⟩
noncomputable def L09_within.h0 (a0 : Book) (b1 : Book) : Int → St := fun (i1 : Int) => ⟨[(2, .ptr 0 0 0), (3, .ptr 0 1 0), (5, .int .i64 i1)], [(0, .box ([.sl 8 (List.map Record.c a0.Records)])), (1, .box ([.sl 8 (List.map Record.c b1.Records)]))], [], 2, Try.f49.ntmps⟩
noncomputable def L09_within.x0 : Unit → St := fun (_ : Unit) => ⟨[], [], [], 1, Try.f49.ntmps⟩
def L09_within (k : Nat) (a0 : Book) (b1 : Book) : Option (Bool) :=
 (whl (L09_within.b0 k a0 b1) k 0).bind fun r12 => match r12 with
 | .next _ => none
 | .ret v_ => some v_
 | .brk _ =>
  some true
theorem L09_within_ok (k : Nat) (a0 : Book) (b1 : Book) (r : Bool) (h0 : L09_within k a0 b1 = some r) : PCall Try.prog 49 [.agg (Book.c a0), .agg (Book.c b1)] (fun y => y = .bool r) := by
 refine PB (fn := Try.f49) (sc := F49.c) ?_
 refine rS ?_
 simp only [L09_within] at h0
 try simp only [F49.c, go_sem]
 obtain ⟨r12, yr12, h0⟩ := bs h0
 refine AKev_loopS yr12 (L09_within.h0 a0 b1) (L09_within.x0) ?_ ?_ ?_
 refine Weak.go [2, 3, 5] [0, 16] rfl ?_
 try simp only [L09_within.h0, go_sem]
 rintro i1 x_1 Bk1 Br1 h1 hnext1 hbrk1 hret1
 refine rS ?_
 simp only [L09_within.b0] at h1
 try simp only [F49.s0, L09_within.h0, go_sem]
 refine AKev_bif h1 ?_ ?_ <;> intro c2 h1
 try simp only [c2, go_sem]
 obtain ⟨r10, yr10, h1⟩ := bs h1
 refine AKev_loopS yr10 (L09_within.h1 a0 b1 i1) (L09_within.x1 a0 b1 i1) ?_ ?_ ?_
 refine Weak.go [2, 3, 5, 6, 7] [0, 1] rfl ?_
 try simp only [L09_within.h1, c2, go_sem]
 rintro ⟨b3, i4⟩ x_2 Bk2 Br2 h2 hnext2 hbrk2 hret2
 refine rS ?_
 simp only [L09_within.b1] at h2
 try simp only [F49.s1, L09_within.h1, c2, go_sem]
 refine AKev_bif h2 ?_ ?_ <;> intro c6 h2
 try simp only [c6, c2, go_sem]
 refine AKev_region T_ok follows_ok 1000 ?_
 try simp only [c2, c6, go_sem]
 refine DG_bif h2 ?_ ?_ <;> intro c7 h2
 have c7 := bnot_t c7
 try simp only [c7, c2, c6, go_sem]
 obtain ⟨x8, yx8, h2⟩ := bs h2
 try simp only [aa yx8, c2, c6, c7, go_sem]
 obtain ⟨x9, yx9, h2⟩ := bs h2
 try simp only [aa yx9, c2, c6, c7, aa yx8, go_sem]
 refine DG_done ⟨calm_of (by simp only [skel, List.reverse_cons, List.reverse_nil, List.nil_append, List.cons_append, List.map_cons, List.map_nil, List.append_nil]; rfl) (by first | decide +kernel | rfl), run_sound T_ok 1000 _ _ ?_⟩
 try simp only [c2, c6, c7, aa yx8, aa yx9, go_sem]
 refine AKev_backB (hnext2 _ _ (Option.some.inj h2).symm ?_)
 refine Weak.go [2, 3, 5, 6, 7] [0, 1] rfl ?_
 try simp only [L09_within.h1, c2, c6, c7, aa yx8, aa yx9, go_sem]
 have c7 := bnot_f c7
 try simp only [c7, c2, c6, go_sem]
 refine DG_done ⟨calm_of (by simp only [skel, List.reverse_cons, List.reverse_nil, List.nil_append, List.cons_append, List.map_cons, List.map_nil, List.append_nil]; rfl) (by first | decide +kernel | rfl), run_sound T_ok 1000 _ _ ?_⟩
 try simp only [c2, c6, c7, go_sem]
 refine AKev_backB (hnext2 _ _ (Option.some.inj h2).symm ?_)
 refine Weak.go [2, 3, 5, 6, 7] [0, 1] rfl ?_
 try simp only [L09_within.h1, c2, c6, c7, go_sem]
 try simp only [c6, c2, go_sem]
 refine AKev_backB (hbrk2 _ _ (Option.some.inj h2).symm ?_)
 refine Weak.go [2, 3, 5, 6] [0, 1] rfl ?_
 try simp only [L09_within.x1, c2, c6, go_sem]
 rintro b5 hr_
 subst hr_
 simp only at h1
 refine rS ?_
 try simp only [L09_within.x1, c2, go_sem]
 refine AKev_bif h1 ?_ ?_ <;> intro c11 h1
 have c11 := bnot_t c11
 try simp only [c11, c2, go_sem]
 obtain rfl := hret1 _ (Option.some.inj h1).symm
 simp only at h0
 obtain rfl := Option.some.inj h0
 refine AKev_ret rfl ?_
 try simp only [F49.rs, c2, c11, go_sem]
 have c11 := bnot_f c11
 try simp only [c11, c2, go_sem]
 refine AKev_backB (hnext1 _ _ (Option.some.inj h1).symm ?_)
 refine Weak.go [2, 3, 5] [0, 1] rfl ?_
 try simp only [L09_within.h0, c2, c11, go_sem]
 try simp only [c2, go_sem]
 refine AKev_backB (hbrk1 _ _ (Option.some.inj h1).symm ?_)
 refine Weak.go [] [] rfl ?_
 try simp only [L09_within.x0, c2, go_sem]
 rintro _ hr_
 subst hr_
 simp only at h0
 refine rS ?_
 try simp only [L09_within.x0, go_sem]
 obtain rfl := Option.some.inj h0
 refine AKev_ret rfl ?_
 try simp only [F49.rs, go_sem]
def F50.c : SC :=
 (.seq
 (.reg [oq 2 (.box 46 (.tmp 0)) 0 [0],
 oq 3 (.box 25 (.tmp 1)) 0 [1],
 oq 4 (.alloc 46) 0 [],
 sn 5 0 28 [5]])
 (.seq
 (.seq
 (.reg [ld 7 46 2 [],
 cf1 8 51 7 46 28 [7],
 sg 6 8 28 [8]])
 (.seq
 (.reg [mv 9 6 28 [],
 bn 10 .neq 28 9 0 28 4 [9]])
 (.cond (.tmp 10)
 (.seq
 (.reg [oq 11 (.build 46 #[]) 46 [],
 mv 12 6 28 [6],
 ⟨none, .store 46 (.tmp 4) (.tmp 11), 0, none, [11]⟩,
 sg 5 12 28 [12]])
 .ret)
 .skip)))
 (.seq
 (.reg [ld 13 46 2 [2],
 ld 14 25 3 [3],
 cf2 15 71 13 14 46 25 73 [13, 14],
 xt 16 15 0 46 [],
 xt 17 15 1 28 [15],
 ⟨none, .store 46 (.tmp 4) (.tmp 16), 0, none, [16]⟩,
 sg 5 17 28 [17]])
 .ret)))
theorem F50.rs : Try.f50.results.toList = [.cell 4 46, .tmp 5] := rfl
def book_Add (k : Nat) (b0 : Book) (r1 : Record) : Option (Book × Int) :=
 (book_Check k b0).bind fun x1 =>
 bif (!decide (x1 = (0 : Int))) then
  some ((⟨[]⟩ : Book), x1)
 else
  (book_added k b0 r1).bind fun x3 =>
  some (x3.1, x3.2)
theorem book_Add_ok (k : Nat) (b0 : Book) (r1 : Record) (r : Book × Int) (h0 : book_Add k b0 r1 = some r) : PCall Try.prog 50 [.agg (Book.c b0), .agg (Record.c r1)] (fun y => y = .tup [.agg (Book.c r.1), .int .i64 r.2]) := by
 refine PB (fn := Try.f50) (sc := F50.c) ?_
 refine rS ?_
 simp only [book_Add] at h0
 try simp only [F50.c, go_sem]
 obtain ⟨x1, yx1, h0⟩ := bs h0
 refine zc0 (book_Check_ok k _ _ yx1) ?_ (by first | rfl | simp [AV.refsL, AV.refs, AV.scal, AV.leaf]) ?_
 try simp only [go_sem]
 try simp only [go_sem]
 refine AKev_bif h0 ?_ ?_ <;> intro c2 h0
 have c2 := bnot_t c2
 try simp only [c2, go_sem]
 obtain rfl := Option.some.inj h0
 refine AKev_ret rfl ?_
 try simp only [F50.rs, c2, go_sem]
 have c2 := bnot_f c2
 try simp only [c2, go_sem]
 obtain ⟨x3, yx3, h0⟩ := bs h0
 refine zc0 (book_added_ok k _ _ _ yx3) ?_ (by first | rfl | simp [AV.refsL, AV.refs, AV.scal, AV.leaf]) ?_
 try simp only [c2, go_sem]
 try simp only [c2, go_sem]
 obtain rfl := Option.some.inj h0
 refine AKev_ret rfl ?_
 try simp only [F50.rs, c2, go_sem]
end Go.Abs
