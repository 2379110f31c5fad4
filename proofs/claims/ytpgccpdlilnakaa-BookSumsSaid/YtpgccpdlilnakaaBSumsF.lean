/-
  Part 6 of the proof: a machine over named blocks, what each function computes, and what follows. No condition.
-/
import Derived.Test.YtpgccpdlilnakaaRows
import Derived.WalkKit
import Derived.ProofKit
import Derived.OpenShut
import Derived.JoinedCond
import Derived.Test.YtpgccpdlilnakaaBSumsE
set_option linter.unusedVariables false
set_option linter.unusedSimpArgs false
set_option linter.all false
set_option maxRecDepth 100000
set_option maxHeartbeats 8000000
namespace Go.Abs
open Go.Proofs
def F10.s1 : SC :=
 (.seq
 (.seq
 (.reg [mv 106 19 3 [],
 mv 107 8 44 [],
 ln 108 107 44 3 [107],
 b2 109 .lss 3 106 108 3 4 [106, 108]])
 (.cond (.tmp 109)
 .skip
 (.exit 2)))
 (.seq
 (.block 3
 (.seq
 (.seq
 (.reg [mv 112 8 44 [],
 mv 113 19 3 [],
 ia 114 44 112 113 [112, 113],
 fa 115 25 114 0 [114],
 fa 116 23 115 0 [115],
 ld 117 3 116 [116],
 mv 118 18 3 [],
 b2 119 .neq 3 117 118 3 4 [117, 118]])
 (.cond (.tmp 119)
 (.exit 3)
 .skip))
 (.seq
 (.dreg [ld 121 46 17 [],
 mv 122 8 44 [],
 mv 123 19 3 [],
 ia 124 44 122 123 [],
 ld 125 25 124 [],
 cf2 126 50 121 125 46 25 73 [],
 mv 120 126 73 [],
 xt 127 120 0 46 [],
 xt 128 120 1 28 [],
 oq 20 (.alloc 46) 0 [],
 ⟨none, .store 46 (.tmp 20) (.tmp 127), 0, none, []⟩,
 sg 21 128 28 []] [[], [], [], [1, 2], [1, 2, 3], [0, 1, 2, 3, 4], [0, 1, 2, 3, 4, 5], [0, 1, 2, 3, 4, 5, 6], [0, 1, 2, 3, 4, 5, 6], [], [9, 0, 1, 2, 3, 4, 5, 6, 7], [0, 1, 2, 3, 4, 5, 6, 8, 9, 7, 10]] [120, 121, 122, 123, 124, 125, 126, 127, 128])
 (.seq
 (.seq
 (.reg [mv 129 21 28 [21],
 bn 130 .neq 28 129 0 28 4 [129]])
 (.cond (.tmp 130)
 (.seq
 (.reg [sb 6 false 4 []])
 .ret)
 .skip))
 (.reg [ld 131 46 20 [20],
 ⟨none, .store 46 (.tmp 17) (.tmp 131), 0, none, [131]⟩])))))
 (.reg [mv 110 19 3 [19],
 bn 111 .add 3 110 1 3 3 [110],
 sg 19 111 3 [111]])))
def F10.s0 : SC :=
 (.seq
 (.seq
 (.reg [mv 102 18 3 [],
 bn 103 .geq 3 102 0 3 4 [102]])
 (.cond (.tmp 103)
 .skip
 (.exit 0)))
 (.seq
 (.block 1
 (.seq
 (.reg [sn 19 0 3 []])
 (.block 2
 (.loop F10.s1))))
 (.reg [mv 104 18 3 [18],
 bn 105 .sub 3 104 1 3 3 [104],
 sg 18 105 3 [105]])))
def F10.c : SC :=
 (.seq
 (.reg [sb 6 false 4 [6]])
 (.seq
 (.reg [oq 22 (.call ⟨.value (.func 14), #[], #[]⟩) 4 [],
 sg 7 22 4 [22]])
 (.seq
 (.reg [mv 23 0 68 [],
 oq 24 (.call ⟨.value (.func 38), #[.tmp 23, .const (.int .i64 20)], #[68, 3]⟩) 44 [23],
 sg 8 24 44 [24]])
 (.seq
 (.reg [mv 25 0 68 [],
 mv 26 1 3 [1],
 oq 27 (.call ⟨.value (.func 39), #[.tmp 26, .const (.int .i64 21)], #[3, 3]⟩) 3 [26],
 cf2 28 48 25 27 68 3 46 [25, 27],
 oq 9 (.alloc 46) 0 [],
 ⟨none, .store 46 (.tmp 9) (.tmp 28), 0, none, [28]⟩])
 (.seq
 (.reg [mv 29 0 68 [],
 mv 30 2 3 [2],
 oq 31 (.call ⟨.value (.func 39), #[.tmp 30, .const (.int .i64 21)], #[3, 3]⟩) 3 [30],
 cf2 32 48 29 31 68 3 46 [29, 31],
 oq 10 (.alloc 46) 0 [],
 ⟨none, .store 46 (.tmp 10) (.tmp 32), 0, none, [32]⟩])
 (.seq
 (.reg [ld 34 46 9 [],
 ld 35 46 10 [],
 cf2 36 40 34 35 46 46 73 [34, 35],
 mv 33 36 73 [36],
 xt 37 33 0 46 [],
 xt 38 33 1 28 [33],
 oq 11 (.alloc 46) 0 [],
 ⟨none, .store 46 (.tmp 11) (.tmp 37), 0, none, [37]⟩,
 sg 12 38 28 [38]])
 (.seq
 (.reg [ld 40 46 10 [],
 ld 41 46 9 [],
 cf2 42 40 40 41 46 46 73 [40, 41],
 mv 39 42 73 [42],
 xt 43 39 0 46 [],
 xt 44 39 1 28 [39],
 oq 13 (.alloc 46) 0 [],
 ⟨none, .store 46 (.tmp 13) (.tmp 43), 0, none, [43]⟩,
 sg 14 44 28 [44]])
 (.seq
 (.reg [ld 46 46 11 [],
 ld 47 46 9 [],
 cf2 48 40 46 47 46 46 73 [46, 47],
 mv 45 48 73 [48],
 xt 49 45 0 46 [],
 xt 50 45 1 28 [45],
 oq 15 (.alloc 46) 0 [],
 ⟨none, .store 46 (.tmp 15) (.tmp 49), 0, none, [49]⟩,
 sg 16 50 28 [50]])
 (.seq
 (.seq
 (.reg [mv 51 7 4 [7],
 oq 52 (.unOp .not 4 (.tmp 51)) 4 [51],
 mv 53 52 4 [52],
 og 54 (.move (.tmp 12)) 28 53 false [12],
 og 55 (.binOp .neq 28 (.tmp 54) (.const (.int .i64 0)) 28) 4 53 false [54],
 oq 56 (.pick (.tmp 53) (.const (.bool true)) (.tmp 55)) 4 [53, 55],
 mv 57 56 4 [56],
 og 58 (.move (.tmp 14)) 28 57 false [14],
 og 59 (.binOp .neq 28 (.tmp 58) (.const (.int .i64 0)) 28) 4 57 false [58],
 oq 60 (.pick (.tmp 57) (.const (.bool true)) (.tmp 59)) 4 [57, 59],
 mv 61 60 4 [60],
 og 62 (.move (.tmp 16)) 28 61 false [16],
 og 63 (.binOp .neq 28 (.tmp 62) (.const (.int .i64 0)) 28) 4 61 false [62],
 oq 64 (.pick (.tmp 61) (.const (.bool true)) (.tmp 63)) 4 [61, 63],
 mv 65 64 4 [64],
 og 66 (.load 46 (.tmp 11)) 46 65 false [],
 og 67 (.load 46 (.tmp 13)) 46 65 false [13],
 og 68 (.call ⟨.value (.func 42), #[.tmp 66, .tmp 67], #[46, 46]⟩) 4 65 false [66, 67],
 og 69 (.unOp .not 4 (.tmp 68)) 4 65 false [68],
 oq 70 (.pick (.tmp 65) (.const (.bool true)) (.tmp 69)) 4 [65, 69],
 mv 71 70 4 [70],
 og 72 (.load 46 (.tmp 11)) 46 71 false [],
 og 73 (.load 46 (.tmp 15)) 46 71 false [15],
 og 74 (.call ⟨.value (.func 42), #[.tmp 72, .tmp 73], #[46, 46]⟩) 4 71 false [72, 73],
 og 75 (.unOp .not 4 (.tmp 74)) 4 71 false [74],
 oq 76 (.pick (.tmp 71) (.const (.bool true)) (.tmp 75)) 4 [71, 75],
 mv 77 76 4 [76],
 og 78 (.load 46 (.tmp 9)) 46 77 false [],
 og 79 (.load 46 (.tmp 11)) 46 77 false [],
 og 80 (.call ⟨.value (.func 49), #[.tmp 78, .tmp 79], #[46, 46]⟩) 4 77 false [78, 79],
 og 81 (.unOp .not 4 (.tmp 80)) 4 77 false [80],
 oq 82 (.pick (.tmp 77) (.const (.bool true)) (.tmp 81)) 4 [77, 81],
 mv 83 82 4 [82],
 og 84 (.load 46 (.tmp 10)) 46 83 false [],
 og 85 (.load 46 (.tmp 11)) 46 83 false [],
 og 86 (.call ⟨.value (.func 49), #[.tmp 84, .tmp 85], #[46, 46]⟩) 4 83 false [84, 85],
 og 87 (.unOp .not 4 (.tmp 86)) 4 83 false [86],
 oq 88 (.pick (.tmp 83) (.const (.bool true)) (.tmp 87)) 4 [83, 87],
 mv 89 88 4 [88],
 og 90 (.fieldAddr 46 (.tmp 11) 0) 0 89 false [11],
 og 91 (.load 44 (.tmp 90)) 44 89 false [90],
 og 92 (.call ⟨.builtin .len, #[.tmp 91], #[44]⟩) 3 89 false [91],
 og 93 (.fieldAddr 46 (.tmp 9) 0) 0 89 false [9],
 og 94 (.load 44 (.tmp 93)) 44 89 false [93],
 og 95 (.call ⟨.builtin .len, #[.tmp 94], #[44]⟩) 3 89 false [94],
 og 96 (.fieldAddr 46 (.tmp 10) 0) 0 89 false [10],
 og 97 (.load 44 (.tmp 96)) 44 89 false [96],
 og 98 (.call ⟨.builtin .len, #[.tmp 97], #[44]⟩) 3 89 false [97],
 og 99 (.call ⟨.builtin .max, #[.tmp 95, .tmp 98], #[3, 3]⟩) 3 89 false [95, 98],
 og 100 (.binOp .neq 3 (.tmp 92) (.tmp 99) 3) 4 89 false [92, 99],
 oq 101 (.pick (.tmp 89) (.const (.bool true)) (.tmp 100)) 4 [89, 100]])
 (.cond (.tmp 101)
 (.seq
 (.reg [sb 6 false 4 []])
 .ret)
 .skip))
 (.seq
 (.reg [oq 17 (.alloc 46) 0 []])
 (.seq
 (.seq
 (.reg [sn 18 2 3 []])
 (.block 0
 (.loop F10.s0)))
 (.seq
 (.dreg [ld 132 46 17 [],
 mv 133 0 68 [],
 oq 134 (.call ⟨.value (.func 48), #[.tmp 133, .const (.int .i64 20)], #[68, 3]⟩) 46 [],
 cf2 135 42 132 134 46 46 4 [],
 mv 136 135 4 [],
 og 137 (.load 46 (.tmp 17)) 46 136 true [],
 og 138 (.call ⟨.value (.func 51), #[.tmp 137], #[46]⟩) 28 136 true [],
 og 139 (.binOp .eql 28 (.tmp 138) (.const (.int .i64 0)) 28) 4 136 true [],
 oq 140 (.pick (.tmp 136) (.tmp 139) (.const (.bool false))) 4 [],
 sg 6 140 4 []] [[], [], [1], [0, 1, 2], [0, 1, 2, 3], [0, 1, 2, 3, 4], [0, 1, 2, 3, 4, 5], [0, 1, 2, 3, 4, 5, 6], [0, 1, 2, 3, 4, 5, 6, 7], [0, 1, 2, 3, 4, 5, 6, 7, 8]] [0, 17, 132, 133, 134, 135, 136, 137, 138, 139, 140])
 .ret))))))))))))
theorem F10.rs : Try.f10.results.toList = [.tmp 6] := rfl
def L09_BookSums.b1 (k : Nat) (x2 : (List Record)) (i24 : Int) : (Book × Int) → Option (Stp (Book × Int) (Book) (Bool)) := fun (s : Book × Int) => match s with
 | (s27, i28) =>
   bif decide (i28 < (x2.length : Int)) then
    (at? x2 i28).bind fun x31 =>
    bif (!decide (x31.At.House = i24)) then
     some (.next (s27, w64 (i28 + 1)))
    else
     (book_Add k s27 x31).bind fun x33 =>
     bif (!decide (x33.2 = (0 : Int))) then
      some (.ret false)
     else
      some (.next (x33.1, w64 (i28 + 1)))
   else
    some (.brk s27)
def L09_BookSums.b0 (k : Nat) (x2 : (List Record)) : (Book × Int) → Option (Stp (Book × Int) (Book) (Bool)) := fun (s : Book × Int) => match s with
 | (s23, i24) =>
   bif decide ((0 : Int) ≤ i24) then
    (whl (L09_BookSums.b1 k x2 i24) k (s23, 0)).bind fun r35 => match r35 with
    | .next _ => none
    | .ret v_ => some (.ret v_)
    | .brk s29 =>
     some (.next (s29, w64 (i24 - 1)))
   else
    some (.brk s23)
noncomputable def L09_BookSums.h1 (l0 : (List (Vec 5 Int))) (x2 : (List Record)) (i24 : Int) : (Book × Int) → St := fun (s : Book × Int) => match s with
 | (s27, i28) => ⟨[(0, .sl 5 (List.map (Vec.c (n := 5) eI) l0)), (8, .sl 8 (List.map Record.c x2)), (17, .ptr 0 0 0), (18, .int .i64 i24), (19, .int .i64 i28)], [(0, .box ([.sl 8 (List.map Record.c s27.Records)]))], [], 1, Try.f10.ntmps⟩
noncomputable def L09_BookSums.x1 (l0 : (List (Vec 5 Int))) (x2 : (List Record)) (i24 : Int) : Book → St := fun (s29 : Book) => ⟨[(0, .sl 5 (List.map (Vec.c (n := 5) eI) l0)), (8, .sl 8 (List.map Record.c x2)), (17, .ptr 0 0 0), (18, .int .i64 i24)], [(0, .box ([.sl 8 (List.map Record.c s29.Records)]))], [], 1, Try.f10.ntmps⟩
noncomputable def L09_BookSums.h0 (l0 : (List (Vec 5 Int))) (x2 : (List Record)) : (Book × Int) → St := fun (s : Book × Int) => match s with
 | (s23, i24) => ⟨[(0, .sl 5 (List.map (Vec.c (n := 5) eI) l0)), (8, .sl 8 (List.map Record.c x2)), (17, .ptr 0 0 0), (18, .int .i64 i24)], [(0, .box ([.sl 8 (List.map Record.c s23.Records)]))], [], 1, Try.f10.ntmps⟩
noncomputable def L09_BookSums.x0 (l0 : (List (Vec 5 Int))) : Book → St := fun (s25 : Book) => ⟨[(0, .sl 5 (List.map (Vec.c (n := 5) eI) l0)), (17, .ptr 0 0 0)], [(0, .box ([.sl 8 (List.map Record.c s25.Records)]))], [], 1, Try.f10.ntmps⟩
def L09_BookSums (k : Nat) (l0 : (List (Vec 5 Int))) (n1 : Int) (m2 : Int) : Option (Bool) :=
 (L09_sane k).bind fun x1 =>
 (R09_Records k l0 20).bind fun x2 =>
 (R09_Mod k n1 21).bind fun x3 =>
 (R09_Book k l0 x3).bind fun x4 =>
 (R09_Mod k m2 21).bind fun x5 =>
 (R09_Book k l0 x5).bind fun x6 =>
 (book_Join k x4 x6).bind fun x7 =>
 (book_Join k x6 x4).bind fun x8 =>
 (book_Join k x7.1 x4).bind fun x9 =>
 bif x1 then
  bif decide (x7.2 = (0 : Int)) then
   bif decide (x8.2 = (0 : Int)) then
    bif decide (x9.2 = (0 : Int)) then
     (R09_SameBook k x7.1 x8.1).bind fun x14 =>
     bif x14 then
      (R09_SameBook k x7.1 x9.1).bind fun x16 =>
      bif x16 then
       (L09_within k x4 x7.1).bind fun x18 =>
       bif x18 then
        (L09_within k x6 x7.1).bind fun x20 =>
        bif x20 then
         bif (!decide ((x7.1.Records.length : Int) = max (x4.Records.length : Int) (x6.Records.length : Int))) then
          some false
         else
          (whl (L09_BookSums.b0 k x2) k ((⟨[]⟩ : Book), 2)).bind fun r36 => match r36 with
          | .next _ => none
          | .ret v_ => some v_
          | .brk s25 =>
           (R09_Book k l0 20).bind fun x37 =>
           (R09_SameBook k s25 x37).bind fun x38 =>
           bif x38 then
            (book_Check k s25).bind fun x40 =>
            some (decide (x40 = (0 : Int)))
           else
            some false
        else
         some false
       else
        some false
      else
       some false
     else
      some false
    else
     some false
   else
    some false
  else
   some false
 else
  some false
theorem L09_BookSums_ok (k : Nat) (l0 : (List (Vec 5 Int))) (n1 : Int) (m2 : Int) (r : Bool) (h0 : L09_BookSums k l0 n1 m2 = some r) : PCall Try.prog 10 [.sl 5 (List.map (Vec.c (n := 5) eI) l0), .int .i64 n1, .int .i64 m2] (fun y => y = .bool r) := by
 refine PB (fn := Try.f10) (sc := F10.c) ?_
 refine rS ?_
 simp only [L09_BookSums] at h0
 try simp only [F10.c, go_sem]
 obtain ⟨x1, yx1, h0⟩ := bs h0
 refine zc0 (L09_sane_ok k _ yx1) ?_ (by first | rfl | simp [AV.refsL, AV.refs, AV.scal, AV.leaf]) ?_
 try simp only [go_sem]
 try simp only [go_sem]
 obtain ⟨x2, yx2, h0⟩ := bs h0
 refine zc0 (R09_Records_ok k _ _ _ yx2) ?_ (by first | rfl | simp [AV.refsL, AV.refs, AV.scal, AV.leaf]) ?_
 try simp only [go_sem]
 try simp only [go_sem]
 obtain ⟨x3, yx3, h0⟩ := bs h0
 refine zc0 (R09_Mod_ok k _ _ _ yx3) ?_ (by first | rfl | simp [AV.refsL, AV.refs, AV.scal, AV.leaf]) ?_
 try simp only [go_sem]
 try simp only [go_sem]
 obtain ⟨x4, yx4, h0⟩ := bs h0
 refine zc0 (R09_Book_ok k _ _ _ yx4) ?_ (by first | rfl | simp [AV.refsL, AV.refs, AV.scal, AV.leaf]) ?_
 try simp only [go_sem]
 try simp only [go_sem]
 obtain ⟨x5, yx5, h0⟩ := bs h0
 refine zc0 (R09_Mod_ok k _ _ _ yx5) ?_ (by first | rfl | simp [AV.refsL, AV.refs, AV.scal, AV.leaf]) ?_
 try simp only [go_sem]
 try simp only [go_sem]
 obtain ⟨x6, yx6, h0⟩ := bs h0
 refine zc0 (R09_Book_ok k _ _ _ yx6) ?_ (by first | rfl | simp [AV.refsL, AV.refs, AV.scal, AV.leaf]) ?_
 try simp only [go_sem]
 try simp only [go_sem]
 obtain ⟨x7, yx7, h0⟩ := bs h0
 refine zc0 (book_Join_ok k _ _ _ yx7) ?_ (by first | rfl | simp [AV.refsL, AV.refs, AV.scal, AV.leaf]) ?_
 try simp only [go_sem]
 try simp only [go_sem]
 obtain ⟨x8, yx8, h0⟩ := bs h0
 refine zc0 (book_Join_ok k _ _ _ yx8) ?_ (by first | rfl | simp [AV.refsL, AV.refs, AV.scal, AV.leaf]) ?_
 try simp only [go_sem]
 try simp only [go_sem]
 obtain ⟨x9, yx9, h0⟩ := bs h0
 refine zc0 (book_Join_ok k _ _ _ yx9) ?_ (by first | rfl | simp [AV.refsL, AV.refs, AV.scal, AV.leaf]) ?_
 try simp only [go_sem]
 try simp only [go_sem]
 refine AKev_bif h0 ?_ ?_ <;> intro c10 h0
 try simp only [c10, go_sem]
 refine AKev_bif h0 ?_ ?_ <;> intro c11 h0
 try simp only [c11, c10, go_sem]
 refine AKev_bif h0 ?_ ?_ <;> intro c12 h0
 try simp only [c12, c10, c11, go_sem]
 refine AKev_bif h0 ?_ ?_ <;> intro c13 h0
 try simp only [c13, c10, c11, c12, go_sem]
 obtain ⟨x14, yx14, h0⟩ := bs h0
 refine zc0 (R09_SameBook_ok k _ _ _ yx14) ?_ (by first | rfl | simp [AV.refsL, AV.refs, AV.scal, AV.leaf]) ?_
 try simp only [c10, c11, c12, c13, go_sem]
 try simp only [c10, c11, c12, c13, go_sem]
 refine AKev_bif h0 ?_ ?_ <;> intro c15 h0
 try simp only [c15, c10, c11, c12, c13, go_sem]
 obtain ⟨x16, yx16, h0⟩ := bs h0
 refine zc0 (R09_SameBook_ok k _ _ _ yx16) ?_ (by first | rfl | simp [AV.refsL, AV.refs, AV.scal, AV.leaf]) ?_
 try simp only [c10, c11, c12, c13, c15, go_sem]
 try simp only [c10, c11, c12, c13, c15, go_sem]
 refine AKev_bif h0 ?_ ?_ <;> intro c17 h0
 try simp only [c17, c10, c11, c12, c13, c15, go_sem]
 obtain ⟨x18, yx18, h0⟩ := bs h0
 refine zc0 (L09_within_ok k _ _ _ yx18) ?_ (by first | rfl | simp [AV.refsL, AV.refs, AV.scal, AV.leaf]) ?_
 try simp only [c10, c11, c12, c13, c15, c17, go_sem]
 try simp only [c10, c11, c12, c13, c15, c17, go_sem]
 refine AKev_bif h0 ?_ ?_ <;> intro c19 h0
 try simp only [c19, c10, c11, c12, c13, c15, c17, go_sem]
 obtain ⟨x20, yx20, h0⟩ := bs h0
 refine zc0 (L09_within_ok k _ _ _ yx20) ?_ (by first | rfl | simp [AV.refsL, AV.refs, AV.scal, AV.leaf]) ?_
 try simp only [c10, c11, c12, c13, c15, c17, c19, go_sem]
 try simp only [c10, c11, c12, c13, c15, c17, c19, go_sem]
 refine AKev_bif h0 ?_ ?_ <;> intro c21 h0
 try simp only [c21, c10, c11, c12, c13, c15, c17, c19, go_sem]
 refine AKev_bif h0 ?_ ?_ <;> intro c22 h0
 have c22 := bnot_t c22
 try simp only [c22, c10, c11, c12, c13, c15, c17, c19, c21, go_sem]
 obtain rfl := Option.some.inj h0
 refine AKev_ret rfl ?_
 try simp only [F10.rs, c10, c11, c12, c13, c15, c17, c19, c21, c22, go_sem]
 have c22 := bnot_f c22
 try simp only [c22, c10, c11, c12, c13, c15, c17, c19, c21, go_sem]
 obtain ⟨r36, yr36, h0⟩ := bs h0
 refine AKev_loopS yr36 (L09_BookSums.h0 l0 x2) (L09_BookSums.x0 l0) ?_ ?_ ?_
 refine Weak.trans (Weak.fz 1537 rfl (fun _ h => by cases h)) ?_
 refine Weak.go [0, 8, 17, 18] [1536] rfl ?_
 try simp only [L09_BookSums.h0, c10, c11, c12, c13, c15, c17, c19, c21, c22, go_sem]
 rintro ⟨s23, i24⟩ x_1 Bk1 Br1 h1 hnext1 hbrk1 hret1
 refine rS ?_
 simp only [L09_BookSums.b0] at h1
 try simp only [F10.s0, L09_BookSums.h0, c10, c11, c12, c13, c15, c17, c19, c21, c22, go_sem]
 refine AKev_bif h1 ?_ ?_ <;> intro c26 h1
 try simp only [c26, c10, c11, c12, c13, c15, c17, c19, c21, c22, go_sem]
 obtain ⟨r35, yr35, h1⟩ := bs h1
 refine AKev_loopS yr35 (L09_BookSums.h1 l0 x2 i24) (L09_BookSums.x1 l0 x2 i24) ?_ ?_ ?_
 refine Weak.go [0, 8, 17, 18, 19] [0] rfl ?_
 try simp only [L09_BookSums.h1, c10, c11, c12, c13, c15, c17, c19, c21, c22, c26, go_sem]
 rintro ⟨s27, i28⟩ x_2 Bk2 Br2 h2 hnext2 hbrk2 hret2
 refine rS ?_
 simp only [L09_BookSums.b1] at h2
 try simp only [F10.s1, L09_BookSums.h1, c10, c11, c12, c13, c15, c17, c19, c21, c22, c26, go_sem]
 refine AKev_bif h2 ?_ ?_ <;> intro c30 h2
 try simp only [c30, c10, c11, c12, c13, c15, c17, c19, c21, c22, c26, go_sem]
 obtain ⟨x31, yx31, h2⟩ := bs h2
 try simp only [aa yx31, c10, c11, c12, c13, c15, c17, c19, c21, c22, c26, c30, go_sem]
 refine AKev_bif h2 ?_ ?_ <;> intro c32 h2
 have c32 := bnot_t c32
 try simp only [c32, c10, c11, c12, c13, c15, c17, c19, c21, c22, c26, c30, aa yx31, go_sem]
 refine AKev_backB (hnext2 _ _ (Option.some.inj h2).symm ?_)
 refine Weak.go [0, 8, 17, 18, 19] [0] rfl ?_
 try simp only [L09_BookSums.h1, c10, c11, c12, c13, c15, c17, c19, c21, c22, c26, c30, aa yx31, c32, go_sem]
 have c32 := bnot_f c32
 try simp only [c32, c10, c11, c12, c13, c15, c17, c19, c21, c22, c26, c30, aa yx31, go_sem]
 refine AKev_region T_ok follows_ok 1000 ?_
 try simp only [aa yx31, c10, c11, c12, c13, c15, c17, c19, c21, c22, c26, c30, c32, go_sem]
 obtain ⟨x33, yx33, h2⟩ := bs h2
 refine DG_call0 1000 (book_Add_ok k _ _ _ yx33) ?_ (by first | rfl | simp [AV.refsL, AV.refs, AV.scal, AV.leaf]) ?_
 try simp only [c10, c11, c12, c13, c15, c17, c19, c21, c22, c26, c30, aa yx31, c32, go_sem]
 try simp only [c10, c11, c12, c13, c15, c17, c19, c21, c22, c26, c30, aa yx31, c32, go_sem]
 refine DG_done ⟨calm_of (by simp only [skel, List.reverse_cons, List.reverse_nil, List.nil_append, List.cons_append, List.map_cons, List.map_nil, List.append_nil]; rfl) (by first | decide +kernel | rfl), run_sound T_ok 1000 _ _ ?_⟩
 try simp only [c10, c11, c12, c13, c15, c17, c19, c21, c22, c26, c30, aa yx31, c32, go_sem]
 refine AKev_bif h2 ?_ ?_ <;> intro c34 h2
 have c34 := bnot_t c34
 try simp only [c34, c10, c11, c12, c13, c15, c17, c19, c21, c22, c26, c30, aa yx31, c32, go_sem]
 obtain rfl := hret2 _ (Option.some.inj h2).symm
 simp only at h1
 obtain rfl := hret1 _ (Option.some.inj h1).symm
 simp only at h0
 obtain rfl := Option.some.inj h0
 refine AKev_ret rfl ?_
 try simp only [F10.rs, c10, c11, c12, c13, c15, c17, c19, c21, c22, c26, c30, aa yx31, c32, c34, go_sem]
 have c34 := bnot_f c34
 try simp only [c34, c10, c11, c12, c13, c15, c17, c19, c21, c22, c26, c30, aa yx31, c32, go_sem]
 refine AKev_backB (hnext2 _ _ (Option.some.inj h2).symm ?_)
 refine Weak.go [0, 8, 17, 18, 19] [0] rfl ?_
 try simp only [L09_BookSums.h1, c10, c11, c12, c13, c15, c17, c19, c21, c22, c26, c30, aa yx31, c32, c34, go_sem]
 try simp only [c30, c10, c11, c12, c13, c15, c17, c19, c21, c22, c26, go_sem]
 refine AKev_backB (hbrk2 _ _ (Option.some.inj h2).symm ?_)
 refine Weak.go [0, 8, 17, 18] [0] rfl ?_
 try simp only [L09_BookSums.x1, c10, c11, c12, c13, c15, c17, c19, c21, c22, c26, c30, go_sem]
 rintro s29 hr_
 subst hr_
 simp only at h1
 refine rS ?_
 try simp only [L09_BookSums.x1, c10, c11, c12, c13, c15, c17, c19, c21, c22, c26, go_sem]
 refine AKev_backB (hnext1 _ _ (Option.some.inj h1).symm ?_)
 refine Weak.go [0, 8, 17, 18] [0] rfl ?_
 try simp only [L09_BookSums.h0, c10, c11, c12, c13, c15, c17, c19, c21, c22, c26, go_sem]
 try simp only [c26, c10, c11, c12, c13, c15, c17, c19, c21, c22, go_sem]
 refine AKev_backB (hbrk1 _ _ (Option.some.inj h1).symm ?_)
 refine Weak.go [0, 17] [0] rfl ?_
 try simp only [L09_BookSums.x0, c10, c11, c12, c13, c15, c17, c19, c21, c22, c26, go_sem]
 rintro s25 hr_
 subst hr_
 simp only at h0
 refine rS ?_
 try simp only [L09_BookSums.x0, c10, c11, c12, c13, c15, c17, c19, c21, c22, go_sem]
 refine AKev_region T_ok follows_ok 1000 ?_
 try simp only [c10, c11, c12, c13, c15, c17, c19, c21, c22, go_sem]
 obtain ⟨x37, yx37, h0⟩ := bs h0
 refine DG_call0 1000 (R09_Book_ok k _ _ _ yx37) ?_ (by first | rfl | simp [AV.refsL, AV.refs, AV.scal, AV.leaf]) ?_
 try simp only [c10, c11, c12, c13, c15, c17, c19, c21, c22, go_sem]
 try simp only [c10, c11, c12, c13, c15, c17, c19, c21, c22, go_sem]
 obtain ⟨x38, yx38, h0⟩ := bs h0
 refine DG_call0 1000 (R09_SameBook_ok k _ _ _ yx38) ?_ (by first | rfl | simp [AV.refsL, AV.refs, AV.scal, AV.leaf]) ?_
 try simp only [c10, c11, c12, c13, c15, c17, c19, c21, c22, go_sem]
 try simp only [c10, c11, c12, c13, c15, c17, c19, c21, c22, go_sem]
 refine DG_bif h0 ?_ ?_ <;> intro c39 h0
 try simp only [c39, c10, c11, c12, c13, c15, c17, c19, c21, c22, go_sem]
 obtain ⟨x40, yx40, h0⟩ := bs h0
 refine DG_call0 1000 (book_Check_ok k _ _ yx40) ?_ (by first | rfl | simp [AV.refsL, AV.refs, AV.scal, AV.leaf]) ?_
 try simp only [c10, c11, c12, c13, c15, c17, c19, c21, c22, c39, go_sem]
 try simp only [c10, c11, c12, c13, c15, c17, c19, c21, c22, c39, go_sem]
 refine DG_done ⟨calm_of (by simp only [skel, List.reverse_cons, List.reverse_nil, List.nil_append, List.cons_append, List.map_cons, List.map_nil, List.append_nil]; rfl) (by first | decide +kernel | rfl), run_sound T_ok 1000 _ _ ?_⟩
 try simp only [c10, c11, c12, c13, c15, c17, c19, c21, c22, c39, go_sem]
 obtain rfl := Option.some.inj h0
 refine AKev_ret rfl ?_
 try simp only [F10.rs, c10, c11, c12, c13, c15, c17, c19, c21, c22, c39, go_sem]
 try simp only [c39, c10, c11, c12, c13, c15, c17, c19, c21, c22, go_sem]
 refine DG_done ⟨calm_of (by simp only [skel, List.reverse_cons, List.reverse_nil, List.nil_append, List.cons_append, List.map_cons, List.map_nil, List.append_nil]; rfl) (by first | decide +kernel | rfl), run_sound T_ok 1000 _ _ ?_⟩
 try simp only [c10, c11, c12, c13, c15, c17, c19, c21, c22, c39, go_sem]
 obtain rfl := Option.some.inj h0
 refine AKev_ret rfl ?_
 try simp only [F10.rs, c10, c11, c12, c13, c15, c17, c19, c21, c22, c39, go_sem]
 try simp only [c21, c10, c11, c12, c13, c15, c17, c19, go_sem]
 obtain rfl := Option.some.inj h0
 refine AKev_ret rfl ?_
 try simp only [F10.rs, c10, c11, c12, c13, c15, c17, c19, c21, go_sem]
 try simp only [c19, c10, c11, c12, c13, c15, c17, go_sem]
 obtain rfl := Option.some.inj h0
 refine AKev_ret rfl ?_
 try simp only [F10.rs, c10, c11, c12, c13, c15, c17, c19, go_sem]
 try simp only [c17, c10, c11, c12, c13, c15, go_sem]
 obtain rfl := Option.some.inj h0
 refine AKev_ret rfl ?_
 try simp only [F10.rs, c10, c11, c12, c13, c15, c17, go_sem]
 try simp only [c15, c10, c11, c12, c13, go_sem]
 obtain rfl := Option.some.inj h0
 refine AKev_ret rfl ?_
 try simp only [F10.rs, c10, c11, c12, c13, c15, go_sem]
 try simp only [c13, c10, c11, c12, go_sem]
 obtain rfl := Option.some.inj h0
 refine AKev_ret rfl ?_
 try simp only [F10.rs, c10, c11, c12, c13, go_sem]
 try simp only [c12, c10, c11, go_sem]
 obtain rfl := Option.some.inj h0
 refine AKev_ret rfl ?_
 try simp only [F10.rs, c10, c11, c12, go_sem]
 try simp only [c11, c10, go_sem]
 obtain rfl := Option.some.inj h0
 refine AKev_ret rfl ?_
 try simp only [F10.rs, c10, c11, go_sem]
 try simp only [c10, go_sem]
 obtain rfl := Option.some.inj h0
 refine AKev_ret rfl ?_
 try simp only [F10.rs, c10, go_sem]
end Go.Abs
namespace Go.Abs
open Go Go.Proofs Go.RowKit
set_option maxRecDepth 20000
def qB : Nat := reachBytes
theorem reads_3 : Reads qB Try.prog 3 eI i64ok := Reads.int Try.underlying3
def Entry.q (x : Entry) : Prop := i64ok x.House ∧ i64ok x.No
def Record.q (x : Record) : Prop := Entry.q x.At ∧ i64ok x.Kind ∧ i64ok x.Day ∧ i64ok x.Known ∧ Entry.q x.Of ∧ (fun s => s.size ≤ Go.maxLen) x.Text
theorem reads_79 : Reads qB Try.prog 79 (Vec.c (n := 5) eI) (fun x : (Vec 5 Int) => ∀ a ∈ x.l, i64ok a) := (Reads.array Try.underlying79 (by kernel_rfl) (ReadsL.cons (off := 0) (sz := 1) (off' := 1) (tot := 5) rfl (by kernel_rfl) rfl reads_3 (ReadsL.cons (off := 1) (sz := 1) (off' := 2) (tot := 5) rfl (by kernel_rfl) rfl reads_3 (ReadsL.cons (off := 2) (sz := 1) (off' := 3) (tot := 5) rfl (by kernel_rfl) rfl reads_3 (ReadsL.cons (off := 3) (sz := 1) (off' := 4) (tot := 5) rfl (by kernel_rfl) rfl reads_3 (ReadsL.cons (off := 4) (sz := 1) (off' := 5) (tot := 5) rfl (by kernel_rfl) rfl reads_3 (ReadsL.nil (off := 5) (tot := 5) (by decide)))))))).as (fun p => ⟨[p.1, p.2.1, p.2.2.1, p.2.2.2.1, p.2.2.2.2.1], rfl⟩) (fun _ => rfl) (fun _ h => by intro a ha; simp only [List.mem_cons, List.not_mem_nil, or_false] at ha; rcases ha with rfl | rfl | rfl | rfl | rfl; exact h.1; exact h.2.1; exact h.2.2.1; exact h.2.2.2.1; exact h.2.2.2.2.1)
theorem reads_68 : Reads qB Try.prog 68 (eL 5 (Vec.c (n := 5) eI)) (fun l => l.length ≤ Go.maxLen ∧ l.length * 40 ≤ qB ∧ ∀ a ∈ l, (fun x : (Vec 5 Int) => ∀ a ∈ x.l, i64ok a) a) := Reads.slice Try.underlying68 (by kernel_rfl) (by kernel_rfl) (by decide) reads_79
def Book.q (x : Book) : Prop := (fun l => l.length ≤ Go.maxLen ∧ l.length * 72 ≤ qB ∧ ∀ a ∈ l, Record.q a) x.Records
end Go.Abs
namespace Go.Abs
open Go
set_option linter.unusedVariables false
theorem getD_none {α : Type} {d : α} {l : List α} {i : Nat} (h : l.length ≤ i) : l.getD i d = d := by
 rw [List.getD_eq_getElem?_getD, List.getElem?_eq_none h]; rfl
theorem whl_allL {α R : Type} {l : List α} {body : Int → Option (Stp Int Unit R)} {p : α → Bool} {c : R} (hn : l.length ≤ 9223372036854775807) {k : Nat} (hk : l.length < k)
  (h1 : ∀ (i : Nat) x, l[i]? = some x → body (i : Int) = some (bif p x then .next (w64 ((i : Int) + 1)) else .ret c)) (h2 : body (l.length : Int) = some (.brk ())) :
  whl body k 0 = some (bif l.all p then .brk () else .ret c) := by
 have h := whl_each (body := body) (l := l) (f := fun i => bif p i then none else some c) hn hk (fun i x hi => by rw [h1 i x hi]; cases p x <;> rfl) h2
 rw [h]
 have : l.findSome? (fun i => bif p i then none else some c) = bif l.all p then none else some c := by
  clear h h1 h2 hn hk
  induction l with
  | nil => rfl
  | cons x l ih =>
   rw [List.findSome?_cons, List.all_cons]
   cases hp : p x with
   | true => simpa using ih
   | false => simp
 rw [this]
 cases l.all p <;> rfl
end Go.Abs
namespace Go.Abs
open Go
set_option linter.unusedVariables false
theorem whl_foldM {S E R τ : Type} {n : Nat} {body : τ → Option (Stp τ E R)} (mk : Int → S → τ) (g : S → E) (f : S → Nat → Option S) (c : R) (Inv : Nat → S → Prop) (hn : n ≤ 9223372036854775807) {k : Nat} (hk : n < k) {s0 : S} (h0 : Inv 0 s0)
  (h1 : ∀ i s, i < n → Inv i s → body (mk (i : Int) s) = some (match f s i with | some s' => .next (mk (w64 ((i : Int) + 1)) s') | none => .ret c) ∧ ∀ s', f s i = some s' → Inv (i + 1) s') (h2 : ∀ s, Inv n s → body (mk (n : Int) s) = some (.brk (g s))) :
  whl body k (mk 0 s0) = some (match (List.range n).foldlM f s0 with | some s => .brk (g s) | none => .ret c) ∧ ∀ s, (List.range n).foldlM f s0 = some s → Inv n s := by
 have key : ∀ (d i k : Nat) (s : S), i + d = n → d < k → Inv i s → whl body k (mk (i : Int) s) = some (match (List.range' i d).foldlM f s with | some s => .brk (g s) | none => .ret c) ∧ ∀ s', (List.range' i d).foldlM f s = some s' → Inv n s' := by
  intro d
  induction d with
  | zero =>
   intro i k s hi hk hI
   cases k with
   | zero => omega
   | succ k =>
    have : i = n := by omega
    subst this
    refine ⟨?_, fun s' hs => ?_⟩
    ·rw [whl, h2 s hI]; rfl
    ·have : s = s' := Option.some.inj hs
     exact this ▸ hI
  | succ d ih =>
   intro i k s hi hk hI
   cases k with
   | zero => omega
   | succ k =>
    obtain ⟨g1, g2⟩ := h1 i s (by omega) hI
    rw [List.range'_succ, List.foldlM_cons, whl, g1]
    cases hf : f s i with
    | none => exact ⟨rfl, fun s' hs => by cases hs⟩
    | some s1 =>
     have : w64 ((i : Int) + 1) = ((i + 1 : Nat) : Int) := by rw [w64_of (by omega) (by omega)]; omega
     simp only [this]
     exact ih (i + 1) k s1 (by omega) (by omega) (g2 s1 hf)
 have := key n 0 k s0 (by omega) hk h0
 rw [List.range_eq_range']
 exact this
end Go.Abs
namespace Go.Abs
open Go
theorem whl_foldML {α S E R τ : Type} {l : List α} {body : τ → Option (Stp τ E R)} (mk : Int → S → τ) (g : S → E) (f : S → α → Option S) (c : R) (Inv : Nat → S → Prop) (hn : l.length ≤ 9223372036854775807) {k : Nat} (hk : l.length < k) {s0 : S} (h0 : Inv 0 s0)
  (h1 : ∀ (i : Nat) x s, l[i]? = some x → Inv i s → body (mk (i : Int) s) = some (match f s x with | some s' => .next (mk (w64 ((i : Int) + 1)) s') | none => .ret c) ∧ ∀ s', f s x = some s' → Inv (i + 1) s') (h2 : ∀ s, Inv l.length s → body (mk (l.length : Int) s) = some (.brk (g s))) :
  whl body k (mk 0 s0) = some (match l.foldlM f s0 with | some s => .brk (g s) | none => .ret c) ∧ ∀ s, l.foldlM f s0 = some s → Inv l.length s := by
 have key : ∀ (m : List α) (i k : Nat) (s : S), l.drop i = m → i + m.length = l.length → m.length < k → Inv i s → whl body k (mk (i : Int) s) = some (match m.foldlM f s with | some s => .brk (g s) | none => .ret c) ∧ ∀ s', m.foldlM f s = some s' → Inv l.length s' := by
  intro m
  induction m with
  | nil =>
   intro i k s _ h3 h4 hI
   cases k with
   | zero => omega
   | succ k =>
    have : i = l.length := by simpa using h3
    subst this
    refine ⟨by rw [whl, h2 s hI]; rfl, fun s' hs => ?_⟩
    have : s = s' := Option.some.inj hs
    exact this ▸ hI
  | cons x m ih =>
   intro i k s h5 h3 h4 hI
   cases k with
   | zero => omega
   | succ k =>
    simp only [List.length_cons] at h3 h4
    have hx : l[i]? = some x := by
     have := congrArg (fun q => q[0]?) h5
     simpa using this
    obtain ⟨h6, h7⟩ := h1 i x s hx hI
    rw [List.foldlM_cons, whl, h6]
    cases hf : f s x with
    | none => exact ⟨rfl, fun s' hs => by cases hs⟩
    | some s1 =>
     have : w64 ((i : Int) + 1) = ((i + 1 : Nat) : Int) := by rw [w64_of (by omega) (by omega)]; omega
     simp only [this]
     exact ih (i + 1) k s1 (by rw [← List.drop_drop, h5]; rfl) (by omega) (by omega) (h7 s1 hf)
 exact key l 0 k s0 rfl (by simp) hk h0
end Go.Abs
namespace Go.Abs
open Go Go.Proofs
set_option maxRecDepth 20000
set_option linter.unusedVariables false
set_option linter.unusedSimpArgs false
def be (n : Int) : Nat → List Int
 | 0 => []
 | w + 1 => IntKind.u8.wrap (Int.fdiv n (2 ^ (8 * w))) :: be n w
theorem app_of {α : Type} {b : Nat} {l x : List α} (h : (l.length + x.length) * b ≤ 140737488355328) (h2 : l.length + x.length < 4611686018427387904) : app? b l x = some (l ++ x) := by
 unfold app?; rw [if_pos ⟨h, h2⟩]
def enc (r : Record) : List Int := be r.At.House 1 ++ be r.At.No 2 ++ be r.Kind 1 ++ be r.Day 4 ++ be r.Known 4 ++ be r.Of.House 1 ++ be r.Of.No 2 ++ be (r.Text.size : Int) 1 ++ strBs r.Text
end Go.Abs
namespace Go.Abs
open Go Go.Proofs
set_option maxRecDepth 20000
set_option linter.unusedVariables false
set_option linter.unusedSimpArgs false
def within (n lo hi : Int) : Bool := decide (lo ≤ n) && decide (n ≤ hi)
theorem isWithin_plain (k : Nat) (n lo hi : Int) : book_isWithin k n lo hi = some (within n lo hi) := by
 unfold book_isWithin within
 cases decide (lo ≤ n) <;> rfl
def entryB (p : Entry) : Bool := within p.House 0 5 && within p.No 0 9999
theorem isEntry_plain (k : Nat) (p : Entry) : book_isEntry k p = some (entryB p) := by
 unfold book_isEntry entryB
 simp only [isWithin_plain, Option.bind_some]
 cases within p.House 0 5 <;> rfl
def charB (x : Int) : Bool := !decide (x < 32) && !decide (126 < x)
def textB (s : ByteArray) : Bool := !decide ((200 : Int) < (s.size : Int)) && (strBs s).all charB
theorem sat_of {s : ByteArray} {i : Nat} {x : Int} (h : (strBs s)[i]? = some x) : sat? s (i : Int) = some x := by
 have hi : i < s.size := by have := (List.getElem?_eq_some_iff.1 h).1; rwa [strBs_len] at this
 unfold sat?
 rw [if_pos (by omega)]
 unfold strBs at h
 rw [List.getElem?_map, Option.map_eq_some_iff] at h
 obtain ⟨c, h1, rfl⟩ := h
 simp [List.getD, h1]
theorem isText_plain {k : Nat} (hk : 1000 < k) (s : ByteArray) : book_isText k s = some (textB s) := by
 unfold book_isText textB
 by_cases h : (200 : Int) < (s.size : Int)
 ·simp [h]
 ·have hl : (strBs s).length ≤ 200 := by rw [strBs_len]; omega
  have := whl_allL (l := strBs s) (body := book_isText.b0 k s) (p := charB) (c := false) (by omega) (k := k) (by omega) (fun i x hx => by
   have hi : i < s.size := by have := (List.getElem?_eq_some_iff.1 hx).1; rwa [strBs_len] at this
   unfold book_isText.b0 charB
   simp only [decide_eq_true (show ((i : Int) < (s.size : Int)) by omega), cond_true, sat_of hx, Option.bind_some]
   cases decide (x < 32) <;> cases decide (126 < x) <;> rfl) (by
   unfold book_isText.b0
   simp only [strBs_len, (by simp : decide ((s.size : Int) < (s.size : Int)) = false), cond_false])
  simp only [decide_eq_false h, cond_false, Bool.not_false, Bool.true_and]
  rw [this]
  cases (strBs s).all charB <;> rfl
def recB (r : Record) : Bool :=
 entryB r.At && (within r.Kind 0 40 && (within r.Day 0 100000 && (within r.Known 0 100000 && (textB r.Text &&
  (bif !decide (r.Kind = (0 : Int)) then decide (r.Of.House = (0 : Int)) && decide (r.Of.No = (0 : Int))
   else decide (r.Day = (0 : Int)) && ((r.Text.toList == ByteArray.empty.toList) && (entryB r.Of && (decide (r.Of.House = r.At.House) && decide (r.Of.No < r.At.No)))))))))
theorem isRecord_plain {k : Nat} (hk : 1000 < k) (r : Record) : book_isRecord k r = some (recB r) := by
 unfold book_isRecord recB
 simp only [isEntry_plain, isWithin_plain, isText_plain hk, Option.bind_some]
 cases entryB r.At <;> simp only [cond_true, cond_false, Bool.true_and, Bool.false_and]
 cases within r.Kind 0 40 <;> simp only [cond_true, cond_false, Bool.true_and, Bool.false_and]
 cases within r.Day 0 100000 <;> simp only [cond_true, cond_false, Bool.true_and, Bool.false_and]
 cases within r.Known 0 100000 <;> simp only [cond_true, cond_false, Bool.true_and, Bool.false_and]
 cases textB r.Text <;> simp only [cond_true, cond_false, Bool.true_and, Bool.false_and, Bool.not_true, Bool.not_false]
 cases decide (r.Kind = (0 : Int)) <;> simp only [cond_true, cond_false, Bool.true_and, Bool.false_and, Bool.not_true, Bool.not_false]
 cases decide (r.Day = (0 : Int)) <;> simp only [cond_true, cond_false, Bool.true_and, Bool.false_and]
 cases (r.Text.toList == ByteArray.empty.toList) <;> simp only [cond_true, cond_false, Bool.true_and, Bool.false_and]
 cases entryB r.Of <;> simp only [cond_true, cond_false, Bool.true_and, Bool.false_and]
 cases decide (r.Of.House = r.At.House) <;> simp only [cond_true, cond_false, Bool.true_and, Bool.false_and]
end Go.Abs
namespace Go.Abs
open Go Go.Proofs
set_option maxRecDepth 20000
set_option linter.unusedVariables false
set_option linter.unusedSimpArgs false
end Go.Abs
namespace Go.Abs
open Go Go.Proofs
set_option maxRecDepth 20000
set_option linter.unusedVariables false
set_option linter.unusedSimpArgs false
end Go.Abs
namespace Go.Abs
open Go Go.Proofs
set_option maxRecDepth 1000000
theorem sane_true : L09_sane 18446744073709551616 = some true := by decide +kernel
end Go.Abs
namespace Go.Abs
open Go
set_option linter.unusedVariables false
def Byt (l : List Int) : Prop := ∀ x ∈ l, 0 ≤ x ∧ x < 256
theorem Byt.take {l : List Int} (h : Byt l) (n : Nat) : Byt (l.take n) := fun x hx => h x (List.mem_of_mem_take hx)
theorem Byt.drop {l : List Int} (h : Byt l) (n : Nat) : Byt (l.drop n) := fun x hx => h x (List.mem_of_mem_drop hx)
end Go.Abs
namespace Go.Abs
set_option linter.unusedVariables false
def eLt (a b : Int × Int) : Prop := a.1 < b.1 ∨ (a.1 = b.1 ∧ a.2 < b.2)
instance (a b : Int × Int) : Decidable (eLt a b) := inferInstanceAs (Decidable (_ ∨ _))
theorem eLt_trans {a b c : Int × Int} (h : eLt a b) (g : eLt b c) : eLt a c := by unfold eLt at *; omega
theorem eLt_irr (a : Int × Int) : ¬ eLt a a := by unfold eLt; omega
theorem eLt_asym {a b : Int × Int} (h : eLt a b) : ¬ eLt b a := by unfold eLt at *; omega
theorem eLt_tri (a b : Int × Int) : eLt a b ∨ a = b ∨ eLt b a := by
 obtain ⟨a1, a2⟩ := a; obtain ⟨b1, b2⟩ := b
 unfold eLt; simp only [Prod.mk.injEq]; omega
section
variable {α : Type} (key : α → Int × Int)
def Srt (l : List α) : Prop := l.Pairwise fun x y => eLt (key x) (key y)
def cnt (l : List α) (h : Int) : Nat := l.countP fun x => decide ((key x).1 = h)
theorem cnt_nil (h : Int) : cnt key [] h = 0 := rfl
theorem cnt_append (l m : List α) (h : Int) : cnt key (l ++ m) h = cnt key l h + cnt key m h := by
 unfold cnt; exact List.countP_append
theorem cnt_cons (x : α) (l : List α) (h : Int) : cnt key (x :: l) h = cnt key l h + if (key x).1 = h then 1 else 0 := by
 unfold cnt; rw [List.countP_cons]; simp only [decide_eq_true_eq]
theorem cnt_zero {l : List α} {h : Int} (H : ∀ x ∈ l, (key x).1 ≠ h) : cnt key l h = 0 := by
 unfold cnt; rw [List.countP_eq_zero]; intro x hx; simp [H x hx]
def VL : (Int → Int) → List α → Prop
 | _, [] => True
 | c, x :: l => (key x).2 = c (key x).1 ∧ VL (fun h => if h = (key x).1 then c h + 1 else c h) l
theorem VL_congr : ∀ {l : List α} {c d : Int → Int} (H : ∀ x ∈ l, c (key x).1 = d (key x).1), VL key c l → VL key d l
 | [], _, _, _, _ => trivial
 | x :: l, c, d, H, h => by
  refine ⟨by rw [← H x (by simp)]; exact h.1, VL_congr (l := l) (fun y hy => ?_) h.2⟩
  have := H y (by simp [hy])
  by_cases e : (key y).1 = (key x).1
  ·simp only [e, if_true]; rw [H x (by simp)]
  ·simp only [if_neg e]; exact this
theorem VL_append : ∀ {l m : List α} {c : Int → Int}, VL key c (l ++ m) ↔ VL key c l ∧ VL key (fun h => c h + cnt key l h) m
 | [], m, c => by
  simp only [List.nil_append, cnt_nil, VL, true_and]
  constructor <;> exact VL_congr key (fun x _ => by simp)
 | x :: l, m, c => by
  simp only [List.cons_append, VL]
  rw [VL_append (l := l)]
  constructor
  ·rintro ⟨h1, h2, h3⟩
   refine ⟨⟨h1, h2⟩, VL_congr key (fun y _ => ?_) h3⟩
   rw [cnt_cons]
   by_cases e : (key y).1 = (key x).1
   ·simp only [e, if_true]; omega
   ·simp only [if_neg e, if_neg (Ne.symm e)]; omega
  ·rintro ⟨⟨h1, h2⟩, h3⟩
   refine ⟨h1, h2, VL_congr key (fun y _ => ?_) h3⟩
   rw [cnt_cons]
   by_cases e : (key y).1 = (key x).1
   ·simp only [e, if_true]; omega
   ·simp only [if_neg e, if_neg (Ne.symm e)]; omega
def Val (l : List α) : Prop := Srt key l ∧ VL key (fun _ => 0) l
theorem VL_lt : ∀ {l : List α} {c : Int → Int}, VL key c l → ∀ x ∈ l, c (key x).1 ≤ (key x).2 ∧ (key x).2 < c (key x).1 + cnt key l (key x).1
 | y :: l, c, h, x, hx => by
  rw [cnt_cons]
  rcases List.mem_cons.1 hx with rfl | hx
  ·have := h.1; simp only [if_true]; omega
  ·have := VL_lt h.2 x hx
   by_cases e : (key x).1 = (key y).1
   ·simp only [e, if_true] at this ⊢; omega
   ·simp only [if_neg e, if_neg (Ne.symm e)] at this ⊢; omega
theorem VL_has : ∀ {l : List α} {c : Int → Int}, VL key c l → ∀ (h n : Int), c h ≤ n → n < c h + cnt key l h → ∃ x ∈ l, key x = (h, n)
 | [], c, _, h, n, h1, h2 => by rw [cnt_nil] at h2; omega
 | y :: l, c, hv, h, n, h1, h2 => by
  rw [cnt_cons] at h2
  by_cases e : (key y).1 = h
  ·by_cases e2 : n = c h
   ·refine ⟨y, by simp, ?_⟩
    have h3 := hv.1
    rw [e] at h3
    exact Prod.ext e (by rw [h3, e2])
   ·obtain ⟨x, hx, hk⟩ := VL_has hv.2 h n (by rw [if_pos e.symm]; omega) (by rw [if_pos e.symm]; rw [if_pos e] at h2; omega)
    exact ⟨x, by simp [hx], hk⟩
  ·obtain ⟨x, hx, hk⟩ := VL_has hv.2 h n (by rw [if_neg (Ne.symm e)]; omega) (by rw [if_neg (Ne.symm e)]; rw [if_neg e] at h2; omega)
   exact ⟨x, by simp [hx], hk⟩
def pos (l : List α) (e : Int × Int) : Nat := l.countP fun x => decide (eLt (key x) e)
theorem pos_le (l : List α) (e : Int × Int) : pos key l e ≤ l.length := List.countP_le_length
def insE (l : List α) (r : α) : List α := l.take (pos key l (key r)) ++ r :: l.drop (pos key l (key r))
theorem pos_cons (x : α) (l : List α) (e : Int × Int) : pos key (x :: l) e = pos key l e + if eLt (key x) e then 1 else 0 := by
 unfold pos; rw [List.countP_cons]; simp only [decide_eq_true_eq]
theorem pos_zero {l : List α} {e : Int × Int} (H : ∀ x ∈ l, ¬ eLt (key x) e) : pos key l e = 0 := by
 unfold pos; rw [List.countP_eq_zero]; intro x hx; simp [H x hx]
theorem srt_before : ∀ {l : List α}, Srt key l → ∀ (e : Int × Int), (∀ x ∈ l.take (pos key l e), eLt (key x) e) ∧ (∀ x ∈ l.drop (pos key l e), ¬ eLt (key x) e)
 | [], _, e => by simp
 | y :: l, hs, e => by
  have hs' := List.pairwise_cons.1 hs
  by_cases h : eLt (key y) e
  ·obtain ⟨h1, h2⟩ := srt_before hs'.2 e
   rw [pos_cons, if_pos h]
   refine ⟨fun x hx => ?_, fun x hx => ?_⟩
   ·rw [List.take_succ_cons] at hx
    rcases List.mem_cons.1 hx with rfl | hx
    ·exact h
    ·exact h1 x hx
   ·rw [List.drop_succ_cons] at hx; exact h2 x hx
  ·have hz : pos key (y :: l) e = 0 := pos_zero key (fun x hx => by
    rcases List.mem_cons.1 hx with rfl | hx
    ·exact h
    ·intro hc; exact h (eLt_trans (hs'.1 x hx) hc))
   rw [hz]
   refine ⟨by simp, fun x hx => ?_⟩
   rw [List.drop_zero] at hx
   rcases List.mem_cons.1 hx with rfl | hx
   ·exact h
   ·intro hc; exact h (eLt_trans (hs'.1 x hx) hc)
theorem srt_at {l : List α} (hs : Srt key l) (e : Int × Int) {i : Nat} {x : α} (hx : l[i]? = some x) : eLt (key x) e ↔ i < pos key l e := by
 obtain ⟨h1, h2⟩ := srt_before key hs e
 constructor
 ·intro h
  rcases Nat.lt_or_ge i (pos key l e) with hi | hi
  ·exact hi
  ·exact absurd h (h2 x (List.mem_iff_getElem?.2 ⟨i - pos key l e, by rw [List.getElem?_drop, Nat.add_sub_cancel' hi]; exact hx⟩))
 ·intro h
  exact h1 x (List.mem_iff_getElem?.2 ⟨i, by rw [List.getElem?_take, if_pos h]; exact hx⟩)
theorem mem_insE {l : List α} {r x : α} : x ∈ insE key l r ↔ x = r ∨ x ∈ l := by
 unfold insE
 rw [List.mem_append, List.mem_cons]
 constructor
 ·rintro (h | h | h)
  ·exact .inr (List.mem_of_mem_take h)
  ·exact .inl h
  ·exact .inr (List.mem_of_mem_drop h)
 ·rintro (h | h)
  ·exact .inr (.inl h)
  ·rw [← List.take_append_drop (pos key l (key r)) l, List.mem_append] at h
   rcases h with h | h
   ·exact .inl h
   ·exact .inr (.inr h)
theorem insE_len (l : List α) (r : α) : (insE key l r).length = l.length + 1 := by
 have := pos_le key l (key r)
 unfold insE; simp; omega
theorem cnt_insE (l : List α) (r : α) (h : Int) : cnt key (insE key l r) h = cnt key l h + if (key r).1 = h then 1 else 0 := by
 unfold insE
 rw [cnt_append, cnt_cons]
 have := cnt_append key (l.take (pos key l (key r))) (l.drop (pos key l (key r))) h
 rw [List.take_append_drop] at this
 omega
theorem srt_insE {l : List α} (hs : Srt key l) {r : α} (hn : ∀ x ∈ l, key x ≠ key r) : Srt key (insE key l r) := by
 obtain ⟨h1, h2⟩ := srt_before key hs (key r)
 unfold Srt insE
 have h := hs
 unfold Srt at h
 rw [← List.take_append_drop (pos key l (key r)) l, List.pairwise_append] at h
 rw [List.pairwise_append, List.pairwise_cons]
 refine ⟨h.1, ⟨fun x hx => ?_, h.2.1⟩, fun x hx y hy => ?_⟩
 ·rcases eLt_tri (key x) (key r) with e | e | e
  ·exact absurd e (h2 x hx)
  ·exact absurd e (hn x (List.mem_of_mem_drop hx))
  ·exact e
 ·rcases List.mem_cons.1 hy with rfl | hy
  ·exact h1 x hx
  ·exact h.2.2 x hx y hy
theorem val_lt {l : List α} (hv : Val key l) : ∀ x ∈ l, 0 ≤ (key x).2 ∧ (key x).2 < cnt key l (key x).1 := fun x hx => by
 have := VL_lt key hv.2 x hx; omega
theorem val_has {l : List α} (hv : Val key l) {h n : Int} (h0 : 0 ≤ n) (h1 : n < cnt key l h) : ∃ x ∈ l, key x = (h, n) := VL_has key hv.2 h n (by omega) (by omega)
theorem val_insE {l : List α} (hv : Val key l) {r : α} (hr : (key r).2 = cnt key l (key r).1) : Val key (insE key l r) := by
 have hn : ∀ x ∈ l, key x ≠ key r := fun x hx e => by
  have := val_lt key hv x hx
  rw [e] at this; omega
 refine ⟨srt_insE key hv.1 hn, ?_⟩
 obtain ⟨h1, h2⟩ := srt_before key hv.1 (key r)
 have hd : ∀ x ∈ l.drop (pos key l (key r)), (key x).1 ≠ (key r).1 := fun x hx e => by
  have := val_lt key hv x (List.mem_of_mem_drop hx)
  apply h2 x hx
  rw [e] at this
  exact .inr ⟨e, by omega⟩
 have hv2 := hv.2
 rw [← List.take_append_drop (pos key l (key r)) l, VL_append] at hv2
 unfold insE
 rw [VL_append]
 refine ⟨hv2.1, ?_, ?_⟩
 ·have e := cnt_append key (l.take (pos key l (key r))) (l.drop (pos key l (key r))) (key r).1
  rw [List.take_append_drop, cnt_zero key hd] at e
  rw [hr]; show ((cnt key l (key r).1 : Nat) : Int) = 0 + ((cnt key (l.take (pos key l (key r))) (key r).1 : Nat) : Int); omega
 ·refine VL_congr key (fun x hx => ?_) hv2.2
  rw [if_neg (hd x hx)]
theorem srt_ext : ∀ {l m : List α}, Srt key l → Srt key m → (∀ x, x ∈ l ↔ x ∈ m) → l = m
 | [], [], _, _, _ => rfl
 | [], y :: m, _, _, h => by have := (h y).2 (by simp); simp at this
 | x :: l, [], _, _, h => by have := (h x).1 (by simp); simp at this
 | x :: l, y :: m, hl, hm, h => by
  have hl' := List.pairwise_cons.1 hl
  have hm' := List.pairwise_cons.1 hm
  have exy : x = y := by
   rcases List.mem_cons.1 ((h x).1 (by simp)) with e | e
   ·exact e
   ·rcases List.mem_cons.1 ((h y).2 (by simp)) with e2 | e2
    ·exact e2.symm
    ·exact absurd (hl'.1 y e2) (eLt_asym (hm'.1 x e))
  subst exy
  congr 1
  refine srt_ext hl'.2 hm'.2 fun z => ⟨fun hz => ?_, fun hz => ?_⟩
  ·rcases List.mem_cons.1 ((h z).1 (by simp [hz])) with e | e
   ·subst e; exact absurd (hl'.1 z hz) (eLt_irr _)
   ·exact e
  ·rcases List.mem_cons.1 ((h z).2 (by simp [hz])) with e | e
   ·subst e; exact absurd (hm'.1 z hz) (eLt_irr _)
   ·exact e
theorem srt_inj {l : List α} (hs : Srt key l) {x y : α} (hx : x ∈ l) (hy : y ∈ l) (e : key x = key y) : x = y := by
 obtain ⟨i, hi⟩ := List.mem_iff_getElem?.1 hx
 obtain ⟨j, hj⟩ := List.mem_iff_getElem?.1 hy
 have h1 := (srt_at key hs (key y) hi)
 have h2 := (srt_at key hs (key y) hj)
 have h3 := (srt_at key hs (key x) hi)
 have h4 := (srt_at key hs (key x) hj)
 have hij : i = j := by
  rcases Nat.lt_trichotomy i j with h | h | h
  ·have hp := List.pairwise_iff_getElem.1 hs i j (List.getElem?_eq_some_iff.1 hi).1 (List.getElem?_eq_some_iff.1 hj).1 h
   rw [(List.getElem?_eq_some_iff.1 hi).2, (List.getElem?_eq_some_iff.1 hj).2, e] at hp
   exact absurd hp (eLt_irr _)
  ·exact h
  ·have hp := List.pairwise_iff_getElem.1 hs j i (List.getElem?_eq_some_iff.1 hj).1 (List.getElem?_eq_some_iff.1 hi).1 h
   rw [(List.getElem?_eq_some_iff.1 hi).2, (List.getElem?_eq_some_iff.1 hj).2, e] at hp
   exact absurd hp (eLt_irr _)
 subst hij
 exact Option.some.inj (hi.symm.trans hj)
end
end Go.Abs
namespace Go.Abs
set_option linter.unusedVariables false
section
variable {α : Type} [DecidableEq α] (key : α → Int × Int)
def findK (l : List α) (e : Int × Int) : Option α := l.find? fun x => decide (key x = e)
theorem findK_some {l : List α} {e : Int × Int} {x : α} (h : findK key l e = some x) : x ∈ l ∧ key x = e := by
 unfold findK at h
 have h1 := List.find?_some h
 exact ⟨List.mem_of_find?_eq_some h, by simpa using h1⟩
theorem findK_none {l : List α} {e : Int × Int} (h : findK key l e = none) : ∀ x ∈ l, key x ≠ e := by
 unfold findK at h
 rw [List.find?_eq_none] at h
 intro x hx; simpa using h x hx
theorem findK_no {l : List α} {e : Int × Int} (h : ∀ x ∈ l, key x ≠ e) : findK key l e = none := by
 unfold findK; rw [List.find?_eq_none]; intro x hx; simpa using h x hx
theorem findK_of {l : List α} (hs : Srt key l) {x : α} (hx : x ∈ l) : findK key l (key x) = some x := by
 cases h : findK key l (key x) with
 | none => exact absurd rfl (findK_none key h x hx)
 | some y => obtain ⟨h1, h2⟩ := findK_some key h; rw [srt_inj key hs h1 hx h2]
theorem findK_pos {l : List α} (hs : Srt key l) (e : Int × Int) : findK key l e = (l[pos key l e]?).filter fun x => decide (key x = e) := by
 cases h : findK key l e with
 | some x =>
  obtain ⟨h1, h2⟩ := findK_some key h
  obtain ⟨i, hi⟩ := List.mem_iff_getElem?.1 h1
  have hp : i = pos key l e := by
   rcases Nat.lt_trichotomy i (pos key l e) with g | g | g
   ·have := (srt_at key hs e hi).2 g; rw [h2] at this; exact absurd this (eLt_irr _)
   ·exact g
   ·have hlt : pos key l e < l.length := by have := (List.getElem?_eq_some_iff.1 hi).1; omega
    have hy : l[pos key l e]? = some l[pos key l e] := List.getElem?_eq_getElem hlt
    have h3 : ¬ eLt (key l[pos key l e]) e := fun c => by have := (srt_at key hs e hy).1 c; omega
    have hp := List.pairwise_iff_getElem.1 hs (pos key l e) i hlt (List.getElem?_eq_some_iff.1 hi).1 g
    rw [(List.getElem?_eq_some_iff.1 hi).2, h2] at hp
    exact absurd hp h3
  rw [← hp, hi]
  simp [Option.filter, h2]
 | none =>
  have hn := findK_none key h
  cases hq : l[pos key l e]? with
  | none => rfl
  | some y =>
   have := hn y (List.mem_of_getElem? hq)
   simp [Option.filter, this]
def jn (out : List α) (r : α) : Option (List α) := match findK key out (key r) with
 | some x => if x = r then some out else none
 | none => some (insE key out r)
def cs (a : List α) (m : Nat) (r : α) : Option Nat := match findK key a (key r) with
 | some x => if x = r then some m else none
 | none => some (m + 1)
theorem next_cnt {out done m : List α} {r : α} (hv : Val key out) (hb : Val key (done ++ r :: m)) (hd : ∀ x ∈ done, x ∈ out) (hn : ∀ x ∈ out, key x ≠ key r) : (key r).2 = cnt key out (key r).1 := by
 have h1 := (VL_append key).1 hb.2
 have h2 : (key r).2 = 0 + ((cnt key done (key r).1 : Nat) : Int) := h1.2.1
 rcases Int.lt_trichotomy (key r).2 (cnt key out (key r).1) with h | h | h
 ·obtain ⟨x, hx, hk⟩ := val_has key hv (h := (key r).1) (n := (key r).2) (by omega) h
  exact absurd hk (hn x hx)
 ·exact h
 ·obtain ⟨x, hx, hk⟩ := VL_has key h1.1 (key r).1 (cnt key out (key r).1) (by omega) (by omega)
  have := val_lt key hv x (hd x hx)
  rw [hk] at this
  simp only at this
  omega
structure JI (a done out : List α) (more : Nat) : Prop where
 mem : ∀ x, x ∈ out ↔ x ∈ a ∨ x ∈ done
 val : Val key out
 len : out.length = a.length + more
theorem jn_step {a done m out : List α} {r : α} {more : Nat} (ha : Val key a) (hb : Val key (done ++ r :: m)) (hJ : JI key a done out more) :
  (∃ o c, jn key out r = some o ∧ cs key a more r = some c ∧ JI key a (done ++ [r]) o c) ∨ (jn key out r = none ∧ cs key a more r = none ∧ ∃ x ∈ a, key x = key r ∧ x ≠ r) := by
 have hdis : ∀ x ∈ done, key x ≠ key r := fun x hx e => by
  have := (List.pairwise_append.1 hb.1).2.2 x hx r (by simp)
  rw [e] at this; exact eLt_irr _ this
 cases h : findK key out (key r) with
 | some x =>
  obtain ⟨h1, h2⟩ := findK_some key h
  have hxa : x ∈ a := by
   rcases (hJ.mem x).1 h1 with g | g
   ·exact g
   ·exact absurd h2 (hdis x g)
  have hfa : findK key a (key r) = some x := by rw [← h2]; exact findK_of key ha.1 hxa
  by_cases e : x = r
  ·left
   refine ⟨out, more, by simp [jn, h, e], by simp [cs, hfa, e], ⟨fun y => ?_, hJ.val, hJ.len⟩⟩
   rw [hJ.mem, List.mem_append, List.mem_singleton]
   constructor
   ·rintro (g | g)
    ·exact .inl g
    ·exact .inr (.inl g)
   ·rintro (g | g | g)
    ·exact .inl g
    ·exact .inr g
    ·subst g; exact .inl (e ▸ hxa)
  ·right
   exact ⟨by simp [jn, h, e], by simp [cs, hfa, e], x, hxa, h2, e⟩
 | none =>
  have hn := findK_none key h
  have hfa : findK key a (key r) = none := findK_no key fun x hx => hn x ((hJ.mem x).2 (.inl hx))
  left
  refine ⟨insE key out r, more + 1, by simp [jn, h], by simp [cs, hfa], ⟨fun y => ?_, ?_, ?_⟩⟩
  ·rw [mem_insE, hJ.mem, List.mem_append, List.mem_singleton]
   constructor
   ·rintro (g | g | g)
    ·exact .inr (.inr g)
    ·exact .inl g
    ·exact .inr (.inl g)
   ·rintro (g | g | g)
    ·exact .inr (.inl g)
    ·exact .inr (.inr g)
    ·exact .inl g
  ·exact val_insE key hJ.val (next_cnt key hJ.val hb (fun x hx => (hJ.mem x).2 (.inr hx)) hn)
  ·rw [insE_len, hJ.len]; omega
theorem join_rel {a : List α} (ha : Val key a) : ∀ (m done out : List α) (more : Nat), Val key (done ++ m) → JI key a done out more →
  (∃ o c, m.foldlM (jn key) out = some o ∧ m.foldlM (cs key a) more = some c ∧ JI key a (done ++ m) o c) ∨ (m.foldlM (jn key) out = none ∧ m.foldlM (cs key a) more = none ∧ ∃ y ∈ m, ∃ x ∈ a, key x = key y ∧ x ≠ y)
 | [], done, out, more, hb, hJ => .inl ⟨out, more, rfl, rfl, by simpa using hJ⟩
 | r :: m, done, out, more, hb, hJ => by
  rcases jn_step key ha hb hJ with ⟨o, c, h1, h2, h3⟩ | ⟨h1, h2, x, hx, hk⟩
  ·rw [List.foldlM_cons, List.foldlM_cons, h1, h2]
   rcases join_rel ha m (done ++ [r]) o c (by simpa using hb) h3 with ⟨o', c', g1, g2, g3⟩ | ⟨g1, g2, y, hy, g3⟩
   ·exact .inl ⟨o', c', g1, g2, by simpa using g3⟩
   ·exact .inr ⟨g1, g2, y, by simp [hy], g3⟩
  ·exact .inr ⟨by rw [List.foldlM_cons, h1]; rfl, by rw [List.foldlM_cons, h2]; rfl, r, by simp, x, hx, hk⟩
theorem JI.nil (a : List α) (ha : Val key a) : JI key a [] a 0 := ⟨fun x => by simp, ha, by simp⟩
end
end Go.Abs
namespace Go.Abs
set_option linter.unusedVariables false
section
variable {α : Type} (key : α → Int × Int)
def bk (out l : List α) : List α := l.foldl (insE key) out
structure BI (done out : List α) : Prop where
 mem : ∀ x, x ∈ out ↔ x ∈ done
 val : Val key out
 num : ∀ h, cnt key out h = cnt key done h
 len : out.length = done.length
theorem BI.nil : BI key [] [] := ⟨fun x => Iff.rfl, ⟨.nil, trivial⟩, fun h => rfl, rfl⟩
theorem BI.step {done out : List α} {r : α} (hJ : BI key done out) (hr : (key r).2 = cnt key done (key r).1) : BI key (done ++ [r]) (insE key out r) := by
 refine ⟨fun x => ?_, val_insE key hJ.val (by rw [hJ.num]; exact hr), fun h => ?_, ?_⟩
 ·rw [mem_insE, hJ.mem, List.mem_append, List.mem_singleton]; exact Or.comm
 ·rw [cnt_insE, hJ.num, cnt_append, cnt_cons, cnt_nil]; omega
 ·rw [insE_len, hJ.len]; simp
theorem BI.no {done out : List α} {r : α} (hJ : BI key done out) (hr : (key r).2 = cnt key done (key r).1) : ∀ x ∈ out, key x ≠ key r := fun x hx e => by
 have := val_lt key hJ.val x hx
 rw [e, hJ.num] at this; omega
theorem BI.all : ∀ {m done out : List α}, BI key done out → VL key (fun h => cnt key done h) m → BI key (done ++ m) (bk key out m)
 | [], done, out, hJ, _ => by rw [List.append_nil]; exact hJ
 | r :: m, done, out, hJ, hv => by
  have h1 := BI.step key hJ (r := r) hv.1
  have := BI.all (m := m) h1 (VL_congr key (fun x _ => by
   rw [cnt_append, cnt_cons, cnt_nil]
   by_cases e : (key x).1 = (key r).1
   ·rw [if_pos e, if_pos e.symm]; simp
   ·rw [if_neg e, if_neg (Ne.symm e)]; simp) hv.2)
  simpa [bk] using this
theorem BI.of {l : List α} (h : VL key (fun _ => 0) l) : BI key l (bk key [] l) := by
 have := BI.all key (m := l) (BI.nil key) h
 simpa using this
theorem VL_take {c : Int → Int} {l : List α} (h : VL key c l) (n : Nat) : VL key c (l.take n) := by
 have := h
 rw [← List.take_append_drop n l, VL_append] at this
 exact this.1
theorem VL_inj {l : List α} (h : VL key (fun _ => 0) l) {x y : α} (hx : x ∈ l) (hy : y ∈ l) (e : key x = key y) : x = y := by
 have := BI.of key h
 exact srt_inj key this.val.1 ((this.mem x).2 hx) ((this.mem y).2 hy) e
theorem VL_filter (h : Int) : ∀ {l : List α} {c : Int → Int}, VL key c l → VL key c (l.filter fun x => decide ((key x).1 = h))
 | [], c, _ => trivial
 | x :: l, c, hv => by
  by_cases e : (key x).1 = h
  ·rw [List.filter_cons_of_pos (by simpa using e)]
   exact ⟨hv.1, VL_filter h hv.2⟩
  ·rw [List.filter_cons_of_neg (by simpa using e)]
   have := VL_filter h hv.2
   refine VL_congr key (fun y hy => ?_) this
   have hy' := (List.mem_filter.1 hy).2
   simp only [decide_eq_true_eq] at hy'
   rw [if_neg (by rw [hy']; exact Ne.symm e)]
theorem cnt_filter (h h' : Int) (hne : h ≠ h') (l : List α) : cnt key (l.filter fun x => decide ((key x).1 = h)) h' = 0 := by
 apply cnt_zero
 intro x hx e
 have hx' := (List.mem_filter.1 hx).2
 simp only [decide_eq_true_eq] at hx'
 exact hne (hx'.symm.trans e)
def byH (l : List α) : List α := (l.filter fun x => decide ((key x).1 = 2)) ++ ((l.filter fun x => decide ((key x).1 = 1)) ++ (l.filter fun x => decide ((key x).1 = 0)))
theorem byH_val {l : List α} (hv : VL key (fun _ => 0) l) : VL key (fun _ => 0) (byH key l) := by
 unfold byH
 rw [VL_append, VL_append]
 refine ⟨VL_filter key 2 hv, VL_congr key (fun x hx => ?_) (VL_filter key 1 hv), VL_congr key (fun x hx => ?_) (VL_filter key 0 hv)⟩
 ·have hx' := (List.mem_filter.1 hx).2
  simp only [decide_eq_true_eq] at hx'
  rw [hx', cnt_filter key 2 1 (by decide)]; rfl
 ·have hx' := (List.mem_filter.1 hx).2
  simp only [decide_eq_true_eq] at hx'
  rw [hx', cnt_filter key 2 0 (by decide), cnt_filter key 1 0 (by decide)]; rfl
theorem byH_mem {l : List α} (h3 : ∀ x ∈ l, (key x).1 = 0 ∨ (key x).1 = 1 ∨ (key x).1 = 2) (x : α) : x ∈ byH key l ↔ x ∈ l := by
 unfold byH
 simp only [List.mem_append, List.mem_filter, decide_eq_true_eq]
 constructor
 ·rintro (h | h | h) <;> exact h.1
 ·intro h
  rcases h3 x h with e | e | e
  ·exact .inr (.inr ⟨h, e⟩)
  ·exact .inr (.inl ⟨h, e⟩)
  ·exact .inl ⟨h, e⟩
theorem byH_bk {l : List α} (hv : VL key (fun _ => 0) l) (h3 : ∀ x ∈ l, (key x).1 = 0 ∨ (key x).1 = 1 ∨ (key x).1 = 2) : bk key [] (byH key l) = bk key [] l := by
 have h1 := BI.of key (byH_val key hv)
 have h2 := BI.of key hv
 refine srt_ext key h1.val.1 h2.val.1 fun x => ?_
 rw [h1.mem, h2.mem, byH_mem key h3]
end
section
variable {α : Type} [DecidableEq α] (key : α → Int × Int)
theorem join_bk {l : List α} (hv : VL key (fun _ => 0) l) {a b : List α} (ha : Val key a) (hb : Val key b) (ma : ∀ x ∈ a, x ∈ l) (mb : ∀ x ∈ b, x ∈ l) :
  ∃ o, b.foldlM (jn key) a = some o ∧ Val key o ∧ (∀ x, x ∈ o ↔ x ∈ a ∨ x ∈ b) := by
 rcases join_rel key ha b [] a 0 (by simpa using hb) (JI.nil key a ha) with ⟨o, c, h1, _, h3⟩ | ⟨_, _, y, hy, x, hx, hk, hne⟩
 ·exact ⟨o, h1, h3.val, fun x => by have := h3.mem x; simpa using this⟩
 ·exact absurd (VL_inj key hv (ma x hx) (mb y hy) hk) hne
end
end Go.Abs
namespace Go.Abs
open Go Go.Proofs
set_option maxRecDepth 20000
set_option linter.unusedVariables false
set_option linter.unusedSimpArgs false
theorem ba_toList (s : ByteArray) : s.toList = s.data.toList := by
 have key : ∀ (d i : Nat) (r : List UInt8), i + d = s.size → ByteArray.toList.loop s i r = r.reverse ++ s.data.toList.drop i := by
  intro d
  induction d with
  | zero =>
   intro i r h
   rw [ByteArray.toList.loop, if_neg (by omega)]
   have hl : s.data.toList.length = s.size := rfl
   rw [List.drop_of_length_le (by omega), List.append_nil]
  | succ d ih =>
   intro i r h
   have hl : s.data.toList.length = s.size := rfl
   have hi : i < s.data.toList.length := by omega
   rw [ByteArray.toList.loop, if_pos (by omega), ih (i + 1) _ (by omega), List.drop_eq_getElem_cons hi]
   have e : s.get! i = s.data.toList[i] := by
    show s.data[i]! = _
    rw [getElem!_pos s.data i (by simpa using hi)]; simp
   rw [e]; simp
 have := key s.size 0 [] (by omega)
 simpa [ByteArray.toList] using this
theorem ba_inj {a b : ByteArray} : a.toList = b.toList ↔ a = b := by
 constructor
 ·intro h
  rw [ba_toList, ba_toList] at h
  cases a; cases b
  rename_i x y
  have : x = y := Array.toList_inj.1 h
  rw [this]
 ·rintro rfl; rfl
def recEq (x r : Record) : Bool := (decide (x.At.House = r.At.House) && (decide (x.At.No = r.At.No) && (decide (x.Kind = r.Kind) && (decide (x.Day = r.Day) && (decide (x.Known = r.Known) && (decide (x.Of.House = r.Of.House) && (decide (x.Of.No = r.Of.No) && (x.Text.toList == r.Text.toList))))))))
theorem recEq_iff {x r : Record} : recEq x r = true ↔ x = r := by
 obtain ⟨⟨a1, a2⟩, a3, a4, a5, ⟨a6, a7⟩, a8⟩ := x
 obtain ⟨⟨b1, b2⟩, b3, b4, b5, ⟨b6, b7⟩, b8⟩ := r
 simp only [recEq, Bool.and_eq_true, decide_eq_true_eq, beq_iff_eq, ba_inj, Record.mk.injEq, Entry.mk.injEq]
 constructor
 ·rintro ⟨h1, h2, h3, h4, h5, h6, h7, h8⟩; exact ⟨⟨h1, h2⟩, h3, h4, h5, ⟨h6, h7⟩, h8⟩
 ·rintro ⟨⟨h1, h2⟩, h3, h4, h5, ⟨h6, h7⟩, h8⟩; exact ⟨h1, h2, h3, h4, h5, h6, h7, h8⟩
theorem recEq_self (x : Record) : recEq x x = true := recEq_iff.2 rfl
theorem recEq_ne {x r : Record} (h : x ≠ r) : recEq x r = false := by
 cases e : recEq x r with
 | false => rfl
 | true => exact absurd (recEq_iff.1 e) h
instance : DecidableEq Record := fun x y => decidable_of_iff (recEq x y = true) recEq_iff
def keyE (a : Entry) : Int × Int := (a.House, a.No)
def keyR (r : Record) : Int × Int := (r.At.House, r.At.No)
def cmpI (a b : Int) : Int := if a < b then -1 else if b < a then 1 else 0
def cmpE (a b : Entry) : Int := if cmpI a.House b.House ≠ 0 then cmpI a.House b.House else cmpI a.No b.No
theorem cmpE_lt (a b : Entry) : cmpE a b < 0 ↔ eLt (keyE a) (keyE b) := by
 unfold cmpE cmpI eLt keyE
 simp only
 repeat' split
 all_goals omega
theorem cmpE_eq (a b : Entry) : cmpE a b = 0 ↔ keyE a = keyE b := by
 unfold cmpE cmpI keyE
 simp only [Prod.mk.injEq]
 repeat' split
 all_goals omega
theorem compareI_plain (k : Nat) (a b : Int) : cmp_Compare_int k a b = some (cmpI a b) := by
 unfold cmp_Compare_int cmp_isNaN_int cmpI
 simp only [Option.bind_some, cond_false]
 by_cases h : a < b
 ·simp [h]
 ·by_cases h2 : b < a <;> simp [h, h2]
theorem or_plain {k : Nat} (hk : 10 < k) (a b : Int) : cmp_Or_int k [a, b] = some (if a ≠ 0 then a else b) := by
 obtain ⟨m, rfl⟩ : ∃ m, k = m + 3 := ⟨k - 3, by omega⟩
 unfold cmp_Or_int
 have h0 : at? [a, b] 0 = some a := rfl
 have h1 : at? [a, b] 1 = some b := rfl
 have w0 : w64 (0 + 1) = 1 := by decide
 have w1 : w64 (1 + 1) = 2 := by decide
 have v1 : w64 1 = 1 := by decide
 have v2 : w64 2 = 2 := by decide
 have l2 : decide ((2 : Int) < (([a, b] : List Int).length : Int)) = false := rfl
 have l1 : decide ((1 : Int) < (([a, b] : List Int).length : Int)) = true := rfl
 have l0 : decide ((0 : Int) < (([a, b] : List Int).length : Int)) = true := rfl
 by_cases e : a = 0
 ·subst e
  by_cases e2 : b = 0
  ·subst e2
   simp [whl, cmp_Or_int.b0, h0, h1, w0, w1, v1, v2, l0, l1, l2]
  ·simp [whl, cmp_Or_int.b0, h0, h1, w0, w1, v1, v2, l0, l1, l2, e2]
 ·simp [whl, cmp_Or_int.b0, h0, l0, e]
theorem compare_plain {k : Nat} (hk : 10 < k) (a b : Entry) : book_compare k a b = some (cmpE a b) := by
 unfold book_compare cmpE
 simp only [compareI_plain, or_plain hk, Option.bind_some]
theorem half_plain {n : Nat} (h : n ≤ 1000000) : w64 (Int.fdiv (IntKind.u64.wrap (w64 (n : Int))) (2 ^ 1)) = ((n / 2 : Nat) : Int) := by
 have h1 : IntKind.u64.wrap (n : Int) = n := by
  simp only [IntKind.wrap, IntKind.bits, IntKind.signed]
  simp
  omega
 rw [w64_of (n := (n : Int)) (by omega) (by omega), h1, Int.fdiv_eq_ediv_of_nonneg _ (by decide)]
 have : ((n : Int) / 2 ^ 1) = ((n / 2 : Nat) : Int) := by simp
 rw [this, w64_of (by omega) (by omega)]
theorem search_loop {k0 : Nat} (hk0 : 10 < k0) {l : List Record} (hs : Srt keyR l) (hl : l.length ≤ 1000) (e : Entry) : ∀ (d i j k : Nat), j - i ≤ d → d < k → i ≤ pos keyR l (keyE e) → pos keyR l (keyE e) ≤ j → j ≤ l.length →
  whl (slices_BinarySearchFunc_api_Record.b0 k0 (fun q0 q1 => book_find_1 k0 q0 q1) l e) k ((i : Int), (j : Int)) = some (.brk ((pos keyR l (keyE e) : Nat) : Int)) := by
 intro d
 induction d with
 | zero =>
  intro i j k h1 h2 h3 h4 h5
  obtain ⟨m, rfl⟩ : ∃ m, k = m + 1 := ⟨k - 1, by omega⟩
  have : i = pos keyR l (keyE e) := by omega
  have hd : decide ((i : Int) < (j : Int)) = false := by simp; omega
  simp only [whl, slices_BinarySearchFunc_api_Record.b0, hd, cond_false]
  rw [this]
 | succ d ih =>
  intro i j k h1 h2 h3 h4 h5
  obtain ⟨m, rfl⟩ : ∃ m, k = m + 1 := ⟨k - 1, by omega⟩
  by_cases hij : i < j
  ·have hd : decide ((i : Int) < (j : Int)) = true := by simp; omega
   have hm : w64 (Int.fdiv (IntKind.u64.wrap (w64 ((i : Int) + (j : Int)))) (2 ^ 1)) = (((i + j) / 2 : Nat) : Int) := by
    have := half_plain (n := i + j) (by omega)
    rw [← this]; push_cast; rfl
   have hlt : (i + j) / 2 < l.length := by omega
   have hx : l[(i + j) / 2]? = some l[(i + j) / 2] := List.getElem?_eq_getElem hlt
   have hat := srt_at keyR hs (keyE e) hx
   have hf : book_find_1 k0 l[(i + j) / 2] e = some (cmpE l[(i + j) / 2].At e) := by
    unfold book_find_1; rw [compare_plain hk0]; rfl
   have hc := cmpE_lt l[(i + j) / 2].At e
   have hkk : keyE l[(i + j) / 2].At = keyR l[(i + j) / 2] := rfl
   rw [hkk] at hc
   by_cases hp : (i + j) / 2 < pos keyR l (keyE e)
   ·have hneg : decide (cmpE l[(i + j) / 2].At e < 0) = true := decide_eq_true (hc.2 (hat.2 hp))
    have hw : w64 ((((i + j) / 2 : Nat) : Int) + 1) = (((i + j) / 2 + 1 : Nat) : Int) := by rw [w64_of (by omega) (by omega)]; push_cast; rfl
    simp only [whl, slices_BinarySearchFunc_api_Record.b0, hd, cond_true, hm, at_of hx, Option.bind_some, hf, hneg, hw]
    exact ih _ _ _ (by omega) (by omega) (by omega) h4 h5
   ·have hneg : decide (cmpE l[(i + j) / 2].At e < 0) = false := decide_eq_false (fun c => hp (hat.1 (hc.1 c)))
    simp only [whl, slices_BinarySearchFunc_api_Record.b0, hd, cond_true, hm, at_of hx, Option.bind_some, hf, hneg, cond_false]
    exact ih _ _ _ (by omega) (by omega) h3 (by omega) (by omega)
  ·have : i = pos keyR l (keyE e) := by omega
   have hd : decide ((i : Int) < (j : Int)) = false := by simp; omega
   simp only [whl, slices_BinarySearchFunc_api_Record.b0, hd, cond_false]
   rw [this]
theorem find_plain {k : Nat} (hk : 10000 < k) {b : Book} (hs : Srt keyR b.Records) (hl : b.Records.length ≤ 1000) (e : Entry) :
  book_find k b e = some (((pos keyR b.Records (keyE e) : Nat) : Int), (findK keyR b.Records (keyE e)).isSome) := by
 unfold book_find slices_BinarySearchFunc_api_Record
 have h := search_loop (k0 := k) (by omega) hs hl e b.Records.length 0 b.Records.length k (by omega) (by omega) (by omega) (pos_le keyR _ _) (by omega)
 rw [Int.natCast_zero] at h
 rw [h]
 simp only [Option.bind_some]
 rw [findK_pos keyR hs]
 by_cases hp : pos keyR b.Records (keyE e) < b.Records.length
 ·have hx : b.Records[pos keyR b.Records (keyE e)]? = some b.Records[pos keyR b.Records (keyE e)] := List.getElem?_eq_getElem hp
  have hd : decide (((pos keyR b.Records (keyE e) : Nat) : Int) < (b.Records.length : Int)) = true := by simp; omega
  simp only [hd, cond_true, at_of hx, Option.bind_some]
  unfold book_find_1
  rw [compare_plain (by omega)]
  simp only [Option.bind_some, hx]
  have hc := cmpE_eq b.Records[pos keyR b.Records (keyE e)].At e
  have hkk : keyE b.Records[pos keyR b.Records (keyE e)].At = keyR b.Records[pos keyR b.Records (keyE e)] := rfl
  rw [hkk] at hc
  by_cases he : keyR b.Records[pos keyR b.Records (keyE e)] = keyE e
  ·rw [hc.2 he]; simp [Option.filter, he]
  ·simp [Option.filter, he, mt hc.1 he]
 ·have hx : b.Records[pos keyR b.Records (keyE e)]? = none := List.getElem?_eq_none (by omega)
  have hd : decide (((pos keyR b.Records (keyE e) : Nat) : Int) < (b.Records.length : Int)) = false := by simp; omega
  simp only [hd, cond_false, hx]
  rfl
def cntV (l : List Record) : Vec 6 Int := ⟨[cnt keyR l 0, cnt keyR l 1, cnt keyR l 2, cnt keyR l 3, cnt keyR l 4, cnt keyR l 5], rfl⟩
theorem six {h : Int} (h0 : 0 ≤ h) (h1 : h ≤ 5) : h = 0 ∨ h = 1 ∨ h = 2 ∨ h = 3 ∨ h = 4 ∨ h = 5 := by omega
theorem cntV_at (l : List Record) {h : Int} (h0 : 0 ≤ h) (h1 : h ≤ 5) : (cntV l).at? h = some ((cnt keyR l h : Nat) : Int) := by
 rcases six h0 h1 with rfl | rfl | rfl | rfl | rfl | rfl <;> rfl
theorem cntV_set (l : List Record) (r : Record) (h0 : 0 ≤ r.At.House) (h1 : r.At.House ≤ 5) : (cntV l).set r.At.House ((cnt keyR l r.At.House : Nat) + 1 : Int) = cntV (l ++ [r]) := by
 have hc : ∀ h, cnt keyR (l ++ [r]) h = cnt keyR l h + if r.At.House = h then 1 else 0 := fun h => by
  rw [cnt_append, cnt_cons, cnt_nil]
  show _ + (0 + if r.At.House = h then 1 else 0) = _
  omega
 apply Vec.ext
 unfold cntV
 simp only [hc]
 rcases six h0 h1 with e | e | e | e | e | e <;> rw [e] <;> simp [Vec.set]
def houseOK (r : Record) : Prop := 0 ≤ r.At.House ∧ r.At.House ≤ 5
theorem recB_house {r : Record} (h : recB r = true) : houseOK r := by
 unfold recB entryB within at h
 simp only [Bool.and_eq_true, decide_eq_true_eq] at h
 exact h.1.1
theorem cnt_le (l : List Record) (h : Int) : cnt keyR l h ≤ l.length := List.countP_le_length
theorem count_loop {τ : Type} {body : τ → Option (Stp τ (Vec 6 Int) (Vec 6 Int))} (mk : Int → Vec 6 Int → τ) {l : List Record} (hl : l.length ≤ 100000) (hh : ∀ r ∈ l, houseOK r) {k : Nat} (hk : 1000000 < k)
  (h1 : ∀ (i : Nat) r s, l[i]? = some r → body (mk i s) = (s.at? r.At.House).bind fun x => some (.next (mk (w64 ((i : Int) + 1)) (s.set r.At.House (w64 (x + 1)))))) (h2 : ∀ s, body (mk l.length s) = some (.brk s)) :
  whl body k (mk 0 (Vec.rep 6 (0 : Int))) = some (.brk (cntV l)) := by
 have h := whl_fold (l := l) (body := body) mk (fun s r => match s.at? r.At.House with | some x => s.set r.At.House (w64 (x + 1)) | none => s) (fun i s => s = cntV (l.take i)) (by omega) (k := k) (by omega) (s0 := Vec.rep 6 (0 : Int)) (by rfl) (fun i r s hx hs => by
  have hi := (List.getElem?_eq_some_iff.1 hx).1
  have hr := hh r (List.mem_of_getElem? hx)
  have e : l.take (i + 1) = l.take i ++ [r] := by rw [List.take_add_one, hx]; rfl
  have hc := cnt_le (l.take i) r.At.House
  rw [List.length_take] at hc
  rw [h1 i r s hx, hs, cntV_at _ hr.1 hr.2]
  simp only [Option.bind_some]
  have hw : w64 (((cnt keyR (l.take i) r.At.House : Nat) : Int) + 1) = ((cnt keyR (l.take i) r.At.House : Nat) : Int) + 1 := w64_of (by omega) (by omega)
  rw [hw, cntV_set _ _ hr.1 hr.2, e]
  exact ⟨trivial, rfl⟩) (fun s hs => h2 s)
 have h3 := h.2
 rw [List.take_length] at h3
 rw [h.1, h3]
theorem have_plain {k : Nat} (hk : 1000000 < k) {b : Book} (hl : b.Records.length ≤ 100000) (hh : ∀ r ∈ b.Records, houseOK r) : book_have k b = some (cntV b.Records) := by
 unfold book_have
 rw [count_loop (l := b.Records) (body := book_have.b0 k b) (fun i s => (s, i)) hl hh hk (fun i r s hx => by
  have hi := (List.getElem?_eq_some_iff.1 hx).1
  unfold book_have.b0
  simp only [decide_eq_true (show (i : Int) < (b.Records.length : Int) by omega), cond_true, at_of hx, Option.bind_some]) (fun s => by
  unfold book_have.b0
  simp only [(by simp : decide ((b.Records.length : Int) < (b.Records.length : Int)) = false), cond_false])]
 rfl
theorem clone_plain {k : Nat} {l : List Record} (hl : l.length ≤ 1000) : slices_Clone_api_Record k l = some l := by
 unfold slices_Clone_api_Record room?
 rw [if_pos ⟨by omega, by omega⟩]; rfl
theorem copied_plain {k : Nat} {b : Book} (hl : b.Records.length ≤ 1000) : book_copied k b = some b := by
 unfold book_copied
 rw [clone_plain hl]; rfl
theorem insert_plain {k : Nat} {l : List Record} (hl : l.length ≤ 1000) (r : Record) : slices_Insert_api_Record k l ((pos keyR l (keyR r) : Nat) : Int) [r] = some (insE keyR l r) := by
 have := pos_le keyR l (keyR r)
 unfold slices_Insert_api_Record
 rw [if_pos ⟨⟨by omega, by omega⟩, rfl, ⟨by omega, by omega⟩⟩]
 rfl
end Go.Abs
namespace Go.Abs
open Go Go.Proofs
set_option maxRecDepth 20000
set_option linter.unusedVariables false
set_option linter.unusedSimpArgs false
theorem Byt.append {a b : List Int} (ha : Byt a) (hb : Byt b) : Byt (a ++ b) := fun x hx => by
 rcases List.mem_append.1 hx with h | h
 ·exact ha x h
 ·exact hb x h
end Go.Abs
namespace Go.Abs
open Go Go.Proofs
set_option maxRecDepth 20000
set_option linter.unusedVariables false
set_option linter.unusedSimpArgs false
theorem same_loop {α R : Type} {body : Bool × Int → Option (Stp (Bool × Int) Bool R)} {a b : List α} (hab : a.length = b.length) (hl : a.length ≤ 1000000) {eq : α → α → Bool} (he : ∀ x y, eq x y = true ↔ x = y) {k : Nat} (hk : 10000000 < k)
  (h1 : ∀ (i : Nat) x y, a[i]? = some x → b[i]? = some y → body (true, (i : Int)) = some (.next (eq x y, w64 ((i : Int) + 1))))
  (h2 : ∀ i : Nat, i ≤ a.length → body (false, (i : Int)) = some (.brk false)) (h3 : body (true, (a.length : Int)) = some (.brk true)) :
  ∃ c : Bool, whl body k (true, 0) = some (.brk c) ∧ (c = true ↔ a = b) := by
 have key : ∀ (d i m : Nat), i + d = a.length → d + 2 ≤ m → ∃ c : Bool, whl body m (true, (i : Int)) = some (.brk c) ∧ (c = true ↔ a.drop i = b.drop i) := by
  intro d
  induction d with
  | zero =>
   intro i m h4 h5
   obtain ⟨m, rfl⟩ : ∃ q, m = q + 1 := ⟨m - 1, by omega⟩
   have : i = a.length := by omega
   subst this
   refine ⟨true, by simp only [whl, h3], ?_⟩
   rw [List.drop_of_length_le (Nat.le_refl _), List.drop_of_length_le (by omega)]
   simp
  | succ d ih =>
   intro i m h4 h5
   obtain ⟨m, rfl⟩ : ∃ q, m = q + 1 := ⟨m - 1, by omega⟩
   have ha : a[i]? = some (a[i]'(by omega)) := List.getElem?_eq_getElem (by omega)
   have hb : b[i]? = some (b[i]'(by omega)) := List.getElem?_eq_getElem (by omega)
   have hw : w64 ((i : Int) + 1) = ((i + 1 : Nat) : Int) := by rw [w64_of (by omega) (by omega)]; omega
   rw [List.drop_eq_getElem_cons (show i < a.length by omega), List.drop_eq_getElem_cons (show i < b.length by omega)]
   simp only [whl, h1 i _ _ ha hb, hw]
   cases hq : eq (a[i]'(by omega)) (b[i]'(by omega)) with
   | true =>
    obtain ⟨c, h6, h7⟩ := ih (i + 1) m (by omega) (by omega)
    refine ⟨c, h6, ?_⟩
    rw [h7, (he _ _).1 hq]
    exact ⟨fun h => by rw [h], fun h => (List.cons.inj h).2⟩
   | false =>
    obtain ⟨m, rfl⟩ : ∃ q, m = q + 1 := ⟨m - 1, by omega⟩
    refine ⟨false, by simp only [whl, h2 (i + 1) (by omega)], ?_⟩
    constructor
    ·intro h; cases h
    ·intro h
     have := (List.cons.inj h).1
     rw [(he _ _).2 this] at hq; cases hq
 have := key a.length 0 k (by omega) (by omega)
 simpa using this
end Go.Abs
namespace Go.Abs
open Go Go.Proofs
set_option maxRecDepth 20000
set_option linter.unusedVariables false
set_option linter.unusedSimpArgs false
section
variable {α : Type} (key : α → Int × Int)
theorem VL_at : ∀ {l : List α} {c : Int → Int}, VL key c l ↔ ∀ (i : Nat) x, l[i]? = some x → (key x).2 = c (key x).1 + cnt key (l.take i) (key x).1
 | [], c => by simp [VL]
 | y :: l, c => by
  unfold VL
  rw [VL_at (l := l)]
  constructor
  ·rintro ⟨h1, h2⟩ i x hx
   cases i with
   | zero => cases hx; rw [h1]; simp [cnt_nil]
   | succ i =>
    rw [List.getElem?_cons_succ] at hx
    rw [h2 i x hx, List.take_succ_cons, cnt_cons]
    by_cases e : (key x).1 = (key y).1
    ·rw [if_pos e, if_pos e.symm]; simp only [e]; omega
    ·rw [if_neg e, if_neg (Ne.symm e)]; omega
  ·intro h
   refine ⟨?_, fun i x hx => ?_⟩
   ·have := h 0 y rfl
    simpa [cnt_nil] using this
   ·have := h (i + 1) x (by rw [List.getElem?_cons_succ]; exact hx)
    rw [this, List.take_succ_cons, cnt_cons]
    by_cases e : (key x).1 = (key y).1
    ·rw [if_pos e, if_pos e.symm]; simp only [e]; omega
    ·rw [if_neg e, if_neg (Ne.symm e)]; omega
theorem srt_adj {l : List α} (h : ∀ (i : Nat) x y, l[i]? = some x → l[i + 1]? = some y → eLt (key x) (key y)) : Srt key l := by
 have key2 : ∀ (d i : Nat) x y, l[i]? = some x → l[i + 1 + d]? = some y → eLt (key x) (key y) := by
  intro d
  induction d with
  | zero => exact h
  | succ d ih =>
   intro i x y hx hy
   have hl := (List.getElem?_eq_some_iff.1 hy).1
   have hz : l[i + 1 + d]? = some (l[i + 1 + d]'(by omega)) := List.getElem?_eq_getElem (by omega)
   exact eLt_trans (ih i x _ hx hz) (h _ _ _ hz hy)
 unfold Srt
 rw [List.pairwise_iff_getElem]
 intro i j hi hj hij
 have := key2 (j - i - 1) i l[i] l[j] (List.getElem?_eq_getElem hi) (by rw [show i + 1 + (j - i - 1) = j by omega]; exact List.getElem?_eq_getElem hj)
 exact this
end
def prevOK (l : List Record) (x : Record) : Nat → Bool
 | 0 => true
 | j + 1 => match l[j]? with | none => false | some y => decide (eLt (keyR y) (keyR x))
def okAt (l : List Record) (i : Nat) : Bool := match l[i]? with
 | none => false
 | some x => recB x && (prevOK l x i && decide (x.At.No = cnt keyR (l.take i) x.At.House))
theorem okAt_iff (l : List Record) : (List.range l.length).all (okAt l) = true ↔ (∀ r ∈ l, recB r = true) ∧ Val keyR l := by
 rw [List.all_eq_true]
 constructor
 ·intro h
  have h' : ∀ (i : Nat) x, l[i]? = some x → okAt l i = true := fun i x hx => h i (List.mem_range.2 (List.getElem?_eq_some_iff.1 hx).1)
  refine ⟨fun r hr => ?_, srt_adj keyR (fun i x y hx hy => ?_), (VL_at keyR).2 fun i x hx => ?_⟩
  ·obtain ⟨i, hi⟩ := List.mem_iff_getElem?.1 hr
   have := h' i r hi
   unfold okAt at this
   rw [hi] at this
   simp only [Bool.and_eq_true] at this
   exact this.1
  ·have := h' (i + 1) y hy
   unfold okAt at this
   rw [hy] at this
   simp only [prevOK, hx, Bool.and_eq_true, decide_eq_true_eq] at this
   exact this.2.1
  ·have := h' i x hx
   unfold okAt at this
   rw [hx] at this
   simp only [Bool.and_eq_true, decide_eq_true_eq] at this
   have h2 := this.2.2
   show x.At.No = 0 + _
   rw [Int.zero_add]
   exact h2
 ·rintro ⟨h1, h2, h3⟩ i hi
  rw [List.mem_range] at hi
  have hx : l[i]? = some l[i] := List.getElem?_eq_getElem hi
  unfold okAt
  rw [hx]
  simp only [Bool.and_eq_true, decide_eq_true_eq]
  refine ⟨h1 _ (List.getElem_mem hi), ?_, ?_⟩
  ·cases i with
   | zero => rfl
   | succ j =>
    have hy : l[j]? = some l[j] := List.getElem?_eq_getElem (by omega)
    simp only [prevOK, hy, decide_eq_true_eq]
    exact List.pairwise_iff_getElem.1 h2 j (j + 1) (by omega) hi (by omega)
  ·have := (VL_at keyR).1 h3 i _ hx
   have h4 : l[i].At.No = 0 + ((cnt keyR (l.take i) l[i].At.House : Nat) : Int) := this
   omega
def bookV (l : List Record) : Bool := !decide ((60 : Int) < (l.length : Int)) && (List.range l.length).all (okAt l)
theorem bookV_iff {l : List Record} : bookV l = true ↔ l.length ≤ 60 ∧ (∀ r ∈ l, recB r = true) ∧ Val keyR l := by
 unfold bookV
 rw [Bool.and_eq_true, okAt_iff]
 simp only [Bool.not_eq_true', decide_eq_false_iff_not]
 constructor
 ·rintro ⟨h1, h2⟩; exact ⟨by omega, h2⟩
 ·rintro ⟨h1, h2⟩; exact ⟨by omega, h2⟩
theorem foldM_all {S : Type} (p : Nat → Bool) (g : Nat → S) : ∀ (L : List Nat) (s : S), (L.foldlM (fun s i => if p i then some (g i) else none) s).isSome = L.all p
 | [], s => rfl
 | i :: L, s => by
  rw [List.foldlM_cons, List.all_cons]
  cases h : p i with
  | true => simpa using foldM_all p g L (g i)
  | false => rfl
theorem prev_at {l : List Record} {i : Nat} {y : Record} (h : l[i]? = some y) (hi : i < 1000) : at? l (w64 (((i + 1 : Nat) : Int) - 1)) = some y := by
 rw [w64_of (by omega) (by omega)]
 have e : ((i + 1 : Nat) : Int) - 1 = (i : Int) := by omega
 rw [e]; exact at_of h
theorem checkBook_plain {k : Nat} (hk : 1000000 < k) (b : Book) : book_Check k b = some (bif bookV b.Records then 0 else 91) := by
 unfold book_Check bookV
 by_cases hl : (60 : Int) < (b.Records.length : Int)
 ·simp [hl]
 ·simp only [decide_eq_false hl, cond_false, Bool.not_false, Bool.true_and]
  have h := whl_foldM (n := b.Records.length) (body := book_Check.b0 k b) (fun i s => (s, i)) (fun _ => ()) (fun s i => if okAt b.Records i then some (cntV (b.Records.take (i + 1))) else none) (91 : Int)
   (fun i s => s = cntV (b.Records.take i) ∧ ∀ r ∈ b.Records.take i, houseOK r) (by omega) (k := k) (by omega) (s0 := Vec.rep 6 (0 : Int)) ⟨rfl, by simp⟩ (fun i s hi hs => by
   obtain ⟨x, hx⟩ : ∃ x, b.Records[i]? = some x := ⟨_, List.getElem?_eq_getElem hi⟩
   have e : b.Records.take (i + 1) = b.Records.take i ++ [x] := by rw [List.take_add_one, hx]; rfl
   obtain ⟨rfl, hh⟩ := hs
   have hc := cnt_le (b.Records.take i) x.At.House
   rw [List.length_take] at hc
   have hok : okAt b.Records i = (recB x && (prevOK b.Records x i && decide (x.At.No = cnt keyR (b.Records.take i) x.At.House))) := by
    unfold okAt; rw [hx]
   have hw : w64 (((cnt keyR (b.Records.take i) x.At.House : Nat) : Int) + 1) = ((cnt keyR (b.Records.take i) x.At.House : Nat) : Int) + 1 := w64_of (by omega) (by omega)
   refine ⟨?_, fun s' hs' => ?_⟩
   ·rw [hok]
    unfold book_Check.b0
    simp only [decide_eq_true (show (i : Int) < (b.Records.length : Int) by omega), cond_true, at_of hx, Option.bind_some, isRecord_plain (show 1000 < k by omega)]
    cases hr : recB x with
    | false => rfl
    | true =>
     have hho := recB_house hr
     simp only [cond_true, Bool.true_and, cntV_at _ hho.1 hho.2, Option.bind_some, hw, cntV_set _ _ hho.1 hho.2, ← e]
     cases i with
     | zero =>
      simp only [(by decide : decide ((0 : Int) < ((0 : Nat) : Int)) = false), cond_false, prevOK, Bool.true_and]
      by_cases hn : x.At.No = ((cnt keyR (b.Records.take 0) x.At.House : Nat) : Int)
      ·simp only [decide_eq_true hn, Bool.not_true, cond_false, if_true]
      ·simp only [decide_eq_false hn, Bool.not_false, cond_true, Bool.false_eq_true, if_false]
     | succ j =>
      obtain ⟨y, hy⟩ : ∃ y, b.Records[j]? = some y := ⟨_, List.getElem?_eq_getElem (by omega)⟩
      have hcl := cmpE_lt y.At x.At
      have hkk : keyE y.At = keyR y := rfl
      have hkk2 : keyE x.At = keyR x := rfl
      rw [hkk, hkk2] at hcl
      simp only [(by simp : decide ((0 : Int) < ((j + 1 : Nat) : Int)) = true), cond_true, prev_at hy (by omega), Option.bind_some, compare_plain (show 10 < k by omega), prevOK, hy]
      by_cases hlt : eLt (keyR y) (keyR x)
      ·have hneg := hcl.2 hlt
       simp only [decide_eq_false (show ¬ (0 : Int) ≤ cmpE y.At x.At by omega), Bool.not_false, cond_true, decide_eq_true hlt, Bool.true_and]
       by_cases hn : x.At.No = ((cnt keyR (b.Records.take (j + 1)) x.At.House : Nat) : Int)
       ·simp only [decide_eq_true hn, Bool.not_true, cond_false, if_true]
       ·simp only [decide_eq_false hn, Bool.not_false, cond_true, Bool.false_eq_true, if_false]
      ·have hneg : (0 : Int) ≤ cmpE y.At x.At := by
        have := mt hcl.1 hlt; omega
       simp only [decide_eq_true hneg, Bool.not_true, cond_false, decide_eq_false hlt, Bool.false_and, Bool.false_eq_true, if_false]
   ·cases ho : okAt b.Records i with
    | false => rw [ho] at hs'; cases hs'
    | true =>
     rw [ho] at hs'
     have : cntV (b.Records.take (i + 1)) = s' := Option.some.inj hs'
     refine ⟨this.symm, fun r hr => ?_⟩
     rw [e, List.mem_append, List.mem_singleton] at hr
     rcases hr with hr | rfl
     ·exact hh r hr
     ·rw [hok] at ho
      simp only [Bool.and_eq_true] at ho
      exact recB_house ho.1) (fun s hs => by
   unfold book_Check.b0
   simp only [(by simp : decide ((b.Records.length : Int) < (b.Records.length : Int)) = false), cond_false])
  have h1 := h.1
  rw [h1]
  have h2 := foldM_all (okAt b.Records) (fun i => cntV (b.Records.take (i + 1))) (List.range b.Records.length) (Vec.rep 6 (0 : Int))
  cases hq : (List.range b.Records.length).foldlM (fun s i => if okAt b.Records i then some (cntV (b.Records.take (i + 1))) else none) (Vec.rep 6 (0 : Int)) with
  | none => rw [hq] at h2; rw [← h2]; rfl
  | some s => rw [hq] at h2; rw [← h2]; rfl
end Go.Abs
namespace Go.Abs
open Go Go.Proofs
set_option maxRecDepth 20000
set_option linter.unusedVariables false
set_option linter.unusedSimpArgs false
theorem many_plain {k : Nat} (hk : 1000000 < k) {l : List Record} (hl : l.length ≤ 100000) (hh : ∀ r ∈ l, houseOK r) : R09_many k l = some (cntV l) := by
 unfold R09_many
 rw [count_loop (l := l) (body := R09_many.b0 k l) (fun i s => (s, i)) hl hh hk (fun i r s hx => by
  have hi := (List.getElem?_eq_some_iff.1 hx).1
  unfold R09_many.b0
  simp only [decide_eq_true (show (i : Int) < (l.length : Int) by omega), cond_true, at_of hx, Option.bind_some]) (fun s => by
  unfold R09_many.b0
  simp only [(by simp : decide ((l.length : Int) < (l.length : Int)) = false), cond_false])]
 rfl
theorem ahead_plain (k : Nat) (a b : Entry) : R09_ahead k a b = some (decide (eLt (keyE a) (keyE b))) := by
 unfold R09_ahead eLt keyE
 by_cases h1 : a.House < b.House
 ·simp [h1]
 ·by_cases h2 : a.House = b.House
  ·simp [h2]
  ·simp [h1, h2]
theorem subL_nat {α : Type} {l : List α} {i j : Nat} (h1 : i ≤ j) (h2 : j ≤ l.length) : sub? l (i : Int) (j : Int) = some ((l.drop i).take (j - i)) := by
 unfold sub?
 rw [if_pos (by omega), Int.toNat_natCast, Int.toNat_natCast]
theorem sub_take {α : Type} {l : List α} {i : Nat} (h2 : i ≤ l.length) : sub? l 0 (i : Int) = some (l.take i) := subL_nat (i := 0) (by omega) h2
theorem sub_drop {α : Type} {l : List α} {i : Nat} (h2 : i ≤ l.length) : sub? l (i : Int) (l.length : Int) = some (l.drop i) := by
 have := subL_nat (l := l) (i := i) (j := l.length) h2 (Nat.le_refl _)
 rw [List.take_of_length_le (by rw [List.length_drop]; omega)] at this
 exact this
theorem findR_plain {k : Nat} {l : List Record} (hl : l.length ≤ 100000) (hk : 1000000 < k) (e : Entry) :
  (∃ (i : Nat) (x : Record), R09_find k l e = some (i : Int) ∧ l[i]? = some x ∧ keyR x = keyE e) ∨ (R09_find k l e = some (-1) ∧ ∀ x ∈ l, keyR x ≠ keyE e) := by
 have hc : ∀ x : Record, (decide (x.At.House = e.House) && decide (x.At.No = e.No)) = decide (keyR x = keyE e) := fun x => by
  unfold keyR keyE
  simp only [Prod.mk.injEq]
  by_cases h1 : x.At.House = e.House <;> by_cases h2 : x.At.No = e.No <;> simp [h1, h2]
 have key : ∀ (d i m : Nat), i + d = l.length → d < m → (∃ (j : Nat) (x : Record), whl (R09_find.b0 k l e) m (i : Int) = some (.ret (j : Int)) ∧ l[j]? = some x ∧ keyR x = keyE e) ∨ (whl (R09_find.b0 k l e) m (i : Int) = some (.brk ()) ∧ ∀ x ∈ l.drop i, keyR x ≠ keyE e) := by
  intro d
  induction d with
  | zero =>
   intro i m h1 h2
   obtain ⟨m, rfl⟩ : ∃ q, m = q + 1 := ⟨m - 1, by omega⟩
   have e1 : decide ((i : Int) < (l.length : Int)) = false := by simp; omega
   have hb : R09_find.b0 k l e (i : Int) = some (.brk ()) := by
    unfold R09_find.b0
    simp only [e1, cond_false]
   right
   refine ⟨by simp only [whl, hb], ?_⟩
   rw [List.drop_of_length_le (by omega)]
   intro x hx; cases hx
  | succ d ih =>
   intro i m h1 h2
   obtain ⟨m, rfl⟩ : ∃ q, m = q + 1 := ⟨m - 1, by omega⟩
   obtain ⟨x, hx⟩ : ∃ x, l[i]? = some x := ⟨_, List.getElem?_eq_getElem (by omega)⟩
   have hw : w64 ((i : Int) + 1) = ((i + 1 : Nat) : Int) := by rw [w64_of (by omega) (by omega)]; omega
   by_cases he : keyR x = keyE e
   ·left
    have hb : R09_find.b0 k l e (i : Int) = some (.ret (i : Int)) := by
     unfold R09_find.b0
     simp only [decide_eq_true (show (i : Int) < (l.length : Int) by omega), cond_true, at_of hx, Option.bind_some, hc, decide_eq_true he]
    exact ⟨i, x, by simp only [whl, hb], hx, he⟩
   ·have hb : R09_find.b0 k l e (i : Int) = some (.next ((i + 1 : Nat) : Int)) := by
     unfold R09_find.b0
     simp only [decide_eq_true (show (i : Int) < (l.length : Int) by omega), cond_true, at_of hx, Option.bind_some, hc, decide_eq_false he, cond_false, hw]
    have hdr : l.drop i = x :: l.drop (i + 1) := by
     have := (List.getElem?_eq_some_iff.1 hx)
     obtain ⟨h3, h4⟩ := this
     rw [List.drop_eq_getElem_cons h3, h4]
    rcases ih (i + 1) m (by omega) (by omega) with ⟨j, y, g1, g2, g3⟩ | ⟨g1, g2⟩
    ·exact .inl ⟨j, y, by simp only [whl, hb, g1], g2, g3⟩
    ·right
     refine ⟨by simp only [whl, hb, g1], fun y hy => ?_⟩
     rw [hdr] at hy
     rcases List.mem_cons.1 hy with rfl | hy
     ·exact he
     ·exact g2 y hy
 unfold R09_find
 rcases key l.length 0 k (by omega) (by omega) with ⟨j, x, h1, h2, h3⟩ | ⟨h1, h2⟩
 ·left
  rw [Int.natCast_zero] at h1
  exact ⟨j, x, by rw [h1]; rfl, h2, h3⟩
 ·right
  rw [Int.natCast_zero] at h1
  exact ⟨by rw [h1]; rfl, fun x hx => h2 x (by simpa using hx)⟩
def addL (l : List Record) (r : Record) : List Record × Int := match findK keyR l (keyR r) with
 | some x => if x = r then (l, 0) else ([], 92)
 | none => if (cnt keyR l r.At.House : Int) < r.At.No then ([], 93) else if (l.length : Int) = 60 then ([], 2) else (insE keyR l r, 0)
theorem copiedR_plain {k : Nat} {l : List Record} (hl : l.length ≤ 1000) : R09_copied_o k l = some l := by
 unfold R09_copied_o room?
 rw [if_pos ⟨by omega, by omega⟩]; rfl
theorem place_loop {k0 : Nat} {l : List Record} (hs : Srt keyR l) (hl : l.length ≤ 1000) (r : Record) : ∀ (d i k : Nat), pos keyR l (keyR r) - i ≤ d → d < k → i ≤ pos keyR l (keyR r) →
  whl (R09_added.b0 k0 l r) k (i : Int) = some (.brk ((pos keyR l (keyR r) : Nat) : Int)) := by
 have hp := pos_le keyR l (keyR r)
 intro d
 induction d with
 | zero =>
  intro i k h1 h2 h3
  obtain ⟨m, rfl⟩ : ∃ q, k = q + 1 := ⟨k - 1, by omega⟩
  have hi : i = pos keyR l (keyR r) := by omega
  have hb : R09_added.b0 k0 l r (i : Int) = some (.brk (i : Int)) := by
   unfold R09_added.b0
   by_cases hlt : i < l.length
   ·have hx : l[i]? = some l[i] := List.getElem?_eq_getElem hlt
    have hkk : keyE l[i].At = keyR l[i] := rfl
    have hkk2 : keyE r.At = keyR r := rfl
    have := srt_at keyR hs (keyR r) hx
    simp only [decide_eq_true (show (i : Int) < (l.length : Int) by omega), cond_true, at_of hx, Option.bind_some, ahead_plain, hkk, hkk2, decide_eq_false (show ¬ eLt (keyR l[i]) (keyR r) from fun c => by have := this.1 c; omega), cond_false]
   ·simp only [decide_eq_false (show ¬ (i : Int) < (l.length : Int) by omega), cond_false]
  simp only [whl, hb]
  rw [hi]
 | succ d ih =>
  intro i k h1 h2 h3
  obtain ⟨m, rfl⟩ : ∃ q, k = q + 1 := ⟨k - 1, by omega⟩
  by_cases hlt : i < pos keyR l (keyR r)
  ·have hx : l[i]? = some (l[i]'(by omega)) := List.getElem?_eq_getElem (by omega)
   have hkk : keyE (l[i]'(by omega)).At = keyR (l[i]'(by omega)) := rfl
   have hkk2 : keyE r.At = keyR r := rfl
   have hw : w64 ((i : Int) + 1) = ((i + 1 : Nat) : Int) := by rw [w64_of (by omega) (by omega)]; omega
   have hb : R09_added.b0 k0 l r (i : Int) = some (.next ((i + 1 : Nat) : Int)) := by
    unfold R09_added.b0
    simp only [decide_eq_true (show (i : Int) < (l.length : Int) by omega), cond_true, at_of hx, Option.bind_some, ahead_plain, hkk, hkk2, decide_eq_true ((srt_at keyR hs (keyR r) hx).2 hlt), hw]
   simp only [whl, hb]
   exact ih (i + 1) m (by omega) (by omega) (by omega)
  ·have hi : i = pos keyR l (keyR r) := by omega
   exact (by
    have := ih i (m + 1) (by omega) (by omega) h3
    exact this)
theorem addedR_plain {k : Nat} (hk : 1000000 < k) {l : List Record} (hs : Srt keyR l) (hl : l.length ≤ 900) (hh : ∀ r ∈ l, houseOK r) {r : Record} (hr : houseOK r) : R09_added k l r = some (addL l r) := by
 unfold R09_added addL
 have hkk : keyE r.At = keyR r := rfl
 rcases findR_plain (k := k) (l := l) (by omega) hk r.At with ⟨i, x, h1, h2, h3⟩ | ⟨h1, h2⟩
 ·rw [hkk] at h3
  have hf : findK keyR l (keyR r) = some x := by rw [← h3]; exact findK_of keyR hs (List.mem_of_getElem? h2)
  rw [h1, hf]
  simp only [Option.bind_some, decide_eq_true (show (0 : Int) ≤ (i : Int) by omega), cond_true, at_of h2]
  by_cases e : x = r
  ·subst e
   have := recEq_self x
   unfold recEq at this
   rw [this]
   simp only [cond_true, copiedR_plain (show l.length ≤ 1000 by omega), Option.bind_some, if_true]
  ·have := recEq_ne e
   unfold recEq at this
   rw [this]
   simp only [cond_false, if_neg e]
 ·rw [hkk] at h2
  have hf : findK keyR l (keyR r) = none := findK_no keyR h2
  rw [h1, hf]
  have hp := pos_le keyR l (keyR r)
  have hlo := place_loop (k0 := k) hs (by omega) r (pos keyR l (keyR r)) 0 k (by omega) (by omega) (by omega)
  rw [Int.natCast_zero] at hlo
  simp only [Option.bind_some, (by decide : decide ((0 : Int) ≤ -1) = false), cond_false, many_plain hk (show l.length ≤ 100000 by omega) hh, cntV_at _ hr.1 hr.2]
  by_cases hc : ((cnt keyR l r.At.House : Nat) : Int) < r.At.No
  ·simp only [decide_eq_true hc, cond_true, if_pos hc]
  ·simp only [decide_eq_false hc, cond_false, if_neg hc]
   by_cases h60 : (l.length : Int) = 60
   ·simp only [decide_eq_true h60, cond_true, if_pos h60]
   ·have ht : (l.take (pos keyR l (keyR r))).length = pos keyR l (keyR r) := by rw [List.length_take]; omega
    simp only [decide_eq_false h60, cond_false, if_neg h60, hlo, Option.bind_some, sub_take hp, sub_drop hp]
    rw [copiedR_plain (by omega)]
    simp only [Option.bind_some]
    rw [push_of (by rw [ht]; omega) (by rw [ht]; omega)]
    simp only [Option.bind_some]
    rw [app_of (by rw [List.length_append, ht, List.length_drop]; simp; omega) (by rw [List.length_append, ht, List.length_drop]; simp; omega)]
    simp only [Option.bind_some]
    unfold insE
    simp
theorem added_plain {k : Nat} (hk : 1000000 < k) {b : Book} (hs : Srt keyR b.Records) (hl : b.Records.length ≤ 900) (hh : ∀ r ∈ b.Records, houseOK r) (r : Record) :
  book_added k b r = some (bif recB r then (⟨(addL b.Records r).1⟩, (addL b.Records r).2) else (⟨[]⟩, 90)) := by
 unfold book_added
 rw [isRecord_plain (by omega)]
 simp only [Option.bind_some]
 cases hr : recB r with
 | false => rfl
 | true =>
  have hho := recB_house hr
  have hkk : keyE r.At = keyR r := rfl
  simp only [Bool.not_true, cond_false, cond_true, find_plain (show 10000 < k by omega) hs (show b.Records.length ≤ 1000 by omega), Option.bind_some, hkk]
  unfold addL
  cases hf : findK keyR b.Records (keyR r) with
  | some x =>
   have hp := findK_pos keyR hs (keyR r)
   rw [hf] at hp
   have hx : b.Records[pos keyR b.Records (keyR r)]? = some x := by
    cases hq : b.Records[pos keyR b.Records (keyR r)]? with
    | none => rw [hq] at hp; cases hp
    | some y =>
     rw [hq] at hp
     simp only [Option.filter] at hp
     split at hp
     ·exact hp.symm
     ·cases hp
   simp only [Option.isSome_some, cond_true, at_of hx, Option.bind_some]
   by_cases e : x = r
   ·subst e
    have := recEq_self x
    unfold recEq at this
    rw [this]
    simp only [cond_true, copied_plain (show b.Records.length ≤ 1000 by omega), Option.bind_some, if_true]
   ·have := recEq_ne e
    unfold recEq at this
    rw [this]
    simp only [cond_false, if_neg e]
  | none =>
   simp only [Option.isSome_none, cond_false, have_plain hk (show b.Records.length ≤ 100000 by omega) hh, Option.bind_some, cntV_at _ hho.1 hho.2]
   by_cases hc : ((cnt keyR b.Records r.At.House : Nat) : Int) < r.At.No
   ·simp only [decide_eq_true hc, cond_true, if_pos hc]
   ·simp only [decide_eq_false hc, cond_false, if_neg hc]
    by_cases h60 : (b.Records.length : Int) = 60
    ·simp only [decide_eq_true h60, cond_true, if_pos h60]
    ·simp only [decide_eq_false h60, cond_false, if_neg h60, clone_plain (show b.Records.length ≤ 1000 by omega), Option.bind_some, insert_plain (show b.Records.length ≤ 1000 by omega)]
end Go.Abs
namespace Go.Abs
open Go Go.Proofs
set_option maxRecDepth 20000
set_option linter.unusedVariables false
set_option linter.unusedSimpArgs false
def joinB (a b : List Record) : Book × Int :=
 bif bookV a && bookV b then match b.foldlM (jn keyR) a with
  | none => (⟨[]⟩, 92)
  | some o => bif decide ((60 : Int) < (o.length : Int)) then (⟨[]⟩, 2) else (⟨o⟩, 0)
 else (⟨[]⟩, 91)
theorem split_at {α : Type} {l : List α} {i : Nat} {x : α} (h : l[i]? = some x) : l = l.take i ++ x :: l.drop (i + 1) := by
 obtain ⟨hl, he⟩ := List.getElem?_eq_some_iff.1 h
 rw [← he, ← List.drop_eq_getElem_cons hl, List.take_append_drop]
theorem take_at {α : Type} {l : List α} {i : Nat} {x : α} (h : l[i]? = some x) : l.take (i + 1) = l.take i ++ [x] := by
 rw [List.take_add_one, h]; rfl
theorem JI.house {a done out : List Record} {more : Nat} (h : JI keyR a done out more) (ha : ∀ r ∈ a, houseOK r) (hd : ∀ r ∈ done, houseOK r) : ∀ r ∈ out, houseOK r := fun r hr => by
 rcases (h.mem r).1 hr with g | g
 ·exact ha r g
 ·exact hd r g
theorem join_plain {k : Nat} (hk : 1000000 < k) (a b : Book) : book_Join k a b = some (joinB a.Records b.Records) := by
 unfold book_Join joinB
 rw [checkBook_plain hk, checkBook_plain hk]
 cases hva : bookV a.Records with
 | false => rfl
 | true =>
  cases hvb : bookV b.Records with
  | false => rfl
  | true =>
   obtain ⟨la, ra, va⟩ := bookV_iff.1 hva
   obtain ⟨lb, rb, vb⟩ := bookV_iff.1 hvb
   have hcp : book_copied_o k a = some a := by
    unfold book_copied_o
    rw [clone_plain (by omega)]; rfl
   simp only [cond_true, Bool.and_self, Option.bind_some, decide_true, Bool.not_true, cond_false, hcp]
   have h := whl_foldML (l := b.Records) (body := book_Join.b0 k b) (fun i s => (i, s)) (fun s => s) (jn keyR) ((⟨[]⟩ : Book), (92 : Int)) (fun i s => ∃ more, JI keyR a.Records (b.Records.take i) s more ∧ more ≤ i) (by omega) (k := k) (by omega) (s0 := a.Records) ⟨0, JI.nil keyR _ va, Nat.le_refl _⟩ (fun i r s hx hs => by
    have hi := (List.getElem?_eq_some_iff.1 hx).1
    obtain ⟨more, hJ, hm⟩ := hs
    have hsl := hJ.len
    have hh := hJ.house (fun r hr => recB_house (ra r hr)) (fun r hr => recB_house (rb r (List.mem_of_mem_take hr)))
    have hv2 := vb
    rw [split_at hx] at hv2
    have hstep := jn_step keyR va hv2 hJ
    refine ⟨?_, fun s' hs' => ?_⟩
    ·unfold book_Join.b0
     have hkk : keyE r.At = keyR r := rfl
     simp only [decide_eq_true (show (i : Int) < (b.Records.length : Int) by omega), cond_true, at_of hx, Option.bind_some, find_plain (b := ⟨s⟩) (show 10000 < k by omega) hJ.val.1 (show s.length ≤ 1000 by omega), hkk]
     unfold jn
     cases hf : findK keyR s (keyR r) with
     | some x =>
      have hp := findK_pos keyR hJ.val.1 (keyR r)
      rw [hf] at hp
      have hxx : s[pos keyR s (keyR r)]? = some x := by
       cases hq : s[pos keyR s (keyR r)]? with
       | none => rw [hq] at hp; cases hp
       | some y =>
        rw [hq] at hp
        simp only [Option.filter] at hp
        split at hp
        ·exact hp.symm
        ·cases hp
      simp only [Option.isSome_some, cond_true, at_of hxx, Option.bind_some]
      by_cases e : x = r
      ·subst e
       have := recEq_self x
       unfold recEq at this
       rw [this]
       simp only [Bool.not_true, cond_false, if_true]
      ·have := recEq_ne e
       unfold recEq at this
       rw [this]
       simp only [Bool.not_false, cond_true, if_neg e]
     | none =>
      simp only [Option.isSome_none, cond_false, insert_plain (show s.length ≤ 1000 by omega), Option.bind_some]
    ·rcases hstep with ⟨o, c, h1, h2, h3⟩ | ⟨h1, _⟩
     ·have : o = s' := Option.some.inj (h1.symm.trans hs')
      subst this
      rw [take_at hx]
      refine ⟨c, h3, ?_⟩
      have h4 := h2
      unfold cs at h4
      split at h4
      ·split at h4
       ·cases h4; omega
       ·cases h4
      ·cases h4; omega
     ·rw [h1] at hs'; cases hs') (fun s hs => by
    unfold book_Join.b0
    simp only [(by simp : decide ((b.Records.length : Int) < (b.Records.length : Int)) = false), cond_false])
   have h1 := h.1
   rw [h1]
   cases b.Records.foldlM (jn keyR) a.Records with
   | none => rfl
   | some o =>
    simp only [Option.bind_some]
    cases decide ((60 : Int) < (o.length : Int)) <;> rfl
theorem sameRecords_plain {k : Nat} (hk : 10000000 < k) {a b : List Record} (hl : a.length ≤ 1000) : ∃ c : Bool, R09_SameRecords k a b = some c ∧ (c = true ↔ a = b) := by
 unfold R09_SameRecords
 by_cases hab : a.length = b.length
 ·obtain ⟨c, h1, h2⟩ := same_loop (body := R09_SameRecords.b0 k a b) (eq := recEq) hab (by omega) (fun x y => recEq_iff) hk (fun i x y hx hy => by
   have hi := (List.getElem?_eq_some_iff.1 hx).1
   unfold R09_SameRecords.b0 recEq
   simp only [decide_eq_true (show (i : Int) < (a.length : Int) by omega), cond_true, at_of hx, at_of hy, Option.bind_some]) (fun i hi => by
   unfold R09_SameRecords.b0
   by_cases h : (i : Int) < (a.length : Int) <;> simp [h]) (by
   unfold R09_SameRecords.b0
   simp only [(by simp : decide ((a.length : Int) < (a.length : Int)) = false), cond_false])
  refine ⟨c, ?_, h2⟩
  have hd : decide ((a.length : Int) = (b.length : Int)) = true := by simp [hab]
  rw [hd, h1]
  rfl
 ·refine ⟨false, ?_, ?_⟩
  ·have hd : decide ((a.length : Int) = (b.length : Int)) = false := by simp; omega
   obtain ⟨m, rfl⟩ : ∃ q, k = q + 1 := ⟨k - 1, by omega⟩
   have : R09_SameRecords.b0 (m + 1) a b (false, 0) = some (.brk false) := by
    unfold R09_SameRecords.b0
    by_cases h : (0 : Int) < (a.length : Int) <;> simp [h]
   rw [hd]
   simp only [whl, this]
   rfl
  ·constructor
   ·intro h; cases h
   ·rintro rfl; exact absurd rfl hab
theorem sameBook_self {k : Nat} (hk : 10000000 < k) {a : Book} (hl : a.Records.length ≤ 1000) : R09_SameBook k a a = some true := by
 obtain ⟨c, h1, h2⟩ := sameRecords_plain hk (a := a.Records) (b := a.Records) hl
 unfold R09_SameBook
 rw [h1, h2.2 rfl]; rfl
end Go.Abs
namespace Go.Abs
open Go Go.Proofs
set_option maxRecDepth 20000
set_option linter.unusedVariables false
set_option linter.unusedSimpArgs false
theorem mod_plain (k : Nat) (n : Int) {m : Int} (h0 : 0 < m) (h1 : m ≤ 4611686018427387904) : R09_Mod k n m = some (n % m) := by
 unfold R09_Mod nz?
 rw [if_neg (by omega)]
 simp only [Option.bind_some]
 have b1 : Int.tmod n m < m := Int.tmod_lt_of_pos n h0
 have b2 : -m < Int.tmod n m := by
  rcases Int.le_total 0 n with h | h
  ·have := Int.tmod_nonneg m h
   omega
  ·have := Int.tmod_lt_of_pos (-n) h0
   rw [Int.neg_tmod] at this
   omega
 have e1 : Int.tmod n m % m = n % m := by
  have := Int.mul_tdiv_add_tmod n m
  rw [← this, Int.add_comm, Int.add_mul_emod_self_left]
  congr 1
  have e := Int.mul_tdiv_add_tmod n m
  rw [Int.add_comm] at e
  rw [e]
 rw [w64_of (by omega) (by omega), Int.tmod_eq_emod_of_nonneg (by omega), Int.add_emod_right, e1]
theorem mod_bounds (n : Int) {m : Int} (h0 : 0 < m) : 0 ≤ n % m ∧ n % m < m := ⟨Int.emod_nonneg _ (by omega), Int.emod_lt_of_pos _ h0⟩
theorem vec5 (v : Vec 5 Int) : ∃ a b c d e, v = ⟨[a, b, c, d, e], rfl⟩ := by
 obtain ⟨l, h⟩ := v
 match l, h with
 | [a, b, c, d, e], h => exact ⟨a, b, c, d, e, rfl⟩
def tx5 : List ByteArray := [ByteArray.empty, (⟨#[97]⟩ : ByteArray), (⟨#[112, 105, 101, 99, 101, 32, 49, 55]⟩ : ByteArray), (⟨#[48, 32, 48, 32, 49, 32, 48, 32, 48, 32, 48]⟩ : ByteArray), (⟨#[97, 32, 116, 101, 120, 116, 32, 111, 102, 32, 97, 32, 108, 101, 110, 103, 116, 104, 32, 116, 104, 97, 116, 32, 116, 97, 107, 101, 115, 32, 116, 104, 114, 101, 101, 32, 104, 97, 108, 118, 101, 115, 32, 111, 102, 32, 97, 32, 112, 97, 103, 101]⟩ : ByteArray)]
theorem tx5_ok {i : Int} (h0 : 0 ≤ i) (h1 : i < 5) : ∃ s, at? tx5 i = some s ∧ textB s = true := by
 have : i = 0 ∨ i = 1 ∨ i = 2 ∨ i = 3 ∨ i = 4 := by omega
 rcases this with rfl | rfl | rfl | rfl | rfl
 ·exact ⟨_, rfl, by decide +kernel⟩
 ·exact ⟨_, rfl, by decide +kernel⟩
 ·exact ⟨_, rfl, by decide +kernel⟩
 ·exact ⟨_, rfl, by decide +kernel⟩
 ·exact ⟨_, rfl, by decide +kernel⟩
theorem record_plain {k : Nat} (hk : 1000000 < k) {l : List Record} (hl : l.length ≤ 100) (hh : ∀ r ∈ l, houseOK r) (v : Vec 5 Int) :
  ∃ r, R09_record k l v = some r ∧ recB r = true ∧ (r.At.House = 0 ∨ r.At.House = 1 ∨ r.At.House = 2) ∧ (keyR r).2 = cnt keyR l (keyR r).1 := by
 obtain ⟨a, b, c, d, e, rfl⟩ := vec5 v
 have a0 : (⟨[a, b, c, d, e], rfl⟩ : Vec 5 Int).at? 0 = some a := rfl
 have a1 : (⟨[a, b, c, d, e], rfl⟩ : Vec 5 Int).at? 1 = some b := rfl
 have a2 : (⟨[a, b, c, d, e], rfl⟩ : Vec 5 Int).at? 2 = some c := rfl
 have a3 : (⟨[a, b, c, d, e], rfl⟩ : Vec 5 Int).at? 3 = some d := rfl
 have a4 : (⟨[a, b, c, d, e], rfl⟩ : Vec 5 Int).at? 4 = some e := rfl
 have m3 := mod_plain k a (m := 3) (by decide) (by decide)
 have m6 := mod_plain k b (m := 6) (by decide) (by decide)
 have m50 := mod_plain k c (m := 50) (by decide) (by decide)
 have m51 := mod_plain k d (m := 50) (by decide) (by decide)
 have m5 := mod_plain k e (m := 5) (by decide) (by decide)
 have B3 := mod_bounds a (m := 3) (by decide)
 have B6 := mod_bounds b (m := 6) (by decide)
 have B50 := mod_bounds c (m := 50) (by decide)
 have B51 := mod_bounds d (m := 50) (by decide)
 have B5 := mod_bounds e (m := 5) (by decide)
 obtain ⟨s, hs1, hs2⟩ := tx5_ok B5.1 B5.2
 have hc := cnt_le l (a % 3)
 have hhouse : a % 3 = 0 ∨ a % 3 = 1 ∨ a % 3 = 2 := by omega
 unfold R09_record
 unfold tx5 at hs1
 simp only [a0, a1, a2, a3, a4, m3, m6, m50, m51, m5, Option.bind_some, many_plain hk (show l.length ≤ 100000 by omega) hh, cntV_at l (show 0 ≤ a % 3 from B3.1) (by omega), hs1]
 have W : ∀ x lo hi : Int, lo ≤ x → x ≤ hi → within x lo hi = true := fun x lo hi h1 h2 => by
  unfold within; simp [h1, h2]
 have hgood : ∀ kk : Int, 0 < kk → kk ≤ 7 → recB (⟨(⟨a % 3, ((cnt keyR l (a % 3) : Nat) : Int)⟩ : Entry), kk, c % 50, d % 50, (⟨0, 0⟩ : Entry), s⟩ : Record) = true := fun kk h1 h2 => by
  unfold recB entryB
  simp only [W _ 0 5 (show 0 ≤ a % 3 from B3.1) (by omega), W _ 0 9999 (show (0 : Int) ≤ ((cnt keyR l (a % 3) : Nat) : Int) by omega) (by omega), W kk 0 40 (by omega) (by omega), W _ 0 100000 B50.1 (by omega), W _ 0 100000 B51.1 (by omega), hs2,
   decide_eq_false (show ¬ kk = 0 by omega), Bool.not_false, cond_true, Bool.and_self, decide_true]
 by_cases h0 : b % 6 = 0
 ·simp only [decide_eq_true h0, cond_true]
  by_cases hp : (0 : Int) < ((cnt keyR l (a % 3) : Nat) : Int)
  ·have mc := mod_plain k c (m := ((cnt keyR l (a % 3) : Nat) : Int)) hp (by omega)
   have Bc := mod_bounds c hp
   simp only [decide_eq_true hp, cond_true, mc, Option.bind_some]
   refine ⟨_, rfl, ?_, hhouse, rfl⟩
   have te : textB ByteArray.empty = true := by decide +kernel
   unfold recB entryB
   simp only [W _ 0 5 (show 0 ≤ a % 3 from B3.1) (by omega), W _ 0 9999 (show (0 : Int) ≤ ((cnt keyR l (a % 3) : Nat) : Int) by omega) (by omega), W (b % 6) 0 40 (by omega) (by omega), W 0 0 100000 (by decide) (by decide), W _ 0 100000 B51.1 (by omega), te,
    decide_eq_true h0, Bool.not_true, cond_false, Bool.and_self, decide_true, beq_self_eq_true, W _ 0 9999 Bc.1 (by omega), decide_eq_true Bc.2]
  ·simp only [decide_eq_false hp, cond_false]
   exact ⟨_, rfl, hgood 7 (by decide) (by decide), hhouse, rfl⟩
 ·simp only [decide_eq_false h0, cond_false]
  exact ⟨_, rfl, hgood _ (by omega) (by omega), hhouse, rfl⟩
def mk1 (k : Nat) (s : List Record) (v : Vec 5 Int) : List Record := s ++ [(R09_record k s v).getD recX]
where recX : Record := ⟨⟨0, 0⟩, 0, 0, 0, ⟨0, 0⟩, ByteArray.empty⟩
def recs (k : Nat) (l : List (Vec 5 Int)) : List Record := l.foldl (mk1 k) []
structure Good (s : List Record) : Prop where
 ok : ∀ r ∈ s, recB r = true
 house : ∀ r ∈ s, r.At.House = 0 ∨ r.At.House = 1 ∨ r.At.House = 2
 vl : VL keyR (fun _ => 0) s
theorem Good.hh {s : List Record} (h : Good s) : ∀ r ∈ s, houseOK r := fun r hr => recB_house (h.ok r hr)
theorem Good.nil : Good [] := ⟨by simp, by simp, trivial⟩
theorem Good.take {s : List Record} (h : Good s) (n : Nat) : Good (s.take n) := ⟨fun r hr => h.ok r (List.mem_of_mem_take hr), fun r hr => h.house r (List.mem_of_mem_take hr), VL_take keyR h.vl n⟩
theorem Good.mk1 {k : Nat} (hk : 1000000 < k) {s : List Record} (h : Good s) (hl : s.length ≤ 100) (v : Vec 5 Int) : ∃ r, R09_record k s v = some r ∧ mk1 k s v = s ++ [r] ∧ Good (s ++ [r]) := by
 obtain ⟨r, h1, h2, h3, h4⟩ := record_plain hk hl h.hh v
 refine ⟨r, h1, by unfold Go.Abs.mk1; rw [h1]; rfl, ⟨fun x hx => ?_, fun x hx => ?_, ?_⟩⟩
 ·rcases List.mem_append.1 hx with g | g
  ·exact h.ok x g
  ·rw [List.mem_singleton.1 g]; exact h2
 ·rcases List.mem_append.1 hx with g | g
  ·exact h.house x g
  ·rw [List.mem_singleton.1 g]; exact h3
 ·rw [VL_append]
  refine ⟨h.vl, ?_, trivial⟩
  rw [h4]
  exact (Int.zero_add _).symm
theorem recs_good {k : Nat} (hk : 1000000 < k) : ∀ (l : List (Vec 5 Int)) (s : List Record), Good s → s.length + l.length ≤ 100 → Good (l.foldl (mk1 k) s) ∧ (l.foldl (mk1 k) s).length = s.length + l.length ∧ (l.foldl (mk1 k) s).take s.length = s
 | [], s, h, hl => ⟨h, by simp, by simp⟩
 | v :: l, s, h, hl => by
  simp only [List.length_cons] at hl
  obtain ⟨r, h1, h2, h3⟩ := h.mk1 hk (by omega) v
  obtain ⟨g1, g2, g3⟩ := recs_good hk l (s ++ [r]) h3 (by simp; omega)
  rw [List.foldl_cons, h2]
  refine ⟨g1, by rw [g2]; simp; omega, ?_⟩
  have := congrArg (List.take s.length) g3
  rw [List.take_take] at this
  simpa using this
theorem recs_take {k : Nat} (hk : 1000000 < k) {l : List (Vec 5 Int)} (hl : l.length ≤ 100) (n : Nat) : recs k (l.take n) = (recs k l).take n := by
 by_cases hn : n ≤ l.length
 ·obtain ⟨a1, a2, a3⟩ := recs_good hk (l.take n) [] Good.nil (by simp; omega)
  obtain ⟨b1, b2, b3⟩ := recs_good hk (l.drop n) (recs k (l.take n)) a1 (by rw [show (recs k (l.take n)).length = _ from a2]; simp; omega)
  have hlen : (recs k (l.take n)).length = n := by
   have : (recs k (l.take n)).length = _ := a2
   rw [this]; simp; omega
  have e : recs k l = (l.drop n).foldl (mk1 k) (recs k (l.take n)) := by
   unfold recs
   rw [← List.foldl_append, List.take_append_drop]
  rw [hlen] at b3
  rw [e, b3]
 ·have hlen : (recs k l).length = l.length := by
   obtain ⟨a1, a2, a3⟩ := recs_good hk l [] Good.nil (by simpa using hl)
   have : (recs k l).length = _ := a2
   rw [this]; simp
  rw [List.take_of_length_le (show l.length ≤ n by omega), List.take_of_length_le (by omega)]
theorem records_plain {k : Nat} (hk : 1000000 < k) (l : List (Vec 5 Int)) {n : Nat} (hn : n ≤ 60) : R09_Records k l (n : Int) = some (recs k (l.take n)) := by
 unfold R09_Records
 have key : ∀ (d i m : Nat) (s : List Record), i + d = min n l.length → d < m → s = recs k (l.take i) → Good s → s.length = i →
   whl (R09_Records.b0 k l (n : Int)) m ((i : Int), s) = some (.brk (recs k (l.take n))) := by
  intro d
  induction d with
  | zero =>
   intro i m s h1 h2 h3 h4 h5
   obtain ⟨m, rfl⟩ : ∃ q, m = q + 1 := ⟨m - 1, by omega⟩
   have hb : R09_Records.b0 k l (n : Int) ((i : Int), s) = some (.brk s) := by
    unfold R09_Records.b0
    by_cases h : (i : Int) < (l.length : Int)
    ·simp only [decide_eq_true h, cond_true, decide_eq_false (show ¬ (i : Int) < (n : Int) by omega), cond_false]
    ·simp only [decide_eq_false h, cond_false]
   simp only [whl, hb]
   rw [h3]
   by_cases h : n ≤ l.length
   ·rw [show i = n by omega]
   ·rw [List.take_of_length_le (show l.length ≤ i by omega), List.take_of_length_le (show l.length ≤ n by omega)]
  | succ d ih =>
   intro i m s h1 h2 h3 h4 h5
   obtain ⟨m, rfl⟩ : ∃ q, m = q + 1 := ⟨m - 1, by omega⟩
   have hi : i < l.length := by omega
   have hin : i < n := by omega
   obtain ⟨v, hv⟩ : ∃ v, l[i]? = some v := ⟨_, List.getElem?_eq_getElem hi⟩
   obtain ⟨r, g1, g2, g3⟩ := h4.mk1 hk (by omega) v
   have hw : w64 ((i : Int) + 1) = ((i + 1 : Nat) : Int) := by rw [w64_of (by omega) (by omega)]; omega
   have hb : R09_Records.b0 k l (n : Int) ((i : Int), s) = some (.next (((i + 1 : Nat) : Int), s ++ [r])) := by
    unfold R09_Records.b0
    simp only [decide_eq_true (show (i : Int) < (l.length : Int) by omega), decide_eq_true (show (i : Int) < (n : Int) by omega), cond_true, at_of hv, Option.bind_some, g1, push_of (show (s.length + 1) * 72 ≤ 140737488355328 by omega) (show s.length + 1 < 4611686018427387904 by omega), hw]
   simp only [whl, hb]
   refine ih (i + 1) m (s ++ [r]) (by omega) (by omega) ?_ g3 (by simp; omega)
   rw [take_at hv]
   unfold recs
   rw [List.foldl_append]
   show _ = Go.Abs.mk1 k (recs k (l.take i)) v
   rw [← h3, g2]
 have := key (min n l.length) 0 k [] (by omega) (by omega) rfl Good.nil rfl
 rw [Int.natCast_zero] at this
 rw [this]; rfl
theorem bookR_plain {k : Nat} (hk : 1000000 < k) {l : List Record} (hg : Good l) (hl : l.length ≤ 60) : R09_book k l = some ⟨bk keyR [] l⟩ := by
 unfold R09_book
 have h := whl_fold (l := l) (body := R09_book.b0 k l) (fun i s => (s, i)) (insE keyR) (fun i s => BI keyR (l.take i) s) (by omega) (k := k) (by omega) (s0 := []) (BI.nil keyR) (fun i r s hx hs => by
  have hi := (List.getElem?_eq_some_iff.1 hx).1
  have hno : (keyR r).2 = cnt keyR (l.take i) (keyR r).1 := by
   have := (VL_at keyR).1 hg.vl i r hx
   rw [this]; exact Int.zero_add _
  have hsl := hs.len
  rw [List.length_take] at hsl
  have hh : ∀ x ∈ s, houseOK x := fun x hx => hg.hh x (List.mem_of_mem_take ((hs.mem x).1 hx))
  have hadd : addL s r = (insE keyR s r, 0) := by
   unfold addL
   rw [findK_no keyR (hs.no keyR hno)]
   simp only
   have e : r.At.No = ((cnt keyR s r.At.House : Nat) : Int) := by
    rw [hs.num]; exact hno
   rw [if_neg (by omega), if_neg (by omega)]
  refine ⟨?_, ?_⟩
  ·unfold R09_book.b0
   simp only [decide_eq_true (show (i : Int) < (l.length : Int) by omega), cond_true, at_of hx, Option.bind_some, addedR_plain hk hs.val.1 (show s.length ≤ 900 by omega) hh (hg.hh r (List.mem_of_getElem? hx)), hadd]
  ·rw [take_at hx]
   exact hs.step keyR hno) (fun s hs => by
  unfold R09_book.b0
  simp only [(by simp : decide ((l.length : Int) < (l.length : Int)) = false), cond_false])
 rw [h.1]
 rfl
theorem book_plain {k : Nat} (hk : 1000000 < k) (l : List (Vec 5 Int)) {n : Nat} (hn : n ≤ 60) : R09_Book k l (n : Int) = some ⟨bk keyR [] (recs k (l.take n))⟩ := by
 have hg := recs_good hk (l.take n) [] Good.nil (by simp; omega)
 unfold R09_Book
 rw [records_plain hk l hn]
 simp only [Option.bind_some]
 rw [bookR_plain (l := recs k (l.take n)) hk hg.1 (by rw [show (recs k (l.take n)).length = _ from hg.2.1]; simp; omega)]
 rfl
end Go.Abs
namespace Go.Abs
open Go Go.Proofs
set_option maxRecDepth 20000
set_option linter.unusedVariables false
set_option linter.unusedSimpArgs false
theorem within_plain {k : Nat} (hk : 1000000 < k) {a b : List Record} (la : a.length ≤ 1000) (lb : b.length ≤ 1000) (h : ∀ x ∈ a, x ∈ b) : L09_within k ⟨a⟩ ⟨b⟩ = some true := by
 unfold L09_within
 have hin : ∀ (i : Nat) x, a[i]? = some x → whl (L09_within.b1 k ⟨a⟩ ⟨b⟩ (i : Int)) k (false, 0) = some (.brk true) := fun i x hx => by
  have hf := whl_fold (l := b) (body := L09_within.b1 k ⟨a⟩ ⟨b⟩ (i : Int)) (fun j s => (s, j)) (fun s y => s || recEq x y) (fun j s => s = (b.take j).any (recEq x)) (by omega) (k := k) (by omega) (s0 := false) (by simp) (fun j y s hy hs => by
   have hj := (List.getElem?_eq_some_iff.1 hy).1
   refine ⟨?_, ?_⟩
   ·unfold L09_within.b1 recEq
    simp only [decide_eq_true (show (j : Int) < (b.length : Int) by omega), cond_true, at_of hx, at_of hy, Option.bind_some]
    cases s <;> rfl
   ·rw [take_at hy, List.any_append, hs]; simp) (fun s hs => by
   unfold L09_within.b1
   simp only [(by simp : decide ((b.length : Int) < (b.length : Int)) = false), cond_false])
  have e := hf.2
  rw [List.take_length] at e
  have : b.any (recEq x) = true := List.any_eq_true.2 ⟨x, h x (List.mem_of_getElem? hx), recEq_self x⟩
  rw [this] at e
  rw [hf.1, e]
 have hw := whl_allL (l := a) (body := L09_within.b0 k ⟨a⟩ ⟨b⟩) (p := fun _ => true) (c := false) (by omega) (k := k) (by omega) (fun i x hx => by
  have hi := (List.getElem?_eq_some_iff.1 hx).1
  unfold L09_within.b0
  simp only [decide_eq_true (show (i : Int) < (a.length : Int) by omega), cond_true, hin i x hx, Option.bind_some, Bool.not_true, cond_false]) (by
  unfold L09_within.b0
  simp only [(by simp : decide ((a.length : Int) < (a.length : Int)) = false), cond_false])
 rw [hw]
 have : a.all (fun _ => true) = true := by simp
 rw [this]
 rfl
theorem add_house {k : Nat} (hk : 1000000 < k) {all : List Record} (hg : Good all) (hl : all.length ≤ 50) (h : Int) {done out : List Record} (hJ : BI keyR done out) (hok : ∀ r ∈ done, recB r = true) (hdl : done.length + (all.filter fun x => decide ((keyR x).1 = h)).length ≤ 50) (hz : cnt keyR done h = 0) :
  whl (L09_BookSums.b1 k all h) k (⟨out⟩, 0) = some (.brk ⟨bk keyR out (all.filter fun x => decide ((keyR x).1 = h))⟩) ∧ BI keyR (done ++ all.filter fun x => decide ((keyR x).1 = h)) (bk keyR out (all.filter fun x => decide ((keyR x).1 = h))) := by
 have hf := whl_foldML (l := all) (body := L09_BookSums.b1 k all h) (fun j (s : List Record) => ((⟨s⟩ : Book), j)) (fun s => (⟨s⟩ : Book)) (fun s r => some (if (keyR r).1 = h then insE keyR s r else s)) false (fun j s => BI keyR (done ++ (all.take j).filter fun x => decide ((keyR x).1 = h)) s ∧ s = bk keyR out ((all.take j).filter fun x => decide ((keyR x).1 = h))) (by omega) (k := k) (by omega) (s0 := out) ⟨by simpa using hJ, rfl⟩ (fun j r s hr hs => by
  have hj := (List.getElem?_eq_some_iff.1 hr).1
  obtain ⟨hs1, hs2⟩ := hs
  have hmem := List.mem_of_getElem? hr
  have hfl : ((all.take j).filter fun x => decide ((keyR x).1 = h)).length ≤ (all.filter fun x => decide ((keyR x).1 = h)).length := by
   have e : all.filter (fun x => decide ((keyR x).1 = h)) = (all.take j).filter (fun x => decide ((keyR x).1 = h)) ++ (all.drop j).filter (fun x => decide ((keyR x).1 = h)) := by
    rw [← List.filter_append, List.take_append_drop]
   rw [e, List.length_append]; omega
  have hlen := hs1.len
  rw [List.length_append] at hlen
  by_cases e : (keyR r).1 = h
  ·have hno : (keyR r).2 = cnt keyR (done ++ (all.take j).filter fun x => decide ((keyR x).1 = h)) (keyR r).1 := by
    have h1 := (VL_at keyR).1 hg.vl j r hr
    have h2 : cnt keyR ((all.take j).filter fun x => decide ((keyR x).1 = h)) h = cnt keyR (all.take j) h := by
     unfold cnt
     rw [List.countP_filter]
     congr 1
     funext x
     simp
    rw [cnt_append, e, hz, h2, h1, e]
    omega
   have hh : ∀ x ∈ s, houseOK x := fun x hx => by
    rcases List.mem_append.1 ((hs1.mem x).1 hx) with g | g
    ·exact recB_house (hok x g)
    ·exact recB_house (hg.ok x (List.mem_of_mem_take (List.mem_filter.1 g).1))
   have hbv : bookV s = true := bookV_iff.2 ⟨by omega, fun x hx => by
    rcases List.mem_append.1 ((hs1.mem x).1 hx) with g | g
    ·exact hok x g
    ·exact hg.ok x (List.mem_of_mem_take (List.mem_filter.1 g).1), hs1.val⟩
   have hadd : addL s r = (insE keyR s r, 0) := by
    unfold addL
    rw [findK_no keyR (hs1.no keyR hno)]
    simp only
    have e : r.At.No = ((cnt keyR s r.At.House : Nat) : Int) := by
     rw [hs1.num]; exact hno
    rw [if_neg (by omega), if_neg (by omega)]
   have hAdd : book_Add k ⟨s⟩ r = some (⟨insE keyR s r⟩, 0) := by
    unfold book_Add
    rw [checkBook_plain hk, hbv]
    simp only [Option.bind_some, cond_true, decide_true, Bool.not_true, cond_false]
    rw [added_plain hk (b := ⟨s⟩) hs1.val.1 (show s.length ≤ 900 by omega) hh, hg.ok r hmem, hadd]
    rfl
   refine ⟨?_, fun s' hs' => ?_⟩
   ·have e' : r.At.House = h := e
    unfold L09_BookSums.b1
    simp only [decide_eq_true (show (j : Int) < (all.length : Int) by omega), cond_true, at_of hr, Option.bind_some, decide_eq_true e', Bool.not_true, cond_false, hAdd, decide_true, if_pos e]
   ·rw [if_pos e] at hs'
    obtain rfl := Option.some.inj hs'
    have ef : (all.take (j + 1)).filter (fun x => decide ((keyR x).1 = h)) = (all.take j).filter (fun x => decide ((keyR x).1 = h)) ++ [r] := by
     rw [take_at hr, List.filter_append]; simp [e]
    rw [ef]
    refine ⟨?_, ?_⟩
    ·rw [← List.append_assoc]; exact hs1.step keyR hno
    ·unfold bk at hs2 ⊢
     rw [List.foldl_append, ← hs2]; rfl
  ·refine ⟨?_, fun s' hs' => ?_⟩
   ·have e' : ¬ r.At.House = h := e
    unfold L09_BookSums.b1
    simp only [decide_eq_true (show (j : Int) < (all.length : Int) by omega), cond_true, at_of hr, Option.bind_some, decide_eq_false e', Bool.not_false, if_neg e]
   ·rw [if_neg e] at hs'
    obtain rfl := Option.some.inj hs'
    have ef : (all.take (j + 1)).filter (fun x => decide ((keyR x).1 = h)) = (all.take j).filter (fun x => decide ((keyR x).1 = h)) := by
     rw [take_at hr, List.filter_append]; simp [e]
    rw [ef]
    exact ⟨hs1, hs2⟩) (fun s hs => by
  unfold L09_BookSums.b1
  simp only [(by simp : decide ((all.length : Int) < (all.length : Int)) = false), cond_false])
 have hex : ∀ (L s : List Record), ∃ o, L.foldlM (fun (s : List Record) r => some (if (keyR r).1 = h then insE keyR s r else s)) s = some o := by
  intro L
  induction L with
  | nil => intro s; exact ⟨s, rfl⟩
  | cons x L ih => intro s; exact ih _
 obtain ⟨o, ho⟩ := hex all out
 have h1 := hf.1
 have h2 := hf.2 o ho
 rw [ho] at h1
 rw [List.take_length] at h2
 rw [h1, ← h2.2]
 exact ⟨rfl, h2.1⟩
theorem bookSums_plain (l : List (Vec 5 Int)) (n m : Int) : L09_BookSums 18446744073709551616 l n m = some true := by
 have hk : 1000000 < 18446744073709551616 := by decide
 have hk7 : 10000000 < 18446744073709551616 := by decide
 obtain ⟨q1, q2, _⟩ := recs_good hk (l.take 20) [] Good.nil (by simp; omega)
 have hR : recs 18446744073709551616 (l.take 20) = List.foldl (mk1 18446744073709551616) [] (l.take 20) := rfl
 rw [← hR] at q1 q2
 have N := mod_bounds n (m := 21) (by decide)
 have M := mod_bounds m (m := 21) (by decide)
 obtain ⟨i, hi⟩ := Int.eq_ofNat_of_zero_le N.1
 obtain ⟨j, hj⟩ := Int.eq_ofNat_of_zero_le M.1
 have tk : ∀ q : Nat, q ≤ 20 → recs 18446744073709551616 (l.take q) = (recs 18446744073709551616 (l.take 20)).take q := fun q hq => by
  rw [← recs_take hk (l := l.take 20) (by simp; omega) q, List.take_take, Nat.min_eq_left hq]
 unfold L09_BookSums
 rw [sane_true, show (20 : Int) = ((20 : Nat) : Int) from rfl, records_plain hk l (by decide)]
 simp only [Option.bind_some, mod_plain _ n (m := 21) (by decide) (by decide), mod_plain _ m (m := 21) (by decide) (by decide), hi, hj, book_plain hk l (show i ≤ 60 by omega), book_plain hk l (show j ≤ 60 by omega), book_plain hk l (show 20 ≤ 60 by decide)]
 rw [tk i (by omega), tk j (by omega)]
 generalize recs 18446744073709551616 (l.take 20) = R at q1 q2
 have hRl : R.length ≤ 20 := by rw [q2]; simp; omega
 have ba := BI.of keyR (q1.take i).vl
 have bb := BI.of keyR (q1.take j).vl
 have bR := BI.of keyR q1.vl
 have ma : ∀ x ∈ bk keyR [] (R.take i), x ∈ R := fun x hx => List.mem_of_mem_take ((ba.mem x).1 hx)
 have mb : ∀ x ∈ bk keyR [] (R.take j), x ∈ R := fun x hx => List.mem_of_mem_take ((bb.mem x).1 hx)
 have la := ba.len
 have lb := bb.len
 rw [List.length_take] at la lb
 have V : ∀ s : List Record, (∀ x ∈ s, x ∈ R) → Val keyR s → s.length ≤ 20 → bookV s = true := fun s h1 h2 h3 => bookV_iff.2 ⟨by omega, fun x hx => q1.ok x (h1 x hx), h2⟩
 have hsub : (∀ x ∈ bk keyR [] (R.take i), x ∈ bk keyR [] (R.take j)) ∧ (bk keyR [] (R.take i)).length ≤ (bk keyR [] (R.take j)).length ∨ (∀ x ∈ bk keyR [] (R.take j), x ∈ bk keyR [] (R.take i)) ∧ (bk keyR [] (R.take j)).length ≤ (bk keyR [] (R.take i)).length := by
  rcases Nat.le_total i j with h | h
  ·left
   refine ⟨fun x hx => (bb.mem x).2 ?_, by omega⟩
   have := (ba.mem x).1 hx
   rw [← Nat.min_eq_left h, ← List.take_take] at this
   exact List.mem_of_mem_take this
  ·right
   refine ⟨fun x hx => (ba.mem x).2 ?_, by omega⟩
   have := (bb.mem x).1 hx
   rw [← Nat.min_eq_left h, ← List.take_take] at this
   exact List.mem_of_mem_take this
 generalize bk keyR [] (R.take i) = a at ba ma la hsub
 generalize bk keyR [] (R.take j) = b at bb mb lb hsub
 obtain ⟨X, hX⟩ : ∃ X : List Record, (X = a ∨ X = b) ∧ Val keyR X ∧ (∀ x ∈ a, x ∈ X) ∧ (∀ x ∈ b, x ∈ X) ∧ (X.length : Int) = max (a.length : Int) (b.length : Int) ∧ (∀ x ∈ X, x ∈ R) ∧ X.length ≤ 20 := by
  rcases hsub with ⟨h1, h2⟩ | ⟨h1, h2⟩
  ·exact ⟨b, .inr rfl, bb.val, h1, fun x hx => hx, by omega, mb, by omega⟩
  ·exact ⟨a, .inl rfl, ba.val, fun x hx => hx, h1, by omega, ma, by omega⟩
 obtain ⟨hX0, hX1, hX2, hX3, hX4, hX5, hX6⟩ := hX
 have hjoin : ∀ p q : List Record, Val keyR p → Val keyR q → (∀ x ∈ p, x ∈ R) → (∀ x ∈ q, x ∈ R) → p.length ≤ 20 → q.length ≤ 20 → (∀ x, x ∈ X ↔ x ∈ p ∨ x ∈ q) → book_Join 18446744073709551616 ⟨p⟩ ⟨q⟩ = some (⟨X⟩, 0) := fun p q vp vq mp mq lp lq hx => by
  obtain ⟨o, h1, h2, h3⟩ := join_bk keyR q1.vl vp vq mp mq
  have e : o = X := srt_ext keyR h2.1 hX1.1 fun x => by rw [h3, hx]
  subst e
  rw [join_plain hk]
  unfold joinB
  rw [V p mp vp lp, V q mq vq lq, h1]
  simp only [Bool.and_self, cond_true, decide_eq_false (show ¬ (60 : Int) < (o.length : Int) by omega), cond_false]
 have j1 := hjoin a b ba.val bb.val ma mb (by omega) (by omega) (fun x => by
  rcases hX0 with rfl | rfl
  ·exact ⟨fun h => .inl h, fun h => h.elim id (hX3 x)⟩
  ·exact ⟨fun h => .inr h, fun h => h.elim (hX2 x) id⟩)
 have j2 := hjoin b a bb.val ba.val mb ma (by omega) (by omega) (fun x => by
  rcases hX0 with rfl | rfl
  ·exact ⟨fun h => .inr h, fun h => h.elim (hX3 x) id⟩
  ·exact ⟨fun h => .inl h, fun h => h.elim id (hX2 x)⟩)
 have j3 := hjoin X a hX1 ba.val hX5 ma hX6 (by omega) (fun x => ⟨fun h => .inl h, fun h => h.elim id (hX2 x)⟩)
 have hXX := sameBook_self (k := 18446744073709551616) hk7 (a := ⟨X⟩) (show X.length ≤ 1000 by omega)
 have wa := within_plain hk (a := a) (b := X) (by omega) (by omega) hX2
 have wb := within_plain hk (a := b) (b := X) (by omega) (by omega) hX3
 simp only [j1, j2, j3, Option.bind_some, cond_true, decide_true, hXX, wa, wb, hX4, Bool.not_true, cond_false]
 have hfl : ∀ h : Int, (R.filter fun x => decide ((keyR x).1 = h)).length ≤ R.length := fun h => List.length_filter_le _ _
 have hbyl : (byH keyR R).length = R.length := by
  have h1 := (BI.of keyR (byH_val keyR q1.vl)).len
  rw [byH_bk keyR q1.vl q1.house] at h1
  rw [← h1, bR.len]
 unfold byH at hbyl
 rw [List.length_append, List.length_append] at hbyl
 obtain ⟨s2, b2⟩ := add_house hk q1 (by omega) 2 (BI.nil keyR) (by simp) (by simp; omega) rfl
 rw [List.nil_append] at b2
 obtain ⟨s1, b1⟩ := add_house hk q1 (by omega) 1 b2 (fun r hr => q1.ok r (List.mem_filter.1 hr).1) (by omega) (cnt_filter keyR 2 1 (by decide) R)
 obtain ⟨s0, b0⟩ := add_house hk q1 (by omega) 0 b1 (fun r hr => by
  rcases List.mem_append.1 hr with g | g <;> exact q1.ok r (List.mem_filter.1 g).1) (by rw [List.length_append]; omega) (by rw [cnt_append, cnt_filter keyR 2 0 (by decide), cnt_filter keyR 1 0 (by decide)])
 have hend : bk keyR (bk keyR (bk keyR [] (R.filter fun x => decide ((keyR x).1 = 2))) (R.filter fun x => decide ((keyR x).1 = 1))) (R.filter fun x => decide ((keyR x).1 = 0)) = bk keyR [] R := by
  rw [← byH_bk keyR q1.vl q1.house]
  unfold byH bk
  rw [List.foldl_append, List.foldl_append]
 have hrest : ∀ q : Nat, whl (L09_BookSums.b0 18446744073709551616 R) (q + 4) ((⟨[]⟩ : Book), 2) = some (.brk ⟨bk keyR [] R⟩) := fun q => by
  have e2 : L09_BookSums.b0 18446744073709551616 R ((⟨[]⟩ : Book), 2) = some (.next (⟨bk keyR [] (R.filter fun x => decide ((keyR x).1 = 2))⟩, 1)) := by
   unfold L09_BookSums.b0
   simp only [s2, Option.bind_some]; rfl
  have e1 : L09_BookSums.b0 18446744073709551616 R ((⟨bk keyR [] (R.filter fun x => decide ((keyR x).1 = 2))⟩ : Book), 1) = some (.next (⟨bk keyR (bk keyR [] (R.filter fun x => decide ((keyR x).1 = 2))) (R.filter fun x => decide ((keyR x).1 = 1))⟩, 0)) := by
   unfold L09_BookSums.b0
   simp only [s1, Option.bind_some]; rfl
  have e0 : L09_BookSums.b0 18446744073709551616 R ((⟨bk keyR (bk keyR [] (R.filter fun x => decide ((keyR x).1 = 2))) (R.filter fun x => decide ((keyR x).1 = 1))⟩ : Book), 0) = some (.next (⟨bk keyR [] R⟩, -1)) := by
   unfold L09_BookSums.b0
   simp only [s0, Option.bind_some, hend]; rfl
  have em : L09_BookSums.b0 18446744073709551616 R ((⟨bk keyR [] R⟩ : Book), -1) = some (.brk ⟨bk keyR [] R⟩) := by
   unfold L09_BookSums.b0; rfl
  simp only [whl, e2, e1, e0, em]
 rw [show (18446744073709551616 : Nat) = 18446744073709551612 + 4 from rfl] at *
 rw [hrest 18446744073709551612]
 have lR := bR.len
 have hRR := sameBook_self (k := 18446744073709551612 + 4) hk7 (a := ⟨bk keyR [] R⟩) (show (bk keyR [] R).length ≤ 1000 by omega)
 have hck := checkBook_plain hk ⟨bk keyR [] R⟩
 rw [V _ (fun x hx => (bR.mem x).1 hx) bR.val (by omega)] at hck
 have e20 : R.take 20 = R := List.take_of_length_le hRl
 simp only [Option.bind_some, hRR, cond_true, hck, decide_true]
end Go.Abs
namespace Go.Proofs.Ytpgccpdlilnakaa.bookSums
open Go.Abs
theorem plain (a0 : (List (Vec 5 Int))) (a1 : Int) (a2 : Int) : (fun l => l.length ≤ Go.maxLen ∧ l.length * 40 ≤ qB ∧ ∀ a ∈ l, (fun x : (Vec 5 Int) => ∀ a ∈ x.l, i64ok a) a) a0 → i64ok a1 → i64ok a2 → ∃ k, L09_BookSums k a0 a1 a2 = some true := by
 intro q0 q1 q2; exact ⟨_, bookSums_plain a0 a1 a2⟩
end Go.Proofs.Ytpgccpdlilnakaa.bookSums
namespace Go.Proofs.Ytpgccpdlilnakaa.bookSums
open Go.ChangeShapes Go.WideShapes Go.ChangeAt Go.RowKit Go.Abs
set_option maxRecDepth 100000
theorem own : ownKnob Try.prog.godebug = none := by kernel_rfl
theorem contract (H : Type) (enc : TypeId × Value → H) (W : World) (base : Nat) (args : Array Value) (ds gs : List (DataW H)) (before : List MemPlace)
  (hval : ∀ (j : Nat) t v, Try.f10.params[j]? = some t → args[j]? = some v → Value.okWide Try.prog W .any base t v)
  (hW : DataW.Whole enc Try.prog Try.f10.params.toList Rows.bookSumsSpec.vars false W args.toList ds gs before) (hsz0 : (DataW.weightsEach Try.prog (Try.f10.params.toList ++ Rows.bookSumsSpec.plain.varTypes Try.prog) (ds ++ gs)).all (· ≤ reachBytes) = true) :
  Calls Try.prog 10 args W fun e W' => ∃ v, e = .returned v ∧ Rows.bookSumsSpec.post enc Try.prog Try.f10 false true false false W args v W' := by
 have hW' := hW
 obtain ⟨p, q, hA0, hV, rfl, hfz, hnd⟩ := hW
 have hA : DataW.TrodAll enc Try.prog W 0 (fun _ => true) true Try.f10.params.toList args.toList ds p := hA0
 rw [Try.params10] at hA hval
 obtain ⟨v0, vs0, d0, ds0, p0, q0, hargs, rfl, rfl, h0, r0⟩ := trodAll_cons hA
 obtain ⟨v1, vs1, d1, ds1, p1, q1, rfl, rfl, rfl, h1, r1⟩ := trodAll_cons r0
 obtain ⟨v2, vs2, d2, ds2, p2, q2, rfl, rfl, rfl, h2, r2⟩ := trodAll_cons r1
 obtain ⟨rfl, rfl, rfl⟩ := trodAll_nil r2
 have hsz : ∀ (j : Nat) t d, Try.f10.params.toList[j]? = some t → [d0, d1, d2][j]? = some d → ∀ n ∈ d.weights Try.prog t, n ≤ reachBytes := weights_of (by rw [Try.params10]; rfl) hsz0
 rw [Try.params10] at hsz
 obtain rfl : args = #[v0, v1, v2] := by cases args; simp_all
 obtain ⟨a0, Q0, V0⟩ := arg_one reads_68 (by have h := hval 0 68 v0 rfl rfl; unfold Value.okWide at h; rw [Try.underlying68] at h; unfold Cell.okWide Cell.ok at h; rw [Try.underlying68] at h; cases v0 <;> first | rfl | (simp at h; done)) (fun l => AV.sl 5 (List.map (Vec.c (n := 5) eI) l)) (fun _ => rfl) h0 (hsz 0 68 d0 rfl rfl)
 obtain ⟨a1, Q1, V1⟩ := arg_one reads_3 (by have h := hval 1 3 v1 rfl rfl; unfold Value.okWide at h; rw [Try.underlying3] at h; unfold Cell.okWide Cell.ok at h; rw [Try.underlying3] at h; cases v1 <;> first | rfl | (simp at h; done)) (fun x => AV.int .i64 x) (fun _ => rfl) h1 (hsz 1 3 d1 rfl rfl)
 obtain ⟨a2, Q2, V2⟩ := arg_one reads_3 (by have h := hval 2 3 v2 rfl rfl; unfold Value.okWide at h; rw [Try.underlying3] at h; unfold Cell.okWide Cell.ok at h; rw [Try.underlying3] at h; cases v2 <;> first | rfl | (simp at h; done)) (fun x => AV.int .i64 x) (fun _ => rfl) h2 (hsz 2 3 d2 rfl rfl)
 obtain ⟨k, hk⟩ := plain a0 a1 a2 Q0 Q1 Q2
 have hv : VRs (fmAll W) [] [.sl 5 (List.map (Vec.c (n := 5) eI) a0), .int .i64 a1, .int .i64 a2] [v0, v1, v2] := ⟨rfl, fun i x v h1 h2 => by
  match i with
  | 0 => cases h1; cases h2; exact V0
  | 1 => cases h1; cases h2; exact V1
  | 2 => cases h1; cases h2; exact V2
  | i + 3 => simp at h1⟩
 refine Calls.mono ((L09_BookSums_ok k a0 a1 a2 true hk).2 (fmAll W) W _ (fun _ _ _ h => h) hv) ?_
 rintro e W1 ⟨v, y, fm1, rfl, rfl, _, hvr, _, hB⟩
 cases hvr
 exact ⟨_, rfl, law_post (t := 4) (by kernel_rfl) (by kernel_rfl) (by kernel_rfl) hW' rfl hB (by rw [Try.params10]; decide +kernel) rfl Try.underlying4 (by obtain ⟨rfl, _⟩ := trodVars_none hV; rfl)⟩
theorem lifted (os : Os) (started : os.Started) (H : Type) (enc : TypeId × Value → H) :
  ReturnsInHanded {} Try.checked os 10 .any (Rows.bookSumsSpec.pre6 enc Try.prog Try.f10 Rows.bookSumsRow.domain false) (Rows.bookSumsSpec.post enc Try.prog Try.f10 false true false false) := by
 refine returnsInHanded_of_change_sized (C := Try.checked) own started (by kernel_rfl) Try.func10
  (ChangeSpec.witness6 (enc := enc) (C := Try.checked) false ⟨#[], #[.slice none 0 0, .int .i64 0, .int .i64 0], []⟩ 8 (by kernel_rfl) (by kernel_rfl) (by kernel_rfl) (by kernel_rfl)) ?_
 intro W base args ds gs before hval0 hW hcnd hsz _
 exact contract H enc W base args ds gs before hval0 hW hsz
theorem over : Rows.bookSumsRow.holds Try.pinned (OpenSpec.ofChange Rows.bookSumsSpec) :=
 OpenClaim.holds_of_wide 10 Try.f10 rfl rfl rfl rfl rfl rfl rfl ⟨rfl, rfl, rfl, rfl, rfl⟩ rfl rfl rfl rfl rfl (by kernel_rfl) Try.func10 (by kernel_rfl)
  (of_decide_eq_true (by kernel_rfl)) (by unfold Func.isWrapper; first | (rw [if_pos (by decide +kernel)]; kernel_rfl) | (rw [if_neg (by decide +kernel)]; exact ⟨rfl, rfl⟩))
  (fun os started H enc _ => lifted os started H enc)
theorem proved : Rows.BookSumsSaid := over
end Go.Proofs.Ytpgccpdlilnakaa.bookSums
