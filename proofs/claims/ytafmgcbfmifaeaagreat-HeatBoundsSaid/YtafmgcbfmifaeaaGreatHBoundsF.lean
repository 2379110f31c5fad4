/-
  Part 6 of the proof: a machine over named blocks, what each function computes, and what follows. No condition.
-/
import Derived.Test.YtafmgcbfmifaeaaGreatRows
import Derived.WalkKit
import Derived.ProofKit
import Derived.OpenShut
import Derived.Test.YtafmgcbfmifaeaaGreatHBoundsE
set_option linter.unusedVariables false
set_option linter.unusedSimpArgs false
set_option linter.all false
set_option maxRecDepth 20000
set_option maxHeartbeats 8000000
namespace Go.Abs
open Go.Proofs
def F28.c : SC :=
 (.seq
 (.reg [oq 4 (.box 27 (.tmp 0)) 0 [0],
 oq 7 (.box 57 (.tmp 3)) 0 [3],
 sn 8 0 33 [8]])
 (.seq
 (.reg [ld 14 27 4 [],
 mv 15 1 3 [],
 cf2 16 22 14 15 27 3 52 [14, 15],
 mv 13 16 52 [16],
 xt 17 13 0 30 [],
 xt 18 13 1 33 [13],
 oq 9 (.alloc 30) 0 [],
 ⟨none, .store 30 (.tmp 9) (.tmp 17), 0, none, [17]⟩,
 sg 10 18 33 [18]])
 (.seq
 (.seq
 (.reg [mv 19 10 33 [],
 bn 20 .neq 33 19 0 33 4 [19]])
 (.cond (.tmp 20)
 (.seq
 (.reg [mv 21 10 33 [10],
 sg 8 21 33 [21]])
 .ret)
 .skip))
 (.seq
 (.reg [fa 22 30 9 0 [],
 ld 23 3 22 [22],
 oq 24 (.build 114 #[(0, .const (.int .i64 0)), (1, .tmp 23)]) 114 [23],
 oq 11 (.alloc 114) 0 [],
 ⟨none, .store 114 (.tmp 11) (.tmp 24), 0, none, [24]⟩])
 (.seq
 (.seq
 (.reg [mv 25 2 4 [2]])
 (.cond (.tmp 25)
 (.reg [fa 26 30 9 1 [9],
 ld 27 3 26 [26],
 oq 28 (.build 114 #[(0, .const (.int .i64 1)), (1, .tmp 27)]) 114 [27],
 ⟨none, .store 114 (.tmp 11) (.tmp 28), 0, none, [28]⟩])
 .skip))
 (.seq
 (.reg [ld 29 27 4 [4],
 mv 30 1 3 [1],
 ld 31 114 11 [11],
 ld 32 57 7 [7],
 oq 33 (.call ⟨.value (.func 86), #[.tmp 29, .tmp 30, .tmp 31, .tmp 32], #[27, 3, 114, 57]⟩) 33 [29, 30, 31, 32],
 sg 12 33 33 [33]])
 (.seq
 (.reg [mv 34 12 33 [12],
 sg 8 34 33 [34]])
 .ret)))))))
theorem F28.rs : Tryz.f28.results.toList = [.tmp 8] := rfl
def R04_Proves (k : Nat) (f0 : Firing) (place1 : Int) (high2 : Bool) (p3 : HeatProof) : Option (Int) :=
 (R04_Bound k f0 place1).bind fun x1 =>
 bif (!decide (x1.2 = (0 : Int))) then
  some x1.2
 else
  bif high2 then
   (R04_CheckProof k f0 place1 (⟨1, x1.1.Hi⟩ : (A2 Int)) p3).bind fun x4 =>
   some x4
  else
   (R04_CheckProof k f0 place1 (⟨0, x1.1.Lo⟩ : (A2 Int)) p3).bind fun x5 =>
   some x5
theorem R04_Proves_ok (k : Nat) (f0 : Firing) (place1 : Int) (high2 : Bool) (p3 : HeatProof) (r : Int) (h0 : R04_Proves k f0 place1 high2 p3 = some r) : PCall Tryz.prog 28 [.agg (Firing.c f0), .int .i64 place1, .bool high2, .agg (HeatProof.c p3)] (fun y => y = .int .i64 r) := by
 refine PB (fn := Tryz.f28) (sc := F28.c) ?_
 refine rS ?_
 simp only [R04_Proves] at h0
 try simp only [F28.c, go_sem]
 obtain ⟨x1, yx1, h0⟩ := bs h0
 refine zc0 (R04_Bound_ok k _ _ _ yx1) ?_ (by first | rfl | simp [AV.refsL, AV.refs, AV.scal, AV.leaf]) ?_
 try simp only [go_sem]
 try simp only [go_sem]
 refine AKev_bif h0 ?_ ?_ <;> intro c2 h0
 have c2 := bnot_t c2
 try simp only [c2, go_sem]
 obtain rfl := Option.some.inj h0
 refine AKev_ret rfl ?_
 try simp only [F28.rs, c2, go_sem]
 have c2 := bnot_f c2
 try simp only [c2, go_sem]
 refine AKev_bif h0 ?_ ?_ <;> intro c3 h0
 try simp only [c3, c2, go_sem]
 obtain ⟨x4, yx4, h0⟩ := bs h0
 refine zc0 (R04_CheckProof_ok k _ _ _ _ _ yx4) ?_ (by first | rfl | simp [AV.refsL, AV.refs, AV.scal, AV.leaf]) ?_
 try simp only [c2, c3, go_sem]
 try simp only [c2, c3, go_sem]
 obtain rfl := Option.some.inj h0
 refine AKev_ret rfl ?_
 try simp only [F28.rs, c2, c3, go_sem]
 try simp only [c3, c2, go_sem]
 obtain ⟨x5, yx5, h0⟩ := bs h0
 refine zc0 (R04_CheckProof_ok k _ _ _ _ _ yx5) ?_ (by first | rfl | simp [AV.refsL, AV.refs, AV.scal, AV.leaf]) ?_
 try simp only [c2, c3, go_sem]
 try simp only [c2, c3, go_sem]
 obtain rfl := Option.some.inj h0
 refine AKev_ret rfl ?_
 try simp only [F28.rs, c2, c3, go_sem]
def F5.c : SC :=
 (.seq
 (.reg [oq 3 (.box 27 (.tmp 0)) 0 [0],
 sb 6 false 4 [6]])
 (.seq
 (.reg [ld 20 27 3 [],
 mv 21 1 3 [],
 cf2 22 21 20 21 27 3 52 [20, 21],
 mv 19 22 52 [22],
 xt 23 19 0 30 [],
 xt 24 19 1 33 [19],
 oq 7 (.alloc 30) 0 [],
 ⟨none, .store 30 (.tmp 7) (.tmp 23), 0, none, [23]⟩,
 sg 8 24 33 [24]])
 (.seq
 (.reg [ld 26 27 3 [],
 mv 27 1 3 [],
 cf2 28 22 26 27 27 3 52 [26, 27],
 mv 25 28 52 [28],
 xt 29 25 0 30 [],
 xt 30 25 1 33 [25],
 oq 9 (.alloc 30) 0 [],
 ⟨none, .store 30 (.tmp 9) (.tmp 29), 0, none, [29]⟩,
 sg 10 30 33 [30]])
 (.seq
 (.reg [ld 32 27 3 [],
 mv 33 1 3 [],
 cf2 34 23 32 33 27 3 47 [32, 33],
 mv 31 34 47 [34],
 xt 35 31 0 37 [],
 xt 36 31 1 33 [31],
 sg 11 35 37 [35],
 sg 12 36 33 [36]])
 (.seq
 (.reg [ld 38 27 3 [],
 mv 39 1 3 [],
 cf2 40 24 38 39 27 3 47 [38, 39],
 mv 37 40 47 [40],
 xt 41 37 0 37 [],
 xt 42 37 1 33 [37],
 sg 13 41 37 [41],
 sg 14 42 33 [42]])
 (.seq
 (.reg [ld 44 27 3 [],
 mv 45 1 3 [],
 mv 46 2 4 [],
 oq 47 (.call ⟨.value (.func 25), #[.tmp 44, .tmp 45, .tmp 46], #[27, 3, 4]⟩) 41 [44, 45, 46],
 mv 43 47 41 [47],
 xt 48 43 0 40 [],
 xt 49 43 1 33 [43],
 oq 15 (.alloc 40) 0 [],
 ⟨none, .store 40 (.tmp 15) (.tmp 48), 0, none, [48]⟩,
 sg 16 49 33 [49]])
 (.seq
 (.reg [ld 51 27 3 [],
 mv 52 1 3 [],
 mv 53 2 4 [],
 oq 54 (.call ⟨.value (.func 26), #[.tmp 51, .tmp 52, .tmp 53], #[27, 3, 4]⟩) 58 [51, 52, 53],
 mv 50 54 58 [54],
 xt 55 50 0 57 [],
 xt 56 50 1 33 [50],
 oq 17 (.alloc 57) 0 [],
 ⟨none, .store 57 (.tmp 17) (.tmp 55), 0, none, [55]⟩,
 sg 18 56 33 [56]])
 (.seq
 (.seq
 (.reg [ld 57 30 7 [7],
 ld 58 30 9 [9],
 b2 59 .neq 30 57 58 30 4 [57, 58],
 mv 60 59 4 [59],
 og 61 (.move (.tmp 8)) 33 60 false [8],
 og 62 (.move (.tmp 10)) 33 60 false [],
 og 63 (.binOp .neq 33 (.tmp 61) (.tmp 62) 33) 4 60 false [61, 62],
 oq 64 (.pick (.tmp 60) (.const (.bool true)) (.tmp 63)) 4 [60, 63],
 mv 65 64 4 [64],
 og 66 (.move (.tmp 11)) 37 65 false [11],
 og 67 (.move (.tmp 13)) 37 65 false [13],
 og 68 (.call ⟨.value (.func 18), #[.tmp 66, .tmp 67], #[37, 37]⟩) 4 65 false [66, 67],
 og 69 (.unOp .not 4 (.tmp 68)) 4 65 false [68],
 oq 70 (.pick (.tmp 65) (.const (.bool true)) (.tmp 69)) 4 [65, 69],
 mv 71 70 4 [70],
 og 72 (.move (.tmp 12)) 33 71 false [12],
 og 73 (.move (.tmp 14)) 33 71 false [14],
 og 74 (.binOp .neq 33 (.tmp 72) (.tmp 73) 33) 4 71 false [72, 73],
 oq 75 (.pick (.tmp 71) (.const (.bool true)) (.tmp 74)) 4 [71, 74],
 mv 76 75 4 [75],
 og 77 (.move (.tmp 16)) 33 76 false [16],
 og 78 (.move (.tmp 10)) 33 76 false [],
 og 79 (.binOp .neq 33 (.tmp 77) (.tmp 78) 33) 4 76 false [77, 78],
 oq 80 (.pick (.tmp 76) (.const (.bool true)) (.tmp 79)) 4 [76, 79],
 mv 81 80 4 [80],
 og 82 (.move (.tmp 18)) 33 81 false [18],
 og 83 (.move (.tmp 10)) 33 81 false [],
 og 84 (.binOp .neq 33 (.tmp 82) (.tmp 83) 33) 4 81 false [82, 83],
 oq 85 (.pick (.tmp 81) (.const (.bool true)) (.tmp 84)) 4 [81, 84]])
 (.cond (.tmp 85)
 (.seq
 (.reg [sb 6 false 4 []])
 .ret)
 .skip))
 (.seq
 (.seq
 (.reg [mv 86 10 33 [10],
 bn 87 .neq 33 86 0 33 4 [86]])
 (.cond (.tmp 87)
 (.seq
 (.reg [ld 88 40 15 [15],
 cf1 89 14 88 40 4 [88],
 mv 90 89 4 [89],
 og 91 (.fieldAddr 57 (.tmp 17) 1) 0 90 true [],
 og 92 (.load 37 (.tmp 91)) 37 90 true [91],
 og 93 (.call ⟨.builtin .len, #[.tmp 92], #[37]⟩) 3 90 true [92],
 og 94 (.binOp .eql 3 (.tmp 93) (.const (.int .i64 0)) 3) 4 90 true [93],
 oq 95 (.pick (.tmp 90) (.tmp 94) (.const (.bool false))) 4 [90, 94],
 mv 96 95 4 [95],
 og 97 (.fieldAddr 57 (.tmp 17) 0) 0 96 true [17],
 og 98 (.load 3 (.tmp 97)) 3 96 true [97],
 og 99 (.binOp .eql 3 (.tmp 98) (.const (.int .i64 0)) 3) 4 96 true [98],
 oq 100 (.pick (.tmp 96) (.tmp 99) (.const (.bool false))) 4 [96, 99],
 mv 101 100 4 [100],
 og 102 (.call ⟨.value (.func 15), #[], #[]⟩) 4 101 true [],
 oq 103 (.pick (.tmp 101) (.tmp 102) (.const (.bool false))) 4 [101, 102],
 sg 6 103 4 [103]])
 .ret)
 .skip))
 (.seq
 (.reg [ld 104 27 3 [],
 mv 105 1 3 [],
 mv 106 2 4 [],
 ld 107 40 15 [15],
 oq 108 (.call ⟨.value (.func 27), #[.tmp 104, .tmp 105, .tmp 106, .tmp 107], #[27, 3, 4, 40]⟩) 33 [104, 105, 106, 107],
 bn 109 .eql 33 108 0 33 4 [108],
 mv 110 109 4 [109],
 og 111 (.load 27 (.tmp 3)) 27 110 true [3],
 og 112 (.move (.tmp 1)) 3 110 true [1],
 og 113 (.move (.tmp 2)) 4 110 true [2],
 og 114 (.load 57 (.tmp 17)) 57 110 true [17],
 og 115 (.call ⟨.value (.func 28), #[.tmp 111, .tmp 112, .tmp 113, .tmp 114], #[27, 3, 4, 57]⟩) 33 110 true [111, 112, 113, 114],
 og 116 (.binOp .eql 33 (.tmp 115) (.const (.int .i64 0)) 33) 4 110 true [115],
 oq 117 (.pick (.tmp 110) (.tmp 116) (.const (.bool false))) 4 [110, 116],
 mv 118 117 4 [117],
 og 119 (.call ⟨.value (.func 15), #[], #[]⟩) 4 118 true [],
 oq 120 (.pick (.tmp 118) (.tmp 119) (.const (.bool false))) 4 [118, 119],
 sg 6 120 4 [120]])
 .ret))))))))))
theorem F5.rs : Tryz.f5.results.toList = [.tmp 6] := rfl
def L04_HeatBounds (k : Nat) (f0 : Firing) (place1 : Int) (high2 : Bool) : Option (Bool) :=
 (heat_Bound k f0 place1).bind fun x1 =>
 (R04_Bound k f0 place1).bind fun x2 =>
 (heat_Moves k f0 place1).bind fun x3 =>
 (R04_Moves k f0 place1).bind fun x4 =>
 (heat_Attain k f0 place1 high2).bind fun x5 =>
 (heat_Prove k f0 place1 high2).bind fun x6 =>
 bif (decide (x1.1.Lo = x2.1.Lo) && decide (x1.1.Hi = x2.1.Hi)) then
  bif decide (x1.2 = x2.2) then
   (R01_Same k x3.1 x4.1).bind fun x9 =>
   bif x9 then
    bif decide (x3.2 = x4.2) then
     bif decide (x5.2 = x2.2) then
      bif (!decide (x6.2 = x2.2)) then
       some false
      else
       bif (!decide (x2.2 = (0 : Int))) then
        (R04_Empty k x5.1).bind fun x15 =>
        bif x15 then
         bif decide ((x6.1.By.length : Int) = (0 : Int)) then
          bif decide (x6.1.Reading = (0 : Int)) then
           (L04_sane k).bind fun x19 =>
           some x19
          else
           some false
         else
          some false
        else
         some false
       else
        (R04_Attains k f0 place1 high2 x5.1).bind fun x20 =>
        bif decide (x20 = (0 : Int)) then
         (R04_Proves k f0 place1 high2 x6.1).bind fun x22 =>
         bif decide (x22 = (0 : Int)) then
          (L04_sane k).bind fun x24 =>
          some x24
         else
          some false
        else
         some false
     else
      some false
    else
     some false
   else
    some false
  else
   some false
 else
  some false
theorem L04_HeatBounds_ok (k : Nat) (f0 : Firing) (place1 : Int) (high2 : Bool) (r : Bool) (h0 : L04_HeatBounds k f0 place1 high2 = some r) : PCall Tryz.prog 5 [.agg (Firing.c f0), .int .i64 place1, .bool high2] (fun y => y = .bool r) := by
 refine PB (fn := Tryz.f5) (sc := F5.c) ?_
 refine rS ?_
 simp only [L04_HeatBounds] at h0
 try simp only [F5.c, go_sem]
 obtain ⟨x1, yx1, h0⟩ := bs h0
 refine zc0 (heat_Bound_ok k _ _ _ yx1) ?_ (by first | rfl | simp [AV.refsL, AV.refs, AV.scal, AV.leaf]) ?_
 try simp only [go_sem]
 try simp only [go_sem]
 obtain ⟨x2, yx2, h0⟩ := bs h0
 refine zc0 (R04_Bound_ok k _ _ _ yx2) ?_ (by first | rfl | simp [AV.refsL, AV.refs, AV.scal, AV.leaf]) ?_
 try simp only [go_sem]
 try simp only [go_sem]
 obtain ⟨x3, yx3, h0⟩ := bs h0
 refine zc0 (heat_Moves_ok k _ _ _ yx3) ?_ (by first | rfl | simp [AV.refsL, AV.refs, AV.scal, AV.leaf]) ?_
 try simp only [go_sem]
 try simp only [go_sem]
 obtain ⟨x4, yx4, h0⟩ := bs h0
 refine zc0 (R04_Moves_ok k _ _ _ yx4) ?_ (by first | rfl | simp [AV.refsL, AV.refs, AV.scal, AV.leaf]) ?_
 try simp only [go_sem]
 try simp only [go_sem]
 obtain ⟨x5, yx5, h0⟩ := bs h0
 refine zc0 (heat_Attain_ok k _ _ _ _ yx5) ?_ (by first | rfl | simp [AV.refsL, AV.refs, AV.scal, AV.leaf]) ?_
 try simp only [go_sem]
 try simp only [go_sem]
 obtain ⟨x6, yx6, h0⟩ := bs h0
 refine zc0 (heat_Prove_ok k _ _ _ _ yx6) ?_ (by first | rfl | simp [AV.refsL, AV.refs, AV.scal, AV.leaf]) ?_
 try simp only [go_sem]
 try simp only [go_sem]
 refine AKev_bif h0 ?_ ?_ <;> intro c7 h0
 try simp only [c7, go_sem]
 refine AKev_bif h0 ?_ ?_ <;> intro c8 h0
 try simp only [c8, c7, go_sem]
 obtain ⟨x9, yx9, h0⟩ := bs h0
 refine zc0 (R01_Same_ok k _ _ _ yx9) ?_ (by first | rfl | simp [AV.refsL, AV.refs, AV.scal, AV.leaf]) ?_
 try simp only [c7, c8, go_sem]
 try simp only [c7, c8, go_sem]
 refine AKev_bif h0 ?_ ?_ <;> intro c10 h0
 try simp only [c10, c7, c8, go_sem]
 refine AKev_bif h0 ?_ ?_ <;> intro c11 h0
 try simp only [c11, c7, c8, c10, go_sem]
 refine AKev_bif h0 ?_ ?_ <;> intro c12 h0
 try simp only [c12, c7, c8, c10, c11, go_sem]
 refine AKev_bif h0 ?_ ?_ <;> intro c13 h0
 have c13 := bnot_t c13
 try simp only [c13, c7, c8, c10, c11, c12, go_sem]
 obtain rfl := Option.some.inj h0
 refine AKev_ret rfl ?_
 try simp only [F5.rs, c7, c8, c10, c11, c12, c13, go_sem]
 have c13 := bnot_f c13
 try simp only [c13, c7, c8, c10, c11, c12, go_sem]
 refine AKev_bif h0 ?_ ?_ <;> intro c14 h0
 have c14 := bnot_t c14
 try simp only [c14, c7, c8, c10, c11, c12, c13, go_sem]
 obtain ⟨x15, yx15, h0⟩ := bs h0
 refine zc0 (R04_Empty_ok k _ _ yx15) ?_ (by first | rfl | simp [AV.refsL, AV.refs, AV.scal, AV.leaf]) ?_
 try simp only [c7, c8, c10, c11, c12, c13, c14, go_sem]
 try simp only [c7, c8, c10, c11, c12, c13, c14, go_sem]
 refine AKev_bif h0 ?_ ?_ <;> intro c16 h0
 try simp only [c16, c7, c8, c10, c11, c12, c13, c14, go_sem]
 refine AKev_bif h0 ?_ ?_ <;> intro c17 h0
 try simp only [c17, c7, c8, c10, c11, c12, c13, c14, c16, go_sem]
 refine AKev_bif h0 ?_ ?_ <;> intro c18 h0
 try simp only [c18, c7, c8, c10, c11, c12, c13, c14, c16, c17, go_sem]
 obtain ⟨x19, yx19, h0⟩ := bs h0
 refine zc0 (L04_sane_ok k _ yx19) ?_ (by first | rfl | simp [AV.refsL, AV.refs, AV.scal, AV.leaf]) ?_
 try simp only [c7, c8, c10, c11, c12, c13, c14, c16, c17, c18, go_sem]
 try simp only [c7, c8, c10, c11, c12, c13, c14, c16, c17, c18, go_sem]
 obtain rfl := Option.some.inj h0
 refine AKev_ret rfl ?_
 try simp only [F5.rs, c7, c8, c10, c11, c12, c13, c14, c16, c17, c18, go_sem]
 try simp only [c18, c7, c8, c10, c11, c12, c13, c14, c16, c17, go_sem]
 obtain rfl := Option.some.inj h0
 refine AKev_ret rfl ?_
 try simp only [F5.rs, c7, c8, c10, c11, c12, c13, c14, c16, c17, c18, go_sem]
 try simp only [c17, c7, c8, c10, c11, c12, c13, c14, c16, go_sem]
 obtain rfl := Option.some.inj h0
 refine AKev_ret rfl ?_
 try simp only [F5.rs, c7, c8, c10, c11, c12, c13, c14, c16, c17, go_sem]
 try simp only [c16, c7, c8, c10, c11, c12, c13, c14, go_sem]
 obtain rfl := Option.some.inj h0
 refine AKev_ret rfl ?_
 try simp only [F5.rs, c7, c8, c10, c11, c12, c13, c14, c16, go_sem]
 have c14 := bnot_f c14
 try simp only [c14, c7, c8, c10, c11, c12, c13, go_sem]
 obtain ⟨x20, yx20, h0⟩ := bs h0
 refine zc0 (R04_Attains_ok k _ _ _ _ _ yx20) ?_ (by first | rfl | simp [AV.refsL, AV.refs, AV.scal, AV.leaf]) ?_
 try simp only [c7, c8, c10, c11, c12, c13, c14, go_sem]
 try simp only [c7, c8, c10, c11, c12, c13, c14, go_sem]
 refine AKev_bif h0 ?_ ?_ <;> intro c21 h0
 try simp only [c21, c7, c8, c10, c11, c12, c13, c14, go_sem]
 obtain ⟨x22, yx22, h0⟩ := bs h0
 refine zc0 (R04_Proves_ok k _ _ _ _ _ yx22) ?_ (by first | rfl | simp [AV.refsL, AV.refs, AV.scal, AV.leaf]) ?_
 try simp only [c7, c8, c10, c11, c12, c13, c14, c21, go_sem]
 try simp only [c7, c8, c10, c11, c12, c13, c14, c21, go_sem]
 refine AKev_bif h0 ?_ ?_ <;> intro c23 h0
 try simp only [c23, c7, c8, c10, c11, c12, c13, c14, c21, go_sem]
 obtain ⟨x24, yx24, h0⟩ := bs h0
 refine zc0 (L04_sane_ok k _ yx24) ?_ (by first | rfl | simp [AV.refsL, AV.refs, AV.scal, AV.leaf]) ?_
 try simp only [c7, c8, c10, c11, c12, c13, c14, c21, c23, go_sem]
 try simp only [c7, c8, c10, c11, c12, c13, c14, c21, c23, go_sem]
 obtain rfl := Option.some.inj h0
 refine AKev_ret rfl ?_
 try simp only [F5.rs, c7, c8, c10, c11, c12, c13, c14, c21, c23, go_sem]
 try simp only [c23, c7, c8, c10, c11, c12, c13, c14, c21, go_sem]
 obtain rfl := Option.some.inj h0
 refine AKev_ret rfl ?_
 try simp only [F5.rs, c7, c8, c10, c11, c12, c13, c14, c21, c23, go_sem]
 try simp only [c21, c7, c8, c10, c11, c12, c13, c14, go_sem]
 obtain rfl := Option.some.inj h0
 refine AKev_ret rfl ?_
 try simp only [F5.rs, c7, c8, c10, c11, c12, c13, c14, c21, go_sem]
 try simp only [c12, c7, c8, c10, c11, go_sem]
 obtain rfl := Option.some.inj h0
 refine AKev_ret rfl ?_
 try simp only [F5.rs, c7, c8, c10, c11, c12, go_sem]
 try simp only [c11, c7, c8, c10, go_sem]
 obtain rfl := Option.some.inj h0
 refine AKev_ret rfl ?_
 try simp only [F5.rs, c7, c8, c10, c11, go_sem]
 try simp only [c10, c7, c8, go_sem]
 obtain rfl := Option.some.inj h0
 refine AKev_ret rfl ?_
 try simp only [F5.rs, c7, c8, c10, go_sem]
 try simp only [c8, c7, go_sem]
 obtain rfl := Option.some.inj h0
 refine AKev_ret rfl ?_
 try simp only [F5.rs, c7, c8, go_sem]
 try simp only [c7, go_sem]
 obtain rfl := Option.some.inj h0
 refine AKev_ret rfl ?_
 try simp only [F5.rs, c7, go_sem]
end Go.Abs
namespace Go.Abs
open Go Go.Proofs Go.RowKit
set_option maxRecDepth 20000
def qB : Nat := reachBytes
theorem qB_le : qB ≤ 140737488351232 := by decide
theorem reads_3 : Reads qB Tryz.prog 3 eI i64ok := Reads.int Tryz.underlying3
def Range.q (x : Range) : Prop := i64ok x.Lo ∧ i64ok x.Hi
theorem reads_30 : Reads qB Tryz.prog 30 Range.c Range.q := (Reads.struct Tryz.underlying30 (by kernel_rfl) (ReadsL.cons (off := 0) (sz := 1) (off' := 1) (tot := 2) rfl (by kernel_rfl) rfl reads_3 (ReadsL.cons (off := 1) (sz := 1) (off' := 2) (tot := 2) rfl (by kernel_rfl) rfl reads_3 (ReadsL.nil (off := 2) (tot := 2) (by decide))))).as (fun p => ⟨p.1, p.2.1⟩) (fun _ => rfl) (fun _ h => ⟨h.1, h.2.1⟩)
theorem reads_89 : Reads qB Tryz.prog 89 (eL 2 Range.c) (fun l => l.length ≤ Go.maxLen ∧ l.length * 16 ≤ qB ∧ ∀ a ∈ l, Range.q a) := Reads.slice Tryz.underlying89 (by kernel_rfl) (by kernel_rfl) (by decide) reads_30
theorem reads_22 : Reads qB Tryz.prog 22 (eL 1 (eL 2 Range.c)) (fun l => l.length ≤ Go.maxLen ∧ l.length * 24 ≤ qB ∧ ∀ a ∈ l, (fun l => l.length ≤ Go.maxLen ∧ l.length * 16 ≤ qB ∧ ∀ a ∈ l, Range.q a) a) := Reads.slice Tryz.underlying22 (by kernel_rfl) (by kernel_rfl) (by decide) reads_89
def Kiln.q (x : Kiln) : Prop := (fun l => l.length ≤ Go.maxLen ∧ l.length * 24 ≤ qB ∧ ∀ a ∈ l, (fun l => l.length ≤ Go.maxLen ∧ l.length * 16 ≤ qB ∧ ∀ a ∈ l, Range.q a) a) x.Falls
theorem reads_24 : Reads qB Tryz.prog 24 Kiln.c Kiln.q := (Reads.struct Tryz.underlying24 (by kernel_rfl) (ReadsL.cons (off := 0) (sz := 1) (off' := 1) (tot := 1) rfl (by kernel_rfl) rfl reads_22 (ReadsL.nil (off := 1) (tot := 1) (by decide)))).as (fun p => ⟨p.1⟩) (fun _ => rfl) (fun _ h => h.1)
def Reading.q (x : Reading) : Prop := i64ok x.Source ∧ i64ok x.Place ∧ i64ok x.Kind ∧ i64ok x.Mark ∧ Range.q x.Heat
theorem reads_64 : Reads qB Tryz.prog 64 Reading.c Reading.q := (Reads.struct Tryz.underlying64 (by kernel_rfl) (ReadsL.cons (off := 0) (sz := 1) (off' := 1) (tot := 6) rfl (by kernel_rfl) rfl reads_3 (ReadsL.cons (off := 1) (sz := 1) (off' := 2) (tot := 6) rfl (by kernel_rfl) rfl reads_3 (ReadsL.cons (off := 2) (sz := 1) (off' := 3) (tot := 6) rfl (by kernel_rfl) rfl reads_3 (ReadsL.cons (off := 3) (sz := 1) (off' := 4) (tot := 6) rfl (by kernel_rfl) rfl reads_3 (ReadsL.cons (off := 4) (sz := 2) (off' := 6) (tot := 6) rfl (by kernel_rfl) rfl reads_30 (ReadsL.nil (off := 6) (tot := 6) (by decide)))))))).as (fun p => ⟨p.1, p.2.1, p.2.2.1, p.2.2.2.1, p.2.2.2.2.1⟩) (fun _ => rfl) (fun _ h => ⟨h.1, h.2.1, h.2.2.1, h.2.2.2.1, h.2.2.2.2.1⟩)
theorem reads_25 : Reads qB Tryz.prog 25 (eL 6 Reading.c) (fun l => l.length ≤ Go.maxLen ∧ l.length * 48 ≤ qB ∧ ∀ a ∈ l, Reading.q a) := Reads.slice Tryz.underlying25 (by kernel_rfl) (by kernel_rfl) (by decide) reads_64
def Firing.q (x : Firing) : Prop := Kiln.q x.Kiln ∧ (fun l => l.length ≤ Go.maxLen ∧ l.length * 48 ≤ qB ∧ ∀ a ∈ l, Reading.q a) x.Readings
theorem reads_27 : Reads qB Tryz.prog 27 Firing.c Firing.q := (Reads.struct Tryz.underlying27 (by kernel_rfl) (ReadsL.cons (off := 0) (sz := 1) (off' := 1) (tot := 2) rfl (by kernel_rfl) rfl reads_24 (ReadsL.cons (off := 1) (sz := 1) (off' := 2) (tot := 2) rfl (by kernel_rfl) rfl reads_25 (ReadsL.nil (off := 2) (tot := 2) (by decide))))).as (fun p => ⟨p.1, p.2.1⟩) (fun _ => rfl) (fun _ h => ⟨h.1, h.2.1⟩)
def Want.q (x : Want) : Prop := i64ok x.Place ∧ Range.q x.Heat
theorem reads_4 : Reads qB Tryz.prog 4 eB (fun _ => True) := Reads.bool Tryz.underlying4
def Field.q (x : Field) : Prop := (fun l => l.length ≤ Go.maxLen ∧ l.length * 8 ≤ qB ∧ ∀ a ∈ l, i64ok a) x.Mouths ∧ (fun l => l.length ≤ Go.maxLen ∧ l.length * 24 ≤ qB ∧ ∀ a ∈ l, (fun l => l.length ≤ Go.maxLen ∧ l.length * 8 ≤ qB ∧ ∀ a ∈ l, i64ok a) a) x.Falls
end Go.Abs
namespace Go.Abs
open Go
set_option linter.unusedVariables false
theorem at_getD {α : Type} (d : α) {l : List α} {i : Int} (h0 : 0 ≤ i) (h1 : i < l.length) : at? l i = some (l.getD i.toNat d) := by
 unfold at?
 rw [if_pos ⟨h0, by omega⟩]
 rw [List.getElem?_eq_getElem (by omega), List.getD_eq_getElem?_getD, List.getElem?_eq_getElem (by omega)]
 rfl
theorem at_nat {α : Type} (d : α) {l : List α} {i : Nat} (h1 : i < l.length) : at? l (i : Int) = some (l.getD i d) := by
 have := at_getD d (l := l) (i := (i : Int)) (by omega) (by omega)
 simpa using this
theorem getD_mem {α : Type} (d : α) {l : List α} {i : Nat} (h : i < l.length) : l.getD i d ∈ l := by
 rw [List.getD_eq_getElem?_getD, List.getElem?_eq_getElem h]
 exact List.getElem_mem h
theorem getD_none {α : Type} {d : α} {l : List α} {i : Nat} (h : l.length ≤ i) : l.getD i d = d := by
 rw [List.getD_eq_getElem?_getD, List.getElem?_eq_none h]; rfl
theorem getD_of {α : Type} (d : α) {l : List α} {i : Nat} {x : α} (h : l[i]? = some x) : l.getD i d = x := by
 rw [List.getD_eq_getElem?_getD, h]; rfl
theorem range_drop_cons {i d : Nat} : (List.range' i (d + 1)) = i :: List.range' (i + 1) d := by
 rw [List.range'_succ]
theorem whl_eachN {R : Type} {body : Int → Option (Stp Int Unit R)} {n : Nat} {f : Nat → Option R} (hn : n ≤ 9223372036854775807) {k : Nat} (hk : n < k)
  (h1 : ∀ i, i < n → body (i : Int) = some (match f i with | some r => .ret r | none => .next (w64 ((i : Int) + 1)))) (h2 : body (n : Int) = some (.brk ())) :
  whl body k 0 = some (match (List.range n).findSome? f with | some r => .ret r | none => .brk ()) := by
 have h := whl_for (body := body) (n := n) (g := f) hn h1 h2 k n 0 (by omega) hk
 rw [Int.natCast_zero] at h
 rw [h]
 have key : ∀ d i, scan f i d = (List.range' i d).findSome? f := by
  intro d
  induction d with
  | zero => intro i; rfl
  | succ d ih =>
   intro i
   rw [range_drop_cons, List.findSome?_cons, scan, ih]
   cases f i <;> rfl
 rw [key, List.range_eq_range']
 cases (List.range' 0 n).findSome? f <;> rfl
theorem whl_allN {R : Type} {body : Int → Option (Stp Int Unit R)} {n : Nat} {p : Nat → Bool} {c : R} (hn : n ≤ 9223372036854775807) {k : Nat} (hk : n < k)
  (h1 : ∀ i, i < n → body (i : Int) = some (bif p i then .next (w64 ((i : Int) + 1)) else .ret c)) (h2 : body (n : Int) = some (.brk ())) :
  whl body k 0 = some (bif (List.range n).all p then .brk () else .ret c) := by
 have h := whl_eachN (body := body) (n := n) (f := fun i => bif p i then none else some c) hn hk (fun i hi => by rw [h1 i hi]; cases p i <;> rfl) h2
 rw [h]
 have : ∀ l : List Nat, l.findSome? (fun i => bif p i then none else some c) = bif l.all p then none else some c := by
  intro l
  induction l with
  | nil => rfl
  | cons x l ih =>
   rw [List.findSome?_cons, List.all_cons]
   cases hp : p x with
   | true => simpa using ih
   | false => simp
 rw [this]
 cases (List.range n).all p <;> rfl
theorem whl_allL {α R : Type} {l : List α} {body : Int → Option (Stp Int Unit R)} {p : α → Bool} {c : R} (hn : l.length ≤ 9223372036854775807) {k : Nat} (hk : l.length < k)
  (h1 : ∀ (i : Nat) x, l[i]? = some x → body (i : Int) = some (bif p x then .next (w64 ((i : Int) + 1)) else .ret c)) (h2 : body (l.length : Int) = some (.brk ())) :
  whl body k 0 = some (bif l.all p then .brk () else .ret c) := by
 have h := whl_each (body := body) (l := l) (f := fun i => bif p i then none else some c) hn hk (fun i x hi => by rw [h1 i x hi]; cases p x <;> rfl) h2
 rw [h]
 have : l.findSome? (fun i => bif p i then none else some c) = bif l.all p then none else some c := by
  clear h h1 h2 hn hk
  induction l with
  | nil => rfl
  | cons x l ih =>
   rw [List.findSome?_cons, List.all_cons]
   cases hp : p x with
   | true => simpa using ih
   | false => simp
 rw [this]
 cases l.all p <;> rfl
theorem whl_foldN {S R τ : Type} {n : Nat} {body : τ → Option (Stp τ S R)} (mk : Int → S → τ) (f : S → Nat → S) (Inv : Nat → S → Prop) (hn : n ≤ 9223372036854775807) {k : Nat} (hk : n < k) {s0 : S} (h0 : Inv 0 s0)
  (h1 : ∀ i s, i < n → Inv i s → body (mk (i : Int) s) = some (.next (mk (w64 ((i : Int) + 1)) (f s i))) ∧ Inv (i + 1) (f s i)) (h2 : ∀ s, Inv n s → body (mk (n : Int) s) = some (.brk s)) :
  whl body k (mk 0 s0) = some (.brk ((List.range n).foldl f s0)) ∧ Inv n ((List.range n).foldl f s0) := by
 have h := whl_fold (l := List.range n) (body := body) mk f Inv (by simpa using hn) (k := k) (by simpa using hk) h0 (fun i x s hx hI => by
  have hi : i < n := by have := (List.getElem?_eq_some_iff.1 hx).1; simpa using this
  have e : x = i := by have := hx; rw [List.getElem?_range hi] at this; exact (Option.some.inj this).symm
  subst e
  exact h1 x s hi hI) (fun s hI => by have := h2 s (by simpa using hI); simpa using this)
 exact ⟨h.1, by simpa using h.2⟩
theorem foldl_pushN {α : Type} (g : Nat → α) : ∀ (l : List Nat) (s : List α), l.foldl (fun s i => s ++ [g i]) s = s ++ l.map g
 | [], s => by simp
 | x :: l, s => by simp [foldl_pushN g l]
end Go.Abs
namespace Go.Abs
set_option linter.unusedVariables false
def mx (f : Nat → Int) : Nat → Int
 | 0 => f 0
 | n + 1 => max (mx f n) (f (n + 1))
theorem mx_le_iff (f : Nat → Int) (t : Int) : ∀ n, mx f n ≤ t ↔ ∀ j, j ≤ n → f j ≤ t
 | 0 => ⟨fun h j hj => by have h0 : j = 0 := Nat.le_zero.1 hj; subst h0; exact h, fun h => h 0 (Nat.le_refl _)⟩
 | n + 1 => by
  rw [mx, Int.max_le, mx_le_iff f t n]
  constructor
  ·rintro ⟨h1, h2⟩ j hj
   rcases Nat.lt_or_ge n j with h | h
   ·obtain rfl : j = n + 1 := by omega
    exact h2
   ·exact h1 j h
  ·exact fun h => ⟨fun j hj => h j (by omega), h _ (Nat.le_refl _)⟩
theorem le_mx_iff (f : Nat → Int) (t : Int) : ∀ n, t ≤ mx f n ↔ ∃ j, j ≤ n ∧ t ≤ f j
 | 0 => ⟨fun h => ⟨0, Nat.le_refl _, h⟩, fun ⟨j, hj, h⟩ => by have h0 : j = 0 := Nat.le_zero.1 hj; subst h0; exact h⟩
 | n + 1 => by
  rw [mx, show t ≤ max (mx f n) (f (n + 1)) ↔ t ≤ mx f n ∨ t ≤ f (n + 1) by omega, le_mx_iff f t n]
  constructor
  ·rintro (⟨j, h1, h2⟩ | h)
   ·exact ⟨j, by omega, h2⟩
   ·exact ⟨n + 1, Nat.le_refl _, h⟩
  ·rintro ⟨j, h1, h2⟩
   rcases Nat.lt_or_ge n j with h | h
   ·obtain rfl : j = n + 1 := by omega
    exact .inr h2
   ·exact .inl ⟨j, h, h2⟩
theorem eq_of_le_iff {a b : Int} (h : ∀ t, t ≤ a ↔ t ≤ b) : a = b := by
 have h1 := (h a).1 (Int.le_refl _)
 have h2 := (h b).2 (Int.le_refl _)
 omega
theorem eq_of_ge_iff {a b : Int} (h : ∀ t, a ≤ t ↔ b ≤ t) : a = b := by
 have h1 := (h a).1 (Int.le_refl _)
 have h2 := (h b).2 (Int.le_refl _)
 omega
structure Fur where
 m : Nat
 lo : Nat → Nat → Int
 hi : Nat → Nat → Int
 L : List (Nat × Int)
 M : List (Nat × Int)
namespace Fur
def Ok (f : Fur) : Prop := ∀ j p, 0 ≤ f.lo j p ∧ f.lo j p ≤ f.hi j p ∧ f.hi j p ≤ 3000
def U (f : Fur) (j : Nat) : Int := f.M.foldl (fun n x => min n (x.2 + f.hi j x.1)) 3000
theorem U_iff (f : Fur) (j : Nat) (t : Int) : t ≤ f.U j ↔ t ≤ 3000 ∧ ∀ x ∈ f.M, t ≤ x.2 + f.hi j x.1 := by
 have key : ∀ (M : List (Nat × Int)) (a : Int), t ≤ M.foldl (fun n x => min n (x.2 + f.hi j x.1)) a ↔ t ≤ a ∧ ∀ x ∈ M, t ≤ x.2 + f.hi j x.1 := by
  intro M
  induction M with
  | nil => simp
  | cons y M ih =>
   intro a
   rw [List.foldl_cons, ih, Int.le_min]
   simp only [List.forall_mem_cons, and_assoc]
 exact key _ _
theorem U_le (f : Fur) (j : Nat) : f.U j ≤ 3000 := ((f.U_iff j _).1 (Int.le_refl _)).1
theorem U_lim (f : Fur) (j : Nat) {x : Nat × Int} (h : x ∈ f.M) : f.U j ≤ x.2 + f.hi j x.1 := ((f.U_iff j _).1 (Int.le_refl _)).2 x h
def Sound (f : Fur) : Prop :=
 (∀ j, j ≤ f.m → 0 ≤ f.U j) ∧ ∀ x ∈ f.L, (∀ y ∈ f.M, y.1 = x.1 → x.2 ≤ y.2) ∧ ∃ j, j ≤ f.m ∧ x.2 + f.lo j x.1 ≤ f.U j
def High (f : Fur) (q : Nat) (t : Int) : Prop := (∃ j, j ≤ f.m ∧ t + f.lo j q ≤ f.U j) ∧ ∀ y ∈ f.M, y.1 = q → t ≤ y.2
def Low (f : Fur) (q : Nat) (t : Int) : Prop :=
 (∀ j, j ≤ f.m → -f.hi j q ≤ t) ∧ (∀ x ∈ f.L, x.1 = q → x.2 ≤ t) ∧ ∀ x ∈ f.L, x.1 ≠ q → ∃ j, j ≤ f.m ∧ x.2 + f.lo j x.1 ≤ f.U j ∧ x.2 + f.lo j x.1 - f.hi j q ≤ t
def IsField (f : Fur) (u : Nat → Int) (d : Nat → Nat → Int) : Prop := ∀ j, j ≤ f.m → 0 ≤ u j ∧ u j ≤ 3000 ∧ ∀ p, f.lo j p ≤ d j p ∧ d j p ≤ f.hi j p
def heat (f : Fur) (u : Nat → Int) (d : Nat → Nat → Int) (p : Nat) : Int := mx (fun j => u j - d j p) f.m
def Agrees (f : Fur) (u : Nat → Int) (d : Nat → Nat → Int) : Prop :=
 (∀ x ∈ f.L, x.2 ≤ f.heat u d x.1) ∧ ∀ y ∈ f.M, f.heat u d y.1 ≤ y.2
theorem Agrees.u {f : Fur} {u d} (hF : f.IsField u d) (h : f.Agrees u d) (j : Nat) (hj : j ≤ f.m) : u j ≤ f.U j := by
 rw [U_iff]
 refine ⟨(hF j hj).2.1, fun x hx => ?_⟩
 have h1 := (mx_le_iff _ _ _).1 (h.2 x hx) j hj
 have h2 := (hF j hj).2.2 x.1
 omega
theorem Agrees.high {f : Fur} {u d} (hF : f.IsField u d) (h : f.Agrees u d) (p : Nat) : f.High p (f.heat u d p) := by
 refine ⟨?_, fun y hy e => e ▸ h.2 y hy⟩
 obtain ⟨j, h1, h2⟩ := (le_mx_iff _ _ _).1 (Int.le_refl (f.heat u d p))
 refine ⟨j, h1, ?_⟩
 have h3 := h.u hF j h1
 have h4 := (hF j h1).2.2 p
 omega
theorem Agrees.low {f : Fur} {u d} (hF : f.IsField u d) (h : f.Agrees u d) (p : Nat) : f.Low p (f.heat u d p) := by
 have hm := (mx_le_iff (fun j => u j - d j p) (f.heat u d p) f.m).1 (Int.le_refl _)
 refine ⟨fun j hj => ?_, fun x hx e => e ▸ h.1 x hx, fun x hx _ => ?_⟩
 ·have h1 := hm j hj
  have h2 := hF j hj
  have h3 := h2.2.2 p
  omega
 ·obtain ⟨j, h1, h2⟩ := (le_mx_iff _ _ _).1 (h.1 x hx)
  have h3 := h.u hF j h1
  have h4 := (hF j h1).2.2 x.1
  have h5 := (hF j h1).2.2 p
  have h6 := hm j h1
  exact ⟨j, h1, by omega, by omega⟩
theorem Agrees.sound {f : Fur} {u d} (hF : f.IsField u d) (h : f.Agrees u d) : f.Sound := by
 refine ⟨fun j hj => Int.le_trans (hF j hj).1 (h.u hF j hj), fun x hx => ⟨fun y hy e => ?_, ?_⟩⟩
 ·have h1 := h.1 x hx
  have h2 := h.2 y hy
  rw [e] at h2
  omega
 ·obtain ⟨j, h1, h2⟩ := (le_mx_iff _ _ _).1 (h.1 x hx)
  have h3 := h.u hF j h1
  have h4 := (hF j h1).2.2 x.1
  exact ⟨j, h1, by omega⟩
def bst (p : Nat) (o : Option Int) (x : Nat × Int) : Option Int := if x.1 = p then some (match o with | none => x.2 | some n => min n x.2) else o
def best (M : List (Nat × Int)) (p : Nat) : Option Int := M.foldl (bst p) none
theorem best_iff (M : List (Nat × Int)) (p : Nat) : (best M p = none ↔ ∀ y ∈ M, y.1 ≠ p) ∧ ∀ n, best M p = some n → (∀ t, t ≤ n ↔ ∀ y ∈ M, y.1 = p → t ≤ y.2) ∧ ∃ y ∈ M, y.1 = p ∧ y.2 = n := by
 have key : ∀ (M K : List (Nat × Int)) (o : Option Int), ((o = none ↔ ∀ y ∈ K, y.1 ≠ p) ∧ ∀ n, o = some n → (∀ t, t ≤ n ↔ ∀ y ∈ K, y.1 = p → t ≤ y.2) ∧ ∃ y ∈ K, y.1 = p ∧ y.2 = n) →
   ((M.foldl (bst p) o = none ↔ ∀ y ∈ K ++ M, y.1 ≠ p) ∧ ∀ n, M.foldl (bst p) o = some n → (∀ t, t ≤ n ↔ ∀ y ∈ K ++ M, y.1 = p → t ≤ y.2) ∧ ∃ y ∈ K ++ M, y.1 = p ∧ y.2 = n) := by
  intro M
  induction M with
  | nil => intro K o h; simpa using h
  | cons x M ih =>
   intro K o h
   have h2 := ih (K ++ [x]) (bst p o x) ?_
   ·simpa only [List.append_assoc, List.cons_append, List.nil_append, List.foldl_cons] using h2
   ·by_cases hx : x.1 = p
    ·simp only [bst, hx, if_true]
     refine ⟨?_, fun n hn => ?_⟩
     ·constructor
      ·intro h; cases h
      ·intro h; exact absurd hx (h x (by simp))
     ·cases o with
      | none =>
       simp only [Option.some.injEq] at hn
       have h3 := h.1.1 rfl
       refine ⟨fun t => ⟨fun ht y hy e => ?_, fun ht => ?_⟩, x, by simp, hx, hn⟩
       ·rcases List.mem_append.1 hy with hy | hy
        ·exact absurd e (h3 y hy)
        ·simp only [List.mem_singleton] at hy; subst hy; omega
       ·have := ht x (by simp) hx; omega
      | some n0 =>
       simp only [Option.some.injEq] at hn
       obtain ⟨h3, y0, h4, h5, h6⟩ := h.2 n0 rfl
       refine ⟨fun t => ⟨fun ht y hy e => ?_, fun ht => ?_⟩, ?_⟩
       ·rcases List.mem_append.1 hy with hy | hy
        ·exact (h3 t).1 (by omega) y hy e
        ·simp only [List.mem_singleton] at hy; subst hy; omega
       ·have h7 := (h3 t).2 (fun y hy e => ht y (by simp [hy]) e)
        have h8 := ht x (by simp) hx
        omega
       ·by_cases hlt : n0 ≤ x.2
        ·exact ⟨y0, by simp [h4], h5, by omega⟩
        ·exact ⟨x, by simp, hx, by omega⟩
    ·simp only [bst, hx, if_false]
     refine ⟨?_, fun n hn => ?_⟩
     ·rw [h.1]
      constructor
      ·intro g y hy
       rcases List.mem_append.1 hy with hy | hy
       ·exact g y hy
       ·simp only [List.mem_singleton] at hy; subst hy; exact hx
      ·intro g y hy; exact g y (by simp [hy])
     ·obtain ⟨h3, y0, h4, h5, h6⟩ := h.2 n hn
      refine ⟨fun t => ?_, y0, by simp [h4], h5, h6⟩
      rw [h3]
      constructor
      ·intro g y hy e
       rcases List.mem_append.1 hy with hy | hy
       ·exact g y hy e
       ·simp only [List.mem_singleton] at hy; subst hy; exact absurd e hx
      ·intro g y hy e; exact g y (by simp [hy]) e
 have := key M [] none (by simp)
 simpa [best] using this
def gd (f : Fur) (j p : Nat) : Int := match best f.M p with | none => f.lo j p | some n => max (f.lo j p) (f.U j - n)
theorem gd_isField {f : Fur} (hk : f.Ok) (h : f.Sound) : f.IsField f.U f.gd := by
 intro j hj
 refine ⟨h.1 j hj, f.U_le j, fun p => ?_⟩
 have h1 := hk j p
 unfold gd
 cases hb : best f.M p with
 | none => simp only; omega
 | some n =>
  obtain ⟨_, y, h3, h4, h5⟩ := (best_iff f.M p).2 n hb
  have := f.U_lim j h3
  rw [h4] at this
  simp only
  omega
theorem gd_heat {f : Fur} (p : Nat) (t : Int) : t ≤ f.heat f.U f.gd p ↔ f.High p t := by
 unfold heat High
 rw [le_mx_iff]
 cases hb : best f.M p with
 | none =>
  have h1 := (best_iff f.M p).1.1 hb
  simp only [gd, hb]
  constructor
  ·rintro ⟨j, h2, h3⟩
   exact ⟨⟨j, h2, by omega⟩, fun y hy e => absurd e (h1 y hy)⟩
  ·rintro ⟨⟨j, h2, h3⟩, _⟩
   exact ⟨j, h2, by omega⟩
 | some n =>
  obtain ⟨h1, _⟩ := (best_iff f.M p).2 n hb
  simp only [gd, hb]
  rw [← h1]
  constructor
  ·rintro ⟨j, h2, h3⟩
   exact ⟨⟨j, h2, by omega⟩, by omega⟩
  ·rintro ⟨⟨j, h2, h3⟩, h4⟩
   exact ⟨j, h2, by omega⟩
theorem gd_agrees {f : Fur} (h : f.Sound) : f.Agrees f.U f.gd := by
 refine ⟨fun x hx => ?_, fun y hy => ?_⟩
 ·rw [gd_heat]
  obtain ⟨h1, h2⟩ := h.2 x hx
  exact ⟨h2, h1⟩
 ·exact ((gd_heat y.1 _).1 (Int.le_refl _)).2 y hy rfl
def ask (f : Fur) (q : Nat) (a b : Int) : Fur := { f with L := f.L ++ [(q, a)], M := f.M ++ [(q, b)] }
theorem ask_U (f : Fur) (q : Nat) (a b : Int) (j : Nat) : (f.ask q a b).U j = min (f.U j) (b + f.hi j q) := by
 simp [ask, U, List.foldl_append]
theorem ask_sound {f : Fur} (hk : f.Ok) (h : f.Sound) (q : Nat) (t : Int) (h1 : f.Low q t) (h2 : f.High q t) : (f.ask q t t).Sound := by
 refine ⟨fun j hj => ?_, fun x hx => ?_⟩
 ·rw [ask_U]
  have a := h.1 j hj
  have b := h1.1 j hj
  omega
 ·have hx' : x ∈ f.L ∨ x = (q, t) := by simpa [ask] using hx
  rcases hx' with hx | rfl
  ·obtain ⟨g1, g2⟩ := h.2 x hx
   refine ⟨fun y hy e => ?_, ?_⟩
   ·have hy' : y ∈ f.M ∨ y = (q, t) := by simpa [ask] using hy
    rcases hy' with hy | rfl
    ·exact g1 y hy e
    ·exact h1.2.1 x hx e.symm
   ·by_cases hq : x.1 = q
    ·have h3 := h1.2.1 x hx hq
     obtain ⟨⟨j, h4, h5⟩, _⟩ := h2
     refine ⟨j, h4, ?_⟩
     rw [ask_U]
     have := hk j q
     show x.2 + f.lo j x.1 ≤ _
     rw [hq]
     omega
    ·obtain ⟨j, h3, h4, h5⟩ := h1.2.2 x hx hq
     refine ⟨j, h3, ?_⟩
     rw [ask_U]
     show x.2 + f.lo j x.1 ≤ _
     omega
  ·refine ⟨fun y hy e => ?_, ?_⟩
   ·have hy' : y ∈ f.M ∨ y = (q, t) := by simpa [ask] using hy
    rcases hy' with hy | rfl
    ·exact h2.2 y hy e
    ·exact Int.le_refl _
   ·obtain ⟨⟨j, h4, h5⟩, _⟩ := h2
    refine ⟨j, h4, ?_⟩
    rw [ask_U]
    have := hk j q
    show t + f.lo j q ≤ _
    omega
end Fur
end Go.Abs
namespace Go.Abs
set_option linter.unusedVariables false
namespace Fur
def Small (f : Fur) (P : Nat) : Prop := (∀ x ∈ f.L, x.1 < P ∧ -3000 ≤ x.2 ∧ x.2 ≤ 3000) ∧ ∀ x ∈ f.M, x.1 < P ∧ -3000 ≤ x.2 ∧ x.2 ≤ 3000
structure Lims (f : Fur) (P : Nat) (a b : Nat → Int) : Prop where
 hk : f.Ok
 sm : f.Small P
 A : ∀ p t, p < P → (a p ≤ t ↔ -1000000 ≤ t ∧ ∀ x ∈ f.L, x.1 = p → x.2 ≤ t)
 B : ∀ p t, p < P → (t ≤ b p ↔ t ≤ 1000000 ∧ ∀ y ∈ f.M, y.1 = p → t ≤ y.2)
namespace Lims
variable {f : Fur} {P : Nat} {a b : Nat → Int}
theorem a_ge (h : Lims f P a b) {p : Nat} (hp : p < P) : -1000000 ≤ a p := ((h.A p _ hp).1 (Int.le_refl _)).1
theorem a_lim (h : Lims f P a b) {x : Nat × Int} (hx : x ∈ f.L) : x.2 ≤ a x.1 := ((h.A x.1 _ (h.sm.1 x hx).1).1 (Int.le_refl _)).2 x hx rfl
theorem b_le (h : Lims f P a b) {p : Nat} (hp : p < P) : b p ≤ 1000000 := ((h.B p _ hp).1 (Int.le_refl _)).1
theorem b_lim (h : Lims f P a b) {y : Nat × Int} (hy : y ∈ f.M) : b y.1 ≤ y.2 := ((h.B y.1 _ (h.sm.2 y hy).1).1 (Int.le_refl _)).2 y hy rfl
theorem a_att (h : Lims f P a b) {p : Nat} (hp : p < P) (hn : a p ≠ -1000000) : ∃ x ∈ f.L, x.1 = p ∧ x.2 = a p := by
 by_cases hc : ∃ x ∈ f.L, x.1 = p ∧ x.2 = a p
 ·exact hc
 ·exfalso
  have h0 := h.a_ge hp
  have : a p ≤ a p - 1 := by
   rw [h.A p _ hp]
   refine ⟨by omega, fun x hx e => ?_⟩
   have h1 := h.a_lim hx
   rw [e] at h1
   have h2 : x.2 ≠ a p := fun e2 => hc ⟨x, hx, e, e2⟩
   omega
  omega
theorem b_att (h : Lims f P a b) {p : Nat} (hp : p < P) (hn : b p ≠ 1000000) : ∃ x ∈ f.M, x.1 = p ∧ x.2 = b p := by
 by_cases hc : ∃ x ∈ f.M, x.1 = p ∧ x.2 = b p
 ·exact hc
 ·exfalso
  have h0 := h.b_le hp
  have : b p + 1 ≤ b p := by
   rw [h.B p _ hp]
   refine ⟨by omega, fun x hx e => ?_⟩
   have h1 := h.b_lim hx
   rw [e] at h1
   have h2 : x.2 ≠ b p := fun e2 => hc ⟨x, hx, e, e2⟩
   omega
  omega
theorem U_iff (h : Lims f P a b) (j : Nat) (t : Int) : t ≤ f.U j ↔ t ≤ 3000 ∧ ∀ p, p < P → b p < 1000000 → t ≤ b p + f.hi j p := by
 rw [Fur.U_iff]
 constructor
 ·rintro ⟨h1, h2⟩
  refine ⟨h1, fun p hp hb => ?_⟩
  obtain ⟨y, hy, e, e2⟩ := h.b_att hp (by omega)
  have := h2 y hy
  rw [e, e2] at this
  exact this
 ·rintro ⟨h1, h2⟩
  refine ⟨h1, fun y hy => ?_⟩
  have h3 := h.b_lim hy
  have h4 := h.sm.2 y hy
  have := h2 y.1 h4.1 (by omega)
  omega
theorem sound_iff (h : Lims f P a b) : f.Sound ↔ (∀ j, j ≤ f.m → 0 ≤ f.U j) ∧ ∀ p, p < P → a p ≤ b p ∧ (a p = -1000000 ∨ ∃ j, j ≤ f.m ∧ a p + f.lo j p ≤ f.U j) := by
 constructor
 ·rintro ⟨h1, h2⟩
  refine ⟨h1, fun p hp => ⟨?_, ?_⟩⟩
  ·rw [h.A p _ hp]
   constructor
   ·rw [h.B p _ hp]
    exact ⟨by omega, fun y hy e => by have := h.sm.2 y hy; omega⟩
   ·intro x hx e
    rw [h.B p _ hp]
    refine ⟨by have := h.sm.1 x hx; omega, fun y hy e2 => (h2 x hx).1 y hy (by omega)⟩
  ·by_cases hn : a p = -1000000
   ·exact .inl hn
   ·right
    obtain ⟨x, hx, e, e2⟩ := h.a_att hp hn
    have := (h2 x hx).2
    rw [e, e2] at this
    exact this
 ·rintro ⟨h1, h2⟩
  refine ⟨h1, fun x hx => ⟨fun y hy e => ?_, ?_⟩⟩
  ·have h3 := h.a_lim hx
   have h4 := h.b_lim hy
   have h5 := (h2 x.1 (h.sm.1 x hx).1).1
   rw [e] at h4
   omega
  ·have h3 := h.a_lim hx
   have h6 := h.sm.1 x hx
   rcases (h2 x.1 h6.1).2 with h5 | ⟨j, h5, h7⟩
   ·omega
   ·exact ⟨j, h5, by omega⟩
theorem high_iff (h : Lims f P a b) {q : Nat} (hq : q < P) (t : Int) : f.High q t ↔ (∃ j, j ≤ f.m ∧ t + f.lo j q ≤ f.U j) ∧ t ≤ b q := by
 unfold High
 rw [h.B q _ hq]
 constructor
 ·rintro ⟨⟨j, h1, h2⟩, h3⟩
  refine ⟨⟨j, h1, h2⟩, ?_, h3⟩
  have := f.U_le j
  have := h.hk j q
  omega
 ·rintro ⟨h1, _, h3⟩
  exact ⟨h1, h3⟩
theorem low_iff (h : Lims f P a b) (hs : f.Sound) {q : Nat} (hq : q < P) (t : Int) :
  f.Low q t ↔ (∀ j, j ≤ f.m → -f.hi j q ≤ t) ∧ a q ≤ t ∧ ∀ p, p < P → p ≠ q → a p ≠ -1000000 → (1000000 ≤ t ∨ ∃ j, j ≤ f.m ∧ a p + f.lo j p ≤ f.U j ∧ a p + f.lo j p - f.hi j q ≤ t) := by
 unfold Low
 rw [h.A q _ hq]
 constructor
 ·rintro ⟨h1, h2, h3⟩
  refine ⟨h1, ⟨?_, h2⟩, fun p hp hpq hn => .inr ?_⟩
  ·have := h1 0 (Nat.zero_le _)
   have := h.hk 0 q
   omega
  ·obtain ⟨x, hx, e, e2⟩ := h.a_att hp hn
   have := h3 x hx (by omega)
   rw [e, e2] at this
   exact this
 ·rintro ⟨h1, ⟨_, h2⟩, h3⟩
  refine ⟨h1, h2, fun x hx hpq => ?_⟩
  have h4 := h.a_lim hx
  have h6 := h.sm.1 x hx
  rcases h3 x.1 h6.1 hpq (by omega) with h5 | ⟨j, h5, h7, h8⟩
  ·obtain ⟨j, h7, h8⟩ := (hs.2 x hx).2
   have := f.U_le j
   have := h.hk j q
   exact ⟨j, h7, h8, by omega⟩
  ·exact ⟨j, h5, by omega, by omega⟩
end Lims
end Fur
end Go.Abs
namespace Go.Abs
open Go
set_option linter.unusedVariables false
def KK : Nat := 18446744073709551616
theorem KK_big {n : Nat} (h : n ≤ Go.maxLen) : n < KK := by unfold KK; unfold Go.maxLen at h; omega
def Kiln.s (a : Kiln) : Prop := a.Falls.length ≤ Go.maxLen ∧ ∀ x ∈ a.Falls, x.length ≤ Go.maxLen
def Firing.s (f : Firing) : Prop := Kiln.s f.Kiln ∧ f.Readings.length ≤ Go.maxLen
theorem Kiln.q.s {a : Kiln} (q : Kiln.q a) : Kiln.s a := ⟨q.1, fun x hx => (q.2.2 x hx).1⟩
theorem Firing.q.s {f : Firing} (q : Firing.q f) : Firing.s f := ⟨q.1.s, q.2.1⟩
theorem maxLen_le {n : Nat} (h : n ≤ Go.maxLen) : n ≤ 9223372036854775807 := by unfold Go.maxLen at h; omega
theorem sane_KK : L04_sane KK = some true := by unfold KK; decide +kernel
set_option maxRecDepth 10000
def inB (n lo hi : Int) : Bool := decide (lo ≤ n) && decide (n ≤ hi)
theorem heat_in_eq (k : Nat) (n lo hi : Int) : heat_in k n lo hi = some (inB n lo hi) := by
 unfold heat_in inB; cases decide (lo ≤ n) <;> rfl
theorem R01_In_eq (k : Nat) (n lo hi : Int) : R01_In k n lo hi = some (inB n lo hi) := by
 unfold R01_In inB; cases decide (lo ≤ n) <;> rfl
def rangeB (r : Range) (lo hi : Int) : Bool := decide (lo ≤ r.Lo) && (decide (r.Lo ≤ r.Hi) && decide (r.Hi ≤ hi))
theorem R01_Part_eq (k : Nat) (r : Range) (lo hi : Int) : R01_Part k r lo hi = some (rangeB r lo hi) := by
 unfold R01_Part rangeB; cases decide (lo ≤ r.Lo) <;> cases decide (r.Lo ≤ r.Hi) <;> rfl
def readB (places : Int) (r : Reading) : Bool :=
 inB r.Source 1 99999 && (inB r.Place 0 (w64 (places - 1)) &&
  (bif decide (r.Kind = (1 : Int)) then (inB r.Mark 1 2000 && (decide (r.Heat.Lo = (0 : Int)) && decide (r.Heat.Hi = (0 : Int))))
  else bif decide (r.Kind = (2 : Int)) then (inB r.Mark 1 2000 && (decide (r.Heat.Lo = (0 : Int)) && decide (r.Heat.Hi = (0 : Int))))
  else bif decide (r.Kind = (3 : Int)) then (decide (r.Mark = (0 : Int)) && rangeB r.Heat 1 2000) else false))
theorem heat_isReading_eq (k : Nat) (places : Int) (r : Reading) : heat_isReading k places r = some (readB places r) := by
 unfold heat_isReading readB rangeB
 simp only [heat_in_eq, Option.bind_some]
 cases inB r.Source 1 99999 <;> cases inB r.Place 0 (w64 (places - 1)) <;> cases decide (r.Kind = (1 : Int)) <;> cases decide (r.Kind = (2 : Int)) <;> cases decide (r.Kind = (3 : Int)) <;> cases inB r.Mark 1 2000 <;> cases decide (r.Mark = (0 : Int)) <;> cases decide ((1 : Int) ≤ r.Heat.Lo) <;> cases decide (r.Heat.Lo ≤ r.Heat.Hi) <;> rfl
theorem R04_isReading_eq (k : Nat) (k0 : Kiln) (r : Reading) (x3 : List Range) (h : k0.Falls[0]? = some x3) : R04_isReading k k0 r = some (readB (x3.length : Int) r) := by
 unfold R04_isReading readB
 have ha : at? k0.Falls 0 = some x3 := by have := at_of h; simpa using this
 simp only [R01_In_eq, R01_Part_eq, Option.bind_some, ha]
 cases inB r.Source 1 99999 <;> cases inB r.Place 0 (w64 (x3.length - 1)) <;> cases decide (r.Kind = (1 : Int)) <;> cases decide (r.Kind = (2 : Int)) <;> cases decide (r.Kind = (3 : Int)) <;> cases inB r.Mark 1 2000 <;> cases decide (r.Mark = (0 : Int)) <;> rfl
theorem findSome_bif {α R : Type} (p : α → Bool) (c : R) : ∀ l : List α, l.findSome? (fun x => bif p x then none else some c) = bif l.all p then none else some c
 | [] => rfl
 | x :: l => by
  rw [List.findSome?_cons, List.all_cons]
  cases h : p x with
  | true => simp [findSome_bif p c l]
  | false => simp
theorem lt_dec {i n : Nat} (h : i < n) : decide ((i : Int) < (n : Int)) = true := by simp; omega
theorem lt_dec_self (n : Nat) : decide ((n : Int) < (n : Int)) = false := by simp
theorem len_dec {α β : Type} (a : List α) (b : List β) : decide ((a.length : Int) = (b.length : Int)) = decide (a.length = b.length) := by
 by_cases h : a.length = b.length
 ·simp [h]
 ·have : ¬ ((a.length : Int) = (b.length : Int)) := by omega
  simp [h, this]
def kilnB (a : Kiln) : Bool := inB a.Falls.length 1 6 && (inB (a.Falls.headD []).length 1 24 && a.Falls.all fun l => decide (l.length = (a.Falls.headD []).length) && l.all fun r => rangeB r 0 3000)
theorem bad_eq (k : Nat) (r : Range) : heat_CheckKiln_1 k r = some (!rangeB r 0 3000) := by
 unfold heat_CheckKiln_1 rangeB
 have h1 : decide (r.Lo < (0 : Int)) = !decide (0 ≤ r.Lo) := by by_cases h : 0 ≤ r.Lo <;> simp [h] <;> omega
 have h2 : decide (r.Hi < r.Lo) = !decide (r.Lo ≤ r.Hi) := by by_cases h : r.Lo ≤ r.Hi <;> simp [h] <;> omega
 have h3 : decide ((3000 : Int) < r.Hi) = !decide (r.Hi ≤ 3000) := by by_cases h : r.Hi ≤ 3000 <;> simp [h] <;> omega
 rw [h1, h2, h3]
 cases decide (0 ≤ r.Lo) <;> cases decide (r.Lo ≤ r.Hi) <;> rfl
theorem contains_Range {l : List Range} (hl : l.length ≤ Go.maxLen) {f : Range → Option Bool} {p : Range → Bool} (hf : ∀ x, f x = some (p x)) : slices_ContainsFunc_api_Range KK l f = some (l.any p) := by
 unfold slices_ContainsFunc_api_Range slices_IndexFunc_api_Range
 rw [indexFunc_gen (body := slices_IndexFunc_api_Range.b0 KK f l) (p := p) (fun x _ => hf x) (maxLen_le hl) (KK_big hl) rfl]
 have : l.any p = (l.findIdx? p).isSome := by rw [List.findIdx?_isSome]
 rw [this]
 cases l.findIdx? p with
 | none => rfl
 | some i => simp
theorem heat_CheckKiln_eq (a : Kiln) (q : Kiln.s a) : heat_CheckKiln KK a = some (bif kilnB a then 0 else 40) := by
 obtain ⟨q1, q2⟩ := q
 unfold heat_CheckKiln kilnB
 simp only [heat_in_eq, Option.bind_some]
 cases h0 : inB (a.Falls.length : Int) 1 6 with
 | false => rfl
 | true =>
  obtain ⟨x3, hx⟩ : ∃ x3, a.Falls[0]? = some x3 := by
   have : 0 < a.Falls.length := by simp [inB] at h0; omega
   exact ⟨_, List.getElem?_eq_getElem this⟩
  have hd : a.Falls.headD [] = x3 := by cases hF : a.Falls with | nil => rw [hF] at hx; cases hx | cons y l => rw [hF] at hx; simpa using hx
  have ha : at? a.Falls 0 = some x3 := by have := at_of hx; simpa using this
  simp only [ha, hd, cond_true, Option.bind_some, Bool.true_and]
  cases h1 : inB (x3.length : Int) 1 24 with
  | false => rfl
  | true =>
   simp only [Bool.not_true, cond_false, Bool.true_and]
   rw [whl_each (l := a.Falls) (f := fun l => bif (decide (l.length = x3.length) && l.all fun r => rangeB r 0 3000) then none else some 40) (maxLen_le q1) (KK_big q1) ?_ ?_]
   ·rw [findSome_bif]
    cases a.Falls.all _ <;> rfl
   ·intro i x hx
    have hi : i < a.Falls.length := (List.getElem?_eq_some_iff.1 hx).1
    unfold heat_CheckKiln.b0
    rw [lt_dec hi, at_of hx]
    simp only [cond_true, Option.bind_some, len_dec]
    rw [contains_Range (q2 x (List.mem_of_getElem? hx)) (fun r => bad_eq KK r)]
    have : (x.any fun r => !rangeB r 0 3000) = !(x.all fun r => rangeB r 0 3000) := by simp [List.all_eq_not_any_not]
    rw [this]
    cases decide (x.length = x3.length) <;> cases (x.all fun r => rangeB r 0 3000) <;> rfl
   ·unfold heat_CheckKiln.b0
    rw [lt_dec_self]; rfl
theorem R04_CheckKiln_eq (a : Kiln) (q : Kiln.s a) : R04_CheckKiln KK a = some (bif kilnB a then 0 else 40) := by
 obtain ⟨q1, q2⟩ := q
 unfold R04_CheckKiln kilnB
 simp only [R01_In_eq, Option.bind_some]
 cases h0 : inB (a.Falls.length : Int) 1 6 with
 | false => rfl
 | true =>
  have hpos : 0 < a.Falls.length := by simp [inB] at h0; omega
  obtain ⟨x3, hx⟩ : ∃ x3, a.Falls[0]? = some x3 := ⟨_, List.getElem?_eq_getElem hpos⟩
  have hd : a.Falls.headD [] = x3 := by cases hF : a.Falls with | nil => rw [hF] at hx; cases hx | cons y l => rw [hF] at hx; simpa using hx
  have ha : at? a.Falls 0 = some x3 := by have := at_of hx; simpa using this
  simp only [ha, hd, Bool.not_true, cond_false, Option.bind_some, Bool.true_and]
  rw [whl_each (l := a.Falls) (f := fun l => bif (decide (l.length = x3.length) && (inB (x3.length : Int) 1 24 && l.all fun r => rangeB r 0 3000)) then none else some 40) (maxLen_le q1) (KK_big q1) ?_ ?_]
  ·rw [findSome_bif]
   have : (a.Falls.all fun l => decide (l.length = x3.length) && (inB (x3.length : Int) 1 24 && l.all fun r => rangeB r 0 3000)) = (inB (x3.length : Int) 1 24 && a.Falls.all fun l => decide (l.length = x3.length) && l.all fun r => rangeB r 0 3000) := by
    cases inB (x3.length : Int) 1 24 with
    | true => simp
    | false =>
     simp only [Bool.false_and, Bool.and_false]
     cases hF : a.Falls with
     | nil => rw [hF] at hpos; simp at hpos
     | cons y l => simp
   rw [this]
   cases (inB (x3.length : Int) 1 24 && a.Falls.all fun l => decide (l.length = x3.length) && l.all fun r => rangeB r 0 3000) <;> rfl
  ·intro i x hx'
   have hi : i < a.Falls.length := (List.getElem?_eq_some_iff.1 hx').1
   have hq := q2 x (List.mem_of_getElem? hx')
   unfold R04_CheckKiln.b0
   rw [lt_dec hi, at_of hx']
   simp only [cond_true, Option.bind_some, len_dec, R01_In_eq]
   cases hl : decide (x.length = x3.length) with
   | false => rfl
   | true =>
    simp only [cond_true, Bool.true_and]
    cases inB (x3.length : Int) 1 24 with
    | false => rfl
    | true =>
     simp only [Bool.not_true, cond_false, Bool.true_and]
     have hl' : x.length = x3.length := by simpa using hl
     rw [whl_each (l := x) (f := fun r => bif rangeB r 0 3000 then none else some 40) (maxLen_le hq) (KK_big hq) ?_ ?_]
     ·rw [findSome_bif]
      cases (x.all fun r => rangeB r 0 3000) <;> rfl
     ·intro j r hr
      have hj : j < x.length := (List.getElem?_eq_some_iff.1 hr).1
      unfold R04_CheckKiln.b1
      rw [← hl', lt_dec hj, at_of hr]
      simp only [cond_true, Option.bind_some, R01_Part_eq]
      cases rangeB r 0 3000 <;> rfl
     ·unfold R04_CheckKiln.b1
      rw [← hl', lt_dec_self]; rfl
  ·unfold R04_CheckKiln.b0
   rw [lt_dec_self]; rfl
theorem kilnB_head {a : Kiln} (h : kilnB a = true) : ∃ x3, a.Falls[0]? = some x3 ∧ at? a.Falls 0 = some x3 ∧ a.Falls.headD [] = x3 := by
 have hpos : 0 < a.Falls.length := by simp [kilnB, inB] at h; omega
 obtain ⟨x3, hx⟩ : ∃ x3, a.Falls[0]? = some x3 := ⟨_, List.getElem?_eq_getElem hpos⟩
 exact ⟨x3, hx, by have := at_of hx; simpa using this, by cases hF : a.Falls with | nil => rw [hF] at hx; cases hx | cons y l => rw [hF] at hx; simpa using hx⟩
def firingCode (f : Firing) : Int := bif kilnB f.Kiln then (bif decide ((60 : Int) < (f.Readings.length : Int)) then 2 else bif f.Readings.all (readB ((f.Kiln.Falls.headD []).length : Int)) then 0 else 41) else 40
theorem heat_Check_eq (f : Firing) (q : Firing.s f) : heat_Check KK f = some (firingCode f) := by
 obtain ⟨q1, q2⟩ := q
 unfold heat_Check firingCode
 rw [heat_CheckKiln_eq _ q1]
 cases h : kilnB f.Kiln with
 | false => rfl
 | true =>
  obtain ⟨x3, h1, h2, h3⟩ := kilnB_head h
  simp only [Option.bind_some, cond_true, h3]
  simp only [decide_true, Bool.not_true, cond_false]
  cases decide ((60 : Int) < (f.Readings.length : Int)) with
  | true => rfl
  | false =>
   simp only [cond_false]
   rw [whl_each (l := f.Readings) (f := fun r => bif readB (x3.length : Int) r then none else some 41) (maxLen_le q2) (KK_big q2) ?_ ?_]
   ·rw [findSome_bif]
    have : (f.Readings.all fun r => readB (x3.length : Int) r) = f.Readings.all (readB (x3.length : Int)) := rfl
    rw [this]
    cases f.Readings.all (readB (x3.length : Int)) <;> rfl
   ·intro i r hr
    have hi : i < f.Readings.length := (List.getElem?_eq_some_iff.1 hr).1
    unfold heat_Check.b0
    rw [lt_dec hi, at_of hr]
    simp only [cond_true, Option.bind_some, h2, heat_isReading_eq]
    cases readB (x3.length : Int) r <;> rfl
   ·unfold heat_Check.b0
    rw [lt_dec_self]; rfl
theorem R04_Check_eq (f : Firing) (q : Firing.s f) : R04_Check KK f = some (firingCode f) := by
 obtain ⟨q1, q2⟩ := q
 unfold R04_Check firingCode
 rw [R04_CheckKiln_eq _ q1]
 cases h : kilnB f.Kiln with
 | false => rfl
 | true =>
  obtain ⟨x3, h1, h2, h3⟩ := kilnB_head h
  simp only [Option.bind_some, cond_true, h3]
  simp only [decide_true, Bool.not_true, cond_false]
  cases decide ((60 : Int) < (f.Readings.length : Int)) with
  | true => rfl
  | false =>
   simp only [cond_false]
   rw [whl_each (l := f.Readings) (f := fun r => bif readB (x3.length : Int) r then none else some 41) (maxLen_le q2) (KK_big q2) ?_ ?_]
   ·rw [findSome_bif]
    have : (f.Readings.all fun r => readB (x3.length : Int) r) = f.Readings.all (readB (x3.length : Int)) := rfl
    rw [this]
    cases f.Readings.all (readB (x3.length : Int)) <;> rfl
   ·intro i r hr
    have hi : i < f.Readings.length := (List.getElem?_eq_some_iff.1 hr).1
    unfold R04_Check.b0
    rw [lt_dec hi, at_of hr]
    simp only [cond_true, Option.bind_some, R04_isReading_eq KK f.Kiln r x3 h1]
    cases readB (x3.length : Int) r <;> rfl
   ·unfold R04_Check.b0
    rw [lt_dec_self]; rfl
end Go.Abs
namespace Go.Abs
open Go
set_option linter.unusedVariables false
theorem R01_Same_refl (a : List Int) (q : a.length ≤ Go.maxLen) : R01_Same KK a a = some true := by
 unfold R01_Same
 simp only [decide_true, Bool.not_true, cond_false]
 rw [whl_each (l := a) (f := fun _ => (none : Option Bool)) (maxLen_le q) (KK_big q) ?_ ?_]
 ·have : a.findSome? (fun _ => (none : Option Bool)) = none := by induction a <;> simp_all
  rw [this]; rfl
 ·intro i x hx
  have hi : i < a.length := (List.getElem?_eq_some_iff.1 hx).1
  unfold R01_Same.b0
  rw [lt_dec hi, at_of hx]
  simp
 ·unfold R01_Same.b0
  rw [lt_dec_self]; rfl
theorem heat_kilnCopy_eq (a : Kiln) (h1 : a.Falls.length ≤ 1000) (h2 : ∀ x ∈ a.Falls, x.length ≤ 1000) : heat_kilnCopy KK a = some a := by
 unfold heat_kilnCopy
 have h := (whl_fold (l := a.Falls) (body := heat_kilnCopy.b0 KK a) (k := KK) (fun i s => (i, s)) (fun s x => s ++ [x]) (fun i s => s.length = i) (s0 := []) (by omega) (by unfold KK; omega) rfl ?_ ?_).1
 ·rw [h, foldl_push]; rfl
 ·intro i x s hx hI
  have hi : i < a.Falls.length := (List.getElem?_eq_some_iff.1 hx).1
  have hq := h2 x (List.mem_of_getElem? hx)
  refine ⟨?_, by simp [hI]⟩
  unfold heat_kilnCopy.b0 slices_Clone_api_Range
  simp only [lt_dec hi, at_of hx, cond_true, Option.bind_some]
  rw [room_of (by omega) (by omega)]
  simp only [Option.bind_some]
  rw [push_of (by omega) (by omega)]
  rfl
 ·intro s _
  unfold heat_kilnCopy.b0
  simp only [lt_dec_self]; rfl
theorem R04_kiln_eq (a : Kiln) (h1 : a.Falls.length ≤ 1000) (h2 : ∀ x ∈ a.Falls, x.length ≤ 1000) : R04_kiln KK a = some a := by
 unfold R04_kiln
 have h := (whl_fold (l := a.Falls) (body := R04_kiln.b0 KK a) (k := KK) (fun i s => (i, s)) (fun s x => s ++ [x]) (fun i s => s.length = i) (s0 := []) (by omega) (by unfold KK; omega) rfl ?_ ?_).1
 ·rw [h, foldl_push]; rfl
 ·intro i x s hx hI
  have hi : i < a.Falls.length := (List.getElem?_eq_some_iff.1 hx).1
  have hq := h2 x (List.mem_of_getElem? hx)
  refine ⟨?_, by simp [hI]⟩
  unfold R04_kiln.b0
  simp only [lt_dec hi, at_of hx, cond_true, Option.bind_some]
  rw [room_of (by omega) (by omega)]
  simp only [Option.bind_some]
  rw [push_of (by omega) (by omega)]
  rfl
 ·intro s _
  unfold R04_kiln.b0
  simp only [lt_dec_self]; rfl
theorem kilnB_small {a : Kiln} (h : kilnB a = true) : a.Falls.length ≤ 6 ∧ (a.Falls.headD []).length ≤ 24 ∧ ∀ x ∈ a.Falls, x.length = (a.Falls.headD []).length := by
 simp only [kilnB, inB, Bool.and_eq_true, decide_eq_true_eq, List.all_eq_true] at h
 obtain ⟨h1, h2, h3⟩ := h
 exact ⟨by omega, by omega, fun x hx => (h3 x hx).1⟩
theorem firing_small {f : Firing} (h : firingCode f = 0) : kilnB f.Kiln = true ∧ f.Readings.length ≤ 60 ∧ ∀ r ∈ f.Readings, readB ((f.Kiln.Falls.headD []).length : Int) r = true := by
 unfold firingCode at h
 cases h1 : kilnB f.Kiln with
 | false => rw [h1] at h; simp at h
 | true =>
  rw [h1] at h
  simp only [cond_true] at h
  by_cases h2 : (60 : Int) < (f.Readings.length : Int)
  ·simp [h2] at h
  ·simp only [h2, decide_false, cond_false] at h
   cases h3 : f.Readings.all (readB ((f.Kiln.Falls.headD []).length : Int)) with
   | false => rw [h3] at h; simp at h
   | true => exact ⟨rfl, by omega, fun r hr => List.all_eq_true.1 h3 r hr⟩
end Go.Abs
namespace Go.Abs
open Go
set_option linter.unusedVariables false
def insU (n : Int) : List Int → List Int
 | [] => [n]
 | y :: l => bif decide (y = n) then y :: l else bif decide (n < y) then n :: y :: l else y :: insU n l
theorem insU_mem (n : Int) : ∀ (l : List Int) (x : Int), x ∈ insU n l ↔ x = n ∨ x ∈ l
 | [], x => by simp [insU]
 | y :: l, x => by
  unfold insU
  by_cases h1 : y = n
  ·simp [h1]
  ·by_cases h2 : n < y
   ·simp [h1, h2]
   ·simp only [h1, h2, decide_false, cond_false, List.mem_cons, insU_mem n l]
    constructor
    ·rintro (h | h | h) <;> simp [h]
    ·rintro (h | h | h) <;> simp [h]
theorem insU_sorted (n : Int) : ∀ l : List Int, l.Pairwise (· < ·) → (insU n l).Pairwise (· < ·)
 | [], _ => by simp [insU]
 | y :: l, h => by
  have h0 := h
  rw [List.pairwise_cons] at h
  unfold insU
  by_cases h1 : y = n
  ·simp only [h1, decide_true, cond_true]; rw [← h1]; exact h0
  ·by_cases h2 : n < y
   ·simp only [h1, h2, decide_false, decide_true, cond_false, cond_true]
    rw [List.pairwise_cons]
    refine ⟨fun z hz => ?_, h0⟩
    rcases List.mem_cons.1 hz with rfl | hz
    ·exact h2
    ·have := h.1 z hz; omega
   ·simp only [h1, h2, decide_false, cond_false]
    rw [List.pairwise_cons]
    refine ⟨fun z hz => ?_, insU_sorted n l h.2⟩
    rcases (insU_mem n l z).1 hz with rfl | hz
    ·omega
    ·exact h.1 z hz
theorem insU_of_mem (n : Int) : ∀ l : List Int, l.Pairwise (· < ·) → n ∈ l → insU n l = l
 | [], _, h => by simp at h
 | y :: l, h, hm => by
  rw [List.pairwise_cons] at h
  unfold insU
  by_cases h1 : y = n
  ·simp [h1]
  ·rcases List.mem_cons.1 hm with rfl | hm
   ·exact absurd rfl h1
   ·have := h.1 n hm
    have h2 : ¬ n < y := by omega
    simp only [h1, h2, decide_false, cond_false]
    rw [insU_of_mem n l h.2 hm]
theorem insU_len (n : Int) : ∀ l : List Int, (insU n l).length ≤ l.length + 1
 | [] => by simp [insU]
 | y :: l => by
  unfold insU
  cases decide (y = n) <;> cases decide (n < y) <;> simp <;> exact insU_len n l
theorem rising_eq : ∀ {a b : List Int}, a.Pairwise (· < ·) → b.Pairwise (· < ·) → (∀ x, x ∈ a ↔ x ∈ b) → a = b
 | [], [], _, _, _ => rfl
 | [], y :: b, _, _, h => by have := (h y).2 (by simp); simp at this
 | x :: a, [], _, _, h => by have := (h x).1 (by simp); simp at this
 | x :: a, y :: b, ha, hb, h => by
  rw [List.pairwise_cons] at ha hb
  have hxy : x = y := by
   have h1 := (h x).1 (by simp)
   have h2 := (h y).2 (by simp)
   rcases List.mem_cons.1 h1 with e | e
   ·exact e
   ·rcases List.mem_cons.1 h2 with e' | e'
    ·exact e'.symm
    ·have := ha.1 y e'; have := hb.1 x e; omega
  subst hxy
  congr 1
  refine rising_eq ha.2 hb.2 fun z => ⟨fun hz => ?_, fun hz => ?_⟩
  ·rcases List.mem_cons.1 ((h z).1 (List.mem_cons_of_mem _ hz)) with e | e
   ·subst e; have := ha.1 z hz; omega
   ·exact e
  ·rcases List.mem_cons.1 ((h z).2 (List.mem_cons_of_mem _ hz)) with e | e
   ·subst e; have := hb.1 z hz; omega
   ·exact e
theorem drop_cons {α : Type} {l m : List α} {i : Nat} {x : α} (h : l.drop i = x :: m) : l[i]? = some x ∧ i < l.length ∧ l.drop (i + 1) = m := by
 have hx : l[i]? = some x := by
  have := congrArg (fun q => q[0]?) h
  simpa using this
 exact ⟨hx, (List.getElem?_eq_some_iff.1 hx).1, by rw [← List.drop_drop, h]; rfl⟩
theorem w64_succ {i n : Nat} (h : i < n) (hn : n ≤ 9223372036854775807) : w64 ((i : Int) + 1) = ((i + 1 : Nat) : Int) := by rw [w64_of (by omega) (by omega)]; omega
theorem R01_add_eq (l0 : List Int) (n : Int) (hs : l0.Pairwise (· < ·)) (hl : l0.length ≤ 8589934592) : R01_add KK l0 n = some (insU n l0) := by
 have hn : l0.length ≤ 9223372036854775807 := by omega
 have rest : ∀ (m : List Int) (i k : Nat) (l3 : List Int), l0.drop i = m → i + m.length = l0.length → m.length < k → (∀ x ∈ m, n < x) → l3.length = i + 1 →
   whl (R01_add.b0 KK l0 n) k (true, (i : Int), l3) = some (.brk (true, l3 ++ m)) := by
  intro m
  induction m with
  | nil =>
   intro i k l3 _ h3 h4 _ _
   cases k with
   | zero => omega
   | succ k =>
    have : i = l0.length := by simpa using h3
    subst this
    rw [whl]
    unfold R01_add.b0
    simp only [lt_dec_self, cond_false, List.append_nil]
  | cons x m ih =>
   intro i k l3 h1 h3 h4 h5 h6
   cases k with
   | zero => omega
   | succ k =>
    obtain ⟨hx, hi, hd⟩ := drop_cons h1
    simp only [List.length_cons] at h3 h4
    have hne : ¬ x = n := by have := h5 x (by simp); omega
    rw [whl]
    have : R01_add.b0 KK l0 n (true, (i : Int), l3) = some (.next (true, ((i + 1 : Nat) : Int), l3 ++ [x])) := by
     unfold R01_add.b0
     simp only [lt_dec hi, at_of hx, cond_true, Option.bind_some, hne, decide_false, cond_false, Bool.not_true]
     rw [push_of (by omega) (by omega), w64_succ hi hn]
     rfl
    rw [this]
    simp only
    rw [ih (i + 1) k (l3 ++ [x]) hd (by omega) (by omega) (fun y hy => h5 y (List.mem_cons_of_mem _ hy)) (by simp [h6])]
    simp
 have main : ∀ (m : List Int) (i k : Nat) (l3 : List Int), l0.drop i = m → i + m.length = l0.length → m.length < k → m.Pairwise (· < ·) → l3.length = i →
   (n ∈ m ∧ whl (R01_add.b0 KK l0 n) k (false, (i : Int), l3) = some (.ret l0)) ∨ (n ∉ m ∧ ∃ b l5, whl (R01_add.b0 KK l0 n) k (false, (i : Int), l3) = some (.brk (b, l5)) ∧ (bif b then l5 else l5 ++ [n]) = l3 ++ insU n m ∧ (b = false → l5.length = l0.length)) := by
  intro m
  induction m with
  | nil =>
   intro i k l3 _ h3 h4 _ h6
   cases k with
   | zero => omega
   | succ k =>
    have : i = l0.length := by simpa using h3
    subst this
    refine .inr ⟨by simp, false, l3, ?_, rfl, fun _ => h6⟩
    rw [whl]
    unfold R01_add.b0
    simp only [lt_dec_self, cond_false]
  | cons x m ih =>
   intro i k l3 h1 h3 h4 h5 h6
   cases k with
   | zero => omega
   | succ k =>
    obtain ⟨hx, hi, hd⟩ := drop_cons h1
    simp only [List.length_cons] at h3 h4
    rw [List.pairwise_cons] at h5
    rw [whl]
    by_cases he : x = n
    ·left
     refine ⟨by simp [he], ?_⟩
     unfold R01_add.b0
     simp only [lt_dec hi, at_of hx, cond_true, Option.bind_some, he, decide_true]
    ·by_cases hlt : n < x
     ·right
      have hnm : n ∉ x :: m := by
       intro hh
       rcases List.mem_cons.1 hh with rfl | hh
       ·exact he rfl
       ·have := h5.1 n hh; omega
      have : R01_add.b0 KK l0 n (false, (i : Int), l3) = some (.next (true, ((i + 1 : Nat) : Int), l3 ++ [n] ++ [x])) := by
       unfold R01_add.b0
       simp only [lt_dec hi, at_of hx, cond_true, Option.bind_some, he, hlt, decide_false, decide_true, cond_false, Bool.not_false]
       rw [push_of (by omega) (by omega)]
       simp only [Option.bind_some]
       rw [push_of (by simp; omega) (by simp; omega), w64_succ hi hn]
       rfl
      rw [this]
      simp only
      refine ⟨hnm, true, _, rest m (i + 1) k _ hd (by omega) (by omega) (fun y hy => by have := h5.1 y hy; omega) (by simp [h6]), ?_, by simp⟩
      unfold insU
      simp [he, hlt]
     ·have : R01_add.b0 KK l0 n (false, (i : Int), l3) = some (.next (false, ((i + 1 : Nat) : Int), l3 ++ [x])) := by
       unfold R01_add.b0
       simp only [lt_dec hi, at_of hx, cond_true, Option.bind_some, he, hlt, decide_false, cond_false, Bool.not_false]
       rw [push_of (by omega) (by omega), w64_succ hi hn]
       rfl
      rw [this]
      simp only
      have hins : insU n (x :: m) = x :: insU n m := by
       rw [insU]; simp [he, hlt]
      rcases ih (i + 1) k (l3 ++ [x]) hd (by omega) (by omega) h5.2 (by simp [h6]) with ⟨g1, g2⟩ | ⟨g1, b, l5, g2, g3, g4⟩
      ·exact .inl ⟨List.mem_cons_of_mem _ g1, g2⟩
      ·refine .inr ⟨?_, b, l5, g2, ?_, g4⟩
       ·intro hh
        rcases List.mem_cons.1 hh with rfl | hh
        ·exact he rfl
        ·exact g1 hh
       ·rw [g3, hins]; simp
 unfold R01_add
 have hk : l0.length < KK := by unfold KK; omega
 rcases main l0 0 KK [] rfl (by simp) hk hs rfl with ⟨g1, g2⟩ | ⟨g1, b, l5, g2, g3, g4⟩
 ·have g2' : whl (R01_add.b0 KK l0 n) KK (false, 0, []) = some (.ret l0) := g2
  rw [g2', insU_of_mem n l0 hs g1]; rfl
 ·have g2' : whl (R01_add.b0 KK l0 n) KK (false, 0, []) = some (.brk (b, l5)) := g2
  rw [g2']
  simp only [Option.bind_some]
  cases b with
  | true => simp only [Bool.not_true, cond_false]; simpa using g3
  | false =>
   have := g4 rfl
   simp only [Bool.not_false, cond_true]
   rw [push_of (by omega) (by omega)]
   simpa using g3
def usort (l : List Int) : List Int := l.foldl (fun s x => insU x s) []
theorem R01_Sorted_eq (l : List Int) (hl : l.length ≤ 8589934592) : R01_Sorted KK l = some (usort l) ∧ (usort l).Pairwise (· < ·) := by
 have h := whl_fold (l := l) (body := R01_Sorted.b0 KK l) (k := KK) (fun i s => (s, i)) (fun s x => insU x s) (fun i s => s.length ≤ i ∧ s.Pairwise (· < ·)) (s0 := []) (by omega) (by unfold KK; omega) ⟨by simp, by simp⟩ ?_ ?_
 ·refine ⟨?_, h.2.2⟩
  unfold R01_Sorted
  rw [h.1]; rfl
 ·intro i x s hx hI
  have hi : i < l.length := (List.getElem?_eq_some_iff.1 hx).1
  refine ⟨?_, by have := insU_len x s; omega, insU_sorted x s hI.2⟩
  unfold R01_Sorted.b0
  simp only [lt_dec hi, at_of hx, cond_true, Option.bind_some]
  rw [R01_add_eq s x hI.2 (by omega)]
  rfl
 ·intro s _
  unfold R01_Sorted.b0
  simp only [lt_dec_self]; rfl
theorem usort_mem (l : List Int) (x : Int) : x ∈ usort l ↔ x ∈ l := by
 have : ∀ (l s : List Int), x ∈ l.foldl (fun s x => insU x s) s ↔ x ∈ l ∨ x ∈ s := by
  intro l
  induction l with
  | nil => simp
  | cons y l ih => intro s; rw [List.foldl_cons, ih, insU_mem, List.mem_cons]; grind
 rw [usort, this]; simp
end Go.Abs
namespace Go.Abs
open Go
set_option linter.unusedVariables false
theorem at_part {α : Type} {l : List α} {a m j : Nat} {x : α} (h : l[j]? = some x) (h1 : a ≤ j) (h2 : j - a < m) : at? ((l.drop a).take m) ((j - a : Nat) : Int) = some x := by
 apply at_of
 rw [List.getElem?_take, if_pos h2, List.getElem?_drop, show a + (j - a) = j by omega]
 exact h
theorem set_of {α : Type} {l : List α} {i : Nat} {x : α} (h : i < l.length) : set? l (i : Int) x = some (l.set i x) := by
 unfold set?
 rw [if_pos ⟨by omega, by omega⟩]
 simp
theorem ls_of {n i : Nat} (h : i ≤ n) : ls? n (i : Int) = some () := by
 unfold ls?
 rw [if_pos ⟨by omega, by omega⟩]
theorem hs_of {n i : Nat} (h : i ≤ n) : hs? n (i : Int) = some () := by
 unfold hs?
 rw [if_pos ⟨by omega, by omega⟩]
theorem clr_take {α : Type} (l : List α) (i n : Nat) (z : α) (h : i ≤ l.length) : (clr l i n z).take i = l.take i := by
 unfold clr
 rw [List.take_append_of_le_length (by simp; omega), List.take_take, Nat.min_self]
theorem take_succ_of {α : Type} {l : List α} {i : Nat} {x : α} (h : l[i]? = some x) : l.take (i + 1) = l.take i ++ [x] := by
 rw [List.take_add_one, h]; rfl
theorem sorted_le {s : List Int} (hs : s.Pairwise (· ≤ ·)) {i j : Nat} {x y : Int} (hij : i ≤ j) (hx : s[i]? = some x) (hy : s[j]? = some y) : x ≤ y := by
 obtain ⟨h1, rfl⟩ := List.getElem?_eq_some_iff.1 hx
 obtain ⟨h2, rfl⟩ := List.getElem?_eq_some_iff.1 hy
 rcases Nat.lt_or_ge i j with h | h
 ·exact (List.pairwise_iff_getElem.1 hs) i j h1 h2 h
 ·have : i = j := by omega
  subst this; exact Int.le_refl _
theorem take_le {s : List Int} (hs : s.Pairwise (· ≤ ·)) {j : Nat} {x y : Int} (hx : x ∈ s.take j) (hy : s[j - 1]? = some y) : x ≤ y := by
 obtain ⟨i, hi, rfl⟩ := List.getElem_of_mem hx
 rw [List.getElem_take]
 simp only [List.length_take] at hi
 exact sorted_le hs (i := i) (j := j - 1) (by omega) (List.getElem?_eq_getElem (by omega)) hy
theorem compact_inner (s : List Int) (hs : s.Pairwise (· ≤ ·)) (hl : s.length ≤ 8589934592) (a : Nat) (ha : 1 ≤ a) (han : a < s.length) (hr : (s.take a).Pairwise (· < ·)) (he : s[a]? = s[a - 1]?) :
  ∃ (w : Nat) (l : List Int), whl (slices_Compact_int.b1 KK s a) KK ((a : Int), (1 : Int), s) = some (.brk ((w : Int), l)) ∧ w ≤ l.length ∧ (l.take w).Pairwise (· < ·) ∧ ∀ x, x ∈ l.take w ↔ x ∈ s := by
 have h := whl_ok (body := slices_Compact_int.b1 KK s a)
  (fun t => ∃ (w j : Nat) (l : List Int), t = ((w : Int), ((j - a : Nat) : Int), l) ∧ l.length = s.length ∧ a ≤ w ∧ w + 1 ≤ j ∧ j ≤ s.length ∧ (∀ m, j ≤ m + 1 → l[m]? = s[m]?) ∧ (l.take w).Pairwise (· < ·) ∧ ∀ x, x ∈ l.take w ↔ x ∈ s.take j)
  (fun r => ∃ (w : Nat) (l : List Int), r = .brk ((w : Int), l) ∧ w ≤ l.length ∧ (l.take w).Pairwise (· < ·) ∧ ∀ x, x ∈ l.take w ↔ x ∈ s)
  (fun t => s.length - (t.2.1.toNat + a)) ?_ KK ((a : Int), (1 : Int), s) ⟨a, a + 1, s, ?_, rfl, Nat.le_refl _, Nat.le_refl _, by omega, fun _ _ => rfl, hr, ?_⟩ (by unfold KK; omega)
 ·obtain ⟨r, h1, ⟨w, l, h2, h3⟩, _⟩ := h
  subst h2
  exact ⟨w, l, h1, h3⟩
 ·rintro t ⟨w, j, l, rfl, g1, g2, g3, g4, g5, g6, g7⟩
  by_cases hj : j = s.length
  ·right; left
   refine ⟨((w : Int), l), ?_, w, l, rfl, by omega, g6, ?_⟩
   ·unfold slices_Compact_int.b1
    have : decide (((j - a : Nat) : Int) < ((s.length - (a : Int).toNat : Nat) : Int)) = false := by subst hj; simp
    simp only [this, cond_false]
   ·intro x; rw [g7, hj, List.take_length]
  ·left
   obtain ⟨y, hy⟩ : ∃ y, s[j]? = some y := ⟨_, List.getElem?_eq_getElem (by omega)⟩
   obtain ⟨z, hz⟩ : ∃ z, s[j - 1]? = some z := ⟨_, List.getElem?_eq_getElem (by omega)⟩
   have d1 : decide (((j - a : Nat) : Int) < ((s.length - a : Nat) : Int)) = true := by simp; omega
   have d2 : w64 (((j - a : Nat) : Int) - 1) = ((j - 1 - a : Nat) : Int) := by rw [w64_of (by omega) (by omega)]; omega
   have d3 : w64 (((j - a : Nat) : Int) + 1) = ((j + 1 - a : Nat) : Int) := by rw [w64_of (by omega) (by omega)]; omega
   have e1 : at? ((l.drop a).take (s.length - a)) ((j - a : Nat) : Int) = some y := at_part (by rw [g5 j (by omega)]; exact hy) (by omega) (by omega)
   have e2 : at? ((l.drop a).take (s.length - a)) ((j - 1 - a : Nat) : Int) = some z := at_part (by rw [g5 (j - 1) (by omega)]; exact hz) (by omega) (by omega)
   have hw : w < l.length := by omega
   by_cases hyz : y = z
   ·refine ⟨((w : Int), ((j + 1 - a : Nat) : Int), l), ?_, ⟨w, j + 1, l, rfl, g1, g2, by omega, by omega, fun m hm => g5 m (by omega), g6, ?_⟩, ?_⟩
    ·unfold slices_Compact_int.b1
     simp only [d1, cond_true, Int.toNat_natCast, e1, d2, e2, Option.bind_some, hyz, decide_true, Bool.not_true, cond_false, d3]
    ·intro x
     rw [g7, take_succ_of hy, List.mem_append, List.mem_singleton]
     constructor
     ·exact .inl
     ·rintro (h | h)
      ·exact h
      ·rw [h, hyz]
       exact List.mem_of_getElem? (i := j - 1) (by rw [List.getElem?_take, if_pos (by omega)]; exact hz)
    ·simp only [Int.toNat_natCast]; omega
   ·have ew : at? l (w : Int) = some l[w] := at_of (List.getElem?_eq_getElem hw)
    have d4 : w64 ((w : Int) + 1) = ((w + 1 : Nat) : Int) := by rw [w64_of (by omega) (by omega)]; omega
    have tk : (l.set w y).take (w + 1) = l.take w ++ [y] := by
     rw [take_succ_of (x := y) (by rw [List.getElem?_set]; simp [hw])]
     rw [List.take_set_of_le (Nat.le_refl _)]
    refine ⟨(((w + 1 : Nat) : Int), ((j + 1 - a : Nat) : Int), l.set w y), ?_, ⟨w + 1, j + 1, l.set w y, rfl, by simp [g1], by omega, by omega, by omega, fun m hm => ?_, ?_, ?_⟩, ?_⟩
    ·unfold slices_Compact_int.b1
     simp only [d1, cond_true, Int.toNat_natCast, e1, d2, e2, Option.bind_some, hyz, decide_false, Bool.not_false, d3, ew, set_of hw, d4]
    ·rw [List.getElem?_set, if_neg (by omega)]; exact g5 m (by omega)
    ·rw [tk, List.pairwise_append]
     refine ⟨g6, by simp, fun x hx y' hy' => ?_⟩
     simp only [List.mem_singleton] at hy'
     subst hy'
     have h1 := take_le hs ((g7 x).1 hx) hz
     have h2 := sorted_le hs (i := j - 1) (j := j) (by omega) hz hy
     omega
    ·intro x
     rw [tk, take_succ_of hy, List.mem_append, List.mem_append, g7]
    ·simp only [Int.toNat_natCast]; omega
 ·have : a + 1 - a = 1 := by omega
  rw [this]; rfl
 ·intro x
  obtain ⟨y, hy⟩ : ∃ y, s[a]? = some y := ⟨_, List.getElem?_eq_getElem han⟩
  rw [take_succ_of hy, List.mem_append, List.mem_singleton]
  constructor
  ·exact .inl
  ·rintro (h | h)
   ·exact h
   ·rw [h]
    exact List.mem_of_getElem? (i := a - 1) (by rw [List.getElem?_take, if_pos (by omega), ← he]; exact hy)
theorem compact_eq (s : List Int) (hs : s.Pairwise (· ≤ ·)) (hl : s.length ≤ 8589934592) : ∃ r, slices_Compact_int KK s = some r ∧ r.Pairwise (· < ·) ∧ ∀ x, x ∈ r ↔ x ∈ s := by
 unfold slices_Compact_int
 by_cases h2 : ((s.length : Nat) : Int) < 2
 ·simp only [h2, decide_true, cond_true]
  refine ⟨s, rfl, ?_, fun _ => Iff.rfl⟩
  match s, h2 with
  | [], _ => exact List.Pairwise.nil
  | [x], _ => simp
  | x :: y :: l, h2 => simp at h2; omega
 ·simp only [h2, decide_false, cond_false]
  have h := whl_ok (body := slices_Compact_int.b0 KK s)
   (fun t => ∃ a : Nat, t = (a : Int) ∧ 1 ≤ a ∧ a ≤ s.length ∧ (s.take a).Pairwise (· < ·))
   (fun r => (r = .brk () ∧ s.Pairwise (· < ·)) ∨ ∃ l : List Int, r = .ret l ∧ l.Pairwise (· < ·) ∧ ∀ x, x ∈ l ↔ x ∈ s)
   (fun t => s.length - t.toNat) ?_ KK 1 ⟨1, rfl, Nat.le_refl _, by omega, ?_⟩ (by unfold KK; omega)
  ·obtain ⟨r, h1, h3 | ⟨l, h3, h4⟩, _⟩ := h
   ·rw [h1, h3.1]
    exact ⟨s, rfl, h3.2, fun _ => Iff.rfl⟩
   ·rw [h1, h3]
    exact ⟨l, rfl, h4⟩
  ·rintro t ⟨a, rfl, g1, g2, g3⟩
   by_cases ha : a = s.length
   ·right; left
    refine ⟨(), ?_, .inl ⟨rfl, ?_⟩⟩
    ·unfold slices_Compact_int.b0
     subst ha
     simp only [lt_dec_self, cond_false]
    ·rw [ha, List.take_length] at g3; exact g3
   ·obtain ⟨y, hy⟩ : ∃ y, s[a]? = some y := ⟨_, List.getElem?_eq_getElem (by omega)⟩
    obtain ⟨z, hz⟩ : ∃ z, s[a - 1]? = some z := ⟨_, List.getElem?_eq_getElem (by omega)⟩
    have d1 : decide ((a : Int) < ((s.length : Nat) : Int)) = true := lt_dec (by omega)
    have d2 : w64 ((a : Int) - 1) = ((a - 1 : Nat) : Int) := by rw [w64_of (by omega) (by omega)]; omega
    have d3 : w64 ((a : Int) + 1) = ((a + 1 : Nat) : Int) := by rw [w64_of (by omega) (by omega)]; omega
    by_cases hyz : y = z
    ·right; right
     obtain ⟨w, l, k1, k2, k3, k4⟩ := compact_inner s hs hl a g1 (by omega) g3 (by rw [hy, hz, hyz])
     refine ⟨l.take w, ?_, .inr ⟨_, rfl, k3, k4⟩⟩
     unfold slices_Compact_int.b0
     simp only [d1, cond_true, at_of hy, d2, at_of hz, Option.bind_some, hyz, decide_true, ls_of (show a ≤ s.length by omega), k1, ls_of k2, hs_of k2, Int.toNat_natCast, clr_take l w _ 0 k2]
    ·left
     refine ⟨((a + 1 : Nat) : Int), ?_, ⟨a + 1, rfl, by omega, by omega, ?_⟩, by simp only [Int.toNat_natCast]; omega⟩
     ·unfold slices_Compact_int.b0
      simp only [d1, cond_true, at_of hy, d2, at_of hz, Option.bind_some, hyz, decide_false, cond_false, d3]
     ·rw [take_succ_of hy, List.pairwise_append]
      refine ⟨g3, by simp, fun x hx y' hy' => ?_⟩
      simp only [List.mem_singleton] at hy'
      subst hy'
      have h1 := take_le hs hx hz
      have h2 := sorted_le hs (i := a - 1) (j := a) (by omega) hz hy
      omega
  ·match s, h2 with
   | [], h2 => simp at h2
   | x :: l, _ => simp
end Go.Abs
namespace Go.Abs
open Go
set_option linter.unusedVariables false
theorem heat_sources_eq (l : List Reading) (hl : l.length ≤ 8589934592) : heat_sources KK l = some (usort (l.map fun r => r.Source)) := by
 unfold heat_sources
 have h := (whl_fold (l := l) (body := heat_sources.b0 KK l) (k := KK) (fun i s => (i, s)) (fun s x => s ++ [x.Source]) (fun i s => s.length = i) (s0 := []) (by omega) (by unfold KK; omega) rfl ?_ ?_).1
 ·rw [h, foldl_map (fun r : Reading => r.Source)]
  simp only [List.nil_append, Option.bind_some]
  rw [room_of (by simp; omega) (by simp; omega)]
  simp only [Option.bind_some]
  obtain ⟨r, h1, h2, h3⟩ := compact_eq (srt (l.map fun r => r.Source)) (srt_sorted _) (by rw [srt_len]; simp; omega)
  rw [h1]
  have : r = usort (l.map fun r => r.Source) := rising_eq h2 (R01_Sorted_eq _ (by simp; omega)).2 fun x => by rw [h3, usort_mem]; exact (srt_perm _).mem_iff
  rw [this]; rfl
 ·intro i x s hx hI
  have hi : i < l.length := (List.getElem?_eq_some_iff.1 hx).1
  refine ⟨?_, by simp [hI]⟩
  unfold heat_sources.b0
  simp only [lt_dec hi, at_of hx, cond_true, Option.bind_some]
  rw [push_of (by omega) (by omega)]
  rfl
 ·intro s _
  unfold heat_sources.b0
  simp only [lt_dec_self]; rfl
theorem R04_sources_eq (l : List Reading) (hl : l.length ≤ 8589934592) : R04_sources KK l = some (usort (l.map fun r => r.Source)) := by
 unfold R04_sources
 have h := (whl_fold (l := l) (body := R04_sources.b0 KK l) (k := KK) (fun i s => (i, s)) (fun s x => s ++ [x.Source]) (fun i s => s.length = i) (s0 := []) (by omega) (by unfold KK; omega) rfl ?_ ?_).1
 ·rw [h, foldl_map (fun r : Reading => r.Source)]
  simp only [List.nil_append, Option.bind_some]
  rw [(R01_Sorted_eq _ (by simp; omega)).1]; rfl
 ·intro i x s hx hI
  have hi : i < l.length := (List.getElem?_eq_some_iff.1 hx).1
  refine ⟨?_, by simp [hI]⟩
  unfold R04_sources.b0
  simp only [lt_dec hi, at_of hx, cond_true, Option.bind_some]
  rw [push_of (by omega) (by omega)]
  rfl
 ·intro s _
  unfold R04_sources.b0
  simp only [lt_dec_self]; rfl
theorem R01_Has_eq (l : List Int) (n : Int) (hl : l.length ≤ Go.maxLen) : R01_Has KK l n = some (decide (n ∈ l)) := by
 unfold R01_Has
 rw [whl_each (l := l) (f := fun x => bif !decide (x = n) then none else some true) (maxLen_le hl) (KK_big hl) ?_ ?_]
 ·rw [findSome_bif]
  have : (l.all fun x => !decide (x = n)) = !decide (n ∈ l) := by
   rw [Bool.eq_iff_iff]
   simp only [List.all_eq_true, Bool.not_eq_true', decide_eq_false_iff_not]
   constructor
   ·intro h hm; exact h n hm rfl
   ·intro h x hx e; exact h (e ▸ hx)
  rw [this]
  cases decide (n ∈ l) <;> rfl
 ·intro i x hx
  have hi : i < l.length := (List.getElem?_eq_some_iff.1 hx).1
  unfold R01_Has.b0
  rw [lt_dec hi, at_of hx]
  simp only [cond_true, Option.bind_some]
  cases decide (x = n) <;> rfl
 ·unfold R01_Has.b0
  rw [lt_dec_self]; rfl
theorem R04_only_eq (f : Firing) (by1 : List Int) (h1 : f.Kiln.Falls.length ≤ 1000) (h2 : ∀ x ∈ f.Kiln.Falls, x.length ≤ 1000) (h3 : f.Readings.length ≤ 1000) (h4 : by1.length ≤ Go.maxLen) :
  R04_only KK f by1 = some ⟨f.Kiln, f.Readings.filter fun r => decide (r.Source ∈ by1)⟩ := by
 unfold R04_only
 rw [R04_kiln_eq _ h1 h2]
 simp only [Option.bind_some]
 have h := (whl_fold (l := f.Readings) (body := R04_only.b0 KK f by1) (k := KK) (fun i s => (i, s)) (fun s x => bif decide (x.Source ∈ by1) then s ++ [x] else s) (fun i s => s.length ≤ i) (s0 := []) (by omega) (by unfold KK; omega) (by simp) ?_ ?_).1
 ·rw [h, foldl_filter (fun x : Reading => decide (x.Source ∈ by1))]; rfl
 ·intro i x s hx hI
  have hi : i < f.Readings.length := (List.getElem?_eq_some_iff.1 hx).1
  unfold R04_only.b0
  simp only [lt_dec hi, at_of hx, cond_true, Option.bind_some, R01_Has_eq by1 x.Source h4]
  cases decide (x.Source ∈ by1) with
  | true =>
   simp only [cond_true]
   rw [push_of (by omega) (by omega)]
   exact ⟨rfl, by simp; omega⟩
  | false => exact ⟨rfl, by simp; omega⟩
 ·intro s _
  unfold R04_only.b0
  simp only [lt_dec_self]; rfl
theorem deleteFunc_eq (l : List Reading) (hl : l.length ≤ 10000) {del : Reading → Option Bool} {p : Reading → Bool} (hp : ∀ x, del x = some (p x)) : slices_DeleteFunc_api_Reading KK l del = some (l.filter fun x => !p x) := by
 unfold slices_DeleteFunc_api_Reading slices_IndexFunc_api_Reading
 rw [indexFunc_gen (body := slices_IndexFunc_api_Reading.b0 KK del l) (p := p) (fun x _ => hp x) (by omega) (by unfold KK; omega) rfl]
 cases hf : l.findIdx? p with
 | none =>
  simp only [Option.bind_some, decide_true, cond_true]
  rw [List.findIdx?_eq_none_iff] at hf
  rw [List.filter_eq_self.2 (fun x hx => by rw [hf x hx]; rfl)]
 | some a =>
  rw [List.findIdx?_eq_some_iff_getElem] at hf
  obtain ⟨ha, hpa, hbef⟩ := hf
  have hne : ¬ (a : Int) = -1 := by omega
  have d0 : w64 ((a : Int) + 1) = ((a + 1 : Nat) : Int) := by rw [w64_of (by omega) (by omega)]; omega
  simp only [Option.bind_some, hne, decide_false, cond_false, d0]
  have h := whl_ok (body := slices_DeleteFunc_api_Reading.b0 KK del)
   (fun t => ∃ (w j : Nat) (m : List Reading), t = ((w : Int), (j : Int), m) ∧ m.length = l.length ∧ w + 1 ≤ j ∧ j ≤ l.length ∧ (∀ i, j ≤ i → m[i]? = l[i]?) ∧ m.take w = (l.take j).filter fun x => !p x)
   (fun r => ∃ (w : Nat) (m : List Reading), r = .brk ((w : Int), m) ∧ w ≤ m.length ∧ m.take w = l.filter fun x => !p x)
   (fun t => l.length - t.2.1.toNat) ?_ KK ((a : Int), ((a + 1 : Nat) : Int), l) ⟨a, a + 1, l, rfl, rfl, Nat.le_refl _, by omega, fun _ _ => rfl, ?_⟩ (by unfold KK; omega)
  ·obtain ⟨r, h1, ⟨w, m, h2, h3, h4⟩, _⟩ := h
   rw [h1, h2]
   simp only [Option.bind_some, ls_of h3, hs_of h3, Int.toNat_natCast, clr_take m w _ _ h3, h4]
  ·rintro t ⟨w, j, m, rfl, g1, g2, g3, g4, g5⟩
   by_cases hj : j = l.length
   ·right; left
    refine ⟨((w : Int), m), ?_, w, m, rfl, by omega, ?_⟩
    ·unfold slices_DeleteFunc_api_Reading.b0
     have : decide ((j : Int) < ((m.length : Nat) : Int)) = false := by rw [g1, hj]; exact lt_dec_self _
     simp only [this, cond_false]
    ·rw [g5, hj, List.take_length]
   ·left
    obtain ⟨y, hy⟩ : ∃ y, l[j]? = some y := ⟨_, List.getElem?_eq_getElem (by omega)⟩
    have hw : w < m.length := by omega
    have d1 : decide ((j : Int) < ((m.length : Nat) : Int)) = true := lt_dec (by omega)
    have d3 : w64 ((j : Int) + 1) = ((j + 1 : Nat) : Int) := by rw [w64_of (by omega) (by omega)]; omega
    have d4 : w64 ((w : Int) + 1) = ((w + 1 : Nat) : Int) := by rw [w64_of (by omega) (by omega)]; omega
    have e1 : at? m (j : Int) = some y := at_of (by rw [g4 j (Nat.le_refl _)]; exact hy)
    cases hpy : p y with
    | true =>
     refine ⟨((w : Int), ((j + 1 : Nat) : Int), m), ?_, ⟨w, j + 1, m, rfl, g1, by omega, by omega, fun i hi => g4 i (by omega), ?_⟩, by simp only [Int.toNat_natCast]; omega⟩
     ·unfold slices_DeleteFunc_api_Reading.b0
      simp only [d1, cond_true, e1, Option.bind_some, hp, hpy, Bool.not_true, cond_false, d3]
     ·rw [take_succ_of hy, List.filter_append, g5]; simp [hpy]
    | false =>
     have ew : at? m (w : Int) = some m[w] := at_of (List.getElem?_eq_getElem hw)
     refine ⟨(((w + 1 : Nat) : Int), ((j + 1 : Nat) : Int), m.set w y), ?_, ⟨w + 1, j + 1, m.set w y, rfl, by simp [g1], by omega, by omega, fun i hi => ?_, ?_⟩, by simp only [Int.toNat_natCast]; omega⟩
     ·unfold slices_DeleteFunc_api_Reading.b0
      simp only [d1, cond_true, e1, Option.bind_some, hp, hpy, Bool.not_false, d3, ew, set_of hw, d4]
     ·rw [List.getElem?_set, if_neg (by omega)]; exact g4 i (by omega)
     ·rw [take_succ_of (x := y) (by rw [List.getElem?_set]; simp [hw]), List.take_set_of_le (Nat.le_refl _), take_succ_of hy, List.filter_append, g5]; simp [hpy]
  ·rw [take_succ_of (List.getElem?_eq_getElem ha), List.filter_append]
   have : (l.take a).filter (fun x => !p x) = l.take a := List.filter_eq_self.2 (fun x hx => by
    obtain ⟨i, hi, rfl⟩ := List.getElem_of_mem hx
    rw [List.getElem_take]
    simp only [List.length_take] at hi
    have := hbef i (by omega)
    simpa using this)
   rw [this]
   simp [hpa]
end Go.Abs
namespace Go.Abs
open Go
set_option linter.unusedVariables false
theorem heat_without_eq (f : Firing) (h : firingCode f = 0) (g : Int → Option Bool) (p : Int → Bool) (hg : ∀ x, g x = some (p x)) : heat_without KK f g = some ⟨f.Kiln, f.Readings.filter fun r => !p r.Source⟩ := by
 obtain ⟨h1, h2, _⟩ := firing_small h
 obtain ⟨s1, s2, s3⟩ := kilnB_small h1
 unfold heat_without
 rw [heat_kilnCopy_eq f.Kiln (by omega) (fun x hx => by rw [s3 x hx]; omega)]
 unfold slices_Clone_api_Reading
 simp only [Option.bind_some]
 rw [room_of (by omega) (by omega)]
 simp only [Option.bind_some]
 rw [deleteFunc_eq f.Readings (by omega) (p := fun r => p r.Source) (fun r => by unfold heat_without_1; rw [hg]; rfl)]
 rfl
theorem usort_len (l : List Int) : (usort l).length ≤ l.length := by
 have : ∀ (l s : List Int), (l.foldl (fun s x => insU x s) s).length ≤ l.length + s.length := by
  intro l
  induction l with
  | nil => simp
  | cons y l ih => intro s; rw [List.foldl_cons]; have := ih (insU y s); have := insU_len y s; simp only [List.length_cons]; omega
 have := this l []
 simpa [usort] using this
end Go.Abs
namespace Go.Abs
open Go
set_option linter.unusedVariables false
def R0 : Range := ⟨0, 0⟩
def Kiln.at (a : Kiln) (j p : Nat) : Range := (a.Falls.getD j []).getD p R0
def Kiln.P (a : Kiln) : Nat := (a.Falls.headD []).length
def lp (x : heat_limit) : Nat × Int := (x.place.toNat, x.heat)
def heat_furnace.fur (x : heat_furnace) : Fur := ⟨x.Firing.Kiln.Falls.length - 1, fun j p => (x.Firing.Kiln.at j p).Lo, fun j p => (x.Firing.Kiln.at j p).Hi, x.least.map lp, x.most.map lp⟩
def limOk (P : Nat) (x : heat_limit) : Prop := 0 ≤ x.place ∧ x.place < P ∧ -3000 ≤ x.heat ∧ x.heat ≤ 3000
structure heat_furnace.ok (x : heat_furnace) : Prop where
 k : kilnB x.Firing.Kiln = true
 ll : x.least.length ≤ 1000
 l : ∀ y ∈ x.least, limOk x.Firing.Kiln.P y
 ml : x.most.length ≤ 1000
 m : ∀ y ∈ x.most, limOk x.Firing.Kiln.P y
theorem kilnB_len {a : Kiln} (h : kilnB a = true) : 1 ≤ a.Falls.length ∧ a.Falls.length ≤ 6 ∧ 1 ≤ a.P ∧ a.P ≤ 24 := by
 simp only [kilnB, inB, Bool.and_eq_true, decide_eq_true_eq] at h
 have : a.P = (a.Falls.headD []).length := rfl
 omega
theorem kilnB_row {a : Kiln} (h : kilnB a = true) {j : Nat} (hj : j < a.Falls.length) : (a.Falls.getD j []).length = a.P := (kilnB_small h).2.2 _ (getD_mem [] hj)
theorem rangeB_iff {r : Range} : rangeB r 0 3000 = true ↔ 0 ≤ r.Lo ∧ r.Lo ≤ r.Hi ∧ r.Hi ≤ 3000 := by
 simp only [rangeB, Bool.and_eq_true, decide_eq_true_eq]
theorem kilnB_at {a : Kiln} (h : kilnB a = true) (j p : Nat) : 0 ≤ (a.at j p).Lo ∧ (a.at j p).Lo ≤ (a.at j p).Hi ∧ (a.at j p).Hi ≤ 3000 := by
 unfold Kiln.at
 by_cases hj : j < a.Falls.length
 ·by_cases hp : p < (a.Falls.getD j []).length
  ·have h1 := getD_mem R0 hp
   have h2 : rangeB ((a.Falls.getD j []).getD p R0) 0 3000 = true := by
    simp only [kilnB, Bool.and_eq_true, List.all_eq_true] at h
    exact (h.2.2 _ (getD_mem [] hj)).2 _ h1
   exact rangeB_iff.1 h2
  ·rw [getD_none (by omega)]
   decide
 ·rw [getD_none (l := a.Falls) (by omega)]
  simp [R0]
theorem at_row {a : Kiln} (h : kilnB a = true) {j : Nat} (hj : j < a.Falls.length) : at? a.Falls (j : Int) = some (a.Falls.getD j []) := at_nat [] hj
theorem at_cell {a : Kiln} (h : kilnB a = true) {j : Nat} (hj : j < a.Falls.length) {p : Int} (h0 : 0 ≤ p) (hp : p < a.P) : at? (a.Falls.getD j []) p = some (a.at j p.toNat) :=
 at_getD R0 h0 (by rw [kilnB_row h hj]; exact hp)
theorem at_cellN {a : Kiln} (h : kilnB a = true) {j : Nat} (hj : j < a.Falls.length) {p : Nat} (hp : p < a.P) : at? (a.Falls.getD j []) (p : Int) = some (a.at j p) :=
 at_nat R0 (by rw [kilnB_row h hj]; exact hp)
theorem fur_ok {x : heat_furnace} (h : x.ok) : x.fur.Ok := fun j p => kilnB_at h.k j p
def hotStep (x : heat_furnace) (j : Nat) (s : Int × Int) (y : heat_limit) : Int × Int := bif decide (y.heat + (x.Firing.Kiln.at j y.place.toNat).Hi < s.1) then (y.heat + (x.Firing.Kiln.at j y.place.toNat).Hi, y.by_) else s
def hot (x : heat_furnace) (j : Nat) : Int × Int := x.most.foldl (hotStep x j) (3000, -1)
theorem heat_hottest_eq {x : heat_furnace} (h : x.ok) {j : Nat} (hj : j < x.Firing.Kiln.Falls.length) : heat_furnace_hottest KK x (j : Int) = some (hot x j) := by
 have hml := h.ml
 unfold heat_furnace_hottest
 have h1 := (whl_fold (l := x.most) (body := heat_furnace_hottest.b0 KK x (j : Int)) (k := KK) (fun i s => (s.1, s.2, i)) (hotStep x j) (fun _ _ => True) (s0 := (3000, -1)) (by omega) (by unfold KK; omega) trivial ?_ ?_).1
 ·rw [h1]; rfl
 ·intro i y s hy _
  have hi : i < x.most.length := (List.getElem?_eq_some_iff.1 hy).1
  obtain ⟨g1, g2, g3, g4⟩ := h.m y (List.mem_of_getElem? hy)
  have g5 := kilnB_at h.k j y.place.toNat
  refine ⟨?_, trivial⟩
  unfold heat_furnace_hottest.b0 hotStep
  simp only [lt_dec hi, at_of hy, cond_true, Option.bind_some, at_row h.k hj, at_cell h.k hj g1 g2]
  rw [w64_of (n := y.heat + (x.Firing.Kiln.at j y.place.toNat).Hi) (by omega) (by omega)]
  cases decide (y.heat + (x.Firing.Kiln.at j y.place.toNat).Hi < s.1) <;> rfl
 ·intro s _
  unfold heat_furnace_hottest.b0
  simp only [lt_dec_self]; rfl
theorem hot_U (x : heat_furnace) (j : Nat) : (hot x j).1 = x.fur.U j := by
 have key : ∀ (l : List heat_limit) (s : Int × Int), (l.foldl (hotStep x j) s).1 = (l.map lp).foldl (fun n y => min n (y.2 + x.fur.hi j y.1)) s.1 := by
  intro l
  induction l with
  | nil => intro s; rfl
  | cons y l ih =>
   intro s
   rw [List.foldl_cons, ih, List.map_cons, List.foldl_cons]
   congr 1
   unfold hotStep
   show _ = min s.1 (y.heat + (x.Firing.Kiln.at j y.place.toNat).Hi)
   by_cases hc : y.heat + (x.Firing.Kiln.at j y.place.toNat).Hi < s.1
   ·simp only [hc, decide_true, cond_true]; omega
   ·simp only [hc, decide_false, cond_false]; omega
 exact key _ _
theorem U_ge {x : heat_furnace} (h : x.ok) (j : Nat) : -3000 ≤ x.fur.U j ∧ x.fur.U j ≤ 3000 := by
 refine ⟨?_, x.fur.U_le j⟩
 rw [Fur.U_iff]
 refine ⟨by omega, fun y hy => ?_⟩
 obtain ⟨z, hz, rfl⟩ := List.mem_map.1 hy
 have := (h.m z hz).2.2
 have := (fur_ok h j (lp z).1)
 show -3000 ≤ z.heat + _
 omega
def bestStep (p : Int) (s : heat_limit × Bool) (y : heat_limit) : heat_limit × Bool := bif decide (y.place = p) then (bif s.2 then (bif decide (y.heat < s.1.heat) then (y, true) else s) else (y, true)) else s
def bestL (l : List heat_limit) (p : Int) : heat_limit × Bool := l.foldl (bestStep p) (⟨0, 0, 0⟩, false)
theorem heat_best_eq (l : List heat_limit) (hl : l.length ≤ 1000) (p : Int) : heat_best KK l p (fun q0 q1 => heat_less KK q0 q1) = some (bestL l p) := by
 unfold heat_best
 have h1 := (whl_fold (l := l) (body := heat_best.b0 KK (fun q0 q1 => heat_less KK q0 q1) l p) (k := KK) (fun i s => (s.1, s.2, i)) (bestStep p) (fun _ _ => True) (s0 := (⟨0, 0, 0⟩, false)) (by omega) (by unfold KK; omega) trivial ?_ ?_).1
 ·rw [h1]; rfl
 ·intro i y s hy _
  have hi : i < l.length := (List.getElem?_eq_some_iff.1 hy).1
  refine ⟨?_, trivial⟩
  unfold heat_best.b0 bestStep heat_less
  obtain ⟨s1, s2⟩ := s
  simp only [lt_dec hi, at_of hy, cond_true, Option.bind_some]
  cases decide (y.place = p) <;> cases s2 <;> cases decide (y.heat < s1.heat) <;> rfl
 ·intro s _
  unfold heat_best.b0
  simp only [lt_dec_self]; rfl
theorem bestL_some (l : List heat_limit) (p : Nat) (hl : ∀ y ∈ l, 0 ≤ y.place) : Fur.best (l.map lp) p = bif (bestL l p).2 then some (bestL l p).1.heat else none := by
 have key : ∀ (l : List heat_limit) (s : heat_limit × Bool), (∀ y ∈ l, 0 ≤ y.place) → (l.map lp).foldl (Fur.bst p) (bif s.2 then some s.1.heat else none) = bif (l.foldl (bestStep p) s).2 then some (l.foldl (bestStep p) s).1.heat else none := by
  intro l
  induction l with
  | nil => intro s _; rfl
  | cons y l ih =>
   intro s hl
   rw [List.map_cons, List.foldl_cons, List.foldl_cons, ← ih _ (fun z hz => hl z (List.mem_cons_of_mem _ hz))]
   congr 1
   have h0 := hl y (by simp)
   unfold bestStep Fur.bst
   obtain ⟨s1, s2⟩ := s
   by_cases hp : y.place = (p : Int)
   ·have hp2 : (lp y).1 = p := by show y.place.toNat = p; omega
    simp only [hp, hp2, decide_true, cond_true, if_true]
    cases s2 with
    | false => rfl
    | true =>
     simp only [cond_true]
     by_cases hc : y.heat < s1.heat
     ·simp only [hc, decide_true, cond_true, Option.some.injEq]
      show min s1.heat y.heat = y.heat
      omega
     ·simp only [hc, decide_false, cond_false, cond_true, Option.some.injEq]
      show min s1.heat y.heat = s1.heat
      omega
   ·have hp2 : ¬ (lp y).1 = p := by show ¬ y.place.toNat = p; omega
    simp only [hp, hp2, decide_false, cond_false, if_false]
 exact key l (⟨0, 0, 0⟩, false) hl
theorem bestL_mem (l : List heat_limit) (p : Int) : (bestL l p).2 = true → (bestL l p).1 ∈ l ∧ (bestL l p).1.place = p := by
 have key : ∀ (l K : List heat_limit) (s : heat_limit × Bool), (s.2 = true → s.1 ∈ K ∧ s.1.place = p) → (l.foldl (bestStep p) s).2 = true → (l.foldl (bestStep p) s).1 ∈ K ++ l ∧ (l.foldl (bestStep p) s).1.place = p := by
  intro l
  induction l with
  | nil => intro K s h; simpa using h
  | cons y l ih =>
   intro K s h
   have h2 := ih (K ++ [y]) (bestStep p s y) ?_
   ·simpa using h2
   ·unfold bestStep
    by_cases hp : y.place = p
    ·simp only [hp, decide_true, cond_true]
     cases hs : s.2 with
     | false => simp [hp]
     | true =>
      have := h hs
      cases decide (y.heat < s.1.heat) with
      | true => simp [hp]
      | false => simp only [cond_true, cond_false]; intro _; exact ⟨by simp [this.1], this.2⟩
    ·simp only [hp, decide_false, cond_false]
     intro hs
     have := h hs
     exact ⟨by simp [this.1], this.2⟩
 have := key l [] (⟨0, 0, 0⟩, false) (by simp)
 simpa [bestL] using this
def reachB (x : heat_furnace) (p : Nat) (n : Int) : Bool := (List.range x.Firing.Kiln.Falls.length).any fun j => !decide (x.fur.U j < 0) && !decide (x.fur.U j - x.fur.lo j p < n)
theorem heat_reaches_eq {x : heat_furnace} (h : x.ok) {p n : Int} (h0 : 0 ≤ p) (hp : p < x.Firing.Kiln.P) : heat_furnace_reaches KK x p n = some (reachB x p.toNat n) := by
 have hk := kilnB_len h.k
 unfold heat_furnace_reaches
 rw [whl_allN (n := x.Firing.Kiln.Falls.length) (p := fun j => !(!decide (x.fur.U j < 0) && !decide (x.fur.U j - x.fur.lo j p.toNat < n))) (c := true) (by omega) (by unfold KK; omega) ?_ ?_]
 ·have : ((List.range x.Firing.Kiln.Falls.length).all fun j => !(!decide (x.fur.U j < 0) && !decide (x.fur.U j - x.fur.lo j p.toNat < n))) = !reachB x p.toNat n := by
   unfold reachB; rw [List.not_any_eq_all_not]
  rw [this]
  cases reachB x p.toNat n <;> rfl
 ·intro j hj
  unfold heat_furnace_reaches.b0
  have hu := U_ge h j
  have hc := kilnB_at h.k j p.toNat
  have hlo : x.fur.lo j p.toNat = (x.Firing.Kiln.at j p.toNat).Lo := rfl
  simp only [lt_dec hj, cond_true, heat_hottest_eq h hj, Option.bind_some, hot_U, at_row h.k hj, at_cell h.k hj h0 hp]
  rw [w64_of (n := x.fur.U j - (x.Firing.Kiln.at j p.toNat).Lo) (by omega) (by omega), hlo]
  cases decide (x.fur.U j < 0) <;> cases decide (x.fur.U j - (x.Firing.Kiln.at j p.toNat).Lo < n) <;> rfl
 ·unfold heat_furnace_reaches.b0
  rw [lt_dec_self]; rfl
theorem reachB_iff {x : heat_furnace} (h : x.ok) (hu : ∀ j, j ≤ x.fur.m → 0 ≤ x.fur.U j) (p : Nat) (n : Int) : reachB x p n = true ↔ ∃ j, j ≤ x.fur.m ∧ n + x.fur.lo j p ≤ x.fur.U j := by
 have hk := kilnB_len h.k
 have hm : x.fur.m = x.Firing.Kiln.Falls.length - 1 := rfl
 unfold reachB
 rw [List.any_eq_true]
 constructor
 ·rintro ⟨j, h1, h2⟩
  simp only [List.mem_range] at h1
  simp only [Bool.and_eq_true, Bool.not_eq_true', decide_eq_false_iff_not] at h2
  exact ⟨j, by omega, by omega⟩
 ·rintro ⟨j, h1, h2⟩
  have := hu j h1
  refine ⟨j, by simp only [List.mem_range]; omega, ?_⟩
  simp only [Bool.and_eq_true, Bool.not_eq_true', decide_eq_false_iff_not]
  omega
def soundB (x : heat_furnace) : Bool := ((List.range x.Firing.Kiln.Falls.length).all fun j => !decide (x.fur.U j < 0)) &&
 x.least.all fun y => !((bestL x.most y.place).2 && decide ((bestL x.most y.place).1.heat < y.heat)) && reachB x y.place.toNat y.heat
theorem heat_sound_eq {x : heat_furnace} (h : x.ok) : heat_furnace_sound KK x = some (soundB x) := by
 have hk := kilnB_len h.k
 have hll := h.ll
 unfold heat_furnace_sound soundB
 rw [whl_allN (n := x.Firing.Kiln.Falls.length) (p := fun j => !decide (x.fur.U j < 0)) (c := false) (by omega) (by unfold KK; omega) ?_ ?_]
 ·cases ((List.range x.Firing.Kiln.Falls.length).all fun j => !decide (x.fur.U j < 0)) with
  | false => rfl
  | true =>
   simp only [cond_true, Option.bind_some, Bool.true_and]
   rw [whl_allL (l := x.least) (p := fun y => !((bestL x.most y.place).2 && decide ((bestL x.most y.place).1.heat < y.heat)) && reachB x y.place.toNat y.heat) (c := false) (by omega) (by unfold KK; omega) ?_ ?_]
   ·cases x.least.all fun y => !((bestL x.most y.place).2 && decide ((bestL x.most y.place).1.heat < y.heat)) && reachB x y.place.toNat y.heat <;> rfl
   ·intro i y hy
    have hi : i < x.least.length := (List.getElem?_eq_some_iff.1 hy).1
    obtain ⟨g1, g2, g3, g4⟩ := h.l y (List.mem_of_getElem? hy)
    unfold heat_furnace_sound.b1
    simp only [lt_dec hi, at_of hy, cond_true, Option.bind_some, heat_best_eq _ h.ml, heat_reaches_eq h g1 g2]
    cases (bestL x.most y.place).2 <;> cases decide ((bestL x.most y.place).1.heat < y.heat) <;> cases reachB x y.place.toNat y.heat <;> rfl
   ·unfold heat_furnace_sound.b1
    rw [lt_dec_self]; rfl
 ·intro j hj
  unfold heat_furnace_sound.b0
  simp only [lt_dec hj, cond_true, heat_hottest_eq h hj, Option.bind_some, hot_U]
  cases decide (x.fur.U j < 0) <;> rfl
 ·unfold heat_furnace_sound.b0
  rw [lt_dec_self]; rfl
theorem soundB_iff {x : heat_furnace} (h : x.ok) : soundB x = true ↔ x.fur.Sound := by
 have hk := kilnB_len h.k
 have hm : x.fur.m = x.Firing.Kiln.Falls.length - 1 := rfl
 have h1 : (((List.range x.Firing.Kiln.Falls.length).all fun j => !decide (x.fur.U j < 0)) = true) ↔ ∀ j, j ≤ x.fur.m → 0 ≤ x.fur.U j := by
  rw [List.all_eq_true]
  constructor
  ·intro g j hj
   have := g j (by simp only [List.mem_range]; omega)
   simp only [Bool.not_eq_true', decide_eq_false_iff_not] at this
   omega
  ·intro g j hj
   simp only [List.mem_range] at hj
   have := g j (by omega)
   simp only [Bool.not_eq_true', decide_eq_false_iff_not]
   omega
 unfold soundB Fur.Sound
 rw [Bool.and_eq_true, h1]
 constructor
 ·rintro ⟨g1, g2⟩
  refine ⟨g1, fun z hz => ?_⟩
  obtain ⟨y, hy, rfl⟩ := List.mem_map.1 hz
  have g3 := List.all_eq_true.1 g2 y hy
  rw [Bool.and_eq_true, reachB_iff h g1] at g3
  refine ⟨fun z hz e => ?_, g3.2⟩
  obtain ⟨w, hw, rfl⟩ := List.mem_map.1 hz
  have hp := h.l y hy
  have hb := bestL_some x.most y.place.toNat (fun y hy => (h.m y hy).1)
  have ey : ((y.place.toNat : Nat) : Int) = y.place := by have := hp.1; omega
  rw [ey] at hb
  cases hs : (bestL x.most y.place).2 with
  | false =>
   rw [hs] at hb
   exact absurd e ((Fur.best_iff _ _).1.1 hb (lp w) (List.mem_map.2 ⟨w, hw, rfl⟩))
  | true =>
   rw [hs] at hb
   have g4 := (((Fur.best_iff _ _).2 _ hb).1 _).1 (Int.le_refl _) (lp w) (List.mem_map.2 ⟨w, hw, rfl⟩) e
   have g5 := g3.1
   simp only [hs, Bool.true_and, Bool.not_eq_true', decide_eq_false_iff_not] at g5
   show y.heat ≤ _
   omega
 ·rintro ⟨g1, g2⟩
  refine ⟨g1, List.all_eq_true.2 fun y hy => ?_⟩
  have g3 := g2 (lp y) (List.mem_map.2 ⟨y, hy, rfl⟩)
  rw [Bool.and_eq_true, reachB_iff h g1]
  refine ⟨?_, g3.2⟩
  cases hs : (bestL x.most y.place).2 with
  | false => rfl
  | true =>
   have g4 := bestL_mem _ _ hs
   have g5 := g3.1 (lp (bestL x.most y.place).1) (List.mem_map.2 ⟨_, g4.1, rfl⟩) (by show (bestL x.most y.place).1.place.toNat = y.place.toNat; rw [g4.2])
   have g6 : y.heat ≤ (bestL x.most y.place).1.heat := g5
   simp only [Bool.true_and, Bool.not_eq_true', decide_eq_false_iff_not]
   omega
def gField (x : heat_furnace) : Field := ⟨(List.range x.Firing.Kiln.Falls.length).map x.fur.U, (List.range x.Firing.Kiln.Falls.length).map fun j => (List.range x.Firing.Kiln.P).map fun p => x.fur.gd j p⟩
theorem heat_greatest_eq {x : heat_furnace} (h : x.ok) : heat_furnace_greatest KK x = some (gField x) := by
 have hk := kilnB_len h.k
 unfold heat_furnace_greatest
 have h1 := (whl_foldN (n := x.Firing.Kiln.Falls.length) (body := heat_furnace_greatest.b0 KK x) (k := KK) (fun i (s : List Int × List (List Int)) => (i, s.1, s.2)) (fun s j => (s.1 ++ [x.fur.U j], s.2 ++ [(List.range x.Firing.Kiln.P).map fun p => x.fur.gd j p])) (fun i s => s.1.length = i ∧ s.2.length = i) (s0 := ([], [])) (by omega) (by unfold KK; omega) ⟨rfl, rfl⟩ ?_ ?_).1
 ·rw [h1]
  have : ∀ (l : List Nat) (s : List Int × List (List Int)), l.foldl (fun s j => (s.1 ++ [x.fur.U j], s.2 ++ [(List.range x.Firing.Kiln.P).map fun p => x.fur.gd j p])) s = (s.1 ++ l.map x.fur.U, s.2 ++ l.map fun j => (List.range x.Firing.Kiln.P).map fun p => x.fur.gd j p) := by
   intro l
   induction l with
   | nil => simp
   | cons j l ih => intro s; rw [List.foldl_cons, ih]; simp
  rw [this]; rfl
 ·intro j s hj hI
  refine ⟨?_, by simp [hI.1], by simp [hI.2]⟩
  unfold heat_furnace_greatest.b0
  have hr := kilnB_row h.k hj
  have hu := U_ge h j
  simp only [lt_dec hj, cond_true, at_row h.k hj, Option.bind_some, heat_hottest_eq h hj]
  rw [push_of (by omega) (by omega)]
  simp only [Option.bind_some, hot_U]
  have h2 := (whl_foldN (n := (x.Firing.Kiln.Falls.getD j []).length) (body := heat_furnace_greatest.b1 KK x (x.Firing.Kiln.Falls.getD j []) (hot x j)) (k := KK) (fun i s => (i, s)) (fun s p => s ++ [x.fur.gd j p]) (fun i s => s.length = i) (s0 := []) (by omega) (by unfold KK; omega) rfl ?_ ?_).1
  ·rw [h2, foldl_pushN, hr]
   simp only [Option.bind_some, List.nil_append]
   rw [push_of (by omega) (by omega)]
   rfl
  ·intro p t hp hI2
   refine ⟨?_, by simp [hI2]⟩
   unfold heat_furnace_greatest.b1
   have hc := kilnB_at h.k j p
   simp only [lt_dec hp, cond_true, at_cellN h.k hj (show p < x.Firing.Kiln.P by omega), Option.bind_some, heat_best_eq _ h.ml, hot_U]
   have hb := bestL_some x.most p (fun y hy => (h.m y hy).1)
   have hgd : x.fur.gd j p = match Fur.best (x.most.map lp) p with | none => (x.Firing.Kiln.at j p).Lo | some n => max (x.Firing.Kiln.at j p).Lo (x.fur.U j - n) := rfl
   cases hs : (bestL x.most (p : Int)).2 with
   | false =>
    rw [hs] at hb
    rw [hgd, hb]
    simp only [cond_false]
    rw [push_of (by omega) (by omega)]
    rfl
   | true =>
    rw [hs] at hb
    have hm := h.m _ (bestL_mem _ _ hs).1
    have hm2 := hm.2.2
    rw [hgd, hb]
    simp only [cond_true]
    rw [w64_of (n := x.fur.U j - (bestL x.most (p : Int)).1.heat) (by omega) (by omega), push_of (by omega) (by omega)]
    rfl
  ·intro t _
   unfold heat_furnace_greatest.b1
   simp only [lt_dec_self]; rfl
 ·intro s _
  unfold heat_furnace_greatest.b0
  simp only [lt_dec_self]; rfl
end Go.Abs
namespace Go.Abs
open Go
set_option linter.unusedVariables false
def rd0 : Reading := ⟨0, 0, 0, 0, ⟨0, 0⟩⟩
def lo? (r : Reading) : Option Int := bif decide (r.Kind = (1 : Int)) then some r.Mark else bif decide (r.Kind = (3 : Int)) then some r.Heat.Lo else none
def hi? (r : Reading) : Option Int := bif decide (r.Kind = (2 : Int)) then some (w64 (r.Mark - 1)) else bif decide (r.Kind = (3 : Int)) then some r.Heat.Hi else none
def limOf (l : List Reading) (g : Reading → Option Int) (i : Nat) : Option heat_limit := (g (l.getD i rd0)).map fun n => ⟨(l.getD i rd0).Place, n, i⟩
def limsOf (l : List Reading) (g : Reading → Option Int) : List heat_limit := (List.range l.length).filterMap (limOf l g)
def nf (f : Firing) : heat_furnace := ⟨f, limsOf f.Readings lo?, limsOf f.Readings hi?⟩
theorem limsOf_mem {l : List Reading} {g : Reading → Option Int} {y : heat_limit} : y ∈ limsOf l g ↔ ∃ (i : Nat) (r : Reading), l[i]? = some r ∧ g r = some y.heat ∧ y.place = r.Place ∧ y.by_ = (i : Int) := by
 unfold limsOf
 rw [List.mem_filterMap]
 constructor
 ·rintro ⟨i, hi, h⟩
  simp only [List.mem_range] at hi
  have hx : l[i]? = some l[i] := List.getElem?_eq_getElem hi
  unfold limOf at h
  rw [getD_of rd0 hx] at h
  cases hg : g l[i] with
  | none => rw [hg] at h; cases h
  | some n => rw [hg] at h; cases h; exact ⟨i, l[i], hx, hg, rfl, rfl⟩
 ·rintro ⟨i, r, hx, h1, h2, h3⟩
  refine ⟨i, by simp only [List.mem_range]; exact (List.getElem?_eq_some_iff.1 hx).1, ?_⟩
  unfold limOf
  rw [getD_of rd0 hx, h1, Option.map_some, ← h2, ← h3]
theorem limsOf_lp {l : List Reading} {g : Reading → Option Int} {z : Nat × Int} : z ∈ (limsOf l g).map lp ↔ ∃ r ∈ l, g r = some z.2 ∧ r.Place.toNat = z.1 := by
 rw [List.mem_map]
 constructor
 ·rintro ⟨y, hy, rfl⟩
  obtain ⟨i, r, h1, h2, h3, _⟩ := limsOf_mem.1 hy
  exact ⟨r, List.mem_of_getElem? h1, h2, by show _ = y.place.toNat; rw [h3]⟩
 ·rintro ⟨r, hr, h1, h2⟩
  obtain ⟨i, hi⟩ := List.getElem?_of_mem hr
  refine ⟨⟨r.Place, z.2, (i : Int)⟩, limsOf_mem.2 ⟨i, r, hi, h1, rfl, rfl⟩, ?_⟩
  show (r.Place.toNat, z.2) = z
  rw [h2]
theorem limsOf_len (l : List Reading) (g : Reading → Option Int) : (limsOf l g).length ≤ l.length := by
 have := List.length_filterMap_le (limOf l g) (List.range l.length)
 simpa [limsOf] using this
theorem limsOf_bounds {l : List Reading} {g : Reading → Option Int} {y : heat_limit} (h : y ∈ limsOf l g) : ∃ r ∈ l, g r = some y.heat ∧ y.place = r.Place := by
 obtain ⟨i, r, h1, h2, h3, _⟩ := limsOf_mem.1 h
 exact ⟨r, List.mem_of_getElem? h1, h2, h3⟩
theorem heat_least_eq (r : Reading) : heat_reading_least KK ⟨r⟩ = some ((lo? r).getD 0, (lo? r).isSome) := by
 unfold heat_reading_least lo?
 cases decide (r.Kind = (1 : Int)) <;> cases decide (r.Kind = (3 : Int)) <;> rfl
theorem heat_most_eq (r : Reading) : heat_reading_most KK ⟨r⟩ = some ((hi? r).getD 0, (hi? r).isSome) := by
 unfold heat_reading_most hi?
 cases decide (r.Kind = (2 : Int)) <;> cases decide (r.Kind = (3 : Int)) <;> rfl
def nfStep (l : List Reading) (s : List heat_limit × List heat_limit) (i : Nat) : List heat_limit × List heat_limit :=
 (s.1 ++ (limOf l lo? i).toList, s.2 ++ (limOf l hi? i).toList)
theorem nf_fold (l : List Reading) : ∀ (m : List Nat) (s : List heat_limit × List heat_limit), m.foldl (nfStep l) s = (s.1 ++ m.filterMap (limOf l lo?), s.2 ++ m.filterMap (limOf l hi?)) := by
 intro m
 induction m with
 | nil => intro s; simp
 | cons i m ih =>
  intro s
  rw [List.foldl_cons, ih, List.filterMap_cons, List.filterMap_cons]
  unfold nfStep
  cases limOf l lo? i <;> cases limOf l hi? i <;> simp
theorem heat_newFurnace_eq (f : Firing) (hl : f.Readings.length * 24 + 24 ≤ 140737488355328) : heat_newFurnace KK f = some (nf f) := by
 unfold heat_newFurnace
 have h1 := (whl_foldN (n := f.Readings.length) (body := heat_newFurnace.b0 KK f) (k := KK) (fun i (s : List heat_limit × List heat_limit) => (i, s.1, s.2)) (nfStep f.Readings) (fun i s => s.1.length ≤ i ∧ s.2.length ≤ i) (s0 := ([], [])) (by omega) (by unfold KK; omega) ⟨by simp, by simp⟩ ?_ ?_).1
 ·rw [h1, nf_fold]; rfl
 ·intro i s hi hI
  have hx : f.Readings[i]? = some f.Readings[i] := List.getElem?_eq_getElem hi
  have e1 : limOf f.Readings lo? i = (lo? f.Readings[i]).map fun n => ⟨f.Readings[i].Place, n, i⟩ := by unfold limOf; rw [getD_of rd0 hx]
  have e2 : limOf f.Readings hi? i = (hi? f.Readings[i]).map fun n => ⟨f.Readings[i].Place, n, i⟩ := by unfold limOf; rw [getD_of rd0 hx]
  obtain ⟨s1, s2⟩ := s
  simp only at hI
  refine ⟨?_, ?_⟩
  ·unfold heat_newFurnace.b0 nfStep
   rw [e1, e2]
   simp only [lt_dec hi, cond_true, at_of hx, Option.bind_some, heat_least_eq, heat_most_eq]
   cases h1 : lo? f.Readings[i] with
   | none =>
    cases h2 : hi? f.Readings[i] with
    | none => simp
    | some n2 =>
     simp only [Option.isSome_none, Option.isSome_some, cond_true, cond_false, Option.getD_some, Option.map_none, Option.map_some, Option.toList_none, Option.toList_some, List.append_nil]
     rw [push_of (by omega) (by omega)]; rfl
   | some n1 =>
    simp only [Option.isSome_some, cond_true, Option.getD_some]
    rw [push_of (by omega) (by omega)]
    cases h2 : hi? f.Readings[i] with
    | none => simp
    | some n2 =>
     simp only [Option.bind_some, Option.isSome_some, cond_true, Option.getD_some, Option.map_some, Option.toList_some]
     rw [push_of (by omega) (by omega)]; rfl
  ·unfold nfStep
   simp only [List.length_append]
   have : ∀ o : Option heat_limit, o.toList.length ≤ 1 := fun o => by cases o <;> simp
   have t1 := this (limOf f.Readings lo? i)
   have t2 := this (limOf f.Readings hi? i)
   exact ⟨by omega, by omega⟩
 ·intro s _
  unfold heat_newFurnace.b0
  simp only [lt_dec_self]; rfl
def rdOk (P : Nat) (r : Reading) : Prop := 0 ≤ r.Place ∧ r.Place < P ∧ (r.Kind = 1 ∨ r.Kind = 2 ∨ r.Kind = 3) ∧ (∀ n, lo? r = some n → -3000 ≤ n ∧ n ≤ 3000) ∧ ∀ n, hi? r = some n → -3000 ≤ n ∧ n ≤ 3000
structure Firing.ok (f : Firing) : Prop where
 k : kilnB f.Kiln = true
 l : f.Readings.length ≤ 100
 r : ∀ r ∈ f.Readings, rdOk f.Kiln.P r
theorem readB_ok {P : Nat} (hP : 1 ≤ P ∧ P ≤ 24) {r : Reading} (h : readB (P : Int) r = true) : rdOk P r := by
 unfold readB at h
 simp only [Bool.and_eq_true] at h
 obtain ⟨h1, h2, h3⟩ := h
 simp only [inB, Bool.and_eq_true, decide_eq_true_eq] at h2
 rw [w64_of (by omega) (by omega)] at h2
 refine ⟨by omega, by omega, ?_⟩
 unfold lo? hi?
 by_cases k1 : r.Kind = 1
 ·simp only [k1, decide_true, cond_true, Bool.and_eq_true, inB, decide_eq_true_eq] at h3
  refine ⟨.inl k1, fun n hn => ?_, fun n hn => ?_⟩
  ·simp only [k1, decide_true, cond_true, Option.some.injEq] at hn; omega
  ·simp [k1] at hn
 ·by_cases k2 : r.Kind = 2
  ·simp only [k2, decide_true, cond_true, cond_false, Bool.and_eq_true, inB, decide_eq_true_eq] at h3
   refine ⟨.inr (.inl k2), fun n hn => ?_, fun n hn => ?_⟩
   ·simp [k2] at hn
   ·simp only [k2, decide_true, cond_true, Option.some.injEq] at hn
    simp only [show decide ((2 : Int) = 1) = false by decide, cond_false, Bool.and_eq_true, decide_eq_true_eq] at h3
    rw [w64_of (by omega) (by omega)] at hn; omega
  ·by_cases k3 : r.Kind = 3
   ·simp only [k1, k2, k3, show decide ((3 : Int) = 1) = false by decide, show decide ((3 : Int) = 2) = false by decide, decide_true, cond_true, cond_false, Bool.and_eq_true, rangeB, decide_eq_true_eq] at h3
    refine ⟨.inr (.inr k3), fun n hn => ?_, fun n hn => ?_⟩
    ·simp only [k3, show decide ((3 : Int) = 1) = false by decide, decide_true, cond_true, cond_false, Option.some.injEq] at hn; omega
    ·simp only [k3, show decide ((3 : Int) = 2) = false by decide, decide_true, cond_true, cond_false, Option.some.injEq] at hn; omega
   ·simp [k1, k2, k3] at h3
theorem firing_ok {f : Firing} (h : firingCode f = 0) : f.ok := by
 obtain ⟨h1, h2, h3⟩ := firing_small h
 have hk := kilnB_len h1
 exact ⟨h1, by omega, fun r hr => readB_ok ⟨hk.2.2.1, hk.2.2.2⟩ (h3 r hr)⟩
theorem nf_ok {f : Firing} (h : f.ok) : (nf f).ok := by
 have h2 := h.l
 have a := limsOf_len f.Readings lo?
 have b := limsOf_len f.Readings hi?
 refine ⟨h.k, by show (limsOf f.Readings lo?).length ≤ 1000; omega, fun y hy => ?_, by show (limsOf f.Readings hi?).length ≤ 1000; omega, fun y hy => ?_⟩
 ·obtain ⟨r, hr, h3, h4⟩ := limsOf_bounds hy
  obtain ⟨g1, g2, g3, g4, g5⟩ := h.r r hr
  have := g4 _ h3
  refine ⟨by omega, ?_, this⟩
  rw [h4]; exact g2
 ·obtain ⟨r, hr, h3, h4⟩ := limsOf_bounds hy
  obtain ⟨g1, g2, g3, g4, g5⟩ := h.r r hr
  have := g5 _ h3
  refine ⟨by omega, ?_, this⟩
  rw [h4]; exact g2
theorem fur_small {x : heat_furnace} (h : x.ok) : x.fur.Small x.Firing.Kiln.P := by
 constructor
 ·intro z hz
  obtain ⟨y, hy, rfl⟩ := List.mem_map.1 hz
  obtain ⟨g1, g2, g3, g4⟩ := h.l y hy
  exact ⟨by show y.place.toNat < _; omega, g3, g4⟩
 ·intro z hz
  obtain ⟨y, hy, rfl⟩ := List.mem_map.1 hz
  obtain ⟨g1, g2, g3, g4⟩ := h.m y hy
  exact ⟨by show y.place.toNat < _; omega, g3, g4⟩
theorem R04_Least_eq {P : Nat} {r : Reading} (h : rdOk P r) : R04_Least KK r = some ((lo? r).getD (-1000000), (hi? r).getD 1000000) := by
 unfold R04_Least lo? hi?
 rcases h.2.2.1 with e | e | e <;> rw [e] <;> rfl
def limStep (l : List Reading) (s : List Range) (i : Nat) : List Range :=
 let r := l.getD i rd0
 s.set r.Place.toNat ⟨max (s.getD r.Place.toNat R0).Lo ((lo? r).getD (-1000000)), min (s.getD r.Place.toNat R0).Hi ((hi? r).getD 1000000)⟩
theorem mk_of {n : Nat} (h : n ≤ 1000) : mk? (n : Int) 16 = some () := by
 unfold mk?
 rw [if_pos (by constructor <;> omega)]
theorem set_getD {α : Type} (d : α) (l : List α) (i j : Nat) (x : α) (hi : i < l.length) : (l.set i x).getD j d = if j = i then x else l.getD j d := by
 rw [List.getD_eq_getElem?_getD, List.getD_eq_getElem?_getD, List.getElem?_set]
 by_cases h : j = i
 ·subst h; simp [hi]
 ·rw [if_neg (by omega), if_neg h]
theorem R04_limits_eq {f : Firing} (h : f.ok) : ∃ l, R04_limits KK f = some l ∧ l.length = f.Kiln.P ∧ (nf f).fur.Lims f.Kiln.P (fun p => (l.getD p R0).Lo) (fun p => (l.getD p R0).Hi) := by
 have hk := kilnB_len h.k
 obtain ⟨x3, g1, g2, g3⟩ := kilnB_head h.k
 have hP : x3.length = f.Kiln.P := by unfold Kiln.P; rw [g3]
 have hl := h.l
 unfold R04_limits
 rw [g2]
 simp only [Option.bind_some]
 rw [mk_of (by omega)]
 simp only [Option.bind_some]
 obtain ⟨e1, I1⟩ := whl_foldN (n := x3.length) (body := R04_limits.b0 KK) (k := KK) (fun i s => (i, s)) (fun s i => s.set i (⟨-1000000, 1000000⟩ : Range)) (fun i s => s.length = x3.length ∧ ∀ q, q < i → s.getD q R0 = ⟨-1000000, 1000000⟩) (s0 := List.replicate x3.length (⟨0, 0⟩ : Range)) (by omega) (by unfold KK; omega) ⟨by simp, by omega⟩ (fun i s hi hI => by
   obtain ⟨I1, I2⟩ := hI
   refine ⟨?_, by simp [I1], fun q hq => ?_⟩
   ·unfold R04_limits.b0
    simp only [show decide ((i : Int) < ((s.length : Nat) : Int)) = true by simp; omega, cond_true]
    rw [at_nat R0 (by omega)]
    simp only [Option.bind_some]
    rw [set_of (by omega)]
    rfl
   ·rw [set_getD R0 s i q _ (by omega)]
    by_cases hqi : q = i
    ·rw [if_pos hqi]
    ·rw [if_neg hqi]; exact I2 q (by omega)) (fun s hI => by
   unfold R04_limits.b0
   simp only [hI.1, lt_dec_self]; rfl)
 rw [e1]
 simp only [Option.bind_some]
 generalize (List.range x3.length).foldl (fun s i => s.set i (⟨-1000000, 1000000⟩ : Range)) (List.replicate x3.length (⟨0, 0⟩ : Range)) = l0 at I1
 obtain ⟨e2, I2⟩ := whl_foldN (n := f.Readings.length) (body := R04_limits.b1 KK f) (k := KK) (fun i s => (i, s)) (limStep f.Readings)
  (fun i s => s.length = x3.length ∧ (∀ p t, p < f.Kiln.P → ((s.getD p R0).Lo ≤ t ↔ -1000000 ≤ t ∧ ∀ r ∈ f.Readings.take i, r.Place.toNat = p → ∀ n, lo? r = some n → n ≤ t)) ∧
   ∀ p t, p < f.Kiln.P → (t ≤ (s.getD p R0).Hi ↔ t ≤ 1000000 ∧ ∀ r ∈ f.Readings.take i, r.Place.toNat = p → ∀ n, hi? r = some n → t ≤ n)) (s0 := l0) (by omega) (by unfold KK; omega)
  ⟨I1.1, fun p t hp => by rw [I1.2 p (by omega)]; simp, fun p t hp => by rw [I1.2 p (by omega)]; simp⟩ (fun i s hi hI => by
   obtain ⟨J1, J2, J3⟩ := hI
   have hx : f.Readings[i]? = some f.Readings[i] := List.getElem?_eq_getElem hi
   have hr := h.r _ (List.getElem_mem hi)
   have hp := hr.1
   have hp2 := hr.2.1
   have hst : limStep f.Readings s i = s.set f.Readings[i].Place.toNat ⟨max (s.getD f.Readings[i].Place.toNat R0).Lo ((lo? f.Readings[i]).getD (-1000000)), min (s.getD f.Readings[i].Place.toNat R0).Hi ((hi? f.Readings[i]).getD 1000000)⟩ := by
    unfold limStep; rw [getD_of rd0 hx]
   have hpl : ((f.Readings[i].Place.toNat : Nat) : Int) = f.Readings[i].Place := by omega
   refine ⟨?_, ?_, fun p t hpP => ?_, fun p t hpP => ?_⟩
   ·unfold R04_limits.b1
    simp only [lt_dec hi, cond_true, at_of hx, Option.bind_some, R04_Least_eq hr]
    rw [hst, ← hpl]
    rw [at_nat R0 (by omega)]
    simp only [Option.bind_some]
    rw [set_of (by omega)]
    simp only [Option.bind_some, Int.toNat_natCast]
    rw [at_nat R0 (by rw [List.length_set]; omega), set_getD R0 _ _ _ _ (by omega), if_pos rfl]
    simp only [Option.bind_some]
    rw [set_of (by rw [List.length_set]; omega), List.set_set]
    rfl
   ·rw [hst, List.length_set]; exact J1
   ·rw [hst, set_getD R0 _ _ _ _ (by omega), take_succ_of hx]
    by_cases hpe : p = f.Readings[i].Place.toNat
    ·rw [if_pos hpe]
     show max _ _ ≤ t ↔ _
     rw [Int.max_le, ← hpe, J2 p t hpP]
     constructor
     ·rintro ⟨⟨k1, k2⟩, k3⟩
      refine ⟨k1, fun r hr e n hn => ?_⟩
      rcases List.mem_append.1 hr with hr | hr
      ·exact k2 r hr e n hn
      ·simp only [List.mem_singleton] at hr
       subst hr
       rw [hn] at k3; exact k3
     ·rintro ⟨k1, k2⟩
      refine ⟨⟨k1, fun r hr e n hn => k2 r (List.mem_append.2 (.inl hr)) e n hn⟩, ?_⟩
      cases hn : lo? f.Readings[i] with
      | none => exact k1
      | some n => exact k2 _ (List.mem_append.2 (.inr (by simp))) hpe.symm n hn
    ·rw [if_neg hpe, J2 p t hpP]
     constructor
     ·rintro ⟨k1, k2⟩
      refine ⟨k1, fun r hr e n hn => ?_⟩
      rcases List.mem_append.1 hr with hr | hr
      ·exact k2 r hr e n hn
      ·simp only [List.mem_singleton] at hr
       subst hr
       exact absurd e.symm hpe
     ·rintro ⟨k1, k2⟩
      exact ⟨k1, fun r hr e n hn => k2 r (List.mem_append.2 (.inl hr)) e n hn⟩
   ·rw [hst, set_getD R0 _ _ _ _ (by omega), take_succ_of hx]
    by_cases hpe : p = f.Readings[i].Place.toNat
    ·rw [if_pos hpe]
     show t ≤ min _ _ ↔ _
     rw [Int.le_min, ← hpe, J3 p t hpP]
     constructor
     ·rintro ⟨⟨k1, k2⟩, k3⟩
      refine ⟨k1, fun r hr e n hn => ?_⟩
      rcases List.mem_append.1 hr with hr | hr
      ·exact k2 r hr e n hn
      ·simp only [List.mem_singleton] at hr
       subst hr
       rw [hn] at k3; exact k3
     ·rintro ⟨k1, k2⟩
      refine ⟨⟨k1, fun r hr e n hn => k2 r (List.mem_append.2 (.inl hr)) e n hn⟩, ?_⟩
      cases hn : hi? f.Readings[i] with
      | none => exact k1
      | some n => exact k2 _ (List.mem_append.2 (.inr (by simp))) hpe.symm n hn
    ·rw [if_neg hpe, J3 p t hpP]
     constructor
     ·rintro ⟨k1, k2⟩
      refine ⟨k1, fun r hr e n hn => ?_⟩
      rcases List.mem_append.1 hr with hr | hr
      ·exact k2 r hr e n hn
      ·simp only [List.mem_singleton] at hr
       subst hr
       exact absurd e.symm hpe
     ·rintro ⟨k1, k2⟩
      exact ⟨k1, fun r hr e n hn => k2 r (List.mem_append.2 (.inl hr)) e n hn⟩) (fun s hI => by
   unfold R04_limits.b1
   simp only [lt_dec_self]; rfl)
 rw [e2]
 refine ⟨_, rfl, by rw [I2.1, hP], fur_ok (nf_ok h), fur_small (nf_ok h), fun p t hp => ?_, fun p t hp => ?_⟩
 ·rw [I2.2.1 p t hp, List.take_length]
  constructor
  ·rintro ⟨k1, k2⟩
   refine ⟨k1, fun z hz e => ?_⟩
   obtain ⟨r, hr, h1, h2⟩ := limsOf_lp.1 hz
   exact k2 r hr (by omega) _ h1
  ·rintro ⟨k1, k2⟩
   exact ⟨k1, fun r hr e n hn => k2 (p, n) (limsOf_lp.2 ⟨r, hr, hn, e⟩) rfl⟩
 ·rw [I2.2.2 p t hp, List.take_length]
  constructor
  ·rintro ⟨k1, k2⟩
   refine ⟨k1, fun z hz e => ?_⟩
   obtain ⟨r, hr, h1, h2⟩ := limsOf_lp.1 hz
   exact k2 r hr (by omega) _ h1
  ·rintro ⟨k1, k2⟩
   exact ⟨k1, fun r hr e n hn => k2 (p, n) (limsOf_lp.2 ⟨r, hr, hn, e⟩) rfl⟩
end Go.Abs
namespace Go.Abs
open Go
set_option linter.unusedVariables false
theorem dec_lt_le (a b : Int) : decide (a < b) = !decide (b ≤ a) := by
 by_cases h : a < b
 ·rw [decide_eq_true h, decide_eq_false (by omega)]; rfl
 ·rw [decide_eq_false h, decide_eq_true (by omega)]; rfl
theorem at_mapR {α : Type} (g : Nat → α) {n j : Nat} (h : j < n) : at? ((List.range n).map g) (j : Int) = some (g j) := by
 apply at_of
 rw [List.getElem?_map, List.getElem?_range h]; rfl
theorem Fur.Lims.b_ge {f : Fur} {P : Nat} {a b : Nat → Int} (h : f.Lims P a b) {p : Nat} (hp : p < P) : -3000 ≤ b p := by
 rw [h.B p _ hp]
 exact ⟨by omega, fun y hy _ => (h.sm.2 y hy).2.1⟩
theorem Fur.Lims.a_le {f : Fur} {P : Nat} {a b : Nat → Int} (h : f.Lims P a b) {p : Nat} (hp : p < P) : a p ≤ 3000 := by
 rw [h.A p _ hp]
 exact ⟨by omega, fun y hy _ => (h.sm.1 y hy).2.2⟩
theorem R04_hottest_eq {f : Firing} (h : f.ok) : R04_hottest KK f = some ((List.range f.Kiln.Falls.length).map (nf f).fur.U) := by
 have hk := kilnB_len h.k
 obtain ⟨l, e1, e2, e3⟩ := R04_limits_eq h
 unfold R04_hottest
 rw [e1]
 simp only [Option.bind_some]
 have h1 := (whl_foldN (n := f.Kiln.Falls.length) (body := R04_hottest.b0 KK f l) (k := KK) (fun i s => (i, s)) (fun s j => s ++ [(nf f).fur.U j]) (fun i s => s.length = i) (s0 := []) (by omega) (by unfold KK; omega) rfl ?_ ?_).1
 ·rw [h1, foldl_pushN]; rfl
 ·intro j s hj hI
  refine ⟨?_, by simp [hI]⟩
  unfold R04_hottest.b0
  simp only [lt_dec hj, cond_true]
  obtain ⟨h2, h3⟩ := whl_foldN (n := l.length) (body := R04_hottest.b1 KK f l (j : Int)) (k := KK) (fun i s => (s, i)) (fun s p => bif decide ((l.getD p R0).Hi < 1000000) then min s ((l.getD p R0).Hi + (nf f).fur.hi j p) else s)
   (fun i s => ∀ t, t ≤ s ↔ t ≤ 3000 ∧ ∀ p, p < i → (l.getD p R0).Hi < 1000000 → t ≤ (l.getD p R0).Hi + (nf f).fur.hi j p) (s0 := 3000) (by omega) (by unfold KK; omega) (by intro t; simp) (fun p s hp hI2 => by
    have g1 := kilnB_at h.k j p
    have g2 : -3000 ≤ (l.getD p R0).Hi := e3.b_ge (show p < f.Kiln.P by omega)
    have g3 : (nf f).fur.hi j p = (f.Kiln.at j p).Hi := rfl
    refine ⟨?_, fun t => ?_⟩
    ·unfold R04_hottest.b1
     simp only [lt_dec hp, cond_true, at_nat R0 hp, Option.bind_some, at_row h.k hj, at_cellN h.k hj (show p < f.Kiln.P by omega)]
     by_cases hc : (l.getD p R0).Hi < 1000000
     ·simp only [hc, decide_true, cond_true, g3]
      rw [w64_of (n := (l.getD p R0).Hi + (f.Kiln.at j p).Hi) (by omega) (by omega)]
     ·simp only [hc, decide_false, cond_false]
    ·by_cases hc : (l.getD p R0).Hi < 1000000
     ·simp only [hc, decide_true, cond_true]
      rw [Int.le_min, hI2 t]
      constructor
      ·rintro ⟨⟨k1, k2⟩, k3⟩
       refine ⟨k1, fun q hq hb => ?_⟩
       by_cases hqp : q = p
       ·subst hqp; exact k3
       ·exact k2 q (by omega) hb
      ·rintro ⟨k1, k2⟩
       exact ⟨⟨k1, fun q hq hb => k2 q (by omega) hb⟩, k2 p (by omega) hc⟩
     ·simp only [hc, decide_false, cond_false]
      rw [hI2 t]
      constructor
      ·rintro ⟨k1, k2⟩
       refine ⟨k1, fun q hq hb => ?_⟩
       by_cases hqp : q = p
       ·subst hqp; exact absurd hb hc
       ·exact k2 q (by omega) hb
      ·rintro ⟨k1, k2⟩
       exact ⟨k1, fun q hq hb => k2 q (by omega) hb⟩) (fun s _ => by
    unfold R04_hottest.b1
    simp only [lt_dec_self]; rfl)
  rw [h2]
  have : (List.range l.length).foldl (fun s p => bif decide ((l.getD p R0).Hi < 1000000) then min s ((l.getD p R0).Hi + (nf f).fur.hi j p) else s) 3000 = (nf f).fur.U j := by
   refine eq_of_le_iff fun t => ?_
   rw [h3 t, e3.U_iff j t, e2]
  rw [this]
  simp only [Option.bind_some]
  rw [push_of (by omega) (by omega)]
  rfl
 ·intro s _
  unfold R04_hottest.b0
  simp only [lt_dec_self]; rfl
theorem R04_reaches_eq {f : Firing} (h : f.ok) {j : Nat} (hj : j < f.Kiln.Falls.length) {p : Nat} (hp : p < f.Kiln.P) (n : Int) (hn : -1000000 ≤ n ∧ n ≤ 1000000) :
  R04_reaches KK f ((List.range f.Kiln.Falls.length).map (nf f).fur.U) (j : Int) (p : Int) n = some (decide (n + (nf f).fur.lo j p ≤ (nf f).fur.U j)) := by
 have g1 := kilnB_at h.k j p
 unfold R04_reaches
 simp only [at_row h.k hj, at_cellN h.k hj hp, Option.bind_some, at_mapR _ hj]
 rw [w64_of (n := n + (f.Kiln.at j p).Lo) (by omega) (by omega)]
 rfl
theorem R04_IsSound_eq {f : Firing} (h : f.ok) : R04_IsSound KK f = some (soundB (nf f)) := by
 have hk := kilnB_len h.k
 obtain ⟨l, e1, e2, e3⟩ := R04_limits_eq h
 have hm : (nf f).fur.m = f.Kiln.Falls.length - 1 := rfl
 unfold R04_IsSound
 rw [e1, R04_hottest_eq h]
 simp only [Option.bind_some]
 have hl : ((List.range f.Kiln.Falls.length).map (nf f).fur.U).length = f.Kiln.Falls.length := by simp
 rw [whl_allN (n := f.Kiln.Falls.length) (p := fun j => !decide ((nf f).fur.U j < 0)) (c := false) (by omega) (by unfold KK; omega) (fun j hj => by
  unfold R04_IsSound.b0
  rw [hl]
  simp only [lt_dec hj, cond_true, at_mapR _ hj, Option.bind_some]
  cases decide ((nf f).fur.U j < 0) <;> rfl) (by
  unfold R04_IsSound.b0
  rw [hl, lt_dec_self]; rfl)]
 have hb : ∀ p, p < f.Kiln.P → ∀ c : Int, -1000000 ≤ c ∧ c ≤ 1000000 → whl (R04_IsSound.b2 KK f ((List.range f.Kiln.Falls.length).map (nf f).fur.U) (p : Int) ⟨c, (l.getD p R0).Hi⟩) KK (decide (c = (-1000000 : Int)), 0) = some (.brk (decide (c = (-1000000 : Int)) || (List.range f.Kiln.Falls.length).any fun j => decide (c + (nf f).fur.lo j p ≤ (nf f).fur.U j))) := by
  intro p hp c hc
  have h1 := (whl_foldN (n := f.Kiln.Falls.length) (body := R04_IsSound.b2 KK f ((List.range f.Kiln.Falls.length).map (nf f).fur.U) (p : Int) ⟨c, (l.getD p R0).Hi⟩) (k := KK) (fun i s => (s, i)) (fun s j => s || decide (c + (nf f).fur.lo j p ≤ (nf f).fur.U j)) (fun _ _ => True) (s0 := decide (c = (-1000000 : Int))) (by omega) (by unfold KK; omega) trivial (fun j s hj _ => by
   refine ⟨?_, trivial⟩
   unfold R04_IsSound.b2
   simp only [hl, lt_dec hj, cond_true]
   cases s with
   | true => rfl
   | false =>
    simp only [Bool.not_false, cond_true, R04_reaches_eq h hj hp c hc, Option.bind_some, Bool.false_or]) (fun s _ => by
   unfold R04_IsSound.b2
   simp only [hl, lt_dec_self]; rfl)).1
  rw [h1]
  have : ∀ (m : List Nat) (s : Bool), m.foldl (fun s j => s || decide (c + (nf f).fur.lo j p ≤ (nf f).fur.U j)) s = (s || m.any fun j => decide (c + (nf f).fur.lo j p ≤ (nf f).fur.U j)) := by
   intro m
   induction m with
   | nil => simp
   | cons j m ih => intro s; rw [List.foldl_cons, ih, List.any_cons, Bool.or_assoc]
  rw [this]
 have hs2 : whl (R04_IsSound.b1 KK f l ((List.range f.Kiln.Falls.length).map (nf f).fur.U)) KK 0 = some (bif (List.range l.length).all (fun p => decide ((l.getD p R0).Lo ≤ (l.getD p R0).Hi) && (decide ((l.getD p R0).Lo = (-1000000 : Int)) || (List.range f.Kiln.Falls.length).any fun j => decide ((l.getD p R0).Lo + (nf f).fur.lo j p ≤ (nf f).fur.U j))) then .brk () else .ret false) := by
  refine whl_allN (n := l.length) (by omega) (by unfold KK; omega) (fun p hp => ?_) ?_
  ·unfold R04_IsSound.b1
   have g1 := e3.a_ge (show p < f.Kiln.P by omega)
   have g2 := e3.a_le (show p < f.Kiln.P by omega)
   have g3 := hb p (by omega) (l.getD p R0).Lo ⟨g1, by omega⟩
   have g4 : (⟨(l.getD p R0).Lo, (l.getD p R0).Hi⟩ : Range) = l.getD p R0 := rfl
   rw [g4] at g3
   simp only [lt_dec hp, cond_true, at_nat R0 hp, Option.bind_some, g3]
   have : decide ((l.getD p R0).Hi < (l.getD p R0).Lo) = !decide ((l.getD p R0).Lo ≤ (l.getD p R0).Hi) := dec_lt_le _ _
   rw [this]
   cases decide ((l.getD p R0).Lo ≤ (l.getD p R0).Hi) <;> cases (decide ((l.getD p R0).Lo = (-1000000 : Int)) || (List.range f.Kiln.Falls.length).any fun j => decide ((l.getD p R0).Lo + (nf f).fur.lo j p ≤ (nf f).fur.U j)) <;> rfl
  ·unfold R04_IsSound.b1
   rw [lt_dec_self]; rfl
 have hfin : soundB (nf f) = ((List.range f.Kiln.Falls.length).all (fun j => !decide ((nf f).fur.U j < 0)) && (List.range l.length).all (fun p => decide ((l.getD p R0).Lo ≤ (l.getD p R0).Hi) && (decide ((l.getD p R0).Lo = (-1000000 : Int)) || (List.range f.Kiln.Falls.length).any fun j => decide ((l.getD p R0).Lo + (nf f).fur.lo j p ≤ (nf f).fur.U j)))) := by
  rw [Bool.eq_iff_iff, soundB_iff (nf_ok h), e3.sound_iff, Bool.and_eq_true, List.all_eq_true, List.all_eq_true]
  constructor
  ·rintro ⟨k1, k2⟩
   refine ⟨fun j hj => ?_, fun p hp => ?_⟩
   ·simp only [List.mem_range] at hj
    have := k1 j (by omega)
    simp; omega
   ·simp only [List.mem_range] at hp
    obtain ⟨k3, k4⟩ := k2 p (by omega)
    simp only [Bool.and_eq_true, Bool.or_eq_true, decide_eq_true_eq, List.any_eq_true, List.mem_range]
    refine ⟨k3, ?_⟩
    rcases k4 with k4 | ⟨j, k4, k5⟩
    ·exact .inl k4
    ·exact .inr ⟨j, by omega, k5⟩
  ·rintro ⟨k1, k2⟩
   refine ⟨fun j hj => ?_, fun p hp => ?_⟩
   ·have := k1 j (by simp only [List.mem_range]; omega)
    simp at this; omega
   ·have := k2 p (by simp only [List.mem_range]; omega)
    simp only [Bool.and_eq_true, Bool.or_eq_true, decide_eq_true_eq, List.any_eq_true, List.mem_range] at this
    obtain ⟨k3, k4⟩ := this
    refine ⟨k3, ?_⟩
    rcases k4 with k4 | ⟨j, k4, k5⟩
    ·exact .inl k4
    ·exact .inr ⟨j, by omega, k5⟩
 rw [hfin, hs2]
 cases (List.range f.Kiln.Falls.length).all (fun j => !decide ((nf f).fur.U j < 0)) with
 | false => rfl
 | true =>
  simp only [cond_true, Option.bind_some, Bool.true_and]
  cases (List.range l.length).all (fun p => decide ((l.getD p R0).Lo ≤ (l.getD p R0).Hi) && (decide ((l.getD p R0).Lo = (-1000000 : Int)) || (List.range f.Kiln.Falls.length).any fun j => decide ((l.getD p R0).Lo + (nf f).fur.lo j p ≤ (nf f).fur.U j))) <;> rfl
theorem R04_bound_eq {f : Firing} (h : f.ok) (hs : (nf f).fur.Sound) {q : Nat} (hq : q < f.Kiln.P) : ∃ r, R04_bound KK f (q : Int) = some r ∧ (∀ t, r.Lo ≤ t ↔ (nf f).fur.Low q t) ∧ ∀ t, t ≤ r.Hi ↔ (nf f).fur.High q t := by
 have hk := kilnB_len h.k
 obtain ⟨l, e1, e2, e3⟩ := R04_limits_eq h
 have hm : (nf f).fur.m = f.Kiln.Falls.length - 1 := rfl
 have hl : ((List.range f.Kiln.Falls.length).map (nf f).fur.U).length = f.Kiln.Falls.length := by simp
 unfold R04_bound
 rw [e1, R04_hottest_eq h]
 simp only [Option.bind_some]
 rw [at_nat R0 (show q < l.length by omega)]
 simp only [Option.bind_some]
 obtain ⟨h1, h2⟩ := whl_foldN (n := f.Kiln.Falls.length) (body := R04_bound.b0 KK f (q : Int) ((List.range f.Kiln.Falls.length).map (nf f).fur.U)) (k := KK) (fun i s => (s, i))
  (fun s j => (⟨max s.Lo (0 - (nf f).fur.hi j q), max s.Hi ((nf f).fur.U j - (nf f).fur.lo j q)⟩ : Range))
  (fun i s => (∀ t, s.Lo ≤ t ↔ (l.getD q R0).Lo ≤ t ∧ ∀ j, j < i → -(nf f).fur.hi j q ≤ t) ∧ ∀ t, t ≤ s.Hi ↔ t ≤ -1000000 ∨ ∃ j, j < i ∧ t + (nf f).fur.lo j q ≤ (nf f).fur.U j)
  (s0 := ⟨(l.getD q R0).Lo, -1000000⟩) (by omega) (by unfold KK; omega) ⟨by intro t; simp, by intro t; simp⟩ (fun j s hj hI => by
   have g1 := kilnB_at h.k j q
   have g2 := U_ge (nf_ok h) j
   have g3 : (nf f).fur.hi j q = (f.Kiln.at j q).Hi := rfl
   have g4 : (nf f).fur.lo j q = (f.Kiln.at j q).Lo := rfl
   refine ⟨?_, fun t => ?_, fun t => ?_⟩
   ·unfold R04_bound.b0
    simp only [lt_dec hj, cond_true, at_row h.k hj, at_cellN h.k hj hq, Option.bind_some, at_mapR _ hj, g3, g4]
    rw [w64_of (n := 0 - (f.Kiln.at j q).Hi) (by omega) (by omega), w64_of (n := (nf f).fur.U j - (f.Kiln.at j q).Lo) (by omega) (by omega)]
   ·show max _ _ ≤ t ↔ _
    rw [Int.max_le, hI.1 t]
    constructor
    ·rintro ⟨⟨k1, k2⟩, k3⟩
     refine ⟨k1, fun i hi => ?_⟩
     by_cases hij : i = j
     ·subst hij; omega
     ·exact k2 i (by omega)
    ·rintro ⟨k1, k2⟩
     exact ⟨⟨k1, fun i hi => k2 i (by omega)⟩, by have := k2 j (by omega); omega⟩
   ·show t ≤ max _ _ ↔ _
    rw [show ∀ a b : Int, t ≤ max a b ↔ t ≤ a ∨ t ≤ b by intro a b; omega, hI.2 t]
    constructor
    ·rintro ((k1 | ⟨i, k1, k2⟩) | k1)
     ·exact .inl k1
     ·exact .inr ⟨i, by omega, k2⟩
     ·exact .inr ⟨j, by omega, by omega⟩
    ·rintro (k1 | ⟨i, k1, k2⟩)
     ·exact .inl (.inl k1)
     ·by_cases hij : i = j
      ·subst hij; exact .inr (by omega)
      ·exact .inl (.inr ⟨i, by omega, k2⟩)) (fun s _ => by
   unfold R04_bound.b0
   simp only [lt_dec_self]; rfl)
 rw [h1]
 simp only [Option.bind_some]
 generalize (List.range f.Kiln.Falls.length).foldl (fun s j => (⟨max s.Lo (0 - (nf f).fur.hi j q), max s.Hi ((nf f).fur.U j - (nf f).fur.lo j q)⟩ : Range)) ⟨(l.getD q R0).Lo, -1000000⟩ = r0 at h2
 have hin : ∀ p, p < f.Kiln.P → ∃ v, whl (R04_bound.b2 KK f (q : Int) ((List.range f.Kiln.Falls.length).map (nf f).fur.U) (p : Int) (l.getD p R0)) KK (1000000, 0) = some (.brk v) ∧ ∀ t, v ≤ t ↔ 1000000 ≤ t ∨ ∃ j, j < f.Kiln.Falls.length ∧ (l.getD p R0).Lo + (nf f).fur.lo j p ≤ (nf f).fur.U j ∧ (l.getD p R0).Lo + (nf f).fur.lo j p - (nf f).fur.hi j q ≤ t := by
  intro p hp
  have a1 : -1000000 ≤ (l.getD p R0).Lo := e3.a_ge hp
  have a2 : (l.getD p R0).Lo ≤ 3000 := e3.a_le hp
  obtain ⟨k1, k2⟩ := whl_foldN (n := f.Kiln.Falls.length) (body := R04_bound.b2 KK f (q : Int) ((List.range f.Kiln.Falls.length).map (nf f).fur.U) (p : Int) (l.getD p R0)) (k := KK) (fun i s => (s, i))
   (fun s j => bif decide ((l.getD p R0).Lo + (nf f).fur.lo j p ≤ (nf f).fur.U j) then min s ((l.getD p R0).Lo + (nf f).fur.lo j p - (nf f).fur.hi j q) else s)
   (fun i s => ∀ t, s ≤ t ↔ 1000000 ≤ t ∨ ∃ j, j < i ∧ (l.getD p R0).Lo + (nf f).fur.lo j p ≤ (nf f).fur.U j ∧ (l.getD p R0).Lo + (nf f).fur.lo j p - (nf f).fur.hi j q ≤ t) (s0 := 1000000) (by omega) (by unfold KK; omega) (by intro t; simp) (fun j s hj hI => by
    have g1 := kilnB_at h.k j q
    have g2 := kilnB_at h.k j p
    have g3 : (nf f).fur.hi j q = (f.Kiln.at j q).Hi := rfl
    have g4 : (nf f).fur.lo j p = (f.Kiln.at j p).Lo := rfl
    refine ⟨?_, fun t => ?_⟩
    ·unfold R04_bound.b2
     simp only [lt_dec hj, cond_true, R04_reaches_eq h hj hp (l.getD p R0).Lo ⟨a1, by omega⟩, Option.bind_some, at_row h.k hj, at_cellN h.k hj hp, at_cellN h.k hj hq]
     cases decide ((l.getD p R0).Lo + (nf f).fur.lo j p ≤ (nf f).fur.U j) with
     | false => rfl
     | true =>
      simp only [cond_true, g3, g4]
      rw [w64_of (n := (l.getD p R0).Lo + (f.Kiln.at j p).Lo) (by omega) (by omega), w64_of (n := (l.getD p R0).Lo + (f.Kiln.at j p).Lo - (f.Kiln.at j q).Hi) (by omega) (by omega)]
    ·by_cases hc : (l.getD p R0).Lo + (nf f).fur.lo j p ≤ (nf f).fur.U j
     ·simp only [hc, decide_true, cond_true]
      rw [show ∀ a b : Int, min a b ≤ t ↔ a ≤ t ∨ b ≤ t by intro a b; omega, hI t]
      constructor
      ·rintro ((k1 | ⟨i, k1, k2⟩) | k1)
       ·exact .inl k1
       ·exact .inr ⟨i, by omega, k2⟩
       ·exact .inr ⟨j, by omega, hc, k1⟩
      ·rintro (k1 | ⟨i, k1, k2, k3⟩)
       ·exact .inl (.inl k1)
       ·by_cases hij : i = j
        ·subst hij; exact .inr k3
        ·exact .inl (.inr ⟨i, by omega, k2, k3⟩)
     ·simp only [hc, decide_false, cond_false]
      rw [hI t]
      constructor
      ·rintro (k1 | ⟨i, k1, k2⟩)
       ·exact .inl k1
       ·exact .inr ⟨i, by omega, k2⟩
      ·rintro (k1 | ⟨i, k1, k2, k3⟩)
       ·exact .inl k1
       ·by_cases hij : i = j
        ·subst hij; exact absurd k2 hc
        ·exact .inr ⟨i, by omega, k2, k3⟩) (fun s _ => by
    unfold R04_bound.b2
    simp only [lt_dec_self]; rfl)
  exact ⟨_, k1, k2⟩
 have hpl : ∀ p, p < f.Kiln.P → ∀ s : Range, ∃ s', R04_bound.b1 KK f (q : Int) l ((List.range f.Kiln.Falls.length).map (nf f).fur.U) (s, (p : Int)) = some (.next (s', w64 ((p : Int) + 1))) ∧ s'.Hi = s.Hi ∧ ∀ t, s'.Lo ≤ t ↔ s.Lo ≤ t ∧ (p ≠ q → (l.getD p R0).Lo ≠ -1000000 → 1000000 ≤ t ∨ ∃ j, j < f.Kiln.Falls.length ∧ (l.getD p R0).Lo + (nf f).fur.lo j p ≤ (nf f).fur.U j ∧ (l.getD p R0).Lo + (nf f).fur.lo j p - (nf f).fur.hi j q ≤ t) := by
  intro p hp s
  unfold R04_bound.b1
  simp only [lt_dec (show p < l.length by omega), cond_true]
  by_cases hpq : p = q
  ·subst hpq
   simp only [decide_true, Bool.not_true, cond_false]
   exact ⟨s, rfl, rfl, fun t => ⟨fun k => ⟨k, fun k2 => absurd rfl k2⟩, fun k => k.1⟩⟩
  ·have : ¬ ((p : Int) = (q : Int)) := by omega
   simp only [this, decide_false, Bool.not_false, cond_true, at_nat R0 (show p < l.length by omega), Option.bind_some]
   by_cases hn : (l.getD p R0).Lo = -1000000
   ·simp only [hn, decide_true, cond_true]
    exact ⟨s, rfl, rfl, fun t => ⟨fun k => ⟨k, fun _ k2 => absurd rfl k2⟩, fun k => k.1⟩⟩
   ·simp only [hn, decide_false, cond_false]
    obtain ⟨v, hv1, hv2⟩ := hin p hp
    rw [hv1]
    simp only [Option.bind_some]
    refine ⟨⟨max s.Lo v, s.Hi⟩, rfl, rfl, fun t => ?_⟩
    show max _ _ ≤ t ↔ _
    rw [Int.max_le, hv2 t]
    constructor
    ·exact fun k => ⟨k.1, fun _ _ => k.2⟩
    ·exact fun k => ⟨k.1, k.2 hpq hn⟩
 have hw := whl_ok (body := R04_bound.b1 KK f (q : Int) l ((List.range f.Kiln.Falls.length).map (nf f).fur.U))
  (fun t => ∃ (i : Nat) (s : Range), t = (s, (i : Int)) ∧ i ≤ l.length ∧ s.Hi = min r0.Hi (l.getD q R0).Hi ∧ ∀ t, s.Lo ≤ t ↔ r0.Lo ≤ t ∧ ∀ p, p < i → p ≠ q → (l.getD p R0).Lo ≠ -1000000 → 1000000 ≤ t ∨ ∃ j, j < f.Kiln.Falls.length ∧ (l.getD p R0).Lo + (nf f).fur.lo j p ≤ (nf f).fur.U j ∧ (l.getD p R0).Lo + (nf f).fur.lo j p - (nf f).fur.hi j q ≤ t)
  (fun r => ∃ s : Range, r = .brk s ∧ s.Hi = min r0.Hi (l.getD q R0).Hi ∧ ∀ t, s.Lo ≤ t ↔ r0.Lo ≤ t ∧ ∀ p, p < l.length → p ≠ q → (l.getD p R0).Lo ≠ -1000000 → 1000000 ≤ t ∨ ∃ j, j < f.Kiln.Falls.length ∧ (l.getD p R0).Lo + (nf f).fur.lo j p ≤ (nf f).fur.U j ∧ (l.getD p R0).Lo + (nf f).fur.lo j p - (nf f).fur.hi j q ≤ t)
  (fun t => l.length - t.2.toNat) ?_ KK ((⟨r0.Lo, min r0.Hi (l.getD q R0).Hi⟩ : Range), 0) ⟨0, _, rfl, Nat.zero_le _, rfl, fun t => by simp⟩ (by unfold KK; omega)
 ·obtain ⟨r, k1, ⟨s, k2, k3, k4⟩, _⟩ := hw
  rw [k1, k2]
  refine ⟨s, rfl, fun t => ?_, fun t => ?_⟩
  ·rw [k4, h2.1, e3.low_iff hs hq t]
   constructor
   ·rintro ⟨⟨m1, m2⟩, m3⟩
    refine ⟨fun j hj => m2 j (by omega), m1, fun p hp hpq hn => ?_⟩
    rcases m3 p (by omega) hpq hn with m4 | ⟨j, m4, m5⟩
    ·exact .inl m4
    ·exact .inr ⟨j, by omega, m5⟩
   ·rintro ⟨m1, m2, m3⟩
    refine ⟨⟨m2, fun j hj => m1 j (by omega)⟩, fun p hp hpq hn => ?_⟩
    rcases m3 p (by omega) hpq hn with m4 | ⟨j, m4, m5⟩
    ·exact .inl m4
    ·exact .inr ⟨j, by omega, m5⟩
  ·rw [k3, Int.le_min, h2.2, e3.high_iff hq t]
   constructor
   ·rintro ⟨m1 | ⟨j, m1, m2⟩, m3⟩
    ·refine ⟨⟨0, Nat.zero_le _, ?_⟩, m3⟩
     have a1 := hs.1 0 (Nat.zero_le _)
     have a2 := kilnB_at h.k 0 q
     have a3 : (nf f).fur.lo 0 q = (f.Kiln.at 0 q).Lo := rfl
     omega
    ·exact ⟨⟨j, by omega, m2⟩, m3⟩
   ·rintro ⟨⟨j, m1, m2⟩, m3⟩
    exact ⟨.inr ⟨j, by omega, m2⟩, m3⟩
 ·rintro t ⟨i, s, rfl, g1, g2, g3⟩
  by_cases hi : i = l.length
  ·right; left
   refine ⟨s, ?_, s, rfl, g2, fun t => by rw [g3 t, hi]⟩
   unfold R04_bound.b1
   simp only [hi, lt_dec_self]; rfl
  ·left
   obtain ⟨s', k1, k2, k3⟩ := hpl i (by omega) s
   rw [w64_succ (n := l.length) (by omega) (by omega)] at k1
   refine ⟨_, k1, ⟨i + 1, s', rfl, by omega, by rw [k2, g2], fun t => ?_⟩, by simp only [Int.toNat_natCast]; omega⟩
   rw [k3 t, g3 t]
   constructor
   ·rintro ⟨⟨m1, m2⟩, m3⟩
    refine ⟨m1, fun p hp hpq hn => ?_⟩
    by_cases hpi : p = i
    ·subst hpi; exact m3 hpq hn
    ·exact m2 p (by omega) hpq hn
   ·rintro ⟨m1, m2⟩
    exact ⟨⟨m1, fun p hp => m2 p (by omega)⟩, m2 i (by omega)⟩
end Go.Abs
namespace Go.Abs
open Go
set_option linter.unusedVariables false
theorem hot_by (x : heat_furnace) (j : Nat) : ((hot x j).1 = 3000 ∧ (hot x j).2 = -1) ∨ ∃ y ∈ x.most, (hot x j).2 = y.by_ ∧ (hot x j).1 = y.heat + x.fur.hi j y.place.toNat := by
 have key : ∀ (l K : List heat_limit) (s : Int × Int), ((s.1 = 3000 ∧ s.2 = -1) ∨ ∃ y ∈ K, s.2 = y.by_ ∧ s.1 = y.heat + x.fur.hi j y.place.toNat) →
   (((l.foldl (hotStep x j) s).1 = 3000 ∧ (l.foldl (hotStep x j) s).2 = -1) ∨ ∃ y ∈ K ++ l, (l.foldl (hotStep x j) s).2 = y.by_ ∧ (l.foldl (hotStep x j) s).1 = y.heat + x.fur.hi j y.place.toNat) := by
  intro l
  induction l with
  | nil => intro K s h; simpa using h
  | cons y l ih =>
   intro K s h
   have h2 := ih (K ++ [y]) (hotStep x j s y) ?_
   ·simpa using h2
   ·unfold hotStep
    cases decide (y.heat + (x.Firing.Kiln.at j y.place.toNat).Hi < s.1) with
    | true => right; exact ⟨y, by simp, rfl, rfl⟩
    | false =>
     rcases h with h | ⟨z, h1, h2⟩
     ·exact .inl h
     ·exact .inr ⟨z, by simp [h1], h2⟩
 have := key x.most [] (3000, -1) (.inl ⟨rfl, rfl⟩)
 simpa [hot] using this
def shownP (x : heat_furnace) (y : heat_limit) (q : Nat) (n : Int) : Prop :=
 (∃ j, j < x.Firing.Kiln.Falls.length ∧ y.heat + x.fur.lo j y.place.toNat ≤ x.fur.U j) ∧ ∀ t, n ≤ t ↔ ∃ j, j < x.Firing.Kiln.Falls.length ∧ y.heat + x.fur.lo j y.place.toNat ≤ x.fur.U j ∧ y.heat + x.fur.lo j y.place.toNat - x.fur.hi j q ≤ t
theorem heat_shownLow_eq {x : heat_furnace} (h : x.ok) {y : heat_limit} (hy : limOk x.Firing.Kiln.P y) {q : Nat} (hq : q < x.Firing.Kiln.P) :
  ∃ r, heat_furnace_shownLow KK x y (q : Int) = some r ∧ (r.2 = true ↔ ∃ j, j < x.Firing.Kiln.Falls.length ∧ y.heat + x.fur.lo j y.place.toNat ≤ x.fur.U j) ∧ (r.2 = true → shownP x y q r.1) := by
 have hk := kilnB_len h.k
 obtain ⟨y1, y2, y3, y4⟩ := hy
 unfold heat_furnace_shownLow
 obtain ⟨h1, h2⟩ := whl_foldN (n := x.Firing.Kiln.Falls.length) (body := heat_furnace_shownLow.b0 KK x y (q : Int)) (k := KK) (fun i (s : Int × Bool) => (s.1, s.2, i))
  (fun s j => bif decide (y.heat + x.fur.lo j y.place.toNat ≤ x.fur.U j) then (bif s.2 then (bif decide (y.heat + x.fur.lo j y.place.toNat - x.fur.hi j q < s.1) then (y.heat + x.fur.lo j y.place.toNat - x.fur.hi j q, true) else s) else (y.heat + x.fur.lo j y.place.toNat - x.fur.hi j q, true)) else s)
  (fun i s => (s.2 = true ↔ ∃ j, j < i ∧ y.heat + x.fur.lo j y.place.toNat ≤ x.fur.U j) ∧ (s.2 = true → ∀ t, s.1 ≤ t ↔ ∃ j, j < i ∧ y.heat + x.fur.lo j y.place.toNat ≤ x.fur.U j ∧ y.heat + x.fur.lo j y.place.toNat - x.fur.hi j q ≤ t)) (s0 := (0, false)) (by omega) (by unfold KK; omega) ⟨by simp, by simp⟩ (fun j s hj hI => by
   have g1 := kilnB_at h.k j q
   have g2 := kilnB_at h.k j y.place.toNat
   have g3 : x.fur.hi j q = (x.Firing.Kiln.at j q).Hi := rfl
   have g4 : x.fur.lo j y.place.toNat = (x.Firing.Kiln.at j y.place.toNat).Lo := rfl
   obtain ⟨s1, s2⟩ := s
   obtain ⟨I1, I2⟩ := hI
   simp only at I1 I2
   refine ⟨?_, ?_⟩
   ·unfold heat_furnace_shownLow.b0
    simp only [lt_dec hj, cond_true, at_row h.k hj, at_cell h.k hj y1 y2, at_cellN h.k hj hq, heat_hottest_eq h hj, hot_U, Option.bind_some, g3, g4]
    rw [w64_of (n := y.heat + (x.Firing.Kiln.at j y.place.toNat).Lo) (by omega) (by omega), w64_of (n := y.heat + (x.Firing.Kiln.at j y.place.toNat).Lo - (x.Firing.Kiln.at j q).Hi) (by omega) (by omega)]
    cases decide (y.heat + (x.Firing.Kiln.at j y.place.toNat).Lo ≤ x.fur.U j) <;> cases s2 <;> cases decide (y.heat + (x.Firing.Kiln.at j y.place.toNat).Lo - (x.Firing.Kiln.at j q).Hi < s1) <;> rfl
   ·by_cases hc : y.heat + x.fur.lo j y.place.toNat ≤ x.fur.U j
    ·simp only [hc, decide_true, cond_true]
     cases s2 with
     | false =>
      simp only [cond_false]
      refine ⟨⟨fun _ => ⟨j, by omega, hc⟩, fun _ => trivial⟩, fun _ t => ⟨fun k => ⟨j, by omega, hc, k⟩, ?_⟩⟩
      rintro ⟨i, k1, k2, k3⟩
      by_cases hij : i = j
      ·subst hij; exact k3
      ·have := I1.2 ⟨i, by omega, k2⟩; cases this
     | true =>
      have I3 := I2 rfl
      simp only [cond_true]
      by_cases hd : y.heat + x.fur.lo j y.place.toNat - x.fur.hi j q < s1
      ·simp only [hd, decide_true, cond_true]
       refine ⟨⟨fun _ => ⟨j, by omega, hc⟩, fun _ => trivial⟩, fun _ t => ⟨fun k => ⟨j, by omega, hc, k⟩, ?_⟩⟩
       rintro ⟨i, k1, k2, k3⟩
       by_cases hij : i = j
       ·subst hij; exact k3
       ·have := (I3 t).2 ⟨i, by omega, k2, k3⟩
        omega
      ·simp only [hd, decide_false, cond_false]
       refine ⟨⟨fun _ => ⟨j, by omega, hc⟩, fun _ => trivial⟩, fun _ t => ⟨fun k => ?_, ?_⟩⟩
       ·obtain ⟨i, k1, k2⟩ := (I3 t).1 k
        exact ⟨i, by omega, k2⟩
       ·rintro ⟨i, k1, k2, k3⟩
        by_cases hij : i = j
        ·subst hij; omega
        ·exact (I3 t).2 ⟨i, by omega, k2, k3⟩
    ·simp only [hc, decide_false, cond_false]
     refine ⟨?_, fun k t => ?_⟩
     ·rw [I1]
      constructor
      ·rintro ⟨i, k1, k2⟩; exact ⟨i, by omega, k2⟩
      ·rintro ⟨i, k1, k2⟩
       by_cases hij : i = j
       ·subst hij; exact absurd k2 hc
       ·exact ⟨i, by omega, k2⟩
     ·rw [I2 k t]
      constructor
      ·rintro ⟨i, k1, k2⟩; exact ⟨i, by omega, k2⟩
      ·rintro ⟨i, k1, k2, k3⟩
       by_cases hij : i = j
       ·subst hij; exact absurd k2 hc
       ·exact ⟨i, by omega, k2, k3⟩) (fun s _ => by
   unfold heat_furnace_shownLow.b0
   simp only [lt_dec_self]; rfl)
 rw [h1]
 exact ⟨_, rfl, h2.1, fun k => ⟨h2.1.1 k, h2.2 k⟩⟩
def cannotL (x : heat_furnace) (y : heat_limit) : List Int := (List.range x.Firing.Kiln.Falls.length).map fun j => bif decide (y.heat + x.fur.lo j y.place.toNat ≤ x.fur.U j) then -1 else bif decide (3000 < y.heat + x.fur.lo j y.place.toNat) then -2 else (hot x j).2
theorem heat_cannot_eq {x : heat_furnace} (h : x.ok) {y : heat_limit} (hy : limOk x.Firing.Kiln.P y) : heat_furnace_cannot KK x y = some (cannotL x y) := by
 have hk := kilnB_len h.k
 obtain ⟨y1, y2, y3, y4⟩ := hy
 unfold heat_furnace_cannot
 have h1 := (whl_foldN (n := x.Firing.Kiln.Falls.length) (body := heat_furnace_cannot.b0 KK x y) (k := KK) (fun i s => (i, s)) (fun s j => s ++ [bif decide (y.heat + x.fur.lo j y.place.toNat ≤ x.fur.U j) then -1 else bif decide (3000 < y.heat + x.fur.lo j y.place.toNat) then -2 else (hot x j).2]) (fun i s => s.length = i) (s0 := []) (by omega) (by unfold KK; omega) rfl ?_ ?_).1
 ·rw [h1, foldl_pushN]; rfl
 ·intro j s hj hI
  refine ⟨?_, by simp [hI]⟩
  have g2 := kilnB_at h.k j y.place.toNat
  have g4 : x.fur.lo j y.place.toNat = (x.Firing.Kiln.at j y.place.toNat).Lo := rfl
  unfold heat_furnace_cannot.b0
  simp only [lt_dec hj, cond_true, at_row h.k hj, at_cell h.k hj y1 y2, heat_hottest_eq h hj, hot_U, Option.bind_some, g4]
  rw [w64_of (n := y.heat + (x.Firing.Kiln.at j y.place.toNat).Lo) (by omega) (by omega)]
  cases decide (y.heat + (x.Firing.Kiln.at j y.place.toNat).Lo ≤ x.fur.U j) with
  | true => simp only [cond_true]; rw [push_of (by omega) (by omega)]; rfl
  | false =>
   cases decide ((3000 : Int) < y.heat + (x.Firing.Kiln.at j y.place.toNat).Lo) with
   | true => simp only [cond_true, cond_false]; rw [push_of (by omega) (by omega)]; rfl
   | false => simp only [cond_false]; rw [push_of (by omega) (by omega)]; rfl
 ·intro s _
  unfold heat_furnace_cannot.b0
  simp only [lt_dec_self]; rfl
def LowPf (x : heat_furnace) (q : Nat) (n : Int) (p : HeatProof) : Prop :=
 (∃ j : Nat, j < x.Firing.Kiln.Falls.length ∧ p = ⟨-2, [(j : Int)]⟩ ∧ n = -x.fur.hi j q) ∨
 (∃ y ∈ x.least, y.place = (q : Int) ∧ p = ⟨y.by_, []⟩ ∧ n = y.heat) ∨
 ∃ y ∈ x.least, y.place ≠ (q : Int) ∧ p = ⟨y.by_, cannotL x y⟩ ∧ shownP x y q n
theorem heat_lowest_eq {x : heat_furnace} (h : x.ok) (hs : x.fur.Sound) {q : Nat} (hq : q < x.Firing.Kiln.P) :
  ∃ n p, heat_furnace_lowest KK x (q : Int) = some (n, p) ∧ (∀ t, n ≤ t ↔ x.fur.Low q t) ∧ LowPf x q n p := by
 have hk := kilnB_len h.k
 have hll := h.ll
 have hm : x.fur.m = x.Firing.Kiln.Falls.length - 1 := rfl
 unfold heat_furnace_lowest
 obtain ⟨h1, h2⟩ := whl_foldN (n := x.Firing.Kiln.Falls.length) (body := heat_furnace_lowest.b0 KK x (q : Int)) (k := KK) (fun i (s : Int × Int × List Int) => (s.1, i, s.2.1, s.2.2))
  (fun s j => bif !decide ((j : Int) = 0) then (bif decide (s.1 < 0 - x.fur.hi j q) then (0 - x.fur.hi j q, -2, [(j : Int)]) else s) else (0 - x.fur.hi j q, -2, [(j : Int)]))
  (fun i s => (i = 0 ∨ (∀ t, s.1 ≤ t ↔ ∀ j, j < i → -x.fur.hi j q ≤ t) ∧ ∃ j : Nat, j < i ∧ s = (-x.fur.hi j q, -2, [(j : Int)]))) (s0 := (-3000, 0, [])) (by omega) (by unfold KK; omega) (.inl rfl) (fun j s hj hI => by
   have g1 := kilnB_at h.k j q
   have g3 : x.fur.hi j q = (x.Firing.Kiln.at j q).Hi := rfl
   obtain ⟨s1, s2, s3⟩ := s
   refine ⟨?_, .inr ?_⟩
   ·unfold heat_furnace_lowest.b0
    simp only [lt_dec hj, cond_true, at_row h.k hj, at_cellN h.k hj hq, Option.bind_some, g3]
    rw [w64_of (n := 0 - (x.Firing.Kiln.at j q).Hi) (by omega) (by omega)]
    cases decide ((j : Int) = 0) <;> cases decide (s1 < 0 - (x.Firing.Kiln.at j q).Hi) <;> rfl
   ·have e0 : (0 : Int) - x.fur.hi j q = -x.fur.hi j q := by omega
    by_cases hj0 : j = 0
    ·subst hj0
     simp only [Int.natCast_zero, decide_true, Bool.not_true, cond_false, e0]
     refine ⟨fun t => ⟨fun k i hi => ?_, fun k => k 0 (by omega)⟩, 0, by omega, rfl⟩
     have : i = 0 := by omega
     subst this; exact k
    ·have hj1 : ¬ ((j : Int) = 0) := by omega
     simp only [hj1, decide_false, Bool.not_false, cond_true, e0]
     rcases hI with hI | ⟨I1, i, I2, I3⟩
     ·exact absurd hI hj0
     ·simp only at I1
      by_cases hc : s1 < -x.fur.hi j q
      ·simp only [hc, decide_true, cond_true]
       refine ⟨fun t => ⟨fun k i hi => ?_, fun k => k j (by omega)⟩, j, by omega, rfl⟩
       by_cases hij : i = j
       ·subst hij; exact k
       ·exact (I1 t).1 (by omega) i (by omega)
      ·simp only [hc, decide_false, cond_false]
       refine ⟨fun t => ⟨fun k i hi => ?_, fun k => (I1 t).2 fun i hi => k i (by omega)⟩, i, by omega, I3⟩
       by_cases hij : i = j
       ·subst hij; omega
       ·exact (I1 t).1 k i (by omega)) (fun s _ => by
   unfold heat_furnace_lowest.b0
   simp only [lt_dec_self]; rfl)
 rw [h1]
 rcases h2 with h2 | ⟨h2, j0, h3, h4⟩
 ·omega
 rw [h4] at h2
 rw [h4]
 simp only [Option.bind_some]
 simp only at h2
 have hw := whl_ok (body := heat_furnace_lowest.b1 KK x (q : Int))
  (fun t => ∃ (i : Nat) (p : HeatProof) (n : Int), t = (p, n, (i : Int)) ∧ i ≤ x.least.length ∧ LowPf x q n p ∧ ∀ t, n ≤ t ↔ (∀ j, j < x.Firing.Kiln.Falls.length → -x.fur.hi j q ≤ t) ∧ ∀ y ∈ x.least.take i, if y.place = (q : Int) then y.heat ≤ t else ∃ j, j < x.Firing.Kiln.Falls.length ∧ y.heat + x.fur.lo j y.place.toNat ≤ x.fur.U j ∧ y.heat + x.fur.lo j y.place.toNat - x.fur.hi j q ≤ t)
  (fun r => ∃ (p : HeatProof) (n : Int), r = .brk (p, n) ∧ LowPf x q n p ∧ ∀ t, n ≤ t ↔ (∀ j, j < x.Firing.Kiln.Falls.length → -x.fur.hi j q ≤ t) ∧ ∀ y ∈ x.least, if y.place = (q : Int) then y.heat ≤ t else ∃ j, j < x.Firing.Kiln.Falls.length ∧ y.heat + x.fur.lo j y.place.toNat ≤ x.fur.U j ∧ y.heat + x.fur.lo j y.place.toNat - x.fur.hi j q ≤ t)
  (fun t => x.least.length - t.2.2.toNat) ?_ KK (⟨-2, [(j0 : Int)]⟩, -x.fur.hi j0 q, 0) ⟨0, _, _, rfl, Nat.zero_le _, .inl ⟨j0, h3, rfl, rfl⟩, fun t => by rw [h2 t]; simp⟩ (by unfold KK; simp only; omega)
 ·obtain ⟨r, k1, ⟨p, n, k2, k3, k4⟩, _⟩ := hw
  rw [k1, k2]
  refine ⟨n, p, rfl, fun t => ?_, k3⟩
  rw [k4 t]
  unfold Fur.Low
  constructor
  ·rintro ⟨m1, m2⟩
   refine ⟨fun j hj => m1 j (by omega), fun z hz e => ?_, fun z hz e => ?_⟩
   ·obtain ⟨y, hy, rfl⟩ := List.mem_map.1 hz
    have := m2 y hy
    have hp := h.l y hy
    have e2 : y.place = (q : Int) := by have e' : y.place.toNat = q := e; have := hp.1; omega
    rw [if_pos e2] at this
    exact this
   ·obtain ⟨y, hy, rfl⟩ := List.mem_map.1 hz
    have := m2 y hy
    have hp := h.l y hy
    have e2 : ¬ y.place = (q : Int) := by intro e2; apply e; show y.place.toNat = q; omega
    rw [if_neg e2] at this
    obtain ⟨j, m3, m4⟩ := this
    exact ⟨j, by omega, m4⟩
  ·rintro ⟨m1, m2, m3⟩
   refine ⟨fun j hj => m1 j (by omega), fun y hy => ?_⟩
   have hp := h.l y hy
   by_cases e2 : y.place = (q : Int)
   ·rw [if_pos e2]
    exact m2 (lp y) (List.mem_map.2 ⟨y, hy, rfl⟩) (by show y.place.toNat = q; omega)
   ·rw [if_neg e2]
    obtain ⟨j, m4, m5⟩ := m3 (lp y) (List.mem_map.2 ⟨y, hy, rfl⟩) (by intro e'; have e'' : y.place.toNat = q := e'; have := hp.1; omega)
    exact ⟨j, by omega, m5⟩
 ·rintro t ⟨i, p, n, rfl, g1, g2, g3⟩
  by_cases hi : i = x.least.length
  ·right; left
   refine ⟨(p, n), ?_, p, n, rfl, g2, fun t => by rw [g3 t, hi, List.take_length]⟩
   unfold heat_furnace_lowest.b1
   simp only [hi, lt_dec_self]; rfl
  ·left
   have hx : x.least[i]? = some x.least[i] := List.getElem?_eq_getElem (by omega)
   generalize x.least[i] = y at hx
   have hym : y ∈ x.least := List.mem_of_getElem? hx
   have hy := h.l y hym
   have hwi : w64 ((i : Int) + 1) = ((i + 1 : Nat) : Int) := w64_succ (n := x.least.length) (by omega) (by omega)
   have hbody : heat_furnace_lowest.b1 KK x (q : Int) (p, n, (i : Int)) = bif decide (y.place = (q : Int)) then (bif decide (n < y.heat) then some (.next ((⟨y.by_, []⟩ : HeatProof), y.heat, ((i + 1 : Nat) : Int))) else some (.next (p, n, ((i + 1 : Nat) : Int)))) else
     (heat_furnace_shownLow KK x y (q : Int)).bind fun r => bif r.2 then (bif decide (n < r.1) then some (.next ((⟨y.by_, cannotL x y⟩ : HeatProof), r.1, ((i + 1 : Nat) : Int))) else some (.next (p, n, ((i + 1 : Nat) : Int)))) else some (.next (p, n, ((i + 1 : Nat) : Int))) := by
    unfold heat_furnace_lowest.b1
    simp only [lt_dec (show i < x.least.length by omega), cond_true, at_of hx, Option.bind_some, heat_cannot_eq h hy, hwi]
   have fin : ∀ (p' : HeatProof) (n' : Int), LowPf x q n' p' → (∀ t, n' ≤ t ↔ n ≤ t ∧ if y.place = (q : Int) then y.heat ≤ t else ∃ j, j < x.Firing.Kiln.Falls.length ∧ y.heat + x.fur.lo j y.place.toNat ≤ x.fur.U j ∧ y.heat + x.fur.lo j y.place.toNat - x.fur.hi j q ≤ t) →
     ∃ (i' : Nat) (p'' : HeatProof) (n'' : Int), ((p', n', ((i + 1 : Nat) : Int)) : HeatProof × Int × Int) = (p'', n'', (i' : Int)) ∧ i' ≤ x.least.length ∧ LowPf x q n'' p'' ∧ ∀ t, n'' ≤ t ↔ (∀ j, j < x.Firing.Kiln.Falls.length → -x.fur.hi j q ≤ t) ∧ ∀ y ∈ x.least.take i', if y.place = (q : Int) then y.heat ≤ t else ∃ j, j < x.Firing.Kiln.Falls.length ∧ y.heat + x.fur.lo j y.place.toNat ≤ x.fur.U j ∧ y.heat + x.fur.lo j y.place.toNat - x.fur.hi j q ≤ t := by
    intro p' n' k1 k2
    refine ⟨i + 1, p', n', rfl, by omega, k1, fun t => ?_⟩
    rw [k2 t, g3 t, take_succ_of hx]
    constructor
    ·rintro ⟨⟨m1, m2⟩, m3⟩
     refine ⟨m1, fun z hz => ?_⟩
     rcases List.mem_append.1 hz with hz | hz
     ·exact m2 z hz
     ·simp only [List.mem_singleton] at hz; subst hz; exact m3
    ·rintro ⟨m1, m2⟩
     exact ⟨⟨m1, fun z hz => m2 z (List.mem_append.2 (.inl hz))⟩, m2 y (List.mem_append.2 (.inr (by simp)))⟩
   have hmeas : ∀ (p' : HeatProof) (n' : Int), x.least.length - ((p', n', ((i + 1 : Nat) : Int)) : HeatProof × Int × Int).2.2.toNat < x.least.length - ((p, n, (i : Int)) : HeatProof × Int × Int).2.2.toNat := by intro p' n'; simp only [Int.toNat_natCast]; omega
   by_cases e2 : y.place = (q : Int)
   ·by_cases hc : n < y.heat
    ·refine ⟨_, by rw [hbody]; simp only [e2, hc, decide_true, cond_true], fin _ _ (.inr (.inl ⟨y, hym, e2, rfl, rfl⟩)) fun t => ?_, hmeas _ _⟩
     rw [if_pos e2]; omega
    ·refine ⟨_, by rw [hbody]; simp only [e2, hc, decide_true, decide_false, cond_true, cond_false], fin _ _ g2 fun t => ?_, hmeas _ _⟩
     rw [if_pos e2]; omega
   ·obtain ⟨r, r1, r2, r3⟩ := heat_shownLow_eq h hy hq
    have hreach : r.2 = true := by
     rw [r2]
     obtain ⟨_, j, k1, k2⟩ := hs.2 (lp y) (List.mem_map.2 ⟨y, hym, rfl⟩)
     exact ⟨j, by omega, k2⟩
    obtain ⟨r4, r5⟩ := r3 hreach
    by_cases hc : n < r.1
    ·refine ⟨_, by rw [hbody, r1]; simp only [e2, hc, hreach, decide_true, decide_false, cond_true, cond_false, Option.bind_some], fin _ _ (.inr (.inr ⟨y, hym, e2, rfl, r4, r5⟩)) fun t => ?_, hmeas _ _⟩
     rw [if_neg e2, ← r5 t]; omega
    ·refine ⟨_, by rw [hbody, r1]; simp only [e2, hc, hreach, decide_true, decide_false, cond_true, cond_false, Option.bind_some], fin _ _ g2 fun t => ?_, hmeas _ _⟩
     rw [if_neg e2, ← r5 t]; omega
def HighPf (x : heat_furnace) (q : Nat) (n : Int) (p : HeatProof) : Prop :=
 (∃ y ∈ x.most, y.place = (q : Int) ∧ p = ⟨y.by_, []⟩ ∧ n = y.heat) ∨
 (p = ⟨-1, (List.range x.Firing.Kiln.Falls.length).map fun j => (hot x j).2⟩ ∧ ∀ t, t ≤ n ↔ ∃ j, j < x.Firing.Kiln.Falls.length ∧ t + x.fur.lo j q ≤ x.fur.U j)
theorem heat_highest_eq {x : heat_furnace} (h : x.ok) (hs : x.fur.Sound) {q : Nat} (hq : q < x.Firing.Kiln.P) :
  ∃ n p, heat_furnace_highest KK x (q : Int) = some (n, p) ∧ (∀ t, t ≤ n ↔ x.fur.High q t) ∧ HighPf x q n p := by
 have hk := kilnB_len h.k
 have hm : x.fur.m = x.Firing.Kiln.Falls.length - 1 := rfl
 unfold heat_furnace_highest
 obtain ⟨h1, h2⟩ := whl_foldN (n := x.Firing.Kiln.Falls.length) (body := heat_furnace_highest.b0 KK x (q : Int)) (k := KK) (fun i (s : Int × List Int) => (s.1, i, s.2))
  (fun s j => (max s.1 (x.fur.U j - x.fur.lo j q), s.2 ++ [(hot x j).2]))
  (fun i s => s.2 = (List.range i).map (fun j => (hot x j).2) ∧ ∀ t, t ≤ s.1 ↔ t ≤ -3000 ∨ ∃ j, j < i ∧ t + x.fur.lo j q ≤ x.fur.U j) (s0 := (-3000, [])) (by omega) (by unfold KK; omega) ⟨rfl, by intro t; simp⟩ (fun j s hj hI => by
   have g1 := kilnB_at h.k j q
   have g2 := U_ge h j
   have g4 : x.fur.lo j q = (x.Firing.Kiln.at j q).Lo := rfl
   have hlen : s.2.length = j := by rw [hI.1]; simp
   refine ⟨?_, ?_, fun t => ?_⟩
   ·unfold heat_furnace_highest.b0
    simp only [lt_dec hj, cond_true, at_row h.k hj, at_cellN h.k hj hq, heat_hottest_eq h hj, hot_U, Option.bind_some, g4]
    rw [w64_of (n := x.fur.U j - (x.Firing.Kiln.at j q).Lo) (by omega) (by omega), push_of (by omega) (by omega)]
    rfl
   ·rw [hI.1, List.range_succ, List.map_append]; rfl
   ·show t ≤ max _ _ ↔ _
    rw [show ∀ a b : Int, t ≤ max a b ↔ t ≤ a ∨ t ≤ b by intro a b; omega, hI.2 t]
    constructor
    ·rintro ((k1 | ⟨i, k1, k2⟩) | k1)
     ·exact .inl k1
     ·exact .inr ⟨i, by omega, k2⟩
     ·exact .inr ⟨j, by omega, by omega⟩
    ·rintro (k1 | ⟨i, k1, k2⟩)
     ·exact .inl (.inl k1)
     ·by_cases hij : i = j
      ·subst hij; exact .inr (by omega)
      ·exact .inl (.inr ⟨i, by omega, k2⟩)) (fun s _ => by
   unfold heat_furnace_highest.b0
   simp only [lt_dec_self]; rfl)
 rw [h1]
 generalize (List.range x.Firing.Kiln.Falls.length).foldl (fun (s : Int × List Int) j => (max s.1 (x.fur.U j - x.fur.lo j q), s.2 ++ [(hot x j).2])) (-3000, []) = s at h2
 obtain ⟨n, l⟩ := s
 obtain ⟨h3, h4⟩ := h2
 simp only at h3 h4
 subst h3
 have h5 : ∀ t, t ≤ n ↔ ∃ j, j < x.Firing.Kiln.Falls.length ∧ t + x.fur.lo j q ≤ x.fur.U j := by
  intro t
  rw [h4]
  refine ⟨?_, .inr⟩
  rintro (k | k)
  ·refine ⟨0, by omega, ?_⟩
   have a1 := hs.1 0 (Nat.zero_le _)
   have a2 := kilnB_at h.k 0 q
   have a3 : x.fur.lo 0 q = (x.Firing.Kiln.at 0 q).Lo := rfl
   omega
  ·exact k
 have hb := bestL_some x.most q (fun y hy => (h.m y hy).1)
 have hH : ∀ t, x.fur.High q t ↔ t ≤ n ∧ ∀ y ∈ x.fur.M, y.1 = q → t ≤ y.2 := by
  intro t
  unfold Fur.High
  rw [h5 t]
  constructor
  ·rintro ⟨⟨j, k1, k2⟩, k3⟩; exact ⟨⟨j, by omega, k2⟩, k3⟩
  ·rintro ⟨⟨j, k1, k2⟩, k3⟩; exact ⟨⟨j, by omega, k2⟩, k3⟩
 simp only [Option.bind_some, heat_best_eq _ h.ml]
 cases hb2 : (bestL x.most (q : Int)).2 with
 | false =>
  rw [hb2] at hb
  have hb3 := (Fur.best_iff _ _).1.1 hb
  refine ⟨n, _, rfl, fun t => ?_, .inr ⟨rfl, h5⟩⟩
  rw [hH t]
  exact ⟨fun k => ⟨k, fun y hy e => absurd e (hb3 y hy)⟩, fun k => k.1⟩
 | true =>
  rw [hb2] at hb
  have hb3 := ((Fur.best_iff _ _).2 _ hb).1
  obtain ⟨hb4, hb5⟩ := bestL_mem _ _ hb2
  have hH2 : ∀ t, x.fur.High q t ↔ t ≤ n ∧ t ≤ (bestL x.most (q : Int)).1.heat := by intro t; rw [hH t, hb3 t]; rfl
  simp only [cond_true]
  by_cases hc : (bestL x.most (q : Int)).1.heat ≤ n
  ·simp only [hc, decide_true, cond_true]
   refine ⟨_, _, rfl, fun t => ?_, .inl ⟨_, hb4, hb5, rfl, rfl⟩⟩
   rw [hH2 t]; omega
  ·simp only [hc, decide_false, cond_false]
   refine ⟨_, _, rfl, fun t => ?_, .inr ⟨rfl, h5⟩⟩
   rw [hH2 t]; omega
theorem heat_bound_eq {x : heat_furnace} (h : x.ok) (hs : x.fur.Sound) {q : Nat} (hq : q < x.Firing.Kiln.P) :
  ∃ r, heat_furnace_bound KK x (q : Int) = some r ∧ (∀ t, r.Lo ≤ t ↔ x.fur.Low q t) ∧ ∀ t, t ≤ r.Hi ↔ x.fur.High q t := by
 obtain ⟨n1, p1, a1, a2, _⟩ := heat_lowest_eq h hs hq
 obtain ⟨n2, p2, b1, b2, _⟩ := heat_highest_eq h hs hq
 unfold heat_furnace_bound
 rw [a1, b1]
 exact ⟨_, rfl, a2, b2⟩
theorem bound_same {f : Fur} {q : Nat} {r s : Range} (h1 : ∀ t, r.Lo ≤ t ↔ f.Low q t) (h2 : ∀ t, t ≤ r.Hi ↔ f.High q t) (h3 : ∀ t, s.Lo ≤ t ↔ f.Low q t) (h4 : ∀ t, t ≤ s.Hi ↔ f.High q t) : r = s := by
 have e1 : r.Lo = s.Lo := eq_of_ge_iff fun t => by rw [h1, h3]
 have e2 : r.Hi = s.Hi := eq_of_le_iff fun t => by rw [h2, h4]
 cases r; cases s; simp only at e1 e2; rw [e1, e2]
end Go.Abs
namespace Go.Abs
open Go
set_option linter.unusedVariables false
def Field.u (x : Field) (j : Nat) : Int := x.Mouths.getD j 0
def Field.d (x : Field) (j p : Nat) : Int := (x.Falls.getD j []).getD p 0
def Field.ht (x : Field) (m p : Nat) : Int := mx (fun j => x.u j - x.d j p) m
def rowB (k : Kiln) (x : Field) (j : Nat) : Bool := inB (x.u j) 0 3000 && (decide ((x.Falls.getD j []).length = (k.Falls.getD j []).length) && (List.range (k.Falls.getD j []).length).all fun p => inB (x.d j p) (k.at j p).Lo (k.at j p).Hi)
def fieldB (k : Kiln) (x : Field) : Bool := decide (x.Mouths.length = k.Falls.length) && (decide (x.Falls.length = k.Falls.length) && (List.range k.Falls.length).all (rowB k x))
theorem R04_isField_eq {k : Kiln} (h : kilnB k = true) (x : Field) : R04_isField KK k x = some (fieldB k x) := by
 have hk := kilnB_len h
 unfold R04_isField fieldB
 simp only [len_dec]
 by_cases h1 : x.Mouths.length = k.Falls.length
 ·by_cases h2 : x.Falls.length = k.Falls.length
  ·simp only [h1, h2, decide_true, Bool.not_true, cond_true, cond_false, Bool.true_and]
   rw [whl_allN (n := k.Falls.length) (p := rowB k x) (c := false) (by omega) (by unfold KK; omega) (fun j hj => by
    unfold R04_isField.b0 rowB
    have hr := kilnB_row h hj
    simp only [lt_dec hj, cond_true, at_row h hj, at_nat (0 : Int) (show j < x.Mouths.length by omega), at_nat ([] : List Int) (show j < x.Falls.length by omega), Option.bind_some, R01_In_eq, len_dec]
    show (bif inB (x.u j) 0 3000 then _ else _) = _
    cases inB (x.u j) 0 3000 with
    | false => rfl
    | true =>
     by_cases h3 : (x.Falls.getD j []).length = (k.Falls.getD j []).length
     ·simp only [h3, decide_true, Bool.not_true, cond_true, cond_false, Bool.true_and]
      rw [whl_allN (n := (k.Falls.getD j []).length) (p := fun p => inB (x.d j p) (k.at j p).Lo (k.at j p).Hi) (c := false) (by omega) (by unfold KK; omega) (fun p hp => by
       unfold R04_isField.b1
       simp only [lt_dec hp, cond_true, at_nat R0 hp, at_nat (0 : Int) (show p < (x.Falls.getD j []).length by omega), Option.bind_some, R01_In_eq]
       show (bif !inB (x.d j p) (k.at j p).Lo (k.at j p).Hi then _ else _) = _
       cases inB (x.d j p) (k.at j p).Lo (k.at j p).Hi <;> rfl) (by
       unfold R04_isField.b1
       rw [lt_dec_self]; rfl)]
      cases (List.range (k.Falls.getD j []).length).all fun p => inB (x.d j p) (k.at j p).Lo (k.at j p).Hi <;> rfl
     ·simp only [h3, decide_false, Bool.not_false, cond_true, Bool.false_and, Bool.and_false, cond_false]) (by
    unfold R04_isField.b0
    rw [lt_dec_self]; rfl)]
   cases (List.range k.Falls.length).all (rowB k x) <;> rfl
  ·simp [h1, h2]
 ·simp [h1]
structure FieldOk (k : Kiln) (x : Field) : Prop where
 kv : kilnB k = true
 m : x.Mouths.length = k.Falls.length
 f : x.Falls.length = k.Falls.length
 row : ∀ j, j < k.Falls.length → (x.Falls.getD j []).length = k.P
 u : ∀ j, j < k.Falls.length → 0 ≤ x.u j ∧ x.u j ≤ 3000
 d : ∀ j p, j < k.Falls.length → (k.at j p).Lo ≤ x.d j p ∧ x.d j p ≤ (k.at j p).Hi
theorem fieldB_iff {k : Kiln} (h : kilnB k = true) (x : Field) : fieldB k x = true ↔ FieldOk k x := by
 unfold fieldB
 simp only [Bool.and_eq_true, decide_eq_true_eq, List.all_eq_true, List.mem_range, rowB, inB]
 constructor
 ·rintro ⟨h1, h2, h3⟩
  refine ⟨h, h1, h2, fun j hj => by rw [(h3 j hj).2.1, kilnB_row h hj], fun j hj => (h3 j hj).1, fun j p hj => ?_⟩
  obtain ⟨_, h4, h5⟩ := h3 j hj
  by_cases hp : p < (k.Falls.getD j []).length
  ·exact h5 p hp
  ·unfold Field.d Kiln.at
   rw [getD_none (by omega), getD_none (by omega)]
   exact ⟨Int.le_refl _, Int.le_refl _⟩
 ·intro g
  exact ⟨g.m, g.f, fun j hj => ⟨g.u j hj, by rw [g.row j hj, kilnB_row h hj], fun p _ => g.d j p hj⟩⟩
theorem FieldOk.isField {k : Kiln} {x : Field} (h : FieldOk k x) {f : Fur} (hm : f.m = k.Falls.length - 1) (hlo : ∀ j p, f.lo j p = (k.at j p).Lo) (hhi : ∀ j p, f.hi j p = (k.at j p).Hi) : f.IsField x.u x.d := by
 have hk := kilnB_len h.kv
 intro j hj
 have h1 := h.u j (by omega)
 refine ⟨h1.1, h1.2, fun p => ?_⟩
 rw [hlo, hhi]; exact h.d j p (by omega)
theorem FieldOk.bounds {k : Kiln} {x : Field} (h : FieldOk k x) {j : Nat} (p : Nat) (hj : j < k.Falls.length) : -3000 ≤ x.u j - x.d j p ∧ x.u j - x.d j p ≤ 3000 := by
 have h1 := h.u j hj
 have h2 := h.d j p hj
 have h3 := kilnB_at h.kv j p
 omega
theorem FieldOk.ht {k : Kiln} {x : Field} (h : FieldOk k x) (p : Nat) : -3000 ≤ x.ht (k.Falls.length - 1) p ∧ x.ht (k.Falls.length - 1) p ≤ 3000 := by
 have hk := kilnB_len h.kv
 unfold Field.ht
 rw [mx_le_iff, le_mx_iff]
 exact ⟨⟨0, Nat.zero_le _, (h.bounds p (by omega)).1⟩, fun j hj => (h.bounds p (by omega)).2⟩
theorem R04_heat_eq {k : Kiln} {x : Field} (h : FieldOk k x) {p : Nat} (hp : p < k.P) : R04_heat KK x (p : Int) = some (x.ht (k.Falls.length - 1) p) := by
 have hk := kilnB_len h.kv
 have hm := h.m
 have hf := h.f
 have hr0 := h.row 0 (by omega)
 unfold R04_heat
 have e0 : at? x.Falls (0 : Int) = some (x.Falls.getD 0 []) := at_nat [] (l := x.Falls) (i := 0) (by omega)
 have e1 : at? x.Mouths (0 : Int) = some (x.u 0) := at_nat 0 (l := x.Mouths) (i := 0) (by omega)
 have e2 : at? (x.Falls.getD 0 []) (p : Int) = some (x.d 0 p) := at_nat 0 (by omega)
 have hb0 := h.bounds p (show 0 < k.Falls.length by omega)
 simp only [e0, e1, e2, Option.bind_some]
 rw [w64_of (by omega) (by omega)]
 have hw := whl_ok (body := R04_heat.b0 KK x (p : Int))
  (fun t => ∃ (i : Nat) (s : Int), t = (s, ((i + 1 : Nat) : Int)) ∧ i + 1 ≤ k.Falls.length ∧ s = x.ht i p)
  (fun r => r = .brk (x.ht (k.Falls.length - 1) p)) (fun t => k.Falls.length - t.2.toNat) ?_ KK (x.u 0 - x.d 0 p, 1) ⟨0, _, rfl, by omega, rfl⟩ (by unfold KK; simp only; omega)
 ·obtain ⟨r, k1, k2, _⟩ := hw
  rw [k1, k2]; rfl
 ·rintro t ⟨i, s, rfl, g1, g2⟩
  by_cases hi : i + 1 = k.Falls.length
  ·right; left
   refine ⟨s, ?_, by rw [g2]; congr 2; omega⟩
   unfold R04_heat.b0
   simp only [hm, hi, lt_dec_self]; rfl
  ·left
   have hj : i + 1 < k.Falls.length := by omega
   have hb := h.bounds p hj
   have hr := h.row _ hj
   have e3 : at? x.Mouths ((i + 1 : Nat) : Int) = some (x.u (i + 1)) := at_nat 0 (by omega)
   have e4 : at? (x.Falls.getD (i + 1) []) (p : Int) = some (x.d (i + 1) p) := at_nat 0 (by omega)
   refine ⟨(max s (x.u (i + 1) - x.d (i + 1) p), ((i + 1 + 1 : Nat) : Int)), ?_, ⟨i + 1, _, rfl, hj, by rw [g2]; rfl⟩, by simp only [Int.toNat_natCast]; omega⟩
   unfold R04_heat.b0
   simp only [hm, lt_dec hj, cond_true, e3, e4, at_nat ([] : List Int) (show i + 1 < x.Falls.length by omega), Option.bind_some]
   rw [w64_of (n := x.u (i + 1) - x.d (i + 1) p) (by omega) (by omega), w64_succ (n := k.Falls.length) hj (by omega)]
def rdAg (h : Int) (r : Reading) : Bool := !((lo? r).isSome && decide (h < (lo? r).getD 0)) && !((hi? r).isSome && decide ((hi? r).getD 0 < h))
def agB (f : Firing) (x : Field) : Bool := f.Readings.all fun r => rdAg (x.ht (f.Kiln.Falls.length - 1) r.Place.toNat) r
theorem R04_agrees_eq {f : Firing} (h : f.ok) {x : Field} (hF : FieldOk f.Kiln x) : R04_agrees KK f x = some (agB f x) := by
 have hl := h.l
 unfold R04_agrees agB
 rw [whl_allL (l := f.Readings) (p := fun r => rdAg (x.ht (f.Kiln.Falls.length - 1) r.Place.toNat) r) (c := false) (by omega) (by unfold KK; omega) ?_ ?_]
 ·cases f.Readings.all fun r => rdAg (x.ht (f.Kiln.Falls.length - 1) r.Place.toNat) r <;> rfl
 ·intro i r hr
  have hi : i < f.Readings.length := (List.getElem?_eq_some_iff.1 hr).1
  have hro := h.r r (List.mem_of_getElem? hr)
  have hp := hro.1
  have hp2 := hro.2.1
  have hpl : ((r.Place.toNat : Nat) : Int) = r.Place := by omega
  have hb := hF.ht r.Place.toNat
  unfold R04_agrees.b0 rdAg
  have e1 := R04_heat_eq hF (p := r.Place.toNat) (by omega)
  rw [hpl] at e1
  simp only [lt_dec hi, cond_true, at_of hr, Option.bind_some, R04_Least_eq hro, e1]
  cases h1 : lo? r with
  | none =>
   have : ¬ x.ht (f.Kiln.Falls.length - 1) r.Place.toNat < -1000000 := by omega
   cases h2 : hi? r with
   | none =>
    have : ¬ (1000000 : Int) < x.ht (f.Kiln.Falls.length - 1) r.Place.toNat := by omega
    simp [*]
   | some b =>
    simp only [Option.getD_none, Option.getD_some, this, decide_false, Bool.not_false, cond_true, Option.isSome_none, Option.isSome_some, Bool.false_and, Bool.true_and]
    cases decide (b < x.ht (f.Kiln.Falls.length - 1) r.Place.toNat) <;> rfl
  | some a =>
   cases h2 : hi? r with
   | none =>
    have : ¬ (1000000 : Int) < x.ht (f.Kiln.Falls.length - 1) r.Place.toNat := by omega
    simp only [Option.getD_none, Option.getD_some, this, decide_false, Bool.not_false, cond_true, Option.isSome_none, Option.isSome_some, Bool.false_and, Bool.true_and]
    cases decide (x.ht (f.Kiln.Falls.length - 1) r.Place.toNat < a) <;> rfl
   | some b =>
    simp only [Option.getD_some, Option.isSome_some, Bool.true_and]
    cases decide (x.ht (f.Kiln.Falls.length - 1) r.Place.toNat < a) <;> cases decide (b < x.ht (f.Kiln.Falls.length - 1) r.Place.toNat) <;> rfl
 ·unfold R04_agrees.b0
  rw [lt_dec_self]; rfl
theorem agB_iff {f : Firing} (h : f.ok) (x : Field) : agB f x = true ↔ (nf f).fur.Agrees x.u x.d := by
 unfold agB Fur.Agrees
 rw [List.all_eq_true]
 have hh : ∀ p, (nf f).fur.heat x.u x.d p = x.ht (f.Kiln.Falls.length - 1) p := fun p => rfl
 have hr : ∀ (n : Int) r, rdAg n r = true ↔ (∀ a, lo? r = some a → a ≤ n) ∧ ∀ b, hi? r = some b → n ≤ b := by
  intro n r
  unfold rdAg
  cases lo? r <;> cases hi? r <;> simp
 constructor
 ·intro g
  refine ⟨fun z hz => ?_, fun z hz => ?_⟩
  ·obtain ⟨r, h1, h2, h3⟩ := limsOf_lp.1 hz
   rw [hh, ← h3]
   exact ((hr _ _).1 (g r h1)).1 _ h2
  ·obtain ⟨r, h1, h2, h3⟩ := limsOf_lp.1 hz
   rw [hh, ← h3]
   exact ((hr _ _).1 (g r h1)).2 _ h2
 ·rintro ⟨g1, g2⟩ r hr'
  rw [hr]
  exact ⟨fun a ha => g1 (r.Place.toNat, a) (limsOf_lp.2 ⟨r, hr', ha, rfl⟩), fun b hb => g2 (r.Place.toNat, b) (limsOf_lp.2 ⟨r, hr', hb, rfl⟩)⟩
def fieldCode (f : Firing) (x : Field) : Int := bif !decide (firingCode f = 0) then 42 else bif !fieldB f.Kiln x then 45 else bif agB f x then 0 else 45
theorem R04_CheckField_eq (f : Firing) (q : Firing.s f) (x : Field) : R04_CheckField KK f x = some (fieldCode f x) := by
 unfold R04_CheckField fieldCode
 rw [R04_Check_eq f q]
 simp only [Option.bind_some]
 by_cases h : firingCode f = 0
 ·have hok := firing_ok h
  simp only [h, decide_true, Bool.not_true, cond_false, R04_isField_eq hok.k, Option.bind_some]
  cases h2 : fieldB f.Kiln x with
  | false => rfl
  | true =>
   simp only [cond_true, Bool.not_true, cond_false, R04_agrees_eq hok ((fieldB_iff hok.k x).1 h2), Option.bind_some]
   cases agB f x <;> rfl
 ·simp only [h, decide_false, Bool.not_false, cond_true]
theorem gField_u (x : heat_furnace) {j : Nat} (hj : j < x.Firing.Kiln.Falls.length) : (gField x).u j = x.fur.U j := by
 unfold Field.u gField
 exact getD_of _ (by rw [List.getElem?_map, List.getElem?_range hj]; rfl)
theorem gField_d (x : heat_furnace) {j p : Nat} (hj : j < x.Firing.Kiln.Falls.length) (hp : p < x.Firing.Kiln.P) : (gField x).d j p = x.fur.gd j p := by
 unfold Field.d gField
 rw [getD_of (x := (List.range x.Firing.Kiln.P).map fun p => x.fur.gd j p) _ (by rw [List.getElem?_map, List.getElem?_range hj]; rfl)]
 exact getD_of _ (by rw [List.getElem?_map, List.getElem?_range hp]; rfl)
theorem gField_ok {x : heat_furnace} (h : x.ok) (hs : x.fur.Sound) : FieldOk x.Firing.Kiln (gField x) := by
 have hk := kilnB_len h.k
 have hF := Fur.gd_isField (fur_ok h) hs
 have hm : x.fur.m = x.Firing.Kiln.Falls.length - 1 := rfl
 refine ⟨h.k, by simp [gField], by simp [gField], fun j hj => ?_, fun j hj => ?_, fun j p hj => ?_⟩
 ·unfold gField
  rw [getD_of (x := (List.range x.Firing.Kiln.P).map fun p => x.fur.gd j p) _ (by rw [List.getElem?_map, List.getElem?_range hj]; rfl)]
  simp
 ·rw [gField_u x hj]
  have := hF j (by omega)
  exact ⟨this.1, this.2.1⟩
 ·by_cases hp : p < x.Firing.Kiln.P
  ·rw [gField_d x hj hp]
   exact (hF j (by omega)).2.2 p
  ·unfold Field.d Kiln.at
   rw [getD_none (l := x.Firing.Kiln.Falls.getD j []) (by rw [kilnB_row h.k hj]; omega)]
   rw [getD_none (l := (gField x).Falls.getD j []) (by
    unfold gField
    rw [getD_of (x := (List.range x.Firing.Kiln.P).map fun p => x.fur.gd j p) _ (by rw [List.getElem?_map, List.getElem?_range hj]; rfl)]
    simp; omega)]
   exact ⟨Int.le_refl _, Int.le_refl _⟩
theorem mx_congr {f g : Nat → Int} : ∀ n, (∀ j, j ≤ n → f j = g j) → mx f n = mx g n
 | 0, h => h 0 (Nat.le_refl _)
 | n + 1, h => by rw [mx, mx, mx_congr n (fun j hj => h j (by omega)), h _ (Nat.le_refl _)]
theorem gField_ht {x : heat_furnace} (h : x.ok) {p : Nat} (hp : p < x.Firing.Kiln.P) : (gField x).ht (x.Firing.Kiln.Falls.length - 1) p = x.fur.heat x.fur.U x.fur.gd p := by
 have hk := kilnB_len h.k
 refine mx_congr _ fun j hj => ?_
 rw [gField_u x (by omega), gField_d x (by omega) hp]
theorem gField_high {x : heat_furnace} (h : x.ok) {p : Nat} (hp : p < x.Firing.Kiln.P) (t : Int) : t ≤ (gField x).ht (x.Firing.Kiln.Falls.length - 1) p ↔ x.fur.High p t := by
 rw [gField_ht h hp]; exact Fur.gd_heat p t
end Go.Abs
namespace Go.Abs
open Go
set_option linter.unusedVariables false
def Firing.w (f : Firing) : Prop := f.Readings.length * 24 + 24 ≤ 140737488355328
theorem Firing.q.w {f : Firing} (q : Firing.q f) : Firing.w f := by
 have := q.2.2.1
 have := qB_le
 unfold Firing.w; omega
theorem firing_w {f : Firing} (h : f.ok) : Firing.w f := by have := h.l; unfold Firing.w; omega
def noFur : heat_furnace := ⟨⟨⟨[]⟩, []⟩, [], []⟩
def askCode (f : Firing) (p : Int) : Int := bif !decide (firingCode f = 0) then 42 else bif !inB p 0 ((f.Kiln.P : Int) - 1) then 43 else bif !soundB (nf f) then 44 else 0
theorem heat_asks_eq (f : Firing) (q : Firing.s f) (w : Firing.w f) (p : Int) : heat_asks KK f p = some (bif decide (askCode f p = 0) then (nf f, 0) else (noFur, askCode f p)) := by
 unfold heat_asks askCode
 rw [heat_newFurnace_eq f w, heat_Check_eq f q]
 simp only [Option.bind_some]
 by_cases h : firingCode f = 0
 ·have hok := firing_ok h
  have hk := kilnB_len hok.k
  obtain ⟨x3, g1, g2, g3⟩ := kilnB_head hok.k
  have hP : x3.length = f.Kiln.P := by unfold Kiln.P; rw [g3]
  simp only [h, decide_true, Bool.not_true, cond_false, g2, Option.bind_some, heat_in_eq, hP, heat_sound_eq (nf_ok hok)]
  rw [w64_of (n := (f.Kiln.P : Int) - 1) (by omega) (by omega)]
  cases inB p 0 ((f.Kiln.P : Int) - 1) with
  | false => rfl
  | true => cases soundB (nf f) <;> rfl
 ·simp only [h, decide_false, Bool.not_false, cond_true]
  rfl
theorem askCode_ok {f : Firing} {p : Int} (h : askCode f p = 0) : firingCode f = 0 ∧ f.ok ∧ 0 ≤ p ∧ p < f.Kiln.P ∧ (nf f).fur.Sound ∧ soundB (nf f) = true := by
 unfold askCode at h
 by_cases hc : firingCode f = 0
 ·have hok := firing_ok hc
  simp only [hc, decide_true, Bool.not_true, cond_false] at h
  cases hi : inB p 0 ((f.Kiln.P : Int) - 1) with
  | false => rw [hi] at h; simp at h
  | true =>
   rw [hi] at h
   cases hs : soundB (nf f) with
   | false => rw [hs] at h; simp at h
   | true =>
    simp only [inB, Bool.and_eq_true, decide_eq_true_eq] at hi
    exact ⟨hc, hok, hi.1, by omega, (soundB_iff (nf_ok hok)).1 hs, rfl⟩
 ·simp [hc] at h
theorem R04_asked_eq (f : Firing) (q : Firing.s f) (p : Int) : R04_asked KK f p = some (bif !decide (firingCode f = 0) then 42 else bif !inB p 0 ((f.Kiln.P : Int) - 1) then 43 else 0) := by
 unfold R04_asked
 rw [R04_Check_eq f q]
 simp only [Option.bind_some]
 by_cases h : firingCode f = 0
 ·have hok := firing_ok h
  have hk := kilnB_len hok.k
  obtain ⟨x3, g1, g2, g3⟩ := kilnB_head hok.k
  have hP : x3.length = f.Kiln.P := by unfold Kiln.P; rw [g3]
  simp only [h, decide_true, Bool.not_true, cond_false, g2, Option.bind_some, R01_In_eq, hP]
  rw [w64_of (n := (f.Kiln.P : Int) - 1) (by omega) (by omega)]
  cases inB p 0 ((f.Kiln.P : Int) - 1) <;> rfl
 ·simp only [h, decide_false, Bool.not_false, cond_true]
def boundR (f : Firing) (p : Int) (r : Range) : Range × Int := bif decide (askCode f p = 0) then (r, 0) else (⟨0, 0⟩, askCode f p)
def IsBound (f : Firing) (p : Int) (r : Range) : Prop := askCode f p = 0 → (∀ t, r.Lo ≤ t ↔ (nf f).fur.Low p.toNat t) ∧ ∀ t, t ≤ r.Hi ↔ (nf f).fur.High p.toNat t
theorem heat_Bound_eq (f : Firing) (q : Firing.s f) (w : Firing.w f) (p : Int) : ∃ r, IsBound f p r ∧ heat_Bound KK f p = some (boundR f p r) := by
 unfold heat_Bound boundR
 rw [heat_asks_eq f q w]
 simp only [Option.bind_some]
 by_cases h : askCode f p = 0
 ·obtain ⟨h1, h2, h3, h4, h5, h6⟩ := askCode_ok h
  have hpl : ((p.toNat : Nat) : Int) = p := by omega
  obtain ⟨r, e1, e2, e3⟩ := heat_bound_eq (nf_ok h2) h5 (q := p.toNat) (by show p.toNat < f.Kiln.P; omega)
  rw [hpl] at e1
  simp only [h, decide_true, cond_true, Bool.not_true, cond_false, e1, Option.bind_some]
  exact ⟨r, fun _ => ⟨e2, e3⟩, rfl⟩
 ·simp only [h, decide_false, cond_false, Bool.not_false, cond_true]
  exact ⟨⟨0, 0⟩, fun k => absurd k h, trivial⟩
theorem R04_Bound_eq (f : Firing) (q : Firing.s f) (p : Int) : ∃ r, IsBound f p r ∧ R04_Bound KK f p = some (boundR f p r) := by
 unfold R04_Bound boundR
 rw [R04_asked_eq f q]
 simp only [Option.bind_some]
 by_cases h : askCode f p = 0
 ·obtain ⟨h1, h2, h3, h4, h5, h6⟩ := askCode_ok h
  have hpl : ((p.toNat : Nat) : Int) = p := by omega
  obtain ⟨r, e1, e2, e3⟩ := R04_bound_eq h2 h5 (q := p.toNat) (by omega)
  rw [hpl] at e1
  have hi : inB p 0 ((f.Kiln.P : Int) - 1) = true := by simp [inB]; omega
  simp only [h, h1, hi, h6, decide_true, cond_true, Bool.not_true, cond_false, e1, Option.bind_some, R04_IsSound_eq h2]
  exact ⟨r, fun _ => ⟨e2, e3⟩, rfl⟩
 ·refine ⟨⟨0, 0⟩, fun k => absurd k h, ?_⟩
  simp only [h, decide_false, cond_false]
  unfold askCode at h ⊢
  by_cases hc : firingCode f = 0
  ·simp only [hc, decide_true, Bool.not_true, cond_false] at h ⊢
   cases hi : inB p 0 ((f.Kiln.P : Int) - 1) with
   | false => rfl
   | true =>
    rw [hi] at h
    simp only [Bool.not_true, cond_false] at h
    cases hs : soundB (nf f) with
    | false => simp only [Bool.not_true, Bool.not_false, cond_false, cond_true, decide_true, R04_IsSound_eq (firing_ok hc), Option.bind_some, hs]
    | true => rw [hs] at h; simp at h
  ·simp only [hc, decide_false, Bool.not_false, cond_true]; rfl
theorem IsBound.one {f : Firing} {p : Int} {r s : Range} (h1 : IsBound f p r) (h2 : IsBound f p s) : boundR f p r = boundR f p s := by
 unfold boundR
 by_cases h : askCode f p = 0
 ·have a := h1 h
  have b := h2 h
  rw [bound_same a.1 a.2 b.1 b.2]
 ·simp only [h, decide_false, cond_false]
end Go.Abs
namespace Go.Abs
open Go
set_option linter.unusedVariables false
def rngX (x : heat_furnace) (q : Nat) : Range := (heat_furnace_bound KK x (q : Int)).getD ⟨0, 0⟩
theorem rngX_spec {x : heat_furnace} (h : x.ok) (hs : x.fur.Sound) {q : Nat} (hq : q < x.Firing.Kiln.P) :
  heat_furnace_bound KK x (q : Int) = some (rngX x q) ∧ (∀ t, (rngX x q).Lo ≤ t ↔ x.fur.Low q t) ∧ ∀ t, t ≤ (rngX x q).Hi ↔ x.fur.High q t := by
 obtain ⟨r, e1, e2, e3⟩ := heat_bound_eq h hs hq
 have : rngX x q = r := by unfold rngX; rw [e1]; rfl
 rw [this]; exact ⟨e1, e2, e3⟩
theorem R04_bound_rng {f : Firing} (h : f.ok) (hs : (nf f).fur.Sound) {q : Nat} (hq : q < f.Kiln.P) : R04_bound KK f (q : Int) = some (rngX (nf f) q) := by
 obtain ⟨r, e1, e2, e3⟩ := R04_bound_eq h hs hq
 obtain ⟨a1, a2, a3⟩ := rngX_spec (nf_ok h) hs hq
 rw [e1, bound_same e2 e3 a2 a3]
def askF (x : heat_furnace) (p : Int) (r : Range) : heat_furnace := ⟨x.Firing, x.least ++ [⟨p, r.Lo, -1⟩], x.most ++ [⟨p, r.Hi, -1⟩]⟩
theorem heat_asked_eq (x : heat_furnace) (h1 : x.least.length ≤ 1000) (h2 : x.most.length ≤ 1000) (p : Int) (r : Range) : heat_furnace_asked KK x p r = some (askF x p r) := by
 unfold heat_furnace_asked slices_Clone_heat_limit
 rw [room_of (by omega) (by omega)]
 simp only [Option.bind_some]
 rw [push_of (by omega) (by omega)]
 simp only [Option.bind_some]
 rw [room_of (by omega) (by omega)]
 simp only [Option.bind_some]
 rw [push_of (by omega) (by omega)]
 rfl
theorem askF_fur (x : heat_furnace) (p : Int) (r : Range) : (askF x p r).fur = x.fur.ask p.toNat r.Lo r.Hi := by
 unfold askF heat_furnace.fur Fur.ask
 simp [lp]
theorem askF_ok {x : heat_furnace} (h : x.ok) (hl : x.least.length < 1000) (hm : x.most.length < 1000) {p : Int} {r : Range} (h0 : 0 ≤ p) (hp : p < x.Firing.Kiln.P) (hlo : -3000 ≤ r.Lo ∧ r.Lo ≤ 3000) (hhi : -3000 ≤ r.Hi ∧ r.Hi ≤ 3000) : (askF x p r).ok := by
 refine ⟨h.k, by simp [askF]; omega, fun y hy => ?_, by simp [askF]; omega, fun y hy => ?_⟩
 ·have hy' : y ∈ x.least ++ [⟨p, r.Lo, -1⟩] := hy
  rcases List.mem_append.1 hy' with hy | hy
  ·exact h.l y hy
  ·simp only [List.mem_singleton] at hy; subst hy; exact ⟨h0, hp, hlo⟩
 ·have hy' : y ∈ x.most ++ [⟨p, r.Hi, -1⟩] := hy
  rcases List.mem_append.1 hy' with hy | hy
  ·exact h.m y hy
  ·simp only [List.mem_singleton] at hy; subst hy; exact ⟨h0, hp, hhi⟩
theorem nf_len {f : Firing} (h : f.ok) : (nf f).least.length ≤ 100 ∧ (nf f).most.length ≤ 100 := by
 have h2 := h.l
 have a := limsOf_len f.Readings lo?
 have b := limsOf_len f.Readings hi?
 exact ⟨by show (limsOf f.Readings lo?).length ≤ 100; omega, by show (limsOf f.Readings hi?).length ≤ 100; omega⟩
def ringOf (w : Want) : Reading := ⟨1, w.Place, 3, 0, w.Heat⟩
def wf (f : Firing) (l : List Want) : Firing := ⟨f.Kiln, f.Readings ++ l.map ringOf⟩
theorem fieldCode_ok {f : Firing} {x : Field} (h1 : firingCode f = 0) (h2 : FieldOk f.Kiln x) (h3 : agB f x = true) : fieldCode f x = 0 := by
 unfold fieldCode
 simp [h1, (fieldB_iff h2.kv x).2 h2, h3]
end Go.Abs
namespace Go.Abs
open Go
set_option linter.unusedVariables false
theorem R01_Less_gen (l : List Int) (n : Int) (hl : l.length * 8 + 8 ≤ 140737488355328) : R01_Less KK l n = some (l.filter fun x => !decide (x = n)) := by
 unfold R01_Less
 have h := (whl_fold (l := l) (body := R01_Less.b0 KK l n) (k := KK) (fun i s => (i, s)) (fun s x => bif !decide (x = n) then s ++ [x] else s) (fun i s => s.length ≤ i) (s0 := []) (by omega) (by unfold KK; omega) (by simp) ?_ ?_).1
 ·rw [h, foldl_filter (fun x => !decide (x = n))]; rfl
 ·intro i x s hx hI
  have hi : i < l.length := (List.getElem?_eq_some_iff.1 hx).1
  unfold R01_Less.b0
  simp only [lt_dec hi, at_of hx, cond_true, Option.bind_some]
  cases !decide (x = n) with
  | true =>
   simp only [cond_true]
   rw [push_of (by omega) (by omega)]
   exact ⟨rfl, by simp; omega⟩
  | false => exact ⟨rfl, by simp; omega⟩
 ·intro s _
  unfold R01_Less.b0
  simp only [lt_dec_self]; rfl
def onlyF (f : Firing) (by1 : List Int) : Firing := ⟨f.Kiln, f.Readings.filter fun r => decide (r.Source ∈ by1)⟩
theorem R04_only_due {f : Firing} (h : firingCode f = 0) (l : List Int) (hl : l.length ≤ Go.maxLen) : R04_only KK f l = some (onlyF f l) := by
 obtain ⟨h1, h2, _⟩ := firing_small h
 obtain ⟨s1, s2, s3⟩ := kilnB_small h1
 exact R04_only_eq f l (by omega) (fun x hx => by rw [s3 x hx]; omega) (by omega) hl
def allSrc (f : Firing) : List Int := usort (f.Readings.map fun r => r.Source)
theorem allSrc_len (f : Firing) : (allSrc f).length ≤ f.Readings.length := by
 have := usort_len (f.Readings.map fun r => r.Source)
 simpa [allSrc] using this
end Go.Abs
namespace Go.Abs
open Go
set_option linter.unusedVariables false
theorem whl_foldM {S E R τ : Type} {n : Nat} {body : τ → Option (Stp τ E R)} (mk : Int → S → τ) (g : S → E) (f : S → Nat → Option S) (c : R) (Inv : Nat → S → Prop) (hn : n ≤ 9223372036854775807) {k : Nat} (hk : n < k) {s0 : S} (h0 : Inv 0 s0)
  (h1 : ∀ i s, i < n → Inv i s → body (mk (i : Int) s) = some (match f s i with | some s' => .next (mk (w64 ((i : Int) + 1)) s') | none => .ret c) ∧ ∀ s', f s i = some s' → Inv (i + 1) s') (h2 : ∀ s, Inv n s → body (mk (n : Int) s) = some (.brk (g s))) :
  whl body k (mk 0 s0) = some (match (List.range n).foldlM f s0 with | some s => .brk (g s) | none => .ret c) ∧ ∀ s, (List.range n).foldlM f s0 = some s → Inv n s := by
 have key : ∀ (d i k : Nat) (s : S), i + d = n → d < k → Inv i s → whl body k (mk (i : Int) s) = some (match (List.range' i d).foldlM f s with | some s => .brk (g s) | none => .ret c) ∧ ∀ s', (List.range' i d).foldlM f s = some s' → Inv n s' := by
  intro d
  induction d with
  | zero =>
   intro i k s hi hk hI
   cases k with
   | zero => omega
   | succ k =>
    have : i = n := by omega
    subst this
    refine ⟨?_, fun s' hs => ?_⟩
    ·rw [whl, h2 s hI]; rfl
    ·have : s = s' := Option.some.inj hs
     exact this ▸ hI
  | succ d ih =>
   intro i k s hi hk hI
   cases k with
   | zero => omega
   | succ k =>
    obtain ⟨g1, g2⟩ := h1 i s (by omega) hI
    rw [List.range'_succ, List.foldlM_cons, whl, g1]
    cases hf : f s i with
    | none => exact ⟨rfl, fun s' hs => by cases hs⟩
    | some s1 =>
     have : w64 ((i : Int) + 1) = ((i + 1 : Nat) : Int) := by rw [w64_of (by omega) (by omega)]; omega
     simp only [this]
     exact ih (i + 1) k s1 (by omega) (by omega) (g2 s1 hf)
 have := key n 0 k s0 (by omega) hk h0
 rw [List.range_eq_range']
 exact this
end Go.Abs
namespace Go.Abs
open Go
end Go.Abs
namespace Go.Abs
open Go
set_option linter.unusedVariables false
def hiAt (f : Firing) (i : Int) : Option heat_limit := if 0 ≤ i ∧ i < f.Readings.length then limOf f.Readings hi? i.toNat else none
def loAt (f : Firing) (i : Int) : Option heat_limit := if 0 ≤ i ∧ i < f.Readings.length then limOf f.Readings lo? i.toNat else none
theorem limOf_by {l : List Reading} {g : Reading → Option Int} {i : Nat} {y : heat_limit} (h : limOf l g i = some y) : y.by_ = (i : Int) ∧ y.place = (l.getD i rd0).Place ∧ g (l.getD i rd0) = some y.heat := by
 unfold limOf at h
 cases hg : g (l.getD i rd0) with
 | none => rw [hg] at h; cases h
 | some n => rw [hg] at h; cases h; exact ⟨rfl, rfl, rfl⟩
theorem R04_index_eq (f : Firing) (i : Int) : R04_index KK f i = some (decide (0 ≤ i ∧ i < f.Readings.length)) := by
 unfold R04_index
 by_cases h : 0 ≤ i
 ·simp [h]
 ·simp [h]
theorem hiAt_ok {f : Firing} (h : f.ok) {i : Int} {y : heat_limit} (hy : hiAt f i = some y) : limOk f.Kiln.P y ∧ y ∈ (nf f).most ∧ y.by_ = i ∧ 0 ≤ i ∧ i < f.Readings.length := by
 unfold hiAt at hy
 split at hy
 ·rename_i hi
  have hm : y ∈ limsOf f.Readings hi? := List.mem_filterMap.2 ⟨i.toNat, by simp only [List.mem_range]; omega, hy⟩
  exact ⟨(nf_ok h).m y hm, hm, by rw [(limOf_by hy).1]; omega, hi⟩
 ·cases hy
theorem loAt_ok {f : Firing} (h : f.ok) {i : Int} {y : heat_limit} (hy : loAt f i = some y) : limOk f.Kiln.P y ∧ y ∈ (nf f).least ∧ y.by_ = i ∧ 0 ≤ i ∧ i < f.Readings.length := by
 unfold loAt at hy
 split at hy
 ·rename_i hi
  have hm : y ∈ limsOf f.Readings lo? := List.mem_filterMap.2 ⟨i.toNat, by simp only [List.mem_range]; omega, hy⟩
  exact ⟨(nf_ok h).l y hm, hm, by rw [(limOf_by hy).1]; omega, hi⟩
 ·cases hy
theorem R04_most_at {f : Firing} (h : f.ok) {i : Int} (hi : 0 ≤ i ∧ i < f.Readings.length) :
  ∃ r, at? f.Readings i = some r ∧ R04_Least KK r = some (((loAt f i).map (·.heat)).getD (-1000000), ((hiAt f i).map (·.heat)).getD 1000000) ∧ 0 ≤ r.Place ∧ r.Place < f.Kiln.P ∧ (∀ y, hiAt f i = some y → y.place = r.Place) ∧ (∀ y, loAt f i = some y → y.place = r.Place) ∧ rdOk f.Kiln.P r := by
 have hl : i.toNat < f.Readings.length := by omega
 have hx : f.Readings[i.toNat]? = some f.Readings[i.toNat] := List.getElem?_eq_getElem hl
 have hr := h.r _ (List.getElem_mem hl)
 have hii : ((i.toNat : Nat) : Int) = i := by omega
 have e1 := at_of hx
 rw [hii] at e1
 refine ⟨_, e1, ?_, hr.1, hr.2.1, fun y hy => ?_, fun y hy => ?_, hr⟩
 ·rw [R04_Least_eq hr]
  unfold hiAt loAt limOf
  rw [if_pos hi, if_pos hi, getD_of rd0 hx]
  cases lo? f.Readings[i.toNat] <;> cases hi? f.Readings[i.toNat] <;> rfl
 ·unfold hiAt at hy
  rw [if_pos hi] at hy
  have := (limOf_by hy).2.1
  rw [getD_of rd0 hx] at this; exact this
 ·unfold loAt at hy
  rw [if_pos hi] at hy
  have := (limOf_by hy).2.1
  rw [getD_of rd0 hx] at this; exact this
def uAt (f : Firing) (j : Nat) (b : Int) : Option Int := if b = -1 then some 3000 else (hiAt f b).map fun y => y.heat + (f.Kiln.at j y.place.toNat).Hi
def maxO (s : Option Int) (n : Int) : Int := match s with | none => n | some m => max m n
def highStep (f : Firing) (q : Nat) (l : List Int) (s : Option Int) (j : Nat) : Option (Option Int) := (uAt f j (l.getD j 0)).map fun u => some (maxO s (u - (f.Kiln.at j q).Lo))
def showHigh (f : Firing) (q : Nat) (p : HeatProof) : Option Int :=
 if p.Reading = -1 then (if p.By.length = f.Kiln.Falls.length then ((List.range f.Kiln.Falls.length).foldlM (highStep f q p.By) none).map (·.getD (-3000)) else none)
 else match hiAt f p.Reading with
  | some y => if y.place = (q : Int) ∧ p.By.length = 0 then some y.heat else none
  | none => none
theorem R04_shownHigh_eq {f : Firing} (h : f.ok) {q : Nat} (hq : q < f.Kiln.P) (p : HeatProof) : ∃ v, R04_shownHigh KK f (q : Int) p = some (v, (showHigh f q p).isSome) ∧ ∀ m, showHigh f q p = some m → v = m := by
 have hk := kilnB_len h.k
 unfold R04_shownHigh showHigh
 by_cases hb : p.By.length = 0
 ·have hb' : (p.By.length : Int) = 0 := by omega
  have hM : ¬ (p.By.length = f.Kiln.Falls.length) := by omega
  simp only [hb', decide_true, cond_true, R04_index_eq, Option.bind_some]
  by_cases hi : 0 ≤ p.Reading ∧ p.Reading < f.Readings.length
  ·have h1 : ¬ p.Reading = -1 := by omega
   obtain ⟨r, r1, r2, r3, r4, r5, r6, r7⟩ := R04_most_at h hi
   simp only [hi, and_self, decide_true, cond_true, r1, r2, Option.bind_some, h1, if_false]
   cases hy : hiAt f p.Reading with
   | none =>
    by_cases hp : r.Place = (q : Int)
    ·exact ⟨1000000, by simp [hp], fun m hm => by cases hm⟩
    ·exact ⟨0, by simp [hp], fun m hm => by cases hm⟩
   | some y =>
    have hpl := r5 y hy
    have hyb := (hiAt_ok h hy).1.2.2
    have hlt : y.heat < 1000000 := by omega
    by_cases hp : r.Place = (q : Int)
    ·refine ⟨y.heat, ?_, fun m hm => ?_⟩
     ·simp [hp, hpl, hb, hlt]
     ·simpa [hp, hpl, hb] using hm
    ·refine ⟨0, ?_, fun m hm => ?_⟩
     ·simp [hp, hpl]
     ·simp [hp, hpl] at hm
  ·have hn : hiAt f p.Reading = none := by unfold hiAt; rw [if_neg hi]
   refine ⟨0, ?_, fun m hm => ?_⟩
   ·simp only [hi, decide_false, cond_false]
    by_cases h1 : p.Reading = -1
    ·rw [if_pos h1, if_neg hM]; rfl
    ·rw [if_neg h1, hn]; rfl
   ·exfalso
    by_cases h1 : p.Reading = -1
    ·rw [if_pos h1, if_neg hM] at hm; cases hm
    ·rw [if_neg h1, hn] at hm; cases hm
 ·have hb' : ¬ ((p.By.length : Int) = 0) := by omega
  simp only [hb', decide_false, cond_false]
  by_cases h1 : p.Reading = -1
  ·simp only [h1, decide_true, cond_true, if_true]
   by_cases h2 : p.By.length = f.Kiln.Falls.length
   ·have h2' : decide ((p.By.length : Int) = (f.Kiln.Falls.length : Int)) = true := by rw [len_dec]; exact decide_eq_true h2
    simp only [h2', Bool.not_true, cond_false]
    rw [if_pos h2]
    obtain ⟨e1, e2⟩ := whl_foldM (n := f.Kiln.Falls.length) (body := R04_shownHigh.b0 KK f (q : Int) p) (k := KK) (fun i (s : Option Int) => (s.getD (-1000000), i)) (fun s => s.getD (-1000000)) (highStep f q p.By) ((0, false) : Int × Bool) (fun i s => (s = none ↔ i = 0)) (by omega) (by unfold KK; omega) (s0 := none) (by simp) (fun j s hj hI => by
     have hcell := kilnB_at h.k j q
     refine ⟨?_, fun s' hs => ?_⟩
     ·unfold R04_shownHigh.b0 highStep uAt
      simp only [lt_dec hj, cond_true, at_nat (0 : Int) (show j < p.By.length by omega), Option.bind_some, at_row h.k hj, at_cellN h.k hj hq, R04_index_eq]
      have hstep : ∀ u : Int, -3000 ≤ u ∧ u ≤ 6000 → (some (Stp.next (max (s.getD (-1000000)) (w64 (u - (f.Kiln.at j q).Lo)), w64 ((j : Int) + 1))) : Option (Stp (Int × Int) Int (Int × Bool))) = some (Stp.next ((some (maxO s (u - (f.Kiln.at j q).Lo))).getD (-1000000), w64 ((j : Int) + 1))) := by
       intro u hu
       rw [w64_of (n := u - (f.Kiln.at j q).Lo) (by omega) (by omega)]
       cases s with
       | none => simp only [Option.getD_none, Option.getD_some, maxO]; rw [Int.max_eq_right (by omega)]
       | some n => rfl
      by_cases hb : p.By.getD j 0 = -1
      ·simp only [hb, decide_true, Bool.not_true, cond_false, if_true, Option.map_some]
       exact hstep 3000 (by omega)
      ·simp only [hb, decide_false, Bool.not_false, cond_true, if_false]
       by_cases hi : 0 ≤ p.By.getD j 0 ∧ p.By.getD j 0 < f.Readings.length
       ·obtain ⟨r, r1, r2, r3, r4, r5, r6, r7⟩ := R04_most_at h hi
        simp only [hi, and_self, decide_true, Bool.not_true, cond_false, r1, r2, Option.bind_some]
        cases hy : hiAt f (p.By.getD j 0) with
        | none => rfl
        | some y =>
         obtain ⟨⟨y1, y2, y3, y4⟩, _⟩ := hiAt_ok h hy
         have hpl := r5 y hy
         have hc2 := kilnB_at h.k j y.place.toNat
         have hne : ¬ y.heat = 1000000 := by omega
         have hw := w64_of (n := y.heat + (f.Kiln.at j y.place.toNat).Hi) (by omega) (by omega)
         simp only [Option.map_some, Option.getD_some, hne, decide_false, cond_false, ← hpl, at_cell h.k hj y1 y2, Option.bind_some, hw]
         exact hstep _ (by omega)
       ·have hn : hiAt f (p.By.getD j 0) = none := by unfold hiAt; rw [if_neg hi]
        rw [hn]
        simp only [hi, decide_false, Bool.not_false, cond_true]; rfl
     ·unfold highStep at hs
      cases hu : uAt f j (p.By.getD j 0) with
      | none => rw [hu] at hs; cases hs
      | some u => rw [hu] at hs; cases hs; simp) (fun s _ => by
     unfold R04_shownHigh.b0
     simp only [lt_dec_self]; rfl)
    rw [show ((-1000000, 0) : Int × Int) = (((none : Option Int).getD (-1000000), 0) : Int × Int) from rfl, e1]
    cases hF : (List.range f.Kiln.Falls.length).foldlM (highStep f q p.By) none with
    | none => exact ⟨0, rfl, fun m hm => by cases hm⟩
    | some s =>
     have hI := e2 s hF
     cases s with
     | none => have := hI.1 rfl; omega
     | some n => exact ⟨n, rfl, fun m hm => by simpa using hm⟩
   ·have h2' : decide ((p.By.length : Int) = (f.Kiln.Falls.length : Int)) = false := by rw [len_dec]; exact decide_eq_false h2
    simp only [h2', Bool.not_false, cond_true]
    rw [if_neg h2]
    exact ⟨0, rfl, fun m hm => by cases hm⟩
  ·simp only [h1, decide_false, cond_false, if_false]
   refine ⟨0, ?_, fun m hm => ?_⟩
   ·cases hiAt f p.Reading with
    | none => rfl
    | some y => simp only [hb, and_false, if_false, Option.isSome_none]
   ·exfalso
    cases hy : hiAt f p.Reading with
    | none => rw [hy] at hm; cases hm
    | some y => rw [hy] at hm; simp only [hb, and_false, if_false] at hm; cases hm
def minO (s : Option Int) (n : Int) : Int := match s with | none => n | some m => min m n
def lowStep (f : Firing) (q : Nat) (y : heat_limit) (l : List Int) (s : Option Int) (j : Nat) : Option (Option Int) :=
 if l.getD j 0 = -1 then some (some (minO s (y.heat + (f.Kiln.at j y.place.toNat).Lo - (f.Kiln.at j q).Hi)))
 else if l.getD j 0 = -2 then (if y.heat + (f.Kiln.at j y.place.toNat).Lo ≤ 3000 then none else some s)
 else match hiAt f (l.getD j 0) with
  | some z => if y.heat + (f.Kiln.at j y.place.toNat).Lo ≤ z.heat + (f.Kiln.at j z.place.toNat).Hi then none else some s
  | none => none
def showLow (f : Firing) (q : Nat) (p : HeatProof) : Option (Option Int) :=
 if p.Reading = -2 then (if p.By.length = 1 ∧ 0 ≤ p.By.getD 0 0 ∧ p.By.getD 0 0 < f.Kiln.Falls.length then some (some (-(f.Kiln.at (p.By.getD 0 0).toNat q).Hi)) else none)
 else match loAt f p.Reading with
  | some y => if y.place = (q : Int) then (if p.By.length = 0 then some (some y.heat) else none)
   else if p.By.length = f.Kiln.Falls.length then (List.range f.Kiln.Falls.length).foldlM (lowStep f q y p.By) none else none
  | none => none
theorem R04_cannot_eq {f : Firing} (h : f.ok) {j : Nat} (hj : j < f.Kiln.Falls.length) (c b : Int) (hb1 : ¬ b = -1) :
  R04_cannot KK f (j : Int) c b = some (if b = -2 then decide (3000 < c) else match hiAt f b with | some z => decide (z.heat + (f.Kiln.at j z.place.toNat).Hi < c) | none => false) := by
 unfold R04_cannot
 by_cases hb2 : b = -2
 ·simp only [hb2, decide_true, cond_true, if_true]
 ·simp only [hb2, decide_false, cond_false, if_false, R04_index_eq, Option.bind_some]
  by_cases hi : 0 ≤ b ∧ b < f.Readings.length
  ·obtain ⟨r, r1, r2, r3, r4, r5, r6, r7⟩ := R04_most_at h hi
   simp only [hi, and_self, decide_true, Bool.not_true, cond_false, r1, r2, Option.bind_some]
   cases hy : hiAt f b with
   | none => rfl
   | some z =>
    obtain ⟨⟨z1, z2, z3, z4⟩, _⟩ := hiAt_ok h hy
    have hpl := r5 z hy
    have hc2 := kilnB_at h.k j z.place.toNat
    have hlt : z.heat < 1000000 := by omega
    have hw := w64_of (n := z.heat + (f.Kiln.at j z.place.toNat).Hi) (by omega) (by omega)
    simp only [Option.map_some, Option.getD_some, hlt, decide_true, cond_true, ← hpl, at_row h.k hj, at_cell h.k hj z1 z2, Option.bind_some, hw]
  ·have hn : hiAt f b = none := by unfold hiAt; rw [if_neg hi]
   rw [hn]
   simp only [hi, decide_false, Bool.not_false, cond_true]
theorem R04_shownLow_eq {f : Firing} (h : f.ok) {q : Nat} (hq : q < f.Kiln.P) (p : HeatProof) : ∃ v, R04_shownLow KK f (q : Int) p = some (v, (showLow f q p).isSome) ∧ ∀ m, showLow f q p = some m → v = m.getD 9223372036854775807 := by
 have hk := kilnB_len h.k
 unfold R04_shownLow showLow
 by_cases h1 : p.Reading = -2
 ·simp only [h1, decide_true, cond_true, if_true]
  by_cases h2 : p.By.length = 1
  ·have h2' : (p.By.length : Int) = 1 := by omega
   have e0 : at? p.By (0 : Int) = some (p.By.getD 0 0) := at_nat 0 (l := p.By) (i := 0) (by omega)
   simp only [h2', decide_true, cond_true, e0, Option.bind_some]
   by_cases h3 : p.By.getD 0 0 < 0
   ·rw [if_neg (fun k => by omega)]
    simp only [h3, decide_true, Bool.not_true, cond_false]
    exact ⟨_, rfl, fun m hm => by cases hm⟩
   ·simp only [h3, decide_false, Bool.not_false, cond_true]
    by_cases h4 : (f.Kiln.Falls.length : Int) ≤ p.By.getD 0 0
    ·rw [if_neg (fun k => by omega)]
     simp only [h4, decide_true, cond_true]
     exact ⟨_, rfl, fun m hm => by cases hm⟩
    ·have hjl : (p.By.getD 0 0).toNat < f.Kiln.Falls.length := by omega
     have hjj : (((p.By.getD 0 0).toNat : Nat) : Int) = p.By.getD 0 0 := by omega
     have e1 := at_row h.k hjl
     rw [hjj] at e1
     have hc := kilnB_at h.k (p.By.getD 0 0).toNat q
     rw [if_pos ⟨h2, by omega, by omega⟩]
     simp only [h4, decide_false, cond_false, e1, Option.bind_some, at_cellN h.k hjl hq]
     rw [w64_of (n := 0 - (f.Kiln.at (p.By.getD 0 0).toNat q).Hi) (by omega) (by omega)]
     refine ⟨_, rfl, fun m hm => ?_⟩
     simp only [Option.some.injEq] at hm
     subst hm
     simp
  ·have h2' : ¬ ((p.By.length : Int) = 1) := by omega
   rw [if_neg (fun k => h2 k.1)]
   simp only [h2', decide_false, cond_false]
   exact ⟨_, rfl, fun m hm => by cases hm⟩
 ·simp only [h1, decide_false, cond_false, if_false, R04_index_eq, Option.bind_some]
  by_cases hi : 0 ≤ p.Reading ∧ p.Reading < f.Readings.length
  ·obtain ⟨r, r1, r2, r3, r4, r5, r6, r7⟩ := R04_most_at h hi
   simp only [hi, and_self, decide_true, Bool.not_true, cond_false, r1, r2, Option.bind_some]
   cases hy : loAt f p.Reading with
   | none => exact ⟨_, rfl, fun m hm => by cases hm⟩
   | some y =>
    obtain ⟨⟨y1, y2, y3, y4⟩, _⟩ := loAt_ok h hy
    have hpl := r6 y hy
    have hne : ¬ y.heat = -1000000 := by omega
    simp only [Option.map_some, Option.getD_some, hne, decide_false, cond_false, ← hpl]
    by_cases hb : p.By.length = 0
    ·have hb' : (p.By.length : Int) = 0 := by omega
     have hM : ¬ (p.By.length = f.Kiln.Falls.length) := by omega
     simp only [hb', decide_true, cond_true]
     by_cases hp : y.place = (q : Int)
     ·refine ⟨y.heat, by simp [hp, hb], fun m hm => ?_⟩
      rw [if_pos hp, if_pos hb] at hm
      simp only [Option.some.injEq] at hm
      subst hm; rfl
     ·refine ⟨y.heat, by rw [if_neg hp, if_neg hM, decide_eq_false hp]; rfl, fun m hm => ?_⟩
      rw [if_neg hp, if_neg hM] at hm; cases hm
    ·have hb' : ¬ ((p.By.length : Int) = 0) := by omega
     simp only [hb', decide_false, cond_false]
     by_cases hp : y.place = (q : Int)
     ·rw [if_pos hp, if_neg hb]
      simp only [hp, decide_true, Bool.not_true, cond_false]
      exact ⟨_, rfl, fun m hm => by cases hm⟩
     ·rw [if_neg hp]
      simp only [hp, decide_false, Bool.not_false, cond_true]
      by_cases h2 : p.By.length = f.Kiln.Falls.length
      ·have h2' : decide ((p.By.length : Int) = (f.Kiln.Falls.length : Int)) = true := by rw [len_dec]; exact decide_eq_true h2
       simp only [h2', Bool.not_true, cond_false]
       rw [if_pos h2]
       obtain ⟨e1, e2⟩ := whl_foldM (n := f.Kiln.Falls.length) (body := R04_shownLow.b0 KK f (q : Int) p r (y.heat, ((hiAt f p.Reading).map (·.heat)).getD 1000000)) (k := KK) (fun i (s : Option Int) => (s.getD 9223372036854775807, i)) (fun s => s.getD 9223372036854775807) (lowStep f q y p.By) ((0, false) : Int × Bool) (fun i s => True) (by omega) (by unfold KK; omega) (s0 := none) trivial (fun j s hj hI => by
        have hcell := kilnB_at h.k j q
        have hcell2 := kilnB_at h.k j y.place.toNat
        refine ⟨?_, fun s' hs => trivial⟩
        unfold R04_shownLow.b0 lowStep
        simp only [lt_dec hj, cond_true, at_nat (0 : Int) (show j < p.By.length by omega), Option.bind_some, at_row h.k hj, at_cellN h.k hj hq, ← hpl, at_cell h.k hj y1 y2]
        rw [w64_of (n := y.heat + (f.Kiln.at j y.place.toNat).Lo) (by omega) (by omega)]
        by_cases hb : p.By.getD j 0 = -1
        ·simp only [hb, decide_true, cond_true, if_true]
         rw [w64_of (n := y.heat + (f.Kiln.at j y.place.toNat).Lo - (f.Kiln.at j q).Hi) (by omega) (by omega)]
         cases s with
         | none => simp only [Option.getD_none, Option.getD_some, minO]; rw [Int.min_eq_right (by omega)]
         | some n => rfl
        ·simp only [hb, decide_false, cond_false, if_false, R04_cannot_eq h hj _ _ hb, Option.bind_some]
         by_cases hb2 : p.By.getD j 0 = -2
         ·simp only [hb2, if_true]
          by_cases hc : y.heat + (f.Kiln.at j y.place.toNat).Lo ≤ 3000
          ·have : ¬ (3000 : Int) < y.heat + (f.Kiln.at j y.place.toNat).Lo := by omega
           simp only [hc, this, decide_false, Bool.not_false, cond_true, if_true]
          ·have : (3000 : Int) < y.heat + (f.Kiln.at j y.place.toNat).Lo := by omega
           simp only [hc, this, decide_true, Bool.not_true, cond_false, if_false]
         ·simp only [hb2, if_false]
          cases hy : hiAt f (p.By.getD j 0) with
          | none => rfl
          | some z =>
           simp only
           by_cases hc : y.heat + (f.Kiln.at j y.place.toNat).Lo ≤ z.heat + (f.Kiln.at j z.place.toNat).Hi
           ·have : ¬ z.heat + (f.Kiln.at j z.place.toNat).Hi < y.heat + (f.Kiln.at j y.place.toNat).Lo := by omega
            simp only [hc, this, decide_false, Bool.not_false, cond_true, if_true]
           ·have : z.heat + (f.Kiln.at j z.place.toNat).Hi < y.heat + (f.Kiln.at j y.place.toNat).Lo := by omega
            simp only [hc, this, decide_true, Bool.not_true, cond_false, if_false]) (fun s _ => by
        unfold R04_shownLow.b0
        simp only [lt_dec_self]; rfl)
       rw [show ((9223372036854775807, 0) : Int × Int) = (((none : Option Int).getD 9223372036854775807, 0) : Int × Int) from rfl, e1]
       cases (List.range f.Kiln.Falls.length).foldlM (lowStep f q y p.By) none with
       | none => exact ⟨0, rfl, fun m hm => by cases hm⟩
       | some s =>
        refine ⟨_, rfl, fun m hm => ?_⟩
        simp only [Option.some.injEq] at hm
        subst hm; rfl
      ·have h2' : decide ((p.By.length : Int) = (f.Kiln.Falls.length : Int)) = false := by rw [len_dec]; exact decide_eq_false h2
       simp only [h2', Bool.not_false, cond_true]
       rw [if_neg h2]
       exact ⟨_, rfl, fun m hm => by cases hm⟩
  ·have hn : loAt f p.Reading = none := by unfold loAt; rw [if_neg hi]
   rw [hn]
   simp only [hi, decide_false, Bool.not_false, cond_true]
   exact ⟨_, rfl, fun m hm => by cases hm⟩
def proofCode (f : Firing) (q : Int) (high : Bool) (n : Int) (p : HeatProof) : Int :=
 bif !decide (firingCode f = 0) then 42 else bif !inB q 0 ((f.Kiln.P : Int) - 1) then 43 else
  bif high then (match showHigh f q.toNat p with | none => 46 | some m => if n < m then 47 else 0)
  else match showLow f q.toNat p with | none => 46 | some none => 0 | some (some m) => if m < n then 47 else 0
theorem R04_CheckProof_eq (f : Firing) (s : Firing.s f) (q : Int) (high : Bool) (n : Int) (hn : i64ok n) (p : HeatProof) (x : A2 Int) (hx : x.x1 = n) (hh : decide (x.x0 = (1 : Int)) = high) : R04_CheckProof KK f q x p = some (proofCode f q high n p) := by
 unfold R04_CheckProof proofCode
 rw [R04_asked_eq f s]
 simp only [Option.bind_some]
 by_cases h : firingCode f = 0
 ·have hok := firing_ok h
  have hk := kilnB_len hok.k
  simp only [h, decide_true, Bool.not_true, cond_false]
  cases hi : inB q 0 ((f.Kiln.P : Int) - 1) with
  | false => rfl
  | true =>
   simp only [inB, Bool.and_eq_true, decide_eq_true_eq] at hi
   have hqq : ((q.toNat : Nat) : Int) = q := by omega
   obtain ⟨v1, a1, a2⟩ := R04_shownHigh_eq hok (q := q.toNat) (by omega) p
   obtain ⟨v2, b1, b2⟩ := R04_shownLow_eq hok (q := q.toNat) (by omega) p
   rw [hqq] at a1 b1
   simp only [Bool.not_true, cond_false, decide_true, hh, hx]
   cases high with
   | true =>
    simp only [cond_true, a1, Option.bind_some]
    cases hs : showHigh f q.toNat p with
    | none => rfl
    | some m =>
     have := a2 m hs
     subst this
     simp only [Option.isSome_some, Bool.not_true, cond_false]
     by_cases hc : n < v1
     ·simp only [hc, decide_true, cond_true, if_true]
     ·simp only [hc, decide_false, cond_false, if_false]
   | false =>
    simp only [cond_false, b1, Option.bind_some]
    cases hs : showLow f q.toNat p with
    | none => rfl
    | some m =>
     have := b2 m hs
     subst this
     simp only [Option.isSome_some, Bool.not_true, cond_false]
     cases m with
     | none =>
      have : ¬ (9223372036854775807 : Int) < n := by have := hn.2; omega
      simp only [Option.getD_none, this, decide_false, cond_false]
     | some m =>
      simp only [Option.getD_some]
      by_cases hc : m < n
      ·simp only [hc, decide_true, cond_true, if_true]
      ·simp only [hc, decide_false, cond_false, if_false]
 ·simp only [h, decide_false, Bool.not_false, cond_true]; rfl
end Go.Abs
namespace Go.Abs
open Go
set_option linter.unusedVariables false
def bndR (f : Firing) (p : Int) : Range × Int := bif decide (askCode f p = 0) then (rngX (nf f) p.toNat, 0) else (⟨0, 0⟩, askCode f p)
theorem rng_isBound (f : Firing) (p : Int) : IsBound f p (rngX (nf f) p.toNat) := by
 intro h
 obtain ⟨h1, h2, h3, h4, h5, h6⟩ := askCode_ok h
 exact (rngX_spec (nf_ok h2) h5 (q := p.toNat) (by show p.toNat < f.Kiln.P; omega)).2
theorem heat_Bound_rng (f : Firing) (q : Firing.s f) (w : Firing.w f) (p : Int) : heat_Bound KK f p = some (bndR f p) := by
 obtain ⟨r, h1, h2⟩ := heat_Bound_eq f q w p
 rw [h2, h1.one (rng_isBound f p)]; rfl
theorem R04_Bound_rng (f : Firing) (q : Firing.s f) (p : Int) : R04_Bound KK f p = some (bndR f p) := by
 obtain ⟨r, h1, h2⟩ := R04_Bound_eq f q p
 rw [h2, h1.one (rng_isBound f p)]; rfl
theorem gField_agB {f : Firing} (h : f.ok) (hs : (nf f).fur.Sound) : FieldOk f.Kiln (gField (nf f)) ∧ agB f (gField (nf f)) = true := by
 have hk := kilnB_len h.k
 refine ⟨gField_ok (nf_ok h) hs, ?_⟩
 rw [agB_iff h]
 have hsm := fur_small (nf_ok h)
 have hg := Fur.gd_agrees hs
 have hm : (nf f).fur.m = f.Kiln.Falls.length - 1 := rfl
 have e : ∀ p, p < f.Kiln.P → (nf f).fur.heat (gField (nf f)).u (gField (nf f)).d p = (nf f).fur.heat (nf f).fur.U (nf f).fur.gd p := by
  intro p hp
  refine mx_congr _ fun j hj => ?_
  have hj2 : j < (nf f).Firing.Kiln.Falls.length := by show j < f.Kiln.Falls.length; omega
  rw [gField_u _ hj2, gField_d _ hj2 hp]
 exact ⟨fun z hz => by rw [e _ (hsm.1 z hz).1]; exact hg.1 z hz, fun z hz => by rw [e _ (hsm.2 z hz).1]; exact hg.2 z hz⟩
theorem agree_facts {f : Firing} (h : f.ok) {x : Field} (hF : FieldOk f.Kiln x) (ha : agB f x = true) :
  (nf f).fur.Sound ∧ ∀ p, (nf f).fur.High p (x.ht (f.Kiln.Falls.length - 1) p) ∧ (nf f).fur.Low p (x.ht (f.Kiln.Falls.length - 1) p) := by
 have hA := (agB_iff h x).1 ha
 have hI : (nf f).fur.IsField x.u x.d := hF.isField rfl (fun _ _ => rfl) (fun _ _ => rfl)
 exact ⟨hA.sound hI, fun p => ⟨hA.high hI p, hA.low hI p⟩⟩
theorem Fur.High.mono {f : Fur} {q : Nat} {s t : Int} (h : f.High q t) (hst : s ≤ t) : f.High q s := by
 obtain ⟨⟨j, h1, h2⟩, h3⟩ := h
 exact ⟨⟨j, h1, by omega⟩, fun y hy e => by have := h3 y hy e; omega⟩
theorem rng_le {f : Firing} {p : Int} (h : askCode f p = 0) : (rngX (nf f) p.toNat).Lo ≤ (rngX (nf f) p.toNat).Hi := by
 obtain ⟨h1, h2, h3, h4, h5, h6⟩ := askCode_ok h
 obtain ⟨a, b⟩ := rng_isBound f p h
 obtain ⟨g1, g2⟩ := gField_agB h2 h5
 obtain ⟨_, g3⟩ := agree_facts h2 g1 g2
 obtain ⟨g4, g5⟩ := g3 p.toNat
 have := (a _).2 g5
 have := (b _).2 g4
 omega
theorem ask_field {f : Firing} (h : f.ok) (hs : (nf f).fur.Sound) {q : Nat} (hq : q < f.Kiln.P) {n : Int} (h1 : (nf f).fur.Low q n) (h2 : (nf f).fur.High q n) :
  (askF (nf f) (q : Int) ⟨n, n⟩).ok ∧ (askF (nf f) (q : Int) ⟨n, n⟩).fur.Sound ∧ FieldOk f.Kiln (gField (askF (nf f) (q : Int) ⟨n, n⟩)) ∧ agB f (gField (askF (nf f) (q : Int) ⟨n, n⟩)) = true ∧ (gField (askF (nf f) (q : Int) ⟨n, n⟩)).ht (f.Kiln.Falls.length - 1) q = n := by
 have hk := kilnB_len h.k
 have hn := nf_len h
 have hb : -3000 ≤ n ∧ n ≤ 3000 := by
  have a1 := h1.1 0 (Nat.zero_le _)
  obtain ⟨⟨j, _, a2⟩, _⟩ := h2
  have a3 := (nf f).fur.U_le j
  have a4 := fur_ok (nf_ok h) 0 q
  have a5 := fur_ok (nf_ok h) j q
  omega
 have hok : (askF (nf f) (q : Int) ⟨n, n⟩).ok := askF_ok (nf_ok h) (by omega) (by omega) (by omega) (by show (q : Int) < f.Kiln.P; omega) hb hb
 have hfur : (askF (nf f) (q : Int) ⟨n, n⟩).fur = (nf f).fur.ask q n n := by rw [askF_fur, Int.toNat_natCast]
 have hS : (askF (nf f) (q : Int) ⟨n, n⟩).fur.Sound := by rw [hfur]; exact Fur.ask_sound (fur_ok (nf_ok h)) hs q n h1 h2
 have hF : FieldOk f.Kiln (gField (askF (nf f) (q : Int) ⟨n, n⟩)) := gField_ok hok hS
 have hg := Fur.gd_agrees hS
 have e : ∀ p, p < f.Kiln.P → (gField (askF (nf f) (q : Int) ⟨n, n⟩)).ht (f.Kiln.Falls.length - 1) p = (askF (nf f) (q : Int) ⟨n, n⟩).fur.heat (askF (nf f) (q : Int) ⟨n, n⟩).fur.U (askF (nf f) (q : Int) ⟨n, n⟩).fur.gd p := fun p hp => gField_ht hok hp
 refine ⟨hok, hS, hF, ?_, ?_⟩
 ·rw [agB_iff h]
  have hsm := fur_small (nf_ok h)
  refine ⟨fun z hz => ?_, fun z hz => ?_⟩
  ·show z.2 ≤ (gField (askF (nf f) (q : Int) ⟨n, n⟩)).ht (f.Kiln.Falls.length - 1) z.1
   rw [e _ (hsm.1 z hz).1]
   exact hg.1 z (by rw [hfur]; exact List.mem_append.2 (.inl hz))
  ·show (gField (askF (nf f) (q : Int) ⟨n, n⟩)).ht (f.Kiln.Falls.length - 1) z.1 ≤ z.2
   rw [e _ (hsm.2 z hz).1]
   exact hg.2 z (by rw [hfur]; exact List.mem_append.2 (.inl hz))
 ·rw [e q hq]
  have a := hg.1 (q, n) (by rw [hfur]; exact List.mem_append.2 (.inr (by simp)))
  have b := hg.2 (q, n) (by rw [hfur]; exact List.mem_append.2 (.inr (by simp)))
  simp only at a b
  omega
def attX (f : Firing) (p : Int) (high : Bool) : Field := bif high then gField (nf f) else gField (askF (nf f) p ⟨(rngX (nf f) p.toNat).Lo, (rngX (nf f) p.toNat).Lo⟩)
def attR (f : Firing) (p : Int) (high : Bool) : Field × Int := bif decide (askCode f p = 0) then (attX f p high, 0) else (⟨[], []⟩, askCode f p)
theorem heat_lowest_rng {f : Firing} {p : Int} (h : askCode f p = 0) : ∃ pf, heat_furnace_lowest KK (nf f) p = some ((rngX (nf f) p.toNat).Lo, pf) ∧ LowPf (nf f) p.toNat (rngX (nf f) p.toNat).Lo pf := by
 obtain ⟨h1, h2, h3, h4, h5, h6⟩ := askCode_ok h
 have hpp : ((p.toNat : Nat) : Int) = p := by omega
 obtain ⟨n, pf, a, b, c⟩ := heat_lowest_eq (nf_ok h2) h5 (q := p.toNat) (by show p.toNat < f.Kiln.P; omega)
 rw [hpp] at a
 have : n = (rngX (nf f) p.toNat).Lo := eq_of_ge_iff fun t => by rw [b t, (rng_isBound f p h).1 t]
 subst this
 exact ⟨pf, a, c⟩
theorem heat_highest_rng {f : Firing} {p : Int} (h : askCode f p = 0) : ∃ pf, heat_furnace_highest KK (nf f) p = some ((rngX (nf f) p.toNat).Hi, pf) ∧ HighPf (nf f) p.toNat (rngX (nf f) p.toNat).Hi pf := by
 obtain ⟨h1, h2, h3, h4, h5, h6⟩ := askCode_ok h
 have hpp : ((p.toNat : Nat) : Int) = p := by omega
 obtain ⟨n, pf, a, b, c⟩ := heat_highest_eq (nf_ok h2) h5 (q := p.toNat) (by show p.toNat < f.Kiln.P; omega)
 rw [hpp] at a
 have : n = (rngX (nf f) p.toNat).Hi := eq_of_le_iff fun t => by rw [b t, (rng_isBound f p h).2 t]
 subst this
 exact ⟨pf, a, c⟩
theorem attX_facts {f : Firing} {p : Int} (h : askCode f p = 0) (high : Bool) : FieldOk f.Kiln (attX f p high) ∧ agB f (attX f p high) = true ∧ (attX f p high).ht (f.Kiln.Falls.length - 1) p.toNat = bif high then (rngX (nf f) p.toNat).Hi else (rngX (nf f) p.toNat).Lo := by
 obtain ⟨h1, h2, h3, h4, h5, h6⟩ := askCode_ok h
 have hpp : ((p.toNat : Nat) : Int) = p := by omega
 obtain ⟨a, b⟩ := rng_isBound f p h
 cases high with
 | true =>
  obtain ⟨g1, g2⟩ := gField_agB h2 h5
  refine ⟨g1, g2, eq_of_le_iff fun t => ?_⟩
  simp only [cond_true]
  rw [b t]
  exact gField_high (nf_ok h2) (by show p.toNat < f.Kiln.P; omega) t
 | false =>
  have hlo : (nf f).fur.Low p.toNat (rngX (nf f) p.toNat).Lo := (a _).1 (Int.le_refl _)
  have hhi : (nf f).fur.High p.toNat (rngX (nf f) p.toNat).Lo := (b _).1 (rng_le h)
  obtain ⟨_, _, g1, g2, g3⟩ := ask_field h2 h5 (q := p.toNat) (by omega) hlo hhi
  rw [hpp] at g1 g2 g3
  exact ⟨g1, g2, g3⟩
theorem heat_Attain_eq (f : Firing) (q : Firing.s f) (w : Firing.w f) (p : Int) (high : Bool) : heat_Attain KK f p high = some (attR f p high) := by
 unfold heat_Attain attR attX
 rw [heat_asks_eq f q w]
 simp only [Option.bind_some]
 by_cases h : askCode f p = 0
 ·obtain ⟨h1, h2, h3, h4, h5, h6⟩ := askCode_ok h
  have hpp : ((p.toNat : Nat) : Int) = p := by omega
  simp only [h, decide_true, cond_true, Bool.not_true, cond_false]
  cases high with
  | true => simp only [Bool.not_true, cond_false, heat_greatest_eq (nf_ok h2), Option.bind_some, cond_true]
  | false =>
   have hn := nf_len h2
   obtain ⟨pf, e1, _⟩ := heat_lowest_rng h
   obtain ⟨a, b⟩ := rng_isBound f p h
   have hlo : (nf f).fur.Low p.toNat (rngX (nf f) p.toNat).Lo := (a _).1 (Int.le_refl _)
   have hhi : (nf f).fur.High p.toNat (rngX (nf f) p.toNat).Lo := (b _).1 (rng_le h)
   have g0 := (ask_field h2 h5 (q := p.toNat) (by omega) hlo hhi).1
   rw [hpp] at g0
   simp only [Bool.not_false, cond_true, cond_false, e1, Option.bind_some]
   rw [heat_asked_eq (nf f) (by omega) (by omega)]
   simp only [Option.bind_some, heat_greatest_eq g0]
 ·simp only [h, decide_false, cond_false, Bool.not_false, cond_true]
theorem R04_Attains_due (f : Firing) (q : Firing.s f) (p : Int) (high : Bool) (h : askCode f p = 0) : R04_Attains KK f p high (attX f p high) = some 0 := by
 obtain ⟨h1, h2, h3, h4, h5, h6⟩ := askCode_ok h
 have hpp : ((p.toNat : Nat) : Int) = p := by omega
 obtain ⟨g1, g2, g3⟩ := attX_facts h high
 have e := R04_heat_eq g1 (p := p.toNat) (by omega)
 rw [hpp] at e
 have hb : bndR f p = (rngX (nf f) p.toNat, 0) := by unfold bndR; simp [h]
 unfold R04_Attains
 rw [R04_Bound_rng f q p, hb]
 simp only [Option.bind_some, decide_true, Bool.not_true, cond_false, R04_CheckField_eq f q, fieldCode_ok h1 g1 g2, cond_true, e]
 cases high with
 | true => simp only [cond_true] at g3; simp only [cond_true, g3, decide_true, Bool.not_true, cond_false]
 | false => simp only [cond_false] at g3; simp only [cond_false, g3, decide_true, Bool.not_true]
theorem highFold (f : Firing) (q : Nat) (l : List Int) : ∀ n,
  ((∀ j, j < n → ∃ u, uAt f j (l.getD j 0) = some u) → ∃ s, (List.range n).foldlM (highStep f q l) none = some s ∧ (n = 0 → s = none) ∧ (0 < n → ∃ m, s = some m ∧ ∀ t, t ≤ m ↔ ∃ j u, j < n ∧ uAt f j (l.getD j 0) = some u ∧ t ≤ u - (f.Kiln.at j q).Lo)) ∧
  (∀ s, (List.range n).foldlM (highStep f q l) none = some s → ∀ j, j < n → ∃ u, uAt f j (l.getD j 0) = some u)
 | 0 => ⟨fun _ => ⟨none, rfl, fun _ => rfl, fun h => by omega⟩, fun s _ j hj => by omega⟩
 | n + 1 => by
  obtain ⟨ih1, ih2⟩ := highFold f q l n
  rw [List.range_succ, List.foldlM_append]
  constructor
  ·intro h
   obtain ⟨s, e1, e2, e3⟩ := ih1 fun j hj => h j (by omega)
   obtain ⟨u, hu⟩ := h n (by omega)
   have hst : highStep f q l s n = some (some (maxO s (u - (f.Kiln.at n q).Lo))) := by unfold highStep; rw [hu]; rfl
   have e : ((some s).bind fun s => (List.foldlM (highStep f q l) s [n])) = highStep f q l s n := by simp
   refine ⟨some (maxO s (u - (f.Kiln.at n q).Lo)), by rw [e1, ← hst, ← e]; rfl, fun k => by omega, fun _ => ⟨_, rfl, fun t => ?_⟩⟩
   by_cases hn : n = 0
   ·subst hn
    rw [e2 rfl]
    constructor
    ·intro k; exact ⟨0, u, by omega, hu, k⟩
    ·rintro ⟨j, v, hj, hv, k⟩
     obtain rfl : j = 0 := by omega
     rw [hu] at hv; cases hv; exact k
   ·obtain ⟨m, e4, e5⟩ := e3 (by omega)
    rw [e4]
    show t ≤ max m _ ↔ _
    rw [show ∀ a b : Int, t ≤ max a b ↔ t ≤ a ∨ t ≤ b by intro a b; omega, e5]
    constructor
    ·rintro (⟨j, v, k1, k2⟩ | k)
     ·exact ⟨j, v, by omega, k2⟩
     ·exact ⟨n, u, by omega, hu, k⟩
    ·rintro ⟨j, v, k1, k2, k3⟩
     by_cases hj : j = n
     ·subst hj; rw [hu] at k2; cases k2; exact .inr k3
     ·exact .inl ⟨j, v, by omega, k2, k3⟩
  ·intro s hs j hj
   cases hF : (List.range n).foldlM (highStep f q l) none with
   | none => rw [hF] at hs; cases hs
   | some s0 =>
    rw [hF] at hs
    by_cases hjn : j = n
    ·subst hjn
     cases hu : uAt f j (l.getD j 0) with
     | none =>
      have hst : highStep f q l s0 j = none := by unfold highStep; rw [hu]; rfl
      have e : ((some s0).bind fun s => (List.foldlM (highStep f q l) s [j])) = highStep f q l s0 j := by simp
      have hs' : ((some s0).bind fun s => (List.foldlM (highStep f q l) s [j])) = some s := hs
      rw [e, hst] at hs'; cases hs'
     | some u => exact ⟨u, rfl⟩
    ·exact ih2 s0 hF j (by omega)
theorem hiAt_of {f : Firing} (h : f.ok) {y : heat_limit} (hy : y ∈ (nf f).most) : hiAt f y.by_ = some y ∧ 0 ≤ y.by_ := by
 obtain ⟨i, hi, e⟩ := List.mem_filterMap.1 hy
 simp only [List.mem_range] at hi
 have h1 := (limOf_by e).1
 unfold hiAt
 rw [h1, if_pos (by omega), Int.toNat_natCast]
 exact ⟨e, by omega⟩
theorem loAt_of {f : Firing} (h : f.ok) {y : heat_limit} (hy : y ∈ (nf f).least) : loAt f y.by_ = some y ∧ 0 ≤ y.by_ := by
 obtain ⟨i, hi, e⟩ := List.mem_filterMap.1 hy
 simp only [List.mem_range] at hi
 have h1 := (limOf_by e).1
 unfold loAt
 rw [h1, if_pos (by omega), Int.toNat_natCast]
 exact ⟨e, by omega⟩
theorem uAt_hot {f : Firing} (h : f.ok) (j : Nat) : uAt f j (hot (nf f) j).2 = some ((nf f).fur.U j) := by
 rw [← hot_U]
 rcases hot_by (nf f) j with ⟨h1, h2⟩ | ⟨y, hy, h1, h2⟩
 ·unfold uAt; rw [h2, if_pos rfl, h1]
 ·obtain ⟨a, b⟩ := hiAt_of h hy
  unfold uAt
  rw [h1, if_neg (by omega), a, h2]
  rfl
theorem showHigh_of {f : Firing} (h : f.ok) {q : Nat} (hq : q < f.Kiln.P) {n : Int} {p : HeatProof} (hp : HighPf (nf f) q n p) : showHigh f q p = some n := by
 have hk := kilnB_len h.k
 rcases hp with ⟨y, hy, h1, h2, h3⟩ | ⟨h2, h3⟩
 ·obtain ⟨a, b⟩ := hiAt_of h hy
  subst h2
  unfold showHigh
  simp only
  rw [if_neg (by omega), a]
  simp [h1, h3]
 ·subst h2
  have hlen : ((List.range (nf f).Firing.Kiln.Falls.length).map fun j => (hot (nf f) j).2).length = f.Kiln.Falls.length := by simp; rfl
  unfold showHigh
  simp only [if_true, hlen]
  have hget : ∀ j, j < f.Kiln.Falls.length → ((List.range (nf f).Firing.Kiln.Falls.length).map fun j => (hot (nf f) j).2).getD j 0 = (hot (nf f) j).2 := by
   intro j hj
   have hj' : j < (nf f).Firing.Kiln.Falls.length := hj
   exact getD_of 0 (by rw [List.getElem?_map, List.getElem?_range hj']; rfl)
  obtain ⟨s, e1, _, e3⟩ := (highFold f q _ f.Kiln.Falls.length).1 fun j hj => ⟨_, by rw [hget j hj]; exact uAt_hot h j⟩
  obtain ⟨m, e4, e5⟩ := e3 (by omega)
  rw [e1, e4]
  simp only [Option.map_some, Option.getD_some, Option.some.injEq]
  refine eq_of_le_iff fun t => ?_
  rw [e5 t, h3 t]
  constructor
  ·rintro ⟨j, u, k1, k2, k3⟩
   rw [hget j k1, uAt_hot h j] at k2
   cases k2
   exact ⟨j, k1, by show t + (f.Kiln.at j q).Lo ≤ _; omega⟩
  ·rintro ⟨j, k1, k2⟩
   have k2' : t + (f.Kiln.at j q).Lo ≤ (nf f).fur.U j := k2
   exact ⟨j, _, k1, by rw [hget j k1]; exact uAt_hot h j, by omega⟩
def lowOk (f : Firing) (y : heat_limit) (l : List Int) (j : Nat) : Prop :=
 l.getD j 0 = -1 ∨ (l.getD j 0 = -2 ∧ 3000 < y.heat + (f.Kiln.at j y.place.toNat).Lo) ∨ (l.getD j 0 ≠ -1 ∧ l.getD j 0 ≠ -2 ∧ ∃ z, hiAt f (l.getD j 0) = some z ∧ z.heat + (f.Kiln.at j z.place.toNat).Hi < y.heat + (f.Kiln.at j y.place.toNat).Lo)
theorem lowStep_some {f : Firing} {q : Nat} {y : heat_limit} {l : List Int} {s s' : Option Int} {j : Nat} : lowStep f q y l s j = some s' ↔ lowOk f y l j ∧ s' = if l.getD j 0 = -1 then some (minO s (y.heat + (f.Kiln.at j y.place.toNat).Lo - (f.Kiln.at j q).Hi)) else s := by
 unfold lowStep lowOk
 by_cases h1 : l.getD j 0 = -1
 ·simp only [h1, if_true, true_or, true_and, Option.some.injEq]; exact eq_comm
 ·by_cases h2 : l.getD j 0 = -2
  ·simp only [h2, show ¬ ((-2 : Int) = -1) by omega, if_false, if_true, false_or, true_and, ne_eq, not_true_eq_false, false_and, and_false, or_false]
   by_cases h3 : y.heat + (f.Kiln.at j y.place.toNat).Lo ≤ 3000
   ·rw [if_pos h3]
    constructor
    ·intro k; cases k
    ·rintro ⟨k, _⟩; omega
   ·rw [if_neg h3, Option.some.injEq]
    constructor
    ·intro k; exact ⟨by omega, k.symm⟩
    ·rintro ⟨_, k⟩; exact k.symm
  ·simp only [h1, h2, if_false, false_or, false_and, ne_eq, not_false_eq_true, true_and]
   cases hy : hiAt f (l.getD j 0) with
   | none => simp
   | some z =>
    simp only [Option.some.injEq]
    by_cases h3 : y.heat + (f.Kiln.at j y.place.toNat).Lo ≤ z.heat + (f.Kiln.at j z.place.toNat).Hi
    ·rw [if_pos h3]
     constructor
     ·intro k; cases k
     ·rintro ⟨⟨w, k1, k2⟩, _⟩; subst k1; omega
    ·rw [if_neg h3, Option.some.injEq]
     constructor
     ·intro k; exact ⟨⟨z, rfl, by omega⟩, k.symm⟩
     ·rintro ⟨_, k⟩; exact k.symm
theorem lowFold (f : Firing) (q : Nat) (y : heat_limit) (l : List Int) : ∀ n s, (List.range n).foldlM (lowStep f q y l) none = some s ↔
  (∀ j, j < n → lowOk f y l j) ∧ (match s with | none => ∀ j, j < n → l.getD j 0 ≠ -1 | some m => ∀ t, m ≤ t ↔ ∃ j, j < n ∧ l.getD j 0 = -1 ∧ y.heat + (f.Kiln.at j y.place.toNat).Lo - (f.Kiln.at j q).Hi ≤ t)
 | 0, s => by
  constructor
  ·intro h
   have : none = s := Option.some.inj h
   subst this
   exact ⟨fun j hj => by omega, fun j hj => by omega⟩
  ·rintro ⟨_, h⟩
   cases s with
   | none => rfl
   | some m =>
    have := (h m).1 (Int.le_refl _)
    obtain ⟨j, hj, _⟩ := this
    omega
 | n + 1, s => by
  have ih := lowFold f q y l n
  rw [List.range_succ, List.foldlM_append]
  cases hF : (List.range n).foldlM (lowStep f q y l) none with
  | none =>
   constructor
   ·intro h; cases h
   ·rintro ⟨h, _⟩
    exfalso
    have key : ∀ n, (∀ j, j < n → lowOk f y l j) → ∃ s, (List.range n).foldlM (lowStep f q y l) none = some s := by
     intro n
     induction n with
     | zero => intro _; exact ⟨none, rfl⟩
     | succ n ih2 =>
      intro h
      obtain ⟨s, e⟩ := ih2 fun j hj => h j (by omega)
      rw [List.range_succ, List.foldlM_append, e]
      exact ⟨_, by simpa using lowStep_some.2 ⟨h n (by omega), rfl⟩⟩
    obtain ⟨s, e⟩ := key n fun j hj => h j (by omega)
    rw [hF] at e; cases e
  | some s0 =>
   obtain ⟨a1, a2⟩ := (ih s0).1 hF
   have e : ((some s0).bind fun s => (List.foldlM (lowStep f q y l) s [n])) = lowStep f q y l s0 n := by simp
   show ((some s0).bind fun s => (List.foldlM (lowStep f q y l) s [n])) = some s ↔ _
   rw [e, lowStep_some]
   have hall : (∀ j, j < n + 1 → lowOk f y l j) ↔ lowOk f y l n := ⟨fun h => h n (by omega), fun h j hj => by
    by_cases hjn : j = n
    ·subst hjn; exact h
    ·exact a1 j (by omega)⟩
   rw [hall]
   refine and_congr_right fun hok => ?_
   by_cases hb : l.getD n 0 = -1
   ·rw [if_pos hb]
    have hM : ∀ t, minO s0 (y.heat + (f.Kiln.at n y.place.toNat).Lo - (f.Kiln.at n q).Hi) ≤ t ↔ ∃ j, j < n + 1 ∧ l.getD j 0 = -1 ∧ y.heat + (f.Kiln.at j y.place.toNat).Lo - (f.Kiln.at j q).Hi ≤ t := by
     intro t
     cases s0 with
     | none =>
      constructor
      ·intro k; exact ⟨n, by omega, hb, k⟩
      ·rintro ⟨j, k1, k2, k3⟩
       by_cases hjn : j = n
       ·subst hjn; exact k3
       ·exact absurd k2 (a2 j (by omega))
     | some m =>
      show min m _ ≤ t ↔ _
      rw [show ∀ a b : Int, min a b ≤ t ↔ a ≤ t ∨ b ≤ t by intro a b; omega, a2 t]
      constructor
      ·rintro (⟨j, k1, k2⟩ | k)
       ·exact ⟨j, by omega, k2⟩
       ·exact ⟨n, by omega, hb, k⟩
      ·rintro ⟨j, k1, k2, k3⟩
       by_cases hjn : j = n
       ·subst hjn; exact .inr k3
       ·exact .inl ⟨j, by omega, k2, k3⟩
    constructor
    ·intro k; subst k; exact hM
    ·intro k
     cases s with
     | none => exact absurd hb (k n (by omega))
     | some m => rw [Option.some.injEq]; exact eq_of_ge_iff fun t => by rw [k t, hM t]
   ·rw [if_neg hb]
    constructor
    ·intro k
     subst k
     cases s with
     | none =>
      intro j hj
      by_cases hjn : j = n
      ·subst hjn; exact hb
      ·exact a2 j (by omega)
     | some m =>
      intro t
      rw [a2 t]
      constructor
      ·rintro ⟨j, k1, k2⟩; exact ⟨j, by omega, k2⟩
      ·rintro ⟨j, k1, k2⟩
       by_cases hjn : j = n
       ·subst hjn; exact absurd k2.1 hb
       ·exact ⟨j, by omega, k2⟩
    ·intro k
     cases s with
     | none =>
      cases s0 with
      | none => rfl
      | some m =>
       obtain ⟨j, k1, k2, _⟩ := (a2 m).1 (Int.le_refl _)
       exact absurd k2 (k j (by omega))
     | some m =>
      cases s0 with
      | none =>
       obtain ⟨j, k1, k2, _⟩ := (k m).1 (Int.le_refl _)
       by_cases hjn : j = n
       ·subst hjn; exact absurd k2 hb
       ·exact absurd k2 (a2 j (by omega))
      | some m0 =>
       rw [Option.some.injEq]
       refine eq_of_ge_iff fun t => ?_
       rw [k t, a2 t]
       constructor
       ·rintro ⟨j, k1, k2⟩
        by_cases hjn : j = n
        ·subst hjn; exact absurd k2.1 hb
        ·exact ⟨j, by omega, k2⟩
       ·rintro ⟨j, k1, k2⟩; exact ⟨j, by omega, k2⟩
theorem showLow_of {f : Firing} (h : f.ok) {q : Nat} (hq : q < f.Kiln.P) {n : Int} {p : HeatProof} (hp : LowPf (nf f) q n p) : showLow f q p = some (some n) := by
 have hk := kilnB_len h.k
 rcases hp with ⟨j, h1, h2, h3⟩ | ⟨y, hy, h1, h2, h3⟩ | ⟨y, hy, h1, h2, h3⟩
 ·subst h2
  have h1' : j < f.Kiln.Falls.length := h1
  unfold showLow
  simp only [if_true, List.length_singleton, List.getD_cons_zero, Int.toNat_natCast]
  rw [if_pos ⟨trivial, by omega, by omega⟩, h3]
  rfl
 ·obtain ⟨a, b⟩ := loAt_of h hy
  subst h2
  unfold showLow
  simp only
  rw [if_neg (by omega), a]
  simp [h1, h3]
 ·obtain ⟨a, b⟩ := loAt_of h hy
  subst h2
  have hlen : (cannotL (nf f) y).length = f.Kiln.Falls.length := by unfold cannotL; simp; rfl
  unfold showLow
  simp only [hlen]
  rw [if_neg (by omega), a]
  simp only [h1, if_false, if_true]
  have hget : ∀ j, j < f.Kiln.Falls.length → (cannotL (nf f) y).getD j 0 = bif decide (y.heat + (nf f).fur.lo j y.place.toNat ≤ (nf f).fur.U j) then -1 else bif decide (3000 < y.heat + (nf f).fur.lo j y.place.toNat) then -2 else (hot (nf f) j).2 := by
   intro j hj
   have hj' : j < (nf f).Firing.Kiln.Falls.length := hj
   exact getD_of 0 (by unfold cannotL; rw [List.getElem?_map, List.getElem?_range hj']; rfl)
  have hlo : ∀ j, (nf f).fur.lo j y.place.toNat = (f.Kiln.at j y.place.toNat).Lo := fun _ => rfl
  have hget3 : ∀ j, ¬ y.heat + (nf f).fur.lo j y.place.toNat ≤ (nf f).fur.U j → ¬ 3000 < y.heat + (nf f).fur.lo j y.place.toNat → ∃ z, hiAt f (hot (nf f) j).2 = some z ∧ 0 ≤ (hot (nf f) j).2 ∧ (nf f).fur.U j = z.heat + (f.Kiln.at j z.place.toNat).Hi := by
   intro j c1 c2
   rcases hot_by (nf f) j with ⟨g1, g2⟩ | ⟨z, hz, g1, g2⟩
   ·rw [hot_U] at g1; omega
   ·obtain ⟨a', b'⟩ := hiAt_of h hz
    refine ⟨z, by rw [g1]; exact a', by omega, by rw [← hot_U]; exact g2⟩
  have hm1 : ∀ j, j < f.Kiln.Falls.length → ((cannotL (nf f) y).getD j 0 = -1 ↔ y.heat + (nf f).fur.lo j y.place.toNat ≤ (nf f).fur.U j) := by
   intro j hj
   rw [hget j hj]
   by_cases c1 : y.heat + (nf f).fur.lo j y.place.toNat ≤ (nf f).fur.U j
   ·simp [c1]
   ·by_cases c2 : 3000 < y.heat + (nf f).fur.lo j y.place.toNat
    ·simp [c1, c2]
    ·obtain ⟨z, _, k, _⟩ := hget3 j c1 c2
     simp only [c1, c2, decide_false, cond_false, iff_false]
     omega
  rw [lowFold]
  refine ⟨fun j hj => ?_, fun t => ?_⟩
  ·unfold lowOk
   rw [hget j hj]
   by_cases c1 : y.heat + (nf f).fur.lo j y.place.toNat ≤ (nf f).fur.U j
   ·left; simp [c1]
   ·by_cases c2 : 3000 < y.heat + (nf f).fur.lo j y.place.toNat
    ·right; left
     simp only [c1, c2, decide_false, decide_true, cond_false, cond_true, true_and]
     exact c2
    ·right; right
     obtain ⟨z, k1, k2, k3⟩ := hget3 j c1 c2
     simp only [c1, c2, decide_false, cond_false]
     refine ⟨by omega, by omega, z, k1, ?_⟩
     rw [← k3]
     rw [hlo] at c1
     omega
  ·rw [h3.2 t]
   constructor
   ·rintro ⟨j, k1, k2, k3⟩
    exact ⟨j, k1, (hm1 j k1).2 k2, k3⟩
   ·rintro ⟨j, k1, k2, k3⟩
    exact ⟨j, k1, (hm1 j k1).1 k2, k3⟩
theorem heat_Prove_eq (f : Firing) (q : Firing.s f) (w : Firing.w f) (p : Int) (high : Bool) : ∃ pf, heat_Prove KK f p high = some (pf, askCode f p) ∧ (askCode f p ≠ 0 → pf = ⟨0, []⟩) ∧ (askCode f p = 0 → proofCode f p high (bif high then (rngX (nf f) p.toNat).Hi else (rngX (nf f) p.toNat).Lo) pf = 0) := by
 unfold heat_Prove
 rw [heat_asks_eq f q w]
 simp only [Option.bind_some]
 by_cases h : askCode f p = 0
 ·obtain ⟨h1, h2, h3, h4, h5, h6⟩ := askCode_ok h
  have hi : inB p 0 ((f.Kiln.P : Int) - 1) = true := by simp [inB]; omega
  simp only [h, decide_true, cond_true, Bool.not_true, cond_false]
  cases high with
  | true =>
   obtain ⟨pf, e1, e2⟩ := heat_highest_rng h
   simp only [cond_true, e1, Option.bind_some]
   refine ⟨pf, rfl, fun k => absurd rfl k, fun _ => ?_⟩
   unfold proofCode
   simp only [h1, hi, decide_true, Bool.not_true, cond_false, cond_true, showHigh_of h2 (q := p.toNat) (by omega) e2, Int.lt_irrefl, if_false]
  | false =>
   obtain ⟨pf, e1, e2⟩ := heat_lowest_rng h
   simp only [cond_false, e1, Option.bind_some]
   refine ⟨pf, rfl, fun k => absurd rfl k, fun _ => ?_⟩
   unfold proofCode
   simp only [h1, hi, decide_true, Bool.not_true, cond_false, showLow_of h2 (q := p.toNat) (by omega) e2, Int.lt_irrefl, if_false]
 ·simp only [h, decide_false, cond_false, Bool.not_false, cond_true]
  exact ⟨_, rfl, fun _ => rfl, fun k => absurd k id⟩
theorem R04_Proves_due (f : Firing) (q : Firing.s f) (p : Int) (high : Bool) (pf : HeatProof) (h : askCode f p = 0) (hp : proofCode f p high (bif high then (rngX (nf f) p.toNat).Hi else (rngX (nf f) p.toNat).Lo) pf = 0) : R04_Proves KK f p high pf = some 0 := by
 obtain ⟨h1, h2, h3, h4, h5, h6⟩ := askCode_ok h
 have hb : bndR f p = (rngX (nf f) p.toNat, 0) := by unfold bndR; simp [h]
 have hbd : i64ok (rngX (nf f) p.toNat).Hi ∧ i64ok (rngX (nf f) p.toNat).Lo := by
  obtain ⟨a, b⟩ := rng_isBound f p h
  have hle := rng_le h
  have c1 := ((a _).1 (Int.le_refl _)).1 0 (Nat.zero_le _)
  obtain ⟨⟨j, _, c2⟩, _⟩ := (b _).1 (Int.le_refl _)
  have c3 := (nf f).fur.U_le j
  have c4 := fur_ok (nf_ok h2) 0 p.toNat
  have c5 := fur_ok (nf_ok h2) j p.toNat
  unfold i64ok
  omega
 unfold R04_Proves
 rw [R04_Bound_rng f q p, hb]
 simp only [Option.bind_some, decide_true, Bool.not_true, cond_false]
 cases high with
 | true =>
  simp only [cond_true] at hp ⊢
  rw [R04_CheckProof_eq f q p true _ hbd.1 pf ⟨1, _⟩ rfl rfl, hp]; rfl
 | false =>
  simp only [cond_false] at hp ⊢
  rw [R04_CheckProof_eq f q p false _ hbd.2 pf ⟨0, _⟩ rfl rfl, hp]; rfl
theorem Fur.sub_sound {f g : Fur} (hm : g.m = f.m) (hlo : g.lo = f.lo) (hhi : g.hi = f.hi) (hL : ∀ x ∈ g.L, x ∈ f.L) (hM : ∀ x ∈ g.M, x ∈ f.M) (hs : f.Sound) : g.Sound ∧ ∀ j, f.U j ≤ g.U j := by
 have hU : ∀ j, f.U j ≤ g.U j := by
  intro j
  rw [Fur.U_iff]
  refine ⟨f.U_le j, fun x hx => ?_⟩
  rw [hhi]
  exact f.U_lim j (hM x hx)
 refine ⟨⟨fun j hj => ?_, fun x hx => ⟨fun y hy e => (hs.2 x (hL x hx)).1 y (hM y hy) e, ?_⟩⟩, hU⟩
 ·have := hs.1 j (by omega)
  have := hU j
  omega
 ·obtain ⟨j, h1, h2⟩ := (hs.2 x (hL x hx)).2
  have := hU j
  exact ⟨j, by omega, by rw [hlo]; omega⟩
theorem sub_sound {f g : Firing} (hk : g.Kiln = f.Kiln) (hr : ∀ r ∈ g.Readings, r ∈ f.Readings) (hs : (nf f).fur.Sound) : (nf g).fur.Sound := by
 refine (Fur.sub_sound (f := (nf f).fur) (g := (nf g).fur) ?_ ?_ ?_ ?_ ?_ hs).1
 ·show g.Kiln.Falls.length - 1 = f.Kiln.Falls.length - 1; rw [hk]
 ·show (fun j p => (g.Kiln.at j p).Lo) = fun j p => (f.Kiln.at j p).Lo; rw [hk]
 ·show (fun j p => (g.Kiln.at j p).Hi) = fun j p => (f.Kiln.at j p).Hi; rw [hk]
 ·intro z hz
  obtain ⟨r, h1, h2⟩ := limsOf_lp.1 hz
  exact limsOf_lp.2 ⟨r, hr r h1, h2⟩
 ·intro z hz
  obtain ⟨r, h1, h2⟩ := limsOf_lp.1 hz
  exact limsOf_lp.2 ⟨r, hr r h1, h2⟩
def woF (f : Firing) (s : Int) : Firing := ⟨f.Kiln, f.Readings.filter fun r => !decide (r.Source = s)⟩
theorem woF_ok {f : Firing} (h : f.ok) (s : Int) : (woF f s).ok := by
 have := List.length_filter_le (fun r : Reading => !decide (r.Source = s)) f.Readings
 have h2 := h.l
 exact ⟨h.k, by show (f.Readings.filter _).length ≤ 100; omega, fun r hr => h.r r (List.mem_filter.1 hr).1⟩
theorem woF_sound {f : Firing} (hs : (nf f).fur.Sound) (s : Int) : (nf (woF f s)).fur.Sound := sub_sound (f := f) (g := woF f s) rfl (fun r hr => (List.mem_filter.1 hr).1) hs
theorem woF_only (f : Firing) (s : Int) : onlyF f ((allSrc f).filter fun x => !decide (x = s)) = woF f s := by
 unfold onlyF woF
 congr 1
 refine List.filter_congr fun r hr => ?_
 rw [Bool.eq_iff_iff, decide_eq_true_eq, List.mem_filter]
 unfold allSrc
 rw [usort_mem]
 constructor
 ·exact fun h => h.2
 ·exact fun h => ⟨List.mem_map.2 ⟨r, hr, rfl⟩, h⟩
def samB (r s : Range) : Bool := decide (r.Lo = s.Lo) && decide (r.Hi = s.Hi)
def movL (f : Firing) (q : Nat) : List Int := (allSrc f).filter fun s => !samB (rngX (nf (woF f s)) q) (rngX (nf f) q)
def movR (f : Firing) (p : Int) : List Int × Int := bif decide (askCode f p = 0) then (movL f p.toNat, 0) else ([], askCode f p)
theorem heat_sources_o_eq (l : List Reading) : heat_sources_o KK l = heat_sources KK l := rfl
theorem index_int {l : List Int} (hl : l.length ≤ 100000) {f : Int → Option Bool} {p : Int → Bool} (hf : ∀ x ∈ l, f x = some (p x)) : slices_IndexFunc_int KK l f = some (match l.findIdx? p with | some i => (i : Int) | none => -1) := by
 unfold slices_IndexFunc_int
 rw [indexFunc_gen (body := slices_IndexFunc_int.b0 KK f l) (p := p) hf (by omega) (by unfold KK; omega) rfl]
 cases l.findIdx? p <;> rfl
theorem deleteFunc_int_eq (l : List Int) (hl : l.length ≤ 10000) {f : Int → Option Bool} {p : Int → Bool} (hf : ∀ x ∈ l, f x = some (p x)) : slices_DeleteFunc_int KK l f = some (l.filter fun x => !p x) := by
 unfold slices_DeleteFunc_int
 rw [index_int (by omega) hf]
 cases hi : l.findIdx? p with
 | none =>
  simp only [Option.bind_some, decide_true, cond_true, Option.some.injEq]
  rw [List.findIdx?_eq_none_iff] at hi
  exact (List.filter_eq_self.2 fun x hx => by simp [hi x hx]).symm
 | some a =>
  rw [List.findIdx?_eq_some_iff_getElem] at hi
  obtain ⟨ha, hpa, hbef⟩ := hi
  have hne : ¬ ((a : Int) = -1) := by omega
  simp only [Option.bind_some, hne, decide_false, cond_false]
  have d0 : w64 ((a : Int) + 1) = ((a + 1 : Nat) : Int) := by rw [w64_of (by omega) (by omega)]; omega
  rw [d0]
  have h := whl_ok (body := slices_DeleteFunc_int.b0 KK f)
   (fun t => ∃ (w j : Nat) (m : List Int), t = ((w : Int), (j : Int), m) ∧ m.length = l.length ∧ w + 1 ≤ j ∧ j ≤ l.length ∧ (∀ i, j ≤ i → m[i]? = l[i]?) ∧ m.take w = (l.take j).filter fun x => !p x)
   (fun r => ∃ (w : Nat) (m : List Int), r = .brk ((w : Int), m) ∧ w ≤ m.length ∧ m.take w = l.filter fun x => !p x)
   (fun t => l.length - t.2.1.toNat) ?_ KK ((a : Int), ((a + 1 : Nat) : Int), l) ⟨a, a + 1, l, rfl, rfl, Nat.le_refl _, by omega, fun _ _ => rfl, ?_⟩ (by unfold KK; omega)
  ·obtain ⟨r, h1, ⟨w, m, h2, h3, h4⟩, _⟩ := h
   rw [h1, h2]
   simp only [Option.bind_some, ls_of h3, hs_of h3, Int.toNat_natCast, clr_take m w _ _ h3, h4]
  ·rintro t ⟨w, j, m, rfl, g1, g2, g3, g4, g5⟩
   by_cases hj : j = l.length
   ·right; left
    refine ⟨((w : Int), m), ?_, w, m, rfl, by omega, ?_⟩
    ·unfold slices_DeleteFunc_int.b0
     have : decide ((j : Int) < ((m.length : Nat) : Int)) = false := by rw [g1, hj]; exact lt_dec_self _
     simp only [this, cond_false]
    ·rw [g5, hj, List.take_length]
   ·left
    obtain ⟨y, hy⟩ : ∃ y, l[j]? = some y := ⟨_, List.getElem?_eq_getElem (by omega)⟩
    have hfy := hf y (List.mem_of_getElem? hy)
    have hw : w < m.length := by omega
    have d1 : decide ((j : Int) < ((m.length : Nat) : Int)) = true := lt_dec (by omega)
    have d3 : w64 ((j : Int) + 1) = ((j + 1 : Nat) : Int) := by rw [w64_of (by omega) (by omega)]; omega
    have d4 : w64 ((w : Int) + 1) = ((w + 1 : Nat) : Int) := by rw [w64_of (by omega) (by omega)]; omega
    have e1 : at? m (j : Int) = some y := at_of (by rw [g4 j (Nat.le_refl _)]; exact hy)
    cases hpy : p y with
    | true =>
     refine ⟨((w : Int), ((j + 1 : Nat) : Int), m), ?_, ⟨w, j + 1, m, rfl, g1, by omega, by omega, fun i hi => g4 i (by omega), ?_⟩, by simp only [Int.toNat_natCast]; omega⟩
     ·unfold slices_DeleteFunc_int.b0
      simp only [d1, cond_true, e1, Option.bind_some, hfy, hpy, Bool.not_true, cond_false, d3]
     ·rw [take_succ_of hy, List.filter_append, g5]; simp [hpy]
    | false =>
     have ew : at? m (w : Int) = some m[w] := at_of (List.getElem?_eq_getElem hw)
     refine ⟨(((w + 1 : Nat) : Int), ((j + 1 : Nat) : Int), m.set w y), ?_, ⟨w + 1, j + 1, m.set w y, rfl, by simp [g1], by omega, by omega, fun i hi => ?_, ?_⟩, by simp only [Int.toNat_natCast]; omega⟩
     ·unfold slices_DeleteFunc_int.b0
      simp only [d1, cond_true, e1, Option.bind_some, hfy, hpy, Bool.not_false, d3, ew, set_of hw, d4]
     ·rw [List.getElem?_set, if_neg (by omega)]; exact g4 i (by omega)
     ·rw [take_succ_of (x := y) (by rw [List.getElem?_set]; simp [hw]), List.take_set_of_le (Nat.le_refl _), take_succ_of hy, List.filter_append, g5]; simp [hpy]
  ·rw [take_succ_of (List.getElem?_eq_getElem ha), List.filter_append]
   have : (l.take a).filter (fun x => !p x) = l.take a := List.filter_eq_self.2 (fun x hx => by
    obtain ⟨i, hi, rfl⟩ := List.getElem_of_mem hx
    rw [List.getElem_take]
    simp only [List.length_take] at hi
    have := hbef i (by omega)
    simpa using this)
   rw [this]
   simp [hpa]
theorem heat_Moves_eq (f : Firing) (q : Firing.s f) (w : Firing.w f) (p : Int) : heat_Moves KK f p = some (movR f p) := by
 unfold heat_Moves movR
 rw [heat_asks_eq f q w]
 simp only [Option.bind_some]
 by_cases h : askCode f p = 0
 ·obtain ⟨h1, h2, h3, h4, h5, h6⟩ := askCode_ok h
  have hl := h2.l
  have hsl := allSrc_len f
  have hpp : ((p.toNat : Nat) : Int) = p := by omega
  have e1 := (rngX_spec (nf_ok h2) h5 (q := p.toNat) (by show p.toNat < f.Kiln.P; omega)).1
  rw [hpp] at e1
  simp only [h, decide_true, cond_true, Bool.not_true, cond_false, e1, Option.bind_some, heat_sources_o_eq, heat_sources_eq f.Readings (by omega)]
  rw [deleteFunc_int_eq _ (by unfold allSrc at hsl; omega) (p := fun s => samB (rngX (nf (woF f s)) p.toNat) (rngX (nf f) p.toNat)) (fun s _ => by
   unfold heat_Moves_1
   rw [heat_without_eq f h1 (fun q0 => heat_Moves_1_1 KK q0 s) (fun x => decide (x = s)) (fun x => rfl)]
   simp only [Option.bind_some]
   have a1 := heat_newFurnace_eq (woF f s) (firing_w (woF_ok h2 s))
   unfold woF at a1
   have a2 := (rngX_spec (nf_ok (woF_ok h2 s)) (woF_sound h5 s) (q := p.toNat) (by show p.toNat < f.Kiln.P; omega)).1
   rw [hpp] at a2
   unfold woF at a2
   rw [a1]
   simp only [Option.bind_some]
   rw [a2]
   rfl)]
  rfl
 ·simp only [h, decide_false, cond_false, Bool.not_false, cond_true]
theorem R04_Moves_eq (f : Firing) (q : Firing.s f) (p : Int) : R04_Moves KK f p = some (movR f p) := by
 unfold R04_Moves movR
 rw [R04_Bound_rng f q p]
 unfold bndR
 by_cases h : askCode f p = 0
 ·obtain ⟨h1, h2, h3, h4, h5, h6⟩ := askCode_ok h
  have hl := h2.l
  have hsl := allSrc_len f
  have hpp : ((p.toNat : Nat) : Int) = p := by omega
  simp only [h, decide_true, cond_true, Option.bind_some, Bool.not_true, cond_false, R04_sources_eq f.Readings (by omega)]
  show (whl (R04_Moves.b0 KK f p _ (allSrc f)) KK (0, [])).bind _ = _
  have hw := (whl_fold (l := allSrc f) (body := R04_Moves.b0 KK f p (rngX (nf f) p.toNat, 0) (allSrc f)) (k := KK) (fun i s => (i, s)) (fun l s => bif !samB (rngX (nf (woF f s)) p.toNat) (rngX (nf f) p.toNat) then l ++ [s] else l) (fun i s => s.length ≤ i) (s0 := []) (by omega) (by unfold KK; omega) (by simp) (fun i s l hs hI => by
   have hi : i < (allSrc f).length := (List.getElem?_eq_some_iff.1 hs).1
   refine ⟨?_, by cases !samB (rngX (nf (woF f s)) p.toNat) (rngX (nf f) p.toNat) <;> simp <;> omega⟩
   have a2 := R04_bound_rng (woF_ok h2 s) (woF_sound h5 s) (q := p.toNat) (by show p.toNat < f.Kiln.P; omega)
   rw [hpp] at a2
   have hfl := List.length_filter_le (fun x => !decide (x = s)) (allSrc f)
   unfold R04_Moves.b0
   simp only [lt_dec hi, cond_true, at_of hs, Option.bind_some]
   rw [R01_Less_gen _ _ (by omega)]
   simp only [Option.bind_some]
   rw [R04_only_due h1 _ (by unfold Go.maxLen; omega), woF_only]
   simp only [Option.bind_some, a2]
   unfold samB
   cases !(decide ((rngX (nf (woF f s)) p.toNat).Lo = (rngX (nf f) p.toNat).Lo) && decide ((rngX (nf (woF f s)) p.toNat).Hi = (rngX (nf f) p.toNat).Hi)) with
   | true => simp only [cond_true]; rw [push_of (by omega) (by omega)]; rfl
   | false => rfl) (fun s _ => by
   unfold R04_Moves.b0
   simp only [lt_dec_self]; rfl)).1
  rw [hw, foldl_filter (fun s => !samB (rngX (nf (woF f s)) p.toNat) (rngX (nf f) p.toNat))]
  rfl
 ·simp only [h, decide_false, cond_false, Option.bind_some, Bool.not_false, cond_true]
end Go.Abs
namespace Go.Abs
open Go
set_option linter.unusedVariables false
theorem movR_len (f : Firing) (p : Int) : (movR f p).1.length ≤ Go.maxLen := by
 unfold movR
 by_cases h : askCode f p = 0
 ·have hok := (askCode_ok h).2.1
  have hl := hok.l
  have h1 := allSrc_len f
  have h2 := List.length_filter_le (fun s => !samB (rngX (nf (woF f s)) p.toNat) (rngX (nf f) p.toNat)) (allSrc f)
  simp only [h, decide_true, cond_true]
  unfold movL Go.maxLen
  omega
 ·simp [h]
theorem heatBounds_plain (a0 : Firing) (a1 : Int) (a2 : Bool) (q0 : Firing.q a0) : L04_HeatBounds KK a0 a1 a2 = some true := by
 have hs := q0.s
 have hw := q0.w
 obtain ⟨pf, e1, e2, e3⟩ := heat_Prove_eq a0 hs hw a1 a2
 have hE : R04_Empty KK (⟨[], []⟩ : Field) = some true := rfl
 have hM := R01_Same_refl (movR a0 a1).1 (movR_len a0 a1)
 unfold L04_HeatBounds
 simp only [heat_Bound_rng _ hs hw, R04_Bound_rng _ hs, heat_Moves_eq _ hs hw, R04_Moves_eq _ hs, heat_Attain_eq _ hs hw, e1, Option.bind_some, decide_true, Bool.true_and, cond_true, hM, sane_KK]
 by_cases h : askCode a0 a1 = 0
 ·have hb : bndR a0 a1 = (rngX (nf a0) a1.toNat, 0) := by unfold bndR; simp [h]
  have ha : attR a0 a1 a2 = (attX a0 a1 a2, 0) := by unfold attR; simp [h]
  simp only [hb, ha, h, decide_true, Bool.not_true, cond_true, cond_false, R04_Attains_due a0 hs a1 a2 h, R04_Proves_due a0 hs a1 a2 pf h (e3 h), Option.bind_some]
 ·have hb : bndR a0 a1 = (⟨0, 0⟩, askCode a0 a1) := by unfold bndR; simp [h]
  have ha : attR a0 a1 a2 = (⟨[], []⟩, askCode a0 a1) := by unfold attR; simp [h]
  have hp := e2 h
  subst hp
  simp only [hb, ha, h, decide_true, decide_false, Bool.not_true, Bool.not_false, cond_true, cond_false, hE, Option.bind_some, List.length_nil, Int.natCast_zero]
end Go.Abs
namespace Go.Proofs.YtafmgcbfmifaeaaGreat.heatBounds
open Go.Abs
theorem plain (a0 : Go.Abs.Firing) (a1 : Int) (a2 : Bool) : Go.Abs.Firing.q a0 → i64ok a1 → (fun _ => True) a2 → ∃ k, L04_HeatBounds k a0 a1 a2 = some true := by
 intro q0 _ _; exact ⟨_, heatBounds_plain a0 a1 a2 q0⟩
end Go.Proofs.YtafmgcbfmifaeaaGreat.heatBounds
namespace Go.Proofs.YtafmgcbfmifaeaaGreat.heatBounds
open Go.ChangeShapes Go.WideShapes Go.ChangeAt Go.RowKit Go.Abs
set_option maxRecDepth 100000
theorem own : ownKnob Tryz.prog.godebug = none := by kernel_rfl
theorem contract (H : Type) (enc : TypeId × Value → H) (W : World) (base : Nat) (args : Array Value) (ds gs : List (DataW H)) (before : List MemPlace)
  (hval : ∀ (j : Nat) t v, Tryz.f5.params[j]? = some t → args[j]? = some v → Value.okWide Tryz.prog W .any base t v)
  (hW : DataW.Whole enc Tryz.prog Tryz.f5.params.toList Rows.heatBoundsSpec.vars false W args.toList ds gs before) (hsz0 : (DataW.weightsEach Tryz.prog (Tryz.f5.params.toList ++ Rows.heatBoundsSpec.plain.varTypes Tryz.prog) (ds ++ gs)).all (· ≤ reachBytes) = true) :
  Calls Tryz.prog 5 args W fun e W' => ∃ v, e = .returned v ∧ Rows.heatBoundsSpec.post enc Tryz.prog Tryz.f5 false true false false W args v W' := by
 have hW' := hW
 obtain ⟨p, q, hA0, hV, rfl, hfz, hnd⟩ := hW
 have hA : DataW.TrodAll enc Tryz.prog W 0 (fun _ => true) true Tryz.f5.params.toList args.toList ds p := hA0
 rw [Tryz.params5] at hA hval
 obtain ⟨v0, vs0, d0, ds0, p0, q0, hargs, rfl, rfl, h0, r0⟩ := trodAll_cons hA
 obtain ⟨v1, vs1, d1, ds1, p1, q1, rfl, rfl, rfl, h1, r1⟩ := trodAll_cons r0
 obtain ⟨v2, vs2, d2, ds2, p2, q2, rfl, rfl, rfl, h2, r2⟩ := trodAll_cons r1
 obtain ⟨rfl, rfl, rfl⟩ := trodAll_nil r2
 have hsz : ∀ (j : Nat) t d, Tryz.f5.params.toList[j]? = some t → [d0, d1, d2][j]? = some d → ∀ n ∈ d.weights Tryz.prog t, n ≤ reachBytes := weights_of (by rw [Tryz.params5]; rfl) hsz0
 rw [Tryz.params5] at hsz
 obtain rfl : args = #[v0, v1, v2] := by cases args; simp_all
 obtain ⟨a0, Q0, V0⟩ := arg_agg reads_27 (by have h := hval 0 27 v0 rfl rfl; unfold Value.okWide at h; rw [Tryz.underlying27] at h; obtain ⟨cs, h, _⟩ := h; exact ⟨cs, h⟩) h0 (hsz 0 27 d0 rfl rfl)
 obtain ⟨a1, Q1, V1⟩ := arg_one reads_3 (by have h := hval 1 3 v1 rfl rfl; unfold Value.okWide at h; rw [Tryz.underlying3] at h; unfold Cell.okWide Cell.ok at h; rw [Tryz.underlying3] at h; cases v1 <;> first | rfl | (simp at h; done)) (fun x => AV.int .i64 x) (fun _ => rfl) h1 (hsz 1 3 d1 rfl rfl)
 obtain ⟨a2, Q2, V2⟩ := arg_one reads_4 (by have h := hval 2 4 v2 rfl rfl; unfold Value.okWide at h; rw [Tryz.underlying4] at h; unfold Cell.okWide Cell.ok at h; rw [Tryz.underlying4] at h; cases v2 <;> first | rfl | (simp at h; done)) (fun x => AV.bool x) (fun _ => rfl) h2 (hsz 2 4 d2 rfl rfl)
 obtain ⟨k, hk⟩ := plain a0 a1 a2 Q0 Q1 Q2
 have hv : VRs (fmAll W) [] [.agg (Go.Abs.Firing.c a0), .int .i64 a1, .bool a2] [v0, v1, v2] := ⟨rfl, fun i x v h1 h2 => by
  match i with
  | 0 => cases h1; cases h2; exact V0
  | 1 => cases h1; cases h2; exact V1
  | 2 => cases h1; cases h2; exact V2
  | i + 3 => simp at h1⟩
 refine Calls.mono ((L04_HeatBounds_ok k a0 a1 a2 true hk).2 (fmAll W) W _ (fun _ _ _ h => h) hv) ?_
 rintro e W1 ⟨v, y, fm1, rfl, rfl, _, hvr, _, hB⟩
 cases hvr
 exact ⟨_, rfl, law_post (t := 4) (by kernel_rfl) (by kernel_rfl) (by kernel_rfl) hW' rfl hB (by rw [Tryz.params5]; decide +kernel) rfl Tryz.underlying4 (by obtain ⟨rfl, _⟩ := trodVars_none hV; rfl)⟩
theorem lifted (os : Os) (started : os.Started) (H : Type) (enc : TypeId × Value → H) :
  ReturnsInHanded {} Tryz.checked os 5 .any (Rows.heatBoundsSpec.pre6 enc Tryz.prog Tryz.f5 Rows.heatBoundsRow.domain false) (Rows.heatBoundsSpec.post enc Tryz.prog Tryz.f5 false true false false) := by
 refine returnsInHanded_of_change_sized (C := Tryz.checked) own started (by kernel_rfl) Tryz.func5
  (ChangeSpec.witness6 (enc := enc) (C := Tryz.checked) false ⟨#[], #[.agg #[.slice none 0 0, .slice none 0 0], .int .i64 0, .bool false], []⟩ 8 (by kernel_rfl) (by kernel_rfl) (by kernel_rfl) (by kernel_rfl)) ?_
 intro W base args ds gs before hval0 hW hcnd hsz _
 exact contract H enc W base args ds gs before hval0 hW hsz
theorem over : Rows.heatBoundsRow.holds Tryz.pinned (OpenSpec.ofChange Rows.heatBoundsSpec) :=
 OpenClaim.holds_of_wide 5 Tryz.f5 rfl rfl rfl rfl rfl rfl rfl ⟨rfl, rfl, rfl, rfl, rfl⟩ rfl rfl rfl rfl rfl (by kernel_rfl) Tryz.func5 (by kernel_rfl)
  (of_decide_eq_true (by kernel_rfl)) (by unfold Func.isWrapper; first | (rw [if_pos (by decide +kernel)]; kernel_rfl) | (rw [if_neg (by decide +kernel)]; exact ⟨rfl, rfl⟩))
  (fun os started H enc _ => lifted os started H enc)
theorem proved : Rows.HeatBoundsSaid := over
end Go.Proofs.YtafmgcbfmifaeaaGreat.heatBounds
