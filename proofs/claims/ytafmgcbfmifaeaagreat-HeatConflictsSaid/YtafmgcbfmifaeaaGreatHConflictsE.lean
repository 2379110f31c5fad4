/-
  Part 5 of the proof: a machine over named blocks, what each function computes, and what follows. No condition.
-/
import Derived.Test.YtafmgcbfmifaeaaGreatHConflictsD
set_option linter.unusedVariables false
set_option linter.unusedSimpArgs false
set_option linter.all false
set_option maxRecDepth 20000
set_option maxHeartbeats 8000000
namespace Go.Abs
open Go.Proofs
def F114.s0 : SC :=
 (.seq
 (.reg [b2 55 .lss 3 54 53 3 0 []])
 (.seq
 (.cond (.tmp 55)
 .skip
 (.exit 0))
 (.seq
 (.block 1
 (.seq
 (.reg [mv 56 54 3 [],
 ia 57 37 52 54 [],
 ld 58 3 57 [57],
 sg 11 56 3 [56],
 sg 12 58 3 [58]])
 (.seq
 (.reg [sn 13 3000 3 []])
 (.seq
 (.seq
 (.reg [mv 59 12 3 [],
 bn 60 .neq 3 59 (-1) 3 4 [59]])
 (.cond (.tmp 60)
 (.seq
 (.reg [ld 62 81 3 [],
 mv 63 12 3 [12],
 cf2 64 132 62 63 81 3 136 [62, 63],
 mv 61 64 136 [64],
 xt 65 61 0 135 [],
 xt 66 61 1 4 [61],
 oq 14 (.alloc 135) 0 [],
 ⟨none, .store 135 (.tmp 14) (.tmp 65), 0, none, [65]⟩,
 sg 15 66 4 [66]])
 (.seq
 (.seq
 (.reg [mv 67 15 4 [15],
 oq 68 (.unOp .not 4 (.tmp 67)) 4 [67]])
 (.cond (.tmp 68)
 (.seq
 (.reg [sn 6 0 3 [],
 sb 7 false 4 []])
 .ret)
 .skip))
 (.dreg [fa 69 135 14 1 [],
 ld 70 3 69 [],
 fa 71 81 3 0 [],
 fa 72 27 71 0 [],
 fa 73 24 72 0 [],
 ld 74 22 73 [],
 mv 75 11 3 [],
 ia 76 22 74 75 [],
 ld 77 89 76 [],
 fa 78 135 14 0 [],
 ld 79 3 78 [],
 ia 80 89 77 79 [],
 fa 81 30 80 1 [],
 ld 82 3 81 [],
 b2 83 .add 3 70 82 3 3 [],
 sg 13 83 3 []] [[], [0], [], [2], [2, 3], [2, 3, 4], [], [2, 3, 4, 5, 6], [2, 3, 4, 5, 6, 7], [], [9], [2, 3, 4, 5, 6, 7, 8, 9, 10], [2, 3, 4, 5, 6, 7, 8, 9, 10, 11], [2, 3, 4, 5, 6, 7, 8, 9, 10, 11, 12], [0, 1, 2, 3, 4, 5, 6, 7, 8, 9, 10, 11, 12, 13], [0, 1, 2, 3, 4, 5, 6, 7, 8, 9, 10, 11, 12, 13, 14]] [14, 69, 70, 71, 72, 73, 74, 75, 76, 77, 78, 79, 80, 81, 82, 83])))
 .skip))
 (.seq
 (.reg [mv 84 13 3 [13],
 fa 85 81 3 0 [],
 fa 86 27 85 0 [85],
 fa 87 24 86 0 [86],
 ld 88 22 87 [87],
 mv 89 11 3 [],
 ia 90 22 88 89 [88, 89],
 ld 91 89 90 [90],
 mv 92 1 3 [],
 ia 93 89 91 92 [91, 92],
 fa 94 30 93 0 [93],
 ld 95 3 94 [94],
 b2 96 .sub 3 84 95 3 3 [84, 95],
 sg 16 96 3 [96]])
 (.seq
 (.reg [mv 97 11 3 [11],
 bn 98 .eql 3 97 0 3 4 [97],
 mv 99 98 4 [98],
 og 100 (.move (.tmp 16)) 3 99 false [],
 og 101 (.move (.tmp 10)) 3 99 false [],
 og 102 (.binOp .gtr 3 (.tmp 100) (.tmp 101) 3) 4 99 false [100, 101],
 oq 103 (.pick (.tmp 99) (.const (.bool true)) (.tmp 102)) 4 [99, 102]])
 (.cond (.tmp 103)
 (.reg [mv 104 16 3 [16],
 sg 10 104 3 [104]])
 .skip)))))))
 (.reg [bn 105 .add 3 54 1 3 3 [54],
 mv 54 105 3 [105]]))))
def F114.c : SC :=
 (.seq
 (.reg [oq 3 (.box 81 (.tmp 0)) 0 [0],
 oq 5 (.box 57 (.tmp 2)) 0 [2],
 sn 6 0 3 [6],
 sb 7 false 4 [7]])
 (.seq
 (.seq
 (.reg [fa 17 57 5 0 [],
 ld 18 3 17 [17],
 bn 19 .neq 3 18 (-1) 3 4 [18]])
 (.cond (.tmp 19)
 (.seq
 (.reg [ld 21 81 3 [3],
 fa 22 57 5 0 [],
 ld 23 3 22 [22],
 cf2 24 132 21 23 81 3 136 [21, 23],
 mv 20 24 136 [24],
 xt 25 20 0 135 [],
 xt 26 20 1 4 [20],
 oq 8 (.alloc 135) 0 [],
 ⟨none, .store 135 (.tmp 8) (.tmp 25), 0, none, [25]⟩,
 sg 9 26 4 [26]])
 (.seq
 (.dreg [fa 27 135 8 1 [],
 ld 28 3 27 [],
 mv 29 9 4 [],
 mv 30 29 4 [],
 og 31 (.fieldAddr 135 (.tmp 8) 0) 0 30 true [],
 og 32 (.load 3 (.tmp 31)) 3 30 true [],
 og 33 (.move (.tmp 1)) 3 30 true [],
 og 34 (.binOp .eql 3 (.tmp 32) (.tmp 33) 3) 4 30 true [],
 oq 35 (.pick (.tmp 30) (.tmp 34) (.const (.bool false))) 4 [],
 mv 36 35 4 [],
 og 37 (.fieldAddr 57 (.tmp 5) 1) 0 36 true [],
 og 38 (.load 37 (.tmp 37)) 37 36 true [],
 og 39 (.call ⟨.builtin .len, #[.tmp 38], #[37]⟩) 3 36 true [],
 og 40 (.binOp .eql 3 (.tmp 39) (.const (.int .i64 0)) 3) 4 36 true [],
 oq 41 (.pick (.tmp 36) (.tmp 40) (.const (.bool false))) 4 [],
 sg 6 28 3 [],
 sg 7 41 4 []] [[], [0], [], [2], [2, 3], [2, 3, 4], [2, 3], [2, 3, 4, 5, 6], [2, 3, 4, 5, 6, 7], [2, 3, 4, 5, 6, 7, 8], [2, 3, 4, 5, 6, 7, 8, 9], [2, 3, 4, 5, 6, 7, 8, 9, 10], [2, 3, 4, 5, 6, 7, 8, 9, 10, 11], [2, 3, 4, 5, 6, 7, 8, 9, 10, 11, 12], [2, 3, 4, 5, 6, 7, 8, 9, 10, 11, 12, 13], [0, 1, 2, 3, 4, 5, 6, 7, 8, 9], [2, 3, 4, 5, 6, 7, 8, 9, 10, 11, 12, 13, 14, 0, 1, 15]] [1, 5, 8, 9, 27, 28, 29, 30, 31, 32, 33, 34, 35, 36, 37, 38, 39, 40, 41])
 .ret))
 .skip))
 (.seq
 (.seq
 (.reg [fa 42 57 5 1 [],
 ld 43 37 42 [42],
 ln 44 43 37 3 [43],
 fa 45 81 3 0 [],
 fa 46 27 45 0 [45],
 fa 47 24 46 0 [46],
 ld 48 22 47 [47],
 ln 49 48 22 3 [48],
 b2 50 .neq 3 44 49 3 4 [44, 49]])
 (.cond (.tmp 50)
 (.seq
 (.reg [sn 6 0 3 [],
 sb 7 false 4 []])
 .ret)
 .skip))
 (.seq
 (.reg [sn 10 (-3000) 3 []])
 (.seq
 (.seq
 (.reg [fa 51 57 5 1 [5],
 ld 52 37 51 [51],
 ln 53 52 37 3 [],
 oq 54 (.move (.const (.int .i64 0))) 3 []])
 (.block 0
 (.loop F114.s0)))
 (.seq
 (.reg [mv 106 10 3 [10],
 sg 6 106 3 [106],
 sb 7 true 4 []])
 .ret))))))
theorem F114.rs : Tryz.f114.results.toList = [.tmp 6, .tmp 7] := rfl
def heat_furnace_showsHigh.b0 (k : Nat) (f0 : heat_furnace) (place1 : Int) (p2 : HeatProof) : (Int × Int) → Option (Stp (Int × Int) (Int) (Int × Bool)) := fun (s : Int × Int) => match s with
 | (i6, i7) =>
   bif decide (i7 < (p2.By.length : Int)) then
    (at? p2.By i7).bind fun x10 =>
    bif (!decide (x10 = (-1 : Int))) then
     (heat_furnace_told k f0 x10).bind fun x12 =>
     bif (!x12.2) then
      some (.ret (0, false))
     else
      (at? f0.Firing.Kiln.Falls i7).bind fun x14 =>
      (at? x14 x12.1.place).bind fun x15 =>
      (at? x14 place1).bind fun x16 =>
      bif (!decide (i7 = (0 : Int))) then
       bif decide (i6 < w64 ((w64 (x12.1.heat + x15.Hi)) - x16.Lo)) then
        some (.next (w64 ((w64 (x12.1.heat + x15.Hi)) - x16.Lo), w64 (i7 + 1)))
       else
        some (.next (i6, w64 (i7 + 1)))
      else
       some (.next (w64 ((w64 (x12.1.heat + x15.Hi)) - x16.Lo), w64 (i7 + 1)))
    else
     (at? f0.Firing.Kiln.Falls i7).bind fun x19 =>
     (at? x19 place1).bind fun x20 =>
     bif (!decide (i7 = (0 : Int))) then
      bif decide (i6 < w64 (3000 - x20.Lo)) then
       some (.next (w64 (3000 - x20.Lo), w64 (i7 + 1)))
      else
       some (.next (i6, w64 (i7 + 1)))
     else
      some (.next (w64 (3000 - x20.Lo), w64 (i7 + 1)))
   else
    some (.brk i6)
noncomputable def heat_furnace_showsHigh.h0 (f0 : heat_furnace) (place1 : Int) (p2 : HeatProof) : (Int × Int) → St := fun (s : Int × Int) => match s with
 | (i6, i7) => ⟨[(1, .int .i64 place1), (3, .ptr 0 0 0), (10, .int .i64 i6), (52, .sl 1 (List.map eI p2.By)), (53, .int .i64 (p2.By.length : Int)), (54, .int .i64 i7)], [(0, .box [.sl 1 (List.map (eL 2 Range.c) f0.Firing.Kiln.Falls), .sl 6 (List.map Reading.c f0.Firing.Readings), .sl 3 (List.map heat_limit.c f0.least), .sl 3 (List.map heat_limit.c f0.most)])], [], 1, Tryz.f114.ntmps⟩
noncomputable def heat_furnace_showsHigh.x0 : Int → St := fun (i8 : Int) => ⟨[(10, .int .i64 i8)], [], [], 1, Tryz.f114.ntmps⟩
def heat_furnace_showsHigh (k : Nat) (f0 : heat_furnace) (place1 : Int) (p2 : HeatProof) : Option (Int × Bool) :=
 bif (!decide (p2.Reading = (-1 : Int))) then
  (heat_furnace_told k f0 p2.Reading).bind fun x2 =>
  bif x2.2 then
   bif decide (x2.1.place = place1) then
    some (x2.1.heat, decide ((p2.By.length : Int) = (0 : Int)))
   else
    some (x2.1.heat, false)
  else
   some (x2.1.heat, false)
 else
  bif (!decide ((p2.By.length : Int) = (f0.Firing.Kiln.Falls.length : Int))) then
   some (0, false)
  else
   (whl (heat_furnace_showsHigh.b0 k f0 place1 p2) k (-3000, 0)).bind fun r23 => match r23 with
   | .next _ => none
   | .ret v_ => some v_
   | .brk i8 =>
    some (i8, true)
theorem heat_furnace_showsHigh_ok (k : Nat) (f0 : heat_furnace) (place1 : Int) (p2 : HeatProof) (r : Int × Bool) (h0 : heat_furnace_showsHigh k f0 place1 p2 = some r) : PCall Tryz.prog 114 [.agg (heat_furnace.c f0), .int .i64 place1, .agg (HeatProof.c p2)] (fun y => y = .tup [.int .i64 r.1, .bool r.2]) := by
 refine PB (fn := Tryz.f114) (sc := F114.c) ?_
 refine rS ?_
 simp only [heat_furnace_showsHigh] at h0
 try simp only [F114.c, go_sem]
 refine AKev_bif h0 ?_ ?_ <;> intro c1 h0
 have c1 := bnot_t c1
 try simp only [c1, go_sem]
 obtain ⟨x2, yx2, h0⟩ := bs h0
 refine zc0 (heat_furnace_told_ok k _ _ _ yx2) ?_ (by first | rfl | simp [AV.refsL, AV.refs, AV.scal, AV.leaf]) ?_
 try simp only [c1, go_sem]
 try simp only [c1, go_sem]
 refine AKev_region T_ok follows_ok 1000 ?_
 try simp only [c1, go_sem]
 refine DG_bif h0 ?_ ?_ <;> intro c3 h0
 try simp only [c3, c1, go_sem]
 refine DG_bif h0 ?_ ?_ <;> intro c4 h0
 try simp only [c4, c1, c3, go_sem]
 refine DG_done ⟨rfl, run_sound T_ok 1000 _ _ ?_⟩
 try simp only [c1, c3, c4, go_sem]
 obtain rfl := Option.some.inj h0
 refine AKev_ret rfl ?_
 try simp only [F114.rs, c1, c3, c4, go_sem]
 try simp only [c4, c1, c3, go_sem]
 refine DG_done ⟨rfl, run_sound T_ok 1000 _ _ ?_⟩
 try simp only [c1, c3, c4, go_sem]
 obtain rfl := Option.some.inj h0
 refine AKev_ret rfl ?_
 try simp only [F114.rs, c1, c3, c4, go_sem]
 try simp only [c3, c1, go_sem]
 refine DG_done ⟨rfl, run_sound T_ok 1000 _ _ ?_⟩
 try simp only [c1, c3, go_sem]
 obtain rfl := Option.some.inj h0
 refine AKev_ret rfl ?_
 try simp only [F114.rs, c1, c3, go_sem]
 have c1 := bnot_f c1
 try simp only [c1, go_sem]
 refine AKev_bif h0 ?_ ?_ <;> intro c5 h0
 have c5 := bnot_t c5
 try simp only [c5, c1, go_sem]
 obtain rfl := Option.some.inj h0
 refine AKev_ret rfl ?_
 try simp only [F114.rs, c1, c5, go_sem]
 have c5 := bnot_f c5
 try simp only [c5, c1, go_sem]
 obtain ⟨r23, yr23, h0⟩ := bs h0
 refine AKev_loopS yr23 (heat_furnace_showsHigh.h0 f0 place1 p2) (heat_furnace_showsHigh.x0) ?_ ?_ ?_
 refine Weak.go [1, 3, 10, 52, 53, 54] [0] rfl ?_
 try simp only [heat_furnace_showsHigh.h0, c1, c5, go_sem]
 rintro ⟨i6, i7⟩ x_1 Bk1 Br1 h1 hnext1 hbrk1 hret1
 refine rS ?_
 simp only [heat_furnace_showsHigh.b0] at h1
 try simp only [F114.s0, heat_furnace_showsHigh.h0, c1, c5, go_sem]
 refine AKev_bif h1 ?_ ?_ <;> intro c9 h1
 try simp only [c9, c1, c5, go_sem]
 obtain ⟨x10, yx10, h1⟩ := bs h1
 try simp only [aa yx10, c1, c5, c9, go_sem]
 refine AKev_bif h1 ?_ ?_ <;> intro c11 h1
 have c11 := bnot_t c11
 try simp only [c11, c1, c5, c9, aa yx10, go_sem]
 obtain ⟨x12, yx12, h1⟩ := bs h1
 refine zc0 (heat_furnace_told_ok k _ _ _ yx12) ?_ (by first | rfl | simp [AV.refsL, AV.refs, AV.scal, AV.leaf]) ?_
 try simp only [c1, c5, c9, aa yx10, c11, go_sem]
 try simp only [c1, c5, c9, aa yx10, c11, go_sem]
 refine AKev_bif h1 ?_ ?_ <;> intro c13 h1
 have c13 := bnot_t c13
 try simp only [c13, c1, c5, c9, aa yx10, c11, go_sem]
 obtain rfl := hret1 _ (Option.some.inj h1).symm
 simp only at h0
 obtain rfl := Option.some.inj h0
 refine AKev_ret rfl ?_
 try simp only [F114.rs, c1, c5, c9, aa yx10, c11, c13, go_sem]
 have c13 := bnot_f c13
 try simp only [c13, c1, c5, c9, aa yx10, c11, go_sem]
 refine AKev_region T_ok follows_ok 1000 ?_
 try simp only [c1, c5, c9, aa yx10, c11, c13, go_sem]
 obtain ⟨x14, yx14, h1⟩ := bs h1
 try simp only [aa yx14, c1, c5, c9, aa yx10, c11, c13, go_sem]
 obtain ⟨x15, yx15, h1⟩ := bs h1
 try simp only [aa yx15, c1, c5, c9, aa yx10, c11, c13, aa yx14, go_sem]
 refine DG_done ⟨rfl, run_sound T_ok 1000 _ _ ?_⟩
 try simp only [aa yx14, c1, c5, c9, aa yx10, c11, c13, aa yx15, go_sem]
 obtain ⟨x16, yx16, h1⟩ := bs h1
 try simp only [aa yx16, c1, c5, c9, aa yx10, c11, c13, aa yx14, aa yx15, go_sem]
 refine AKev_bif h1 ?_ ?_ <;> intro c17 h1
 have c17 := bnot_t c17
 try simp only [c17, c1, c5, c9, aa yx10, c11, c13, aa yx14, aa yx15, aa yx16, go_sem]
 refine AKev_bif h1 ?_ ?_ <;> intro c18 h1
 try simp only [c18, c1, c5, c9, aa yx10, c11, c13, aa yx14, aa yx15, aa yx16, c17, go_sem]
 refine AKev_backB (hnext1 _ _ (Option.some.inj h1).symm ?_)
 refine Weak.go [1, 3, 10, 52, 53, 54] [0] rfl ?_
 try simp only [heat_furnace_showsHigh.h0, c1, c5, c9, aa yx10, c11, c13, aa yx14, aa yx15, aa yx16, c17, c18, go_sem]
 try simp only [c18, c1, c5, c9, aa yx10, c11, c13, aa yx14, aa yx15, aa yx16, c17, go_sem]
 refine AKev_backB (hnext1 _ _ (Option.some.inj h1).symm ?_)
 refine Weak.go [1, 3, 10, 52, 53, 54] [0] rfl ?_
 try simp only [heat_furnace_showsHigh.h0, c1, c5, c9, aa yx10, c11, c13, aa yx14, aa yx15, aa yx16, c17, c18, go_sem]
 have c17 := bnot_f c17
 try simp only [c17, c1, c5, c9, aa yx10, c11, c13, aa yx14, aa yx15, aa yx16, go_sem]
 refine AKev_backB (hnext1 _ _ (Option.some.inj h1).symm ?_)
 refine Weak.go [1, 3, 10, 52, 53, 54] [0] rfl ?_
 try simp only [heat_furnace_showsHigh.h0, c1, c5, c9, aa yx10, c11, c13, aa yx14, aa yx15, aa yx16, c17, go_sem]
 have c11 := bnot_f c11
 try simp only [c11, c1, c5, c9, aa yx10, go_sem]
 obtain ⟨x19, yx19, h1⟩ := bs h1
 try simp only [aa yx19, c1, c5, c9, aa yx10, c11, go_sem]
 obtain ⟨x20, yx20, h1⟩ := bs h1
 try simp only [aa yx20, c1, c5, c9, aa yx10, c11, aa yx19, go_sem]
 refine AKev_bif h1 ?_ ?_ <;> intro c21 h1
 have c21 := bnot_t c21
 try simp only [c21, c1, c5, c9, aa yx10, c11, aa yx19, aa yx20, go_sem]
 refine AKev_bif h1 ?_ ?_ <;> intro c22 h1
 try simp only [c22, c1, c5, c9, aa yx10, c11, aa yx19, aa yx20, c21, go_sem]
 refine AKev_backB (hnext1 _ _ (Option.some.inj h1).symm ?_)
 refine Weak.go [1, 3, 10, 52, 53, 54] [0] rfl ?_
 try simp only [heat_furnace_showsHigh.h0, c1, c5, c9, aa yx10, c11, aa yx19, aa yx20, c21, c22, go_sem]
 try simp only [c22, c1, c5, c9, aa yx10, c11, aa yx19, aa yx20, c21, go_sem]
 refine AKev_backB (hnext1 _ _ (Option.some.inj h1).symm ?_)
 refine Weak.go [1, 3, 10, 52, 53, 54] [0] rfl ?_
 try simp only [heat_furnace_showsHigh.h0, c1, c5, c9, aa yx10, c11, aa yx19, aa yx20, c21, c22, go_sem]
 have c21 := bnot_f c21
 try simp only [c21, c1, c5, c9, aa yx10, c11, aa yx19, aa yx20, go_sem]
 refine AKev_backB (hnext1 _ _ (Option.some.inj h1).symm ?_)
 refine Weak.go [1, 3, 10, 52, 53, 54] [0] rfl ?_
 try simp only [heat_furnace_showsHigh.h0, c1, c5, c9, aa yx10, c11, aa yx19, aa yx20, c21, go_sem]
 try simp only [c9, c1, c5, go_sem]
 refine AKev_backB (hbrk1 _ _ (Option.some.inj h1).symm ?_)
 refine Weak.go [10] [] rfl ?_
 try simp only [heat_furnace_showsHigh.x0, c1, c5, c9, go_sem]
 rintro i8 hr_
 subst hr_
 simp only at h0
 refine rS ?_
 try simp only [heat_furnace_showsHigh.x0, c1, c5, go_sem]
 obtain rfl := Option.some.inj h0
 refine AKev_ret rfl ?_
 try simp only [F114.rs, c1, c5, go_sem]
def F134.c : SC :=
 (.seq
 (.reg [oq 2 (.box 135 (.tmp 0)) 0 [0],
 sb 3 false 4 [3]])
 (.seq
 (.reg [fa 4 135 2 2 [2],
 ld 5 3 4 [4],
 fa 6 57 1 0 [1],
 ld 7 3 6 [6],
 b2 8 .eql 3 5 7 3 4 [5, 7],
 sg 3 8 4 [8]])
 .ret))
theorem F134.rs : Tryz.f134.results.toList = [.tmp 3] := rfl
def heat_furnace_showsLow_1 (k : Nat) (x0 : heat_limit) (c1 : HeatProof) : Option (Bool) :=
 some (decide (x0.by_ = c1.Reading))
theorem heat_furnace_showsLow_1_ok (k : Nat) (x0 : heat_limit) (c1 : HeatProof) (r : Bool) (h0 : heat_furnace_showsLow_1 k x0 c1 = some r) : PCall Tryz.prog 134 [.agg (heat_limit.c x0), .rptr 2 [HeatProof.c c1] 0 0] (fun y => y = .bool r) := by
 refine PB (fn := Tryz.f134) (sc := F134.c) ?_
 refine rS ?_
 simp only [heat_furnace_showsLow_1] at h0
 try simp only [F134.c, go_sem]
 obtain rfl := Option.some.inj h0
 refine AKev_ret rfl ?_
 try simp only [F134.rs, go_sem]
def F115.s0 : SC :=
 (.seq
 (.reg [b2 87 .lss 3 86 85 3 0 []])
 (.seq
 (.cond (.tmp 87)
 .skip
 (.exit 0))
 (.seq
 (.block 1
 (.seq
 (.reg [mv 88 86 3 [],
 ia 89 37 84 86 [],
 ld 90 3 89 [89],
 sg 11 88 3 [88],
 sg 12 90 3 [90]])
 (.seq
 (.dreg [fa 91 135 10 1 [],
 ld 92 3 91 [],
 fa 93 81 3 0 [],
 fa 94 27 93 0 [],
 fa 95 24 94 0 [],
 ld 96 22 95 [],
 mv 97 11 3 [],
 ia 98 22 96 97 [],
 ld 99 89 98 [],
 fa 100 135 10 0 [],
 ld 101 3 100 [],
 ia 102 89 99 101 [],
 fa 103 30 102 0 [],
 ld 104 3 103 [],
 b2 105 .add 3 92 104 3 3 [],
 sg 13 105 3 []] [[], [0], [], [2], [2, 3], [2, 3, 4], [], [2, 3, 4, 5, 6], [2, 3, 4, 5, 6, 7], [], [9], [2, 3, 4, 5, 6, 7, 8, 9, 10], [2, 3, 4, 5, 6, 7, 8, 9, 10, 11], [2, 3, 4, 5, 6, 7, 8, 9, 10, 11, 12], [0, 1, 2, 3, 4, 5, 6, 7, 8, 9, 10, 11, 12, 13], [0, 1, 2, 3, 4, 5, 6, 7, 8, 9, 10, 11, 12, 13, 14]] [91, 92, 93, 94, 95, 96, 97, 98, 99, 100, 101, 102, 103, 104, 105])
 (.seq
 (.reg [mv 106 12 3 []])
 (.block 2
 (.seq
 (.reg [bn 135 .eql 3 106 (-1) 3 4 [],
 sg 134 135 4 [135]])
 (.cond (.tmp 134)
 (.seq
 (.reg [mv 136 13 3 [13],
 fa 137 81 3 0 [],
 fa 138 27 137 0 [137],
 fa 139 24 138 0 [138],
 ld 140 22 139 [139],
 mv 141 11 3 [11],
 ia 142 22 140 141 [140, 141],
 ld 143 89 142 [142],
 mv 144 1 3 [],
 ia 145 89 143 144 [143, 144],
 fa 146 30 145 1 [145],
 ld 147 3 146 [146],
 b2 148 .sub 3 136 147 3 3 [136, 147],
 sg 14 148 3 [148]])
 (.seq
 (.reg [mv 149 7 4 [],
 mv 150 149 4 [149],
 og 151 (.move (.tmp 14)) 3 150 false [],
 og 152 (.move (.tmp 6)) 3 150 false [],
 og 153 (.binOp .lss 3 (.tmp 151) (.tmp 152) 3) 4 150 false [151, 152],
 oq 154 (.pick (.tmp 150) (.const (.bool true)) (.tmp 153)) 4 [150, 153]])
 (.cond (.tmp 154)
 (.reg [mv 155 14 3 [14],
 sg 6 155 3 [155],
 sb 7 false 4 []])
 .skip)))
 (.seq
 (.reg [bn 157 .eql 3 106 (-2) 3 4 [106],
 sg 156 157 4 [157]])
 (.cond (.tmp 156)
 (.seq
 (.reg [mv 158 13 3 [13],
 bn 159 .leq 3 158 3000 3 4 [158]])
 (.cond (.tmp 159)
 (.seq
 (.reg [sn 6 0 3 [],
 sb 7 false 4 [],
 sb 8 false 4 []])
 .ret)
 .skip))
 (.seq
 (.reg [ld 108 81 3 [],
 mv 109 12 3 [12],
 cf2 110 132 108 109 81 3 136 [108, 109],
 mv 107 110 136 [110],
 xt 111 107 0 135 [],
 xt 112 107 1 4 [107],
 oq 15 (.alloc 135) 0 [],
 ⟨none, .store 135 (.tmp 15) (.tmp 111), 0, none, [111]⟩,
 sg 16 112 4 [112]])
 (.seq
 (.dreg [mv 113 16 4 [],
 oq 114 (.unOp .not 4 (.tmp 113)) 4 [],
 mv 115 114 4 [],
 og 116 (.move (.tmp 13)) 3 115 false [],
 og 117 (.fieldAddr 135 (.tmp 15) 1) 0 115 false [],
 og 118 (.load 3 (.tmp 117)) 3 115 false [],
 og 119 (.fieldAddr 81 (.tmp 3) 0) 0 115 false [],
 og 120 (.fieldAddr 27 (.tmp 119) 0) 0 115 false [],
 og 121 (.fieldAddr 24 (.tmp 120) 0) 0 115 false [],
 og 122 (.load 22 (.tmp 121)) 22 115 false [],
 og 123 (.move (.tmp 11)) 3 115 false [],
 og 124 (.indexAddr 22 (.tmp 122) (.tmp 123)) 0 115 false [],
 og 125 (.load 89 (.tmp 124)) 89 115 false [],
 og 126 (.fieldAddr 135 (.tmp 15) 0) 0 115 false [],
 og 127 (.load 3 (.tmp 126)) 3 115 false [],
 og 128 (.indexAddr 89 (.tmp 125) (.tmp 127)) 0 115 false [],
 og 129 (.fieldAddr 30 (.tmp 128) 1) 0 115 false [],
 og 130 (.load 3 (.tmp 129)) 3 115 false [],
 og 131 (.binOp .add 3 (.tmp 118) (.tmp 130) 3) 3 115 false [],
 og 132 (.binOp .leq 3 (.tmp 116) (.tmp 131) 3) 4 115 false [],
 oq 133 (.pick (.tmp 115) (.const (.bool true)) (.tmp 132)) 4 []] [[], [0], [0, 1], [0, 1, 2], [0, 1, 2], [0, 1, 2, 4], [0, 1, 2], [0, 1, 2, 6], [0, 1, 2, 6, 7], [0, 1, 2, 6, 7, 8], [0, 1, 2], [0, 1, 2, 6, 7, 8, 9, 10], [0, 1, 2, 6, 7, 8, 9, 10, 11], [0, 1, 2], [0, 1, 2, 13], [0, 1, 2, 6, 7, 8, 9, 10, 11, 12, 13, 14], [0, 1, 2, 6, 7, 8, 9, 10, 11, 12, 13, 14, 15], [0, 1, 2, 6, 7, 8, 9, 10, 11, 12, 13, 14, 15, 16], [0, 1, 2, 4, 5, 6, 7, 8, 9, 10, 11, 12, 13, 14, 15, 16, 17], [0, 1, 2, 3, 4, 5, 6, 7, 8, 9, 10, 11, 12, 13, 14, 15, 16, 17, 18], [0, 1, 2, 3, 4, 5, 6, 7, 8, 9, 10, 11, 12, 13, 14, 15, 16, 17, 18, 19]] [11, 13, 15, 16, 113, 114, 115, 116, 117, 118, 119, 120, 121, 122, 123, 124, 125, 126, 127, 128, 129, 130, 131, 132])
 (.cond (.tmp 133)
 (.seq
 (.reg [sn 6 0 3 [],
 sb 7 false 4 [],
 sb 8 false 4 []])
 .ret)
 .skip))))))))))))
 (.reg [bn 160 .add 3 86 1 3 3 [86],
 mv 86 160 3 [160]]))))
def F115.c : SC :=
 (.seq
 (.reg [oq 3 (.box 81 (.tmp 0)) 0 [0],
 oq 5 (.box 57 (.tmp 2)) 0 [2],
 sn 6 0 3 [],
 sb 7 false 4 [7],
 sb 8 false 4 [8]])
 (.seq
 (.seq
 (.reg [fa 17 57 5 0 [],
 ld 18 3 17 [17],
 bn 19 .eql 3 18 (-2) 3 4 [18]])
 (.cond (.tmp 19)
 (.seq
 (.seq
 (.dreg [fa 20 57 5 1 [],
 ld 21 37 20 [],
 ln 22 21 37 3 [],
 bn 23 .neq 3 22 1 3 4 [],
 mv 24 23 4 [],
 og 25 (.fieldAddr 57 (.tmp 5) 1) 0 24 false [],
 og 26 (.load 37 (.tmp 25)) 37 24 false [],
 og 27 (.indexAddr 37 (.tmp 26) (.const (.int .i64 0))) 0 24 false [],
 og 28 (.load 3 (.tmp 27)) 3 24 false [],
 og 29 (.fieldAddr 81 (.tmp 3) 0) 0 24 false [],
 og 30 (.fieldAddr 27 (.tmp 29) 0) 0 24 false [],
 og 31 (.fieldAddr 24 (.tmp 30) 0) 0 24 false [],
 og 32 (.load 22 (.tmp 31)) 22 24 false [],
 og 33 (.call ⟨.builtin .len, #[.tmp 32], #[22]⟩) 3 24 false [],
 og 34 (.binOp .sub 3 (.tmp 33) (.const (.int .i64 1)) 3) 3 24 false [],
 og 35 (.call ⟨.value (.func 58), #[.tmp 28, .const (.int .i64 0), .tmp 34], #[3, 3, 3]⟩) 4 24 false [],
 og 36 (.unOp .not 4 (.tmp 35)) 4 24 false [],
 oq 37 (.pick (.tmp 24) (.const (.bool true)) (.tmp 36)) 4 []] [[], [0], [0, 1], [0, 1, 2], [0, 1, 2, 3], [0, 1, 2, 3, 4], [0, 1, 2, 3, 4, 5], [0, 1, 2, 3, 4, 5, 6], [0, 1, 2, 3, 4, 5, 6, 7], [0, 1, 2, 3, 4], [0, 1, 2, 3, 4, 9], [0, 1, 2, 3, 4, 9, 10], [0, 1, 2, 3, 4, 9, 10, 11], [0, 1, 2, 3, 4, 9, 10, 11, 12], [0, 1, 2, 3, 4, 9, 10, 11, 12, 13], [0, 1, 2, 3, 4, 5, 6, 7, 8, 9, 10, 11, 12, 13, 14], [0, 1, 2, 3, 4, 5, 6, 7, 8, 9, 10, 11, 12, 13, 14, 15], [0, 1, 2, 3, 4, 5, 6, 7, 8, 9, 10, 11, 12, 13, 14, 15, 16]] [20, 21, 22, 23, 24, 25, 26, 27, 28, 29, 30, 31, 32, 33, 34, 35, 36])
 (.cond (.tmp 37)
 (.seq
 (.reg [sn 6 0 3 [],
 sb 7 false 4 [],
 sb 8 false 4 []])
 .ret)
 .skip))
 (.seq
 (.dreg [fa 38 81 3 0 [],
 fa 39 27 38 0 [],
 fa 40 24 39 0 [],
 ld 41 22 40 [],
 fa 42 57 5 1 [],
 ld 43 37 42 [],
 oq 44 (.indexAddr 37 (.tmp 43) (.const (.int .i64 0))) 0 [],
 ld 45 3 44 [],
 ia 46 22 41 45 [],
 ld 47 89 46 [],
 mv 48 1 3 [],
 ia 49 89 47 48 [],
 fa 50 30 49 1 [],
 ld 51 3 50 [],
 oq 52 (.unOp .neg 3 (.tmp 51)) 3 [],
 sg 6 52 3 [],
 sb 7 false 4 [],
 sb 8 true 4 []] [[], [0], [0, 1], [0, 1, 2], [], [4], [4, 5], [4, 5, 6], [0, 1, 2, 3, 4, 5, 6, 7], [0, 1, 2, 3, 4, 5, 6, 7, 8], [], [0, 1, 2, 3, 4, 5, 6, 7, 8, 9, 10], [0, 1, 2, 3, 4, 5, 6, 7, 8, 9, 10, 11], [0, 1, 2, 3, 4, 5, 6, 7, 8, 9, 10, 11, 12], [0, 1, 2, 3, 4, 5, 6, 7, 8, 9, 10, 11, 12, 13], [0, 1, 2, 3, 4, 5, 6, 7, 8, 9, 10, 11, 12, 13, 14], [0, 1, 2, 3, 4, 5, 6, 7, 8, 9, 10, 11, 12, 13, 14, 15], [0, 1, 2, 3, 4, 5, 6, 7, 8, 9, 10, 11, 12, 13, 14, 15, 16]] [1, 3, 5, 38, 39, 40, 41, 42, 43, 44, 45, 46, 47, 48, 49, 50, 51, 52])
 .ret))
 .skip))
 (.seq
 (.reg [fa 53 81 3 1 [],
 ld 54 79 53 [53],
 oq 55 (.makeFunc (.func 134) #[] #[.tmp 5]) 159 [],
 cf2 56 133 54 55 79 159 3 [54, 55],
 sg 9 56 3 [56]])
 (.seq
 (.seq
 (.reg [mv 57 9 3 [],
 bn 58 .lss 3 57 0 3 4 [57]])
 (.cond (.tmp 58)
 (.seq
 (.reg [sn 6 0 3 [],
 sb 7 false 4 [],
 sb 8 false 4 []])
 .ret)
 .skip))
 (.seq
 (.reg [fa 59 81 3 1 [],
 ld 60 79 59 [59],
 mv 61 9 3 [9],
 ia 62 79 60 61 [60, 61],
 ld 63 135 62 [62],
 oq 10 (.alloc 135) 0 [],
 ⟨none, .store 135 (.tmp 10) (.tmp 63), 0, none, [63]⟩])
 (.seq
 (.seq
 (.reg [fa 64 135 10 0 [],
 ld 65 3 64 [64],
 mv 66 1 3 [],
 b2 67 .eql 3 65 66 3 4 [65, 66]])
 (.cond (.tmp 67)
 (.seq
 (.dreg [fa 68 135 10 1 [],
 ld 69 3 68 [],
 fa 70 57 5 1 [],
 ld 71 37 70 [],
 ln 72 71 37 3 [],
 bn 73 .eql 3 72 0 3 4 [],
 sg 6 69 3 [],
 sb 7 false 4 [],
 sg 8 73 4 []] [[], [0], [], [2], [2, 3], [2, 3, 4], [0, 1], [0, 1, 6], [2, 3, 4, 5, 0, 1, 6, 7]] [5, 10, 68, 69, 70, 71, 72, 73])
 .ret)
 .skip))
 (.seq
 (.seq
 (.reg [fa 74 57 5 1 [],
 ld 75 37 74 [74],
 ln 76 75 37 3 [75],
 fa 77 81 3 0 [],
 fa 78 27 77 0 [77],
 fa 79 24 78 0 [78],
 ld 80 22 79 [79],
 ln 81 80 22 3 [80],
 b2 82 .neq 3 76 81 3 4 [76, 81]])
 (.cond (.tmp 82)
 (.seq
 (.reg [sn 6 0 3 [],
 sb 7 false 4 [],
 sb 8 false 4 []])
 .ret)
 .skip))
 (.seq
 (.reg [sb 7 true 4 []])
 (.seq
 (.seq
 (.reg [fa 83 57 5 1 [5],
 ld 84 37 83 [83],
 ln 85 84 37 3 [],
 oq 86 (.move (.const (.int .i64 0))) 3 []])
 (.block 0
 (.loop F115.s0)))
 (.seq
 (.reg [mv 161 6 3 [6],
 mv 162 7 4 [7],
 sg 6 161 3 [161],
 sg 7 162 4 [162],
 sb 8 true 4 []])
 .ret))))))))))
theorem F115.rs : Tryz.f115.results.toList = [.tmp 6, .tmp 7, .tmp 8] := rfl
def heat_furnace_showsLow.b0 (k : Nat) (f0 : heat_furnace) (place1 : Int) (p2 : HeatProof) (x10 : heat_limit) : (Int × Bool × Int) → Option (Stp (Int × Bool × Int) (Int × Bool) (Int × Bool × Bool)) := fun (s : Int × Bool × Int) => match s with
 | (i13, b14, i15) =>
   bif decide (i15 < (p2.By.length : Int)) then
    (at? p2.By i15).bind fun x19 =>
    (at? f0.Firing.Kiln.Falls i15).bind fun x20 =>
    (at? x20 x10.place).bind fun x21 =>
    bif decide (x19 = (-1 : Int)) then
     (at? x20 place1).bind fun x23 =>
     bif (!b14) then
      bif decide (w64 ((w64 (x10.heat + x21.Lo)) - x23.Hi) < i13) then
       some (.next (w64 ((w64 (x10.heat + x21.Lo)) - x23.Hi), false, w64 (i15 + 1)))
      else
       some (.next (i13, b14, w64 (i15 + 1)))
     else
      some (.next (w64 ((w64 (x10.heat + x21.Lo)) - x23.Hi), false, w64 (i15 + 1)))
    else
     bif decide (x19 = (-2 : Int)) then
      bif decide (w64 (x10.heat + x21.Lo) ≤ (3000 : Int)) then
       some (.ret (0, false, false))
      else
       some (.next (i13, b14, w64 (i15 + 1)))
     else
      (heat_furnace_told k f0 x19).bind fun x28 =>
      bif x28.2 then
       (at? x20 x28.1.place).bind fun x30 =>
       bif decide (w64 (x10.heat + x21.Lo) ≤ w64 (x28.1.heat + x30.Hi)) then
        some (.ret (0, false, false))
       else
        some (.next (i13, b14, w64 (i15 + 1)))
      else
       some (.ret (0, false, false))
   else
    some (.brk (i13, b14))
noncomputable def heat_furnace_showsLow.h0 (f0 : heat_furnace) (place1 : Int) (p2 : HeatProof) (x10 : heat_limit) : (Int × Bool × Int) → St := fun (s : Int × Bool × Int) => match s with
 | (i13, b14, i15) => ⟨[(1, .int .i64 place1), (3, .ptr 0 0 0), (6, .int .i64 i13), (7, .bool b14), (10, .ptr 0 1 0), (84, .sl 1 (List.map eI p2.By)), (85, .int .i64 (p2.By.length : Int)), (86, .int .i64 i15)], [(0, .box [.sl 1 (List.map (eL 2 Range.c) f0.Firing.Kiln.Falls), .sl 6 (List.map Reading.c f0.Firing.Readings), .sl 3 (List.map heat_limit.c f0.least), .sl 3 (List.map heat_limit.c f0.most)]), (1, .box [.int .i64 x10.place, .int .i64 x10.heat, .int .i64 x10.by_])], [], 2, Tryz.f115.ntmps⟩
noncomputable def heat_furnace_showsLow.x0 : (Int × Bool) → St := fun (s : Int × Bool) => match s with
 | (i16, b17) => ⟨[(6, .int .i64 i16), (7, .bool b17)], [], [], 1, Tryz.f115.ntmps⟩
def heat_furnace_showsLow (k : Nat) (f0 : heat_furnace) (place1 : Int) (p2 : HeatProof) : Option (Int × Bool × Bool) :=
 bif decide (p2.Reading = (-2 : Int)) then
  bif decide ((p2.By.length : Int) = (1 : Int)) then
   (at? p2.By 0).bind fun x3 =>
   (heat_in k x3 0 (w64 ((f0.Firing.Kiln.Falls.length : Int) - 1))).bind fun x4 =>
   bif (!x4) then
    some (0, false, false)
   else
    (at? f0.Firing.Kiln.Falls x3).bind fun x6 =>
    (at? x6 place1).bind fun x7 =>
    some (w64 (0 - x7.Hi), false, true)
  else
   some (0, false, false)
 else
  (slices_IndexFunc_heat_limit k f0.least (fun q0 => heat_furnace_showsLow_1 k q0 p2)).bind fun x8 =>
  bif decide (x8 < (0 : Int)) then
   some (0, false, false)
  else
   (at? f0.least x8).bind fun x10 =>
   bif decide (x10.place = place1) then
    some (x10.heat, false, decide ((p2.By.length : Int) = (0 : Int)))
   else
    bif (!decide ((p2.By.length : Int) = (f0.Firing.Kiln.Falls.length : Int))) then
     some (0, false, false)
    else
     (whl (heat_furnace_showsLow.b0 k f0 place1 p2 x10) k (0, true, 0)).bind fun r32 => match r32 with
     | .next _ => none
     | .ret v_ => some v_
     | .brk (i16, b17) =>
      some (i16, b17, true)
theorem heat_furnace_showsLow_ok (k : Nat) (f0 : heat_furnace) (place1 : Int) (p2 : HeatProof) (r : Int × Bool × Bool) (h0 : heat_furnace_showsLow k f0 place1 p2 = some r) : PCall Tryz.prog 115 [.agg (heat_furnace.c f0), .int .i64 place1, .agg (HeatProof.c p2)] (fun y => y = .tup [.int .i64 r.1, .bool r.2.1, .bool r.2.2]) := by
 refine PB (fn := Tryz.f115) (sc := F115.c) ?_
 refine rS ?_
 simp only [heat_furnace_showsLow] at h0
 try simp only [F115.c, go_sem]
 refine AKev_bif h0 ?_ ?_ <;> intro c1 h0
 try simp only [c1, go_sem]
 refine AKev_region T_ok follows_ok 1000 ?_
 try simp only [c1, go_sem]
 refine DG_bif h0 ?_ ?_ <;> intro c2 h0
 try simp only [c2, c1, go_sem]
 obtain ⟨x3, yx3, h0⟩ := bs h0
 try simp only [aa yx3, c1, c2, go_sem]
 obtain ⟨x4, yx4, h0⟩ := bs h0
 refine DG_call0 1000 (heat_in_ok k _ _ _ _ yx4) ?_ (by first | rfl | simp [AV.refsL, AV.refs, AV.scal, AV.leaf]) ?_
 try simp only [c1, c2, aa yx3, go_sem]
 try simp only [c1, c2, aa yx3, go_sem]
 refine DG_done ⟨rfl, run_sound T_ok 1000 _ _ ?_⟩
 try simp only [c1, c2, aa yx3, go_sem]
 refine AKev_bif h0 ?_ ?_ <;> intro c5 h0
 have c5 := bnot_t c5
 try simp only [c5, c1, c2, aa yx3, go_sem]
 obtain rfl := Option.some.inj h0
 refine AKev_ret rfl ?_
 try simp only [F115.rs, c1, c2, aa yx3, c5, go_sem]
 have c5 := bnot_f c5
 try simp only [c5, c1, c2, aa yx3, go_sem]
 refine AKev_region T_ok follows_ok 1000 ?_
 try simp only [aa yx3, c1, c2, c5, go_sem]
 obtain ⟨x6, yx6, h0⟩ := bs h0
 try simp only [aa yx6, c1, c2, aa yx3, c5, go_sem]
 obtain ⟨x7, yx7, h0⟩ := bs h0
 try simp only [aa yx7, c1, c2, aa yx3, c5, aa yx6, go_sem]
 refine DG_done ⟨rfl, run_sound T_ok 1000 _ _ ?_⟩
 try simp only [c1, c2, aa yx3, c5, aa yx6, aa yx7, go_sem]
 obtain rfl := Option.some.inj h0
 refine AKev_ret rfl ?_
 try simp only [F115.rs, c1, c2, aa yx3, c5, aa yx6, aa yx7, go_sem]
 try simp only [c2, c1, go_sem]
 refine DG_done ⟨rfl, run_sound T_ok 1000 _ _ ?_⟩
 try simp only [c1, c2, go_sem]
 obtain rfl := Option.some.inj h0
 refine AKev_ret rfl ?_
 try simp only [F115.rs, c1, c2, go_sem]
 try simp only [c1, go_sem]
 obtain ⟨x8, yx8, h0⟩ := bs h0
 refine zcL (slices_IndexFunc_heat_limit_ok k _ 134 [.rptr 2 [HeatProof.c p2] 0 0] ⟨fun _ => rfl, fun _ => rfl, fun _ _ => rfl, rfl, fun _ => rfl, fun _ => rfl, fun _ => rfl⟩ (fun q0 => heat_furnace_showsLow_1 k q0 p2) (fun q0 qr qh => heat_furnace_showsLow_1_ok k q0 _ qr qh) _ yx8) ?_ (by first | rfl | simp [AV.refsL, AV.refs, AV.scal, AV.leaf]) ?_
 try simp only [c1, go_sem]
 try simp only [c1, go_sem]
 refine AKev_bif h0 ?_ ?_ <;> intro c9 h0
 try simp only [c9, c1, go_sem]
 obtain rfl := Option.some.inj h0
 refine AKev_ret rfl ?_
 try simp only [F115.rs, c1, c9, go_sem]
 try simp only [c9, c1, go_sem]
 obtain ⟨x10, yx10, h0⟩ := bs h0
 try simp only [aa yx10, c1, c9, go_sem]
 refine AKev_bif h0 ?_ ?_ <;> intro c11 h0
 try simp only [c11, c1, c9, aa yx10, go_sem]
 refine AKev_region T_ok follows_ok 1000 ?_
 try simp only [c1, c9, aa yx10, c11, go_sem]
 refine DG_done ⟨rfl, run_sound T_ok 1000 _ _ ?_⟩
 try simp only [c1, c9, aa yx10, c11, go_sem]
 obtain rfl := Option.some.inj h0
 refine AKev_ret rfl ?_
 try simp only [F115.rs, c1, c9, aa yx10, c11, go_sem]
 try simp only [c11, c1, c9, aa yx10, go_sem]
 refine AKev_bif h0 ?_ ?_ <;> intro c12 h0
 have c12 := bnot_t c12
 try simp only [c12, c1, c9, aa yx10, c11, go_sem]
 obtain rfl := Option.some.inj h0
 refine AKev_ret rfl ?_
 try simp only [F115.rs, c1, c9, aa yx10, c11, c12, go_sem]
 have c12 := bnot_f c12
 try simp only [c12, c1, c9, aa yx10, c11, go_sem]
 obtain ⟨r32, yr32, h0⟩ := bs h0
 refine AKev_loopS yr32 (heat_furnace_showsLow.h0 f0 place1 p2 x10) (heat_furnace_showsLow.x0) ?_ ?_ ?_
 refine Weak.go [1, 3, 6, 7, 10, 84, 85, 86] [0, 320] rfl ?_
 try simp only [heat_furnace_showsLow.h0, c1, c9, aa yx10, c11, c12, go_sem]
 rintro ⟨i13, b14, i15⟩ x_1 Bk1 Br1 h1 hnext1 hbrk1 hret1
 refine rS ?_
 simp only [heat_furnace_showsLow.b0] at h1
 try simp only [F115.s0, heat_furnace_showsLow.h0, c1, c9, aa yx10, c11, c12, go_sem]
 refine AKev_bif h1 ?_ ?_ <;> intro c18 h1
 try simp only [c18, c1, c9, aa yx10, c11, c12, go_sem]
 obtain ⟨x19, yx19, h1⟩ := bs h1
 try simp only [aa yx19, c1, c9, aa yx10, c11, c12, c18, go_sem]
 refine AKev_region T_ok follows_ok 1000 ?_
 try simp only [c1, c9, aa yx10, c11, c12, c18, aa yx19, go_sem]
 obtain ⟨x20, yx20, h1⟩ := bs h1
 try simp only [aa yx20, c1, c9, aa yx10, c11, c12, c18, aa yx19, go_sem]
 obtain ⟨x21, yx21, h1⟩ := bs h1
 try simp only [aa yx21, c1, c9, aa yx10, c11, c12, c18, aa yx19, aa yx20, go_sem]
 refine DG_done ⟨rfl, run_sound T_ok 1000 _ _ ?_⟩
 try simp only [c1, c9, aa yx10, c11, c12, c18, aa yx19, aa yx20, aa yx21, go_sem]
 refine AKev_bif h1 ?_ ?_ <;> intro c22 h1
 try simp only [c22, aa yx20, c1, c9, aa yx10, c11, c12, c18, aa yx19, aa yx21, go_sem]
 obtain ⟨x23, yx23, h1⟩ := bs h1
 try simp only [aa yx23, c1, c9, aa yx10, c11, c12, c18, aa yx19, aa yx20, aa yx21, c22, go_sem]
 refine AKev_bif h1 ?_ ?_ <;> intro c24 h1
 have c24 := bnot_t c24
 try simp only [c24, c1, c9, aa yx10, c11, c12, c18, aa yx19, aa yx20, aa yx21, c22, aa yx23, go_sem]
 refine AKev_bif h1 ?_ ?_ <;> intro c25 h1
 try simp only [c25, c1, c9, aa yx10, c11, c12, c18, aa yx19, aa yx20, aa yx21, c22, aa yx23, c24, go_sem]
 refine AKev_backB (hnext1 _ _ (Option.some.inj h1).symm ?_)
 refine Weak.go [1, 3, 6, 7, 10, 84, 85, 86] [0, 1] rfl ?_
 try simp only [heat_furnace_showsLow.h0, c1, c9, aa yx10, c11, c12, c18, aa yx19, aa yx20, aa yx21, c22, aa yx23, c24, c25, go_sem]
 try simp only [c25, c1, c9, aa yx10, c11, c12, c18, aa yx19, aa yx20, aa yx21, c22, aa yx23, c24, go_sem]
 refine AKev_backB (hnext1 _ _ (Option.some.inj h1).symm ?_)
 refine Weak.go [1, 3, 6, 7, 10, 84, 85, 86] [0, 1] rfl ?_
 try simp only [heat_furnace_showsLow.h0, c1, c9, aa yx10, c11, c12, c18, aa yx19, aa yx20, aa yx21, c22, aa yx23, c24, c25, go_sem]
 have c24 := bnot_f c24
 try simp only [c24, c1, c9, aa yx10, c11, c12, c18, aa yx19, aa yx20, aa yx21, c22, aa yx23, go_sem]
 refine AKev_backB (hnext1 _ _ (Option.some.inj h1).symm ?_)
 refine Weak.go [1, 3, 6, 7, 10, 84, 85, 86] [0, 1] rfl ?_
 try simp only [heat_furnace_showsLow.h0, c1, c9, aa yx10, c11, c12, c18, aa yx19, aa yx20, aa yx21, c22, aa yx23, c24, go_sem]
 try simp only [c22, c1, c9, aa yx10, c11, c12, c18, aa yx19, aa yx20, aa yx21, go_sem]
 refine AKev_bif h1 ?_ ?_ <;> intro c26 h1
 try simp only [c26, c1, c9, aa yx10, c11, c12, c18, aa yx19, aa yx20, aa yx21, c22, go_sem]
 refine AKev_bif h1 ?_ ?_ <;> intro c27 h1
 try simp only [c27, c1, c9, aa yx10, c11, c12, c18, aa yx19, aa yx20, aa yx21, c22, c26, go_sem]
 obtain rfl := hret1 _ (Option.some.inj h1).symm
 simp only at h0
 obtain rfl := Option.some.inj h0
 refine AKev_ret rfl ?_
 try simp only [F115.rs, c1, c9, aa yx10, c11, c12, c18, aa yx19, aa yx20, aa yx21, c22, c26, c27, go_sem]
 try simp only [c27, c1, c9, aa yx10, c11, c12, c18, aa yx19, aa yx20, aa yx21, c22, c26, go_sem]
 refine AKev_backB (hnext1 _ _ (Option.some.inj h1).symm ?_)
 refine Weak.go [1, 3, 6, 7, 10, 84, 85, 86] [0, 1] rfl ?_
 try simp only [heat_furnace_showsLow.h0, c1, c9, aa yx10, c11, c12, c18, aa yx19, aa yx20, aa yx21, c22, c26, c27, go_sem]
 try simp only [c26, c1, c9, aa yx10, c11, c12, c18, aa yx19, aa yx20, aa yx21, c22, go_sem]
 obtain ⟨x28, yx28, h1⟩ := bs h1
 refine zc0 (heat_furnace_told_ok k _ _ _ yx28) ?_ (by first | rfl | simp [AV.refsL, AV.refs, AV.scal, AV.leaf]) ?_
 try simp only [c1, c9, aa yx10, c11, c12, c18, aa yx19, aa yx20, aa yx21, c22, c26, go_sem]
 try simp only [c1, c9, aa yx10, c11, c12, c18, aa yx19, aa yx20, aa yx21, c22, c26, go_sem]
 refine AKev_region T_ok follows_ok 1000 ?_
 try simp only [c1, c9, aa yx10, c11, c12, c18, aa yx19, aa yx20, aa yx21, c22, c26, go_sem]
 refine DG_bif h1 ?_ ?_ <;> intro c29 h1
 try simp only [c29, aa yx20, c1, c9, aa yx10, c11, c12, c18, aa yx19, aa yx21, c22, c26, go_sem]
 obtain ⟨x30, yx30, h1⟩ := bs h1
 try simp only [aa yx30, c1, c9, aa yx10, c11, c12, c18, aa yx19, aa yx20, aa yx21, c22, c26, c29, go_sem]
 refine DG_done ⟨rfl, run_sound T_ok 1000 _ _ ?_⟩
 try simp only [c1, c9, aa yx10, c11, c12, c18, aa yx19, aa yx20, aa yx21, c22, c26, c29, aa yx30, go_sem]
 refine AKev_bif h1 ?_ ?_ <;> intro c31 h1
 try simp only [c31, c1, c9, aa yx10, c11, c12, c18, aa yx19, aa yx20, aa yx21, c22, c26, c29, aa yx30, go_sem]
 obtain rfl := hret1 _ (Option.some.inj h1).symm
 simp only at h0
 obtain rfl := Option.some.inj h0
 refine AKev_ret rfl ?_
 try simp only [F115.rs, c1, c9, aa yx10, c11, c12, c18, aa yx19, aa yx20, aa yx21, c22, c26, c29, aa yx30, c31, go_sem]
 try simp only [c31, c1, c9, aa yx10, c11, c12, c18, aa yx19, aa yx20, aa yx21, c22, c26, c29, aa yx30, go_sem]
 refine AKev_backB (hnext1 _ _ (Option.some.inj h1).symm ?_)
 refine Weak.go [1, 3, 6, 7, 10, 84, 85, 86] [0, 1] rfl ?_
 try simp only [heat_furnace_showsLow.h0, c1, c9, aa yx10, c11, c12, c18, aa yx19, aa yx20, aa yx21, c22, c26, c29, aa yx30, c31, go_sem]
 try simp only [c29, c1, c9, aa yx10, c11, c12, c18, aa yx19, aa yx20, aa yx21, c22, c26, go_sem]
 refine DG_done ⟨rfl, run_sound T_ok 1000 _ _ ?_⟩
 try simp only [c1, c9, aa yx10, c11, c12, c18, aa yx19, aa yx20, aa yx21, c22, c26, c29, go_sem]
 obtain rfl := hret1 _ (Option.some.inj h1).symm
 simp only at h0
 obtain rfl := Option.some.inj h0
 refine AKev_ret rfl ?_
 try simp only [F115.rs, c1, c9, aa yx10, c11, c12, c18, aa yx19, aa yx20, aa yx21, c22, c26, c29, go_sem]
 try simp only [c18, c1, c9, aa yx10, c11, c12, go_sem]
 refine AKev_backB (hbrk1 _ _ (Option.some.inj h1).symm ?_)
 refine Weak.go [6, 7] [] rfl ?_
 try simp only [heat_furnace_showsLow.x0, c1, c9, aa yx10, c11, c12, c18, go_sem]
 rintro ⟨i16, b17⟩ hr_
 subst hr_
 simp only at h0
 refine rS ?_
 try simp only [heat_furnace_showsLow.x0, c1, c9, aa yx10, c11, c12, go_sem]
 obtain rfl := Option.some.inj h0
 refine AKev_ret rfl ?_
 try simp only [F115.rs, c1, c9, aa yx10, c11, c12, go_sem]
def F65.c : SC :=
 (.seq
 (.reg [oq 5 (.box 27 (.tmp 0)) 0 [0],
 oq 9 (.box 57 (.tmp 4)) 0 [4],
 sn 10 0 33 [10]])
 (.seq
 (.block 0
 (.seq
 (.reg [ld 17 27 5 [],
 cf1 18 42 17 27 33 [17],
 bn 19 .neq 33 18 0 33 4 [18],
 sg 16 19 4 [19]])
 (.cond (.tmp 16)
 (.seq
 (.reg [sn 10 42 33 []])
 .ret)
 (.seq
 (.reg [mv 21 1 3 [],
 fa 22 27 5 0 [],
 fa 23 24 22 0 [22],
 ld 24 22 23 [23],
 oq 25 (.indexAddr 22 (.tmp 24) (.const (.int .i64 0))) 0 [24],
 ld 26 89 25 [25],
 ln 27 26 89 3 [26],
 bn 28 .sub 3 27 1 3 3 [27],
 oq 29 (.call ⟨.value (.func 58), #[.tmp 21, .const (.int .i64 0), .tmp 28], #[3, 3, 3]⟩) 4 [21, 28],
 oq 30 (.unOp .not 4 (.tmp 29)) 4 [29],
 sg 20 30 4 [30]])
 (.cond (.tmp 20)
 (.seq
 (.reg [sn 10 43 33 []])
 .ret)
 .skip)))))
 (.seq
 (.reg [ld 31 27 5 [5],
 cf1 32 66 31 27 81 [31],
 oq 11 (.alloc 81) 0 [],
 ⟨none, .store 81 (.tmp 11) (.tmp 32), 0, none, [32]⟩])
 (.seq
 (.reg [ld 34 81 11 [],
 mv 35 1 3 [],
 ld 36 57 9 [],
 oq 37 (.call ⟨.value (.func 114), #[.tmp 34, .tmp 35, .tmp 36], #[81, 3, 57]⟩) 126 [34, 35, 36],
 mv 33 37 126 [37],
 xt 38 33 0 3 [],
 xt 39 33 1 4 [33],
 sg 12 38 3 [38],
 sg 13 39 4 [39]])
 (.seq
 (.reg [mv 40 12 3 [12],
 mv 41 3 3 [],
 b2 42 .leq 3 40 41 3 4 [40, 41],
 sg 14 42 4 [42]])
 (.seq
 (.seq
 (.reg [mv 43 2 4 [2],
 oq 44 (.unOp .not 4 (.tmp 43)) 4 [43]])
 (.cond (.tmp 44)
 (.seq
 (.reg [sb 15 false 4 [15]])
 (.seq
 (.reg [ld 46 81 11 [11],
 mv 47 1 3 [1],
 ld 48 57 9 [9],
 oq 49 (.call ⟨.value (.func 115), #[.tmp 46, .tmp 47, .tmp 48], #[81, 3, 57]⟩) 143 [46, 47, 48],
 mv 45 49 143 [49],
 xt 50 45 0 3 [],
 xt 51 45 1 4 [],
 xt 52 45 2 4 [45],
 sg 12 50 3 [50],
 sg 15 51 4 [51],
 sg 13 52 4 [52]])
 (.reg [mv 53 15 4 [15],
 mv 54 53 4 [53],
 og 55 (.move (.tmp 12)) 3 54 false [12],
 og 56 (.move (.tmp 3)) 3 54 false [3],
 og 57 (.binOp .geq 3 (.tmp 55) (.tmp 56) 3) 4 54 false [55, 56],
 oq 58 (.pick (.tmp 54) (.const (.bool true)) (.tmp 57)) 4 [54, 57],
 sg 14 58 4 [58]])))
 .skip))
 (.seq
 (.block 1
 (.seq
 (.reg [mv 60 13 4 [13],
 oq 61 (.unOp .not 4 (.tmp 60)) 4 [60],
 sg 59 61 4 [61]])
 (.cond (.tmp 59)
 (.seq
 (.reg [sn 10 46 33 []])
 .ret)
 (.seq
 (.reg [mv 63 14 4 [14],
 oq 64 (.unOp .not 4 (.tmp 63)) 4 [63],
 sg 62 64 4 [64]])
 (.cond (.tmp 62)
 (.seq
 (.reg [sn 10 47 33 []])
 .ret)
 .skip)))))
 (.seq
 (.reg [sn 10 0 33 []])
 .ret))))))))
theorem F65.rs : Tryz.f65.results.toList = [.tmp 10] := rfl
def heat_CheckProof (k : Nat) (f0 : Firing) (place1 : Int) (high2 : Bool) (n3 : Int) (p4 : HeatProof) : Option (Int) :=
 (heat_Check k f0).bind fun x1 =>
 bif (!decide (x1 = (0 : Int))) then
  some 42
 else
  (at? f0.Kiln.Falls 0).bind fun x3 =>
  (heat_in k place1 0 (w64 ((x3.length : Int) - 1))).bind fun x4 =>
  bif (!x4) then
   some 43
  else
   (heat_newFurnace k f0).bind fun x6 =>
   (heat_furnace_showsHigh k x6 place1 p4).bind fun x7 =>
   bif (!high2) then
    (heat_furnace_showsLow k x6 place1 p4).bind fun x9 =>
    bif (!x9.2.1) then
     bif (!x9.2.2) then
      some 46
     else
      bif (!decide (n3 ≤ x9.1)) then
       some 47
      else
       some 0
    else
     bif (!x9.2.2) then
      some 46
     else
      some 0
   else
    bif (!x7.2) then
     some 46
    else
     bif (!decide (x7.1 ≤ n3)) then
      some 47
     else
      some 0
theorem heat_CheckProof_ok (k : Nat) (f0 : Firing) (place1 : Int) (high2 : Bool) (n3 : Int) (p4 : HeatProof) (r : Int) (h0 : heat_CheckProof k f0 place1 high2 n3 p4 = some r) : PCall Tryz.prog 65 [.agg (Firing.c f0), .int .i64 place1, .bool high2, .int .i64 n3, .agg (HeatProof.c p4)] (fun y => y = .int .i64 r) := by
 refine PB (fn := Tryz.f65) (sc := F65.c) ?_
 refine rS ?_
 simp only [heat_CheckProof] at h0
 try simp only [F65.c, go_sem]
 obtain ⟨x1, yx1, h0⟩ := bs h0
 refine zc0 (heat_Check_ok k _ _ yx1) ?_ (by first | rfl | simp [AV.refsL, AV.refs, AV.scal, AV.leaf]) ?_
 try simp only [go_sem]
 try simp only [go_sem]
 refine AKev_bif h0 ?_ ?_ <;> intro c2 h0
 have c2 := bnot_t c2
 try simp only [c2, go_sem]
 obtain rfl := Option.some.inj h0
 refine AKev_ret rfl ?_
 try simp only [F65.rs, c2, go_sem]
 have c2 := bnot_f c2
 try simp only [c2, go_sem]
 obtain ⟨x3, yx3, h0⟩ := bs h0
 try simp only [aa yx3, c2, go_sem]
 obtain ⟨x4, yx4, h0⟩ := bs h0
 refine zc0 (heat_in_ok k _ _ _ _ yx4) ?_ (by first | rfl | simp [AV.refsL, AV.refs, AV.scal, AV.leaf]) ?_
 try simp only [c2, aa yx3, go_sem]
 try simp only [c2, aa yx3, go_sem]
 refine AKev_bif h0 ?_ ?_ <;> intro c5 h0
 have c5 := bnot_t c5
 try simp only [c5, c2, aa yx3, go_sem]
 obtain rfl := Option.some.inj h0
 refine AKev_ret rfl ?_
 try simp only [F65.rs, c2, aa yx3, c5, go_sem]
 have c5 := bnot_f c5
 try simp only [c5, c2, aa yx3, go_sem]
 obtain ⟨x6, yx6, h0⟩ := bs h0
 refine zc0 (heat_newFurnace_ok k _ _ yx6) ?_ (by first | rfl | simp [AV.refsL, AV.refs, AV.scal, AV.leaf]) ?_
 try simp only [c2, aa yx3, c5, go_sem]
 try simp only [c2, aa yx3, c5, go_sem]
 obtain ⟨x7, yx7, h0⟩ := bs h0
 refine zc0 (heat_furnace_showsHigh_ok k _ _ _ _ yx7) ?_ (by first | rfl | simp [AV.refsL, AV.refs, AV.scal, AV.leaf]) ?_
 try simp only [c2, aa yx3, c5, go_sem]
 try simp only [c2, aa yx3, c5, go_sem]
 refine AKev_bif h0 ?_ ?_ <;> intro c8 h0
 have c8 := bnot_t c8
 try simp only [c8, c2, aa yx3, c5, go_sem]
 obtain ⟨x9, yx9, h0⟩ := bs h0
 refine zc0 (heat_furnace_showsLow_ok k _ _ _ _ yx9) ?_ (by first | rfl | simp [AV.refsL, AV.refs, AV.scal, AV.leaf]) ?_
 try simp only [c2, aa yx3, c5, c8, go_sem]
 try simp only [c2, aa yx3, c5, c8, go_sem]
 refine AKev_bif h0 ?_ ?_ <;> intro c10 h0
 have c10 := bnot_t c10
 try simp only [c10, c2, aa yx3, c5, c8, go_sem]
 refine AKev_bif h0 ?_ ?_ <;> intro c11 h0
 have c11 := bnot_t c11
 try simp only [c11, c2, aa yx3, c5, c8, c10, go_sem]
 obtain rfl := Option.some.inj h0
 refine AKev_ret rfl ?_
 try simp only [F65.rs, c2, aa yx3, c5, c8, c10, c11, go_sem]
 have c11 := bnot_f c11
 try simp only [c11, c2, aa yx3, c5, c8, c10, go_sem]
 refine AKev_bif h0 ?_ ?_ <;> intro c12 h0
 have c12 := bnot_t c12
 try simp only [c12, c2, aa yx3, c5, c8, c10, c11, go_sem]
 obtain rfl := Option.some.inj h0
 refine AKev_ret rfl ?_
 try simp only [F65.rs, c2, aa yx3, c5, c8, c10, c11, c12, go_sem]
 have c12 := bnot_f c12
 try simp only [c12, c2, aa yx3, c5, c8, c10, c11, go_sem]
 obtain rfl := Option.some.inj h0
 refine AKev_ret rfl ?_
 try simp only [F65.rs, c2, aa yx3, c5, c8, c10, c11, c12, go_sem]
 have c10 := bnot_f c10
 try simp only [c10, c2, aa yx3, c5, c8, go_sem]
 refine AKev_bif h0 ?_ ?_ <;> intro c13 h0
 have c13 := bnot_t c13
 try simp only [c13, c2, aa yx3, c5, c8, c10, go_sem]
 obtain rfl := Option.some.inj h0
 refine AKev_ret rfl ?_
 try simp only [F65.rs, c2, aa yx3, c5, c8, c10, c13, go_sem]
 have c13 := bnot_f c13
 try simp only [c13, c2, aa yx3, c5, c8, c10, go_sem]
 obtain rfl := Option.some.inj h0
 refine AKev_ret rfl ?_
 try simp only [F65.rs, c2, aa yx3, c5, c8, c10, c13, go_sem]
 have c8 := bnot_f c8
 try simp only [c8, c2, aa yx3, c5, go_sem]
 refine AKev_bif h0 ?_ ?_ <;> intro c14 h0
 have c14 := bnot_t c14
 try simp only [c14, c2, aa yx3, c5, c8, go_sem]
 obtain rfl := Option.some.inj h0
 refine AKev_ret rfl ?_
 try simp only [F65.rs, c2, aa yx3, c5, c8, c14, go_sem]
 have c14 := bnot_f c14
 try simp only [c14, c2, aa yx3, c5, c8, go_sem]
 refine AKev_bif h0 ?_ ?_ <;> intro c15 h0
 have c15 := bnot_t c15
 try simp only [c15, c2, aa yx3, c5, c8, c14, go_sem]
 obtain rfl := Option.some.inj h0
 refine AKev_ret rfl ?_
 try simp only [F65.rs, c2, aa yx3, c5, c8, c14, c15, go_sem]
 have c15 := bnot_f c15
 try simp only [c15, c2, aa yx3, c5, c8, c14, go_sem]
 obtain rfl := Option.some.inj h0
 refine AKev_ret rfl ?_
 try simp only [F65.rs, c2, aa yx3, c5, c8, c14, c15, go_sem]
def F15.c : SC :=
 (.seq
 (.reg [sb 0 false 4 [0]])
 (.seq
 (.reg [oq 12 (.call ⟨.value (.func 63), #[], #[]⟩) 27 [],
 cf1 13 48 12 27 47 [12],
 mv 11 13 47 [13],
 xt 14 11 0 37 [],
 xt 15 11 1 33 [11],
 sg 1 14 37 [14],
 sg 2 15 33 [15]])
 (.seq
 (.reg [oq 17 (.call ⟨.value (.func 63), #[], #[]⟩) 27 [],
 oq 18 (.call ⟨.value (.func 21), #[.tmp 17, .const (.int .i64 1)], #[27, 3]⟩) 52 [17],
 mv 16 18 52 [18],
 xt 19 16 0 30 [],
 xt 20 16 1 33 [16],
 oq 3 (.alloc 30) 0 [],
 ⟨none, .store 30 (.tmp 3) (.tmp 19), 0, none, [19]⟩,
 sg 4 20 33 [20]])
 (.seq
 (.reg [oq 22 (.call ⟨.value (.func 63), #[], #[]⟩) 27 [],
 oq 23 (.build 30 #[(0, .const (.int .i64 900)), (1, .const (.int .i64 950))]) 30 [],
 oq 24 (.call ⟨.value (.func 10), #[.tmp 22, .const (.int .i64 1), .tmp 23], #[27, 3, 30]⟩) 34 [22, 23],
 mv 21 24 34 [24],
 xt 25 21 0 3 [],
 xt 26 21 1 33 [21],
 sg 5 25 3 [25],
 sg 6 26 33 [26]])
 (.seq
 (.reg [oq 28 (.call ⟨.value (.func 64), #[], #[]⟩) 24 [],
 oq 29 (.call ⟨.value (.func 63), #[], #[]⟩) 27 [],
 oq 30 (.field 27 (.tmp 29) 1) 25 [29],
 oq 31 (.build 64 #[(0, .const (.int .i64 4)), (1, .const (.int .i64 1)), (2, .const (.int .i64 2)), (3, .const (.int .i64 600))]) 64 [],
 oq 32 (.buildSlice 25 1 #[(0, .tmp 31)]) 25 [31],
 oq 33 (.call ⟨.builtin .append, #[.tmp 30, .tmp 32], #[25, 25]⟩) 25 [30, 32],
 oq 34 (.build 27 #[(0, .tmp 28), (1, .tmp 33)]) 27 [28, 33],
 cf1 35 16 34 27 47 [34],
 mv 27 35 47 [35],
 xt 36 27 0 37 [],
 xt 37 27 1 33 [27],
 sg 7 36 37 [36],
 sg 8 37 33 [37]])
 (.seq
 (.reg [oq 38 (.call ⟨.value (.func 63), #[], #[]⟩) 27 [],
 oq 39 (.buildSlice 37 2 #[(0, .const (.int .i64 (-1))), (1, .const (.int .i64 2))]) 37 [],
 oq 40 (.build 57 #[(0, .const (.int .i64 0)), (1, .tmp 39)]) 57 [39],
 oq 41 (.call ⟨.value (.func 65), #[.tmp 38, .const (.int .i64 1), .const (.bool false), .const (.int .i64 700), .tmp 40], #[27, 3, 4, 3, 57]⟩) 33 [38, 40],
 sg 9 41 33 [41]])
 (.seq
 (.reg [mv 42 2 33 [2],
 bn 43 .eql 33 42 0 33 4 [42],
 mv 44 43 4 [43],
 og 45 (.move (.tmp 4)) 33 44 true [4],
 og 46 (.binOp .eql 33 (.tmp 45) (.const (.int .i64 0)) 33) 4 44 true [45],
 oq 47 (.pick (.tmp 44) (.tmp 46) (.const (.bool false))) 4 [44, 46],
 mv 48 47 4 [47],
 og 49 (.move (.tmp 6)) 33 48 true [6],
 og 50 (.binOp .eql 33 (.tmp 49) (.const (.int .i64 0)) 33) 4 48 true [49],
 oq 51 (.pick (.tmp 48) (.tmp 50) (.const (.bool false))) 4 [48, 50],
 mv 52 51 4 [51],
 og 53 (.move (.tmp 8)) 33 52 true [8],
 og 54 (.binOp .eql 33 (.tmp 53) (.const (.int .i64 0)) 33) 4 52 true [53],
 oq 55 (.pick (.tmp 52) (.tmp 54) (.const (.bool false))) 4 [52, 54],
 mv 56 55 4 [55],
 og 57 (.move (.tmp 9)) 33 56 true [9],
 og 58 (.binOp .eql 33 (.tmp 57) (.const (.int .i64 0)) 33) 4 56 true [57],
 oq 59 (.pick (.tmp 56) (.tmp 58) (.const (.bool false))) 4 [56, 58],
 sg 10 59 4 [59]])
 (.seq
 (.reg [mv 60 10 4 [10],
 mv 61 60 4 [60],
 og 62 (.move (.tmp 1)) 37 61 true [1],
 og 63 (.buildSlice 37 2 #[(0, .const (.int .i64 1300)), (1, .const (.int .i64 1100))]) 37 61 true [],
 og 64 (.call ⟨.value (.func 18), #[.tmp 62, .tmp 63], #[37, 37]⟩) 4 61 true [62, 63],
 oq 65 (.pick (.tmp 61) (.tmp 64) (.const (.bool false))) 4 [61, 64],
 mv 66 65 4 [65],
 og 67 (.load 30 (.tmp 3)) 30 66 true [3],
 og 68 (.build 30 #[(0, .const (.int .i64 700)), (1, .const (.int .i64 1000))]) 30 66 true [],
 og 69 (.binOp .eql 30 (.tmp 67) (.tmp 68) 30) 4 66 true [67, 68],
 oq 70 (.pick (.tmp 66) (.tmp 69) (.const (.bool false))) 4 [66, 69],
 mv 71 70 4 [70],
 og 72 (.move (.tmp 5)) 3 71 true [5],
 og 73 (.binOp .eql 3 (.tmp 72) (.const (.int .i64 2)) 3) 4 71 true [72],
 oq 74 (.pick (.tmp 71) (.tmp 73) (.const (.bool false))) 4 [71, 73],
 mv 75 74 4 [74],
 og 76 (.move (.tmp 7)) 37 75 true [7],
 og 77 (.buildSlice 37 2 #[(0, .const (.int .i64 1)), (1, .const (.int .i64 4))]) 37 75 true [],
 og 78 (.call ⟨.value (.func 18), #[.tmp 76, .tmp 77], #[37, 37]⟩) 4 75 true [76, 77],
 oq 79 (.pick (.tmp 75) (.tmp 78) (.const (.bool false))) 4 [75, 78],
 sg 0 79 4 [79]])
 .ret))))))))
theorem F15.rs : Tryz.f15.results.toList = [.tmp 0] := rfl
def L04_sane (k : Nat) : Option (Bool) :=
 (L04_firing_o k).bind fun x2 =>
 (heat_Hottest k x2).bind fun x3 =>
 (L04_firing_o k).bind fun x5 =>
 (heat_Bound k x5 1).bind fun x6 =>
 (L04_firing_o k).bind fun x8 =>
 (heat_Verdict k x8 1 (⟨900, 950⟩ : Range)).bind fun x9 =>
 (L04_kiln k).bind fun x10 =>
 (L04_firing_o k).bind fun x12 =>
 (push? 48 x12.Readings (⟨4, 1, 2, 600, (⟨0, 0⟩ : Range)⟩ : Reading)).bind fun l13 =>
 (heat_Conflict k (⟨x10, l13⟩ : Firing)).bind fun x14 =>
 (L04_firing_o k).bind fun x16 =>
 (heat_CheckProof k x16 1 false 700 (⟨0, [-1, 2]⟩ : HeatProof)).bind fun x17 =>
 bif decide (x3.2 = (0 : Int)) then
  bif decide (x6.2 = (0 : Int)) then
   bif decide (x9.2 = (0 : Int)) then
    bif decide (x14.2 = (0 : Int)) then
     bif decide (x17 = (0 : Int)) then
      (R01_Same k x3.1 [1300, 1100]).bind fun x23 =>
      bif x23 then
       bif (decide (x6.1.Lo = (700 : Int)) && decide (x6.1.Hi = (1000 : Int))) then
        bif decide (x9.1 = (2 : Int)) then
         (R01_Same k x14.1 [1, 4]).bind fun x27 =>
         some x27
        else
         some false
       else
        some false
      else
       some false
     else
      some false
    else
     some false
   else
    some false
  else
   some false
 else
  some false
theorem L04_sane_ok (k : Nat) (r : Bool) (h0 : L04_sane k = some r) : PCall Tryz.prog 15 [] (fun y => y = .bool r) := by
 refine PB (fn := Tryz.f15) (sc := F15.c) ?_
 refine rS ?_
 simp only [L04_sane] at h0
 try simp only [F15.c, go_sem]
 obtain ⟨x2, yx2, h0⟩ := bs h0
 refine AKev_giveF [] [] (L04_firing_o_ok k _ yx2) ?_ rfl ?_
 try simp only [gOK, go_sem]
 try simp only [go_sem]
 refine rS ?_
 try simp only [go_sem]
 obtain ⟨x3, yx3, h0⟩ := bs h0
 refine zcT [16] (heat_Hottest_ok k _ _ yx3) ?_ ?_
 try simp only [go_sem]
 try simp only [go_sem]
 obtain ⟨x5, yx5, h0⟩ := bs h0
 refine AKev_giveF [] [] (L04_firing_o_ok k _ yx5) ?_ rfl ?_
 try simp only [gOK, go_sem]
 try simp only [go_sem]
 refine rS ?_
 try simp only [go_sem]
 obtain ⟨x6, yx6, h0⟩ := bs h0
 refine zcT [128] (heat_Bound_ok k _ _ _ yx6) ?_ ?_
 try simp only [go_sem]
 try simp only [go_sem]
 obtain ⟨x8, yx8, h0⟩ := bs h0
 refine AKev_giveF [] [] (L04_firing_o_ok k _ yx8) ?_ rfl ?_
 try simp only [gOK, go_sem]
 try simp only [go_sem]
 refine rS ?_
 try simp only [go_sem]
 obtain ⟨x9, yx9, h0⟩ := bs h0
 refine zc0 (heat_Verdict_ok k _ _ _ _ yx9) ?_ (by first | rfl | simp [AV.refsL, AV.refs, AV.scal, AV.leaf]) ?_
 try simp only [go_sem]
 try simp only [go_sem]
 obtain ⟨x10, yx10, h0⟩ := bs h0
 refine zc0 (L04_kiln_ok k _ yx10) ?_ (by first | rfl | simp [AV.refsL, AV.refs, AV.scal, AV.leaf]) ?_
 try simp only [go_sem]
 try simp only [go_sem]
 obtain ⟨x12, yx12, h0⟩ := bs h0
 refine AKev_giveF [] [] (L04_firing_o_ok k _ yx12) ?_ rfl ?_
 try simp only [gOK, go_sem]
 try simp only [go_sem]
 refine rS ?_
 try simp only [go_sem]
 obtain ⟨l13, yl13, h0⟩ := bs h0
 have eyl13 := push_map Reading.c yl13
 have tyl13 := push_take Reading.c yl13
 have nyl13 := push_len yl13
 have myl13 := push_room yl13
 try simp only [go_sem] at eyl13 tyl13 nyl13 myl13
 try simp only [myl13, eyl13, nyl13, tyl13, go_sem]
 obtain ⟨x14, yx14, h0⟩ := bs h0
 refine zcT [400] (heat_Conflict_ok k _ _ yx14) ?_ ?_
 try simp only [eyl13, nyl13, tyl13, go_sem]
 try simp only [eyl13, nyl13, tyl13, go_sem]
 obtain ⟨x16, yx16, h0⟩ := bs h0
 refine AKev_giveF [] [] (L04_firing_o_ok k _ yx16) ?_ rfl ?_
 try simp only [gOK, eyl13, nyl13, tyl13, go_sem]
 try simp only [eyl13, nyl13, tyl13, go_sem]
 refine rS ?_
 try simp only [eyl13, nyl13, tyl13, go_sem]
 obtain ⟨x17, yx17, h0⟩ := bs h0
 refine zc0 (heat_CheckProof_ok k _ _ _ _ _ _ yx17) ?_ (by first | rfl | simp [AV.refsL, AV.refs, AV.scal, AV.leaf]) ?_
 try simp only [eyl13, nyl13, tyl13, go_sem]
 try simp only [eyl13, nyl13, tyl13, go_sem]
 refine AKev_bif h0 ?_ ?_ <;> intro c18 h0
 try simp only [c18, eyl13, nyl13, tyl13, go_sem]
 refine AKev_bif h0 ?_ ?_ <;> intro c19 h0
 try simp only [c19, eyl13, nyl13, tyl13, c18, go_sem]
 refine AKev_bif h0 ?_ ?_ <;> intro c20 h0
 try simp only [c20, eyl13, nyl13, tyl13, c18, c19, go_sem]
 refine AKev_bif h0 ?_ ?_ <;> intro c21 h0
 try simp only [c21, eyl13, nyl13, tyl13, c18, c19, c20, go_sem]
 refine AKev_bif h0 ?_ ?_ <;> intro c22 h0
 try simp only [c22, eyl13, nyl13, tyl13, c18, c19, c20, c21, go_sem]
 obtain ⟨x23, yx23, h0⟩ := bs h0
 refine zc0 (R01_Same_ok k _ _ _ yx23) ?_ (by first | rfl | simp [AV.refsL, AV.refs, AV.scal, AV.leaf]) ?_
 try simp only [eyl13, nyl13, tyl13, c18, c19, c20, c21, c22, go_sem]
 try simp only [eyl13, nyl13, tyl13, c18, c19, c20, c21, c22, go_sem]
 refine AKev_bif h0 ?_ ?_ <;> intro c24 h0
 try simp only [c24, eyl13, nyl13, tyl13, c18, c19, c20, c21, c22, go_sem]
 refine AKev_bif h0 ?_ ?_ <;> intro c25 h0
 try simp only [c25, eyl13, nyl13, tyl13, c18, c19, c20, c21, c22, c24, go_sem]
 refine AKev_bif h0 ?_ ?_ <;> intro c26 h0
 try simp only [c26, eyl13, nyl13, tyl13, c18, c19, c20, c21, c22, c24, c25, go_sem]
 obtain ⟨x27, yx27, h0⟩ := bs h0
 refine zc0 (R01_Same_ok k _ _ _ yx27) ?_ (by first | rfl | simp [AV.refsL, AV.refs, AV.scal, AV.leaf]) ?_
 try simp only [eyl13, nyl13, tyl13, c18, c19, c20, c21, c22, c24, c25, c26, go_sem]
 try simp only [eyl13, nyl13, tyl13, c18, c19, c20, c21, c22, c24, c25, c26, go_sem]
 obtain rfl := Option.some.inj h0
 refine AKev_ret rfl ?_
 try simp only [F15.rs, eyl13, nyl13, tyl13, c18, c19, c20, c21, c22, c24, c25, c26, go_sem]
 try simp only [c26, eyl13, nyl13, tyl13, c18, c19, c20, c21, c22, c24, c25, go_sem]
 obtain rfl := Option.some.inj h0
 refine AKev_ret rfl ?_
 try simp only [F15.rs, eyl13, nyl13, tyl13, c18, c19, c20, c21, c22, c24, c25, c26, go_sem]
 try simp only [c25, eyl13, nyl13, tyl13, c18, c19, c20, c21, c22, c24, go_sem]
 obtain rfl := Option.some.inj h0
 refine AKev_ret rfl ?_
 try simp only [F15.rs, eyl13, nyl13, tyl13, c18, c19, c20, c21, c22, c24, c25, go_sem]
 try simp only [c24, eyl13, nyl13, tyl13, c18, c19, c20, c21, c22, go_sem]
 obtain rfl := Option.some.inj h0
 refine AKev_ret rfl ?_
 try simp only [F15.rs, eyl13, nyl13, tyl13, c18, c19, c20, c21, c22, c24, go_sem]
 try simp only [c22, eyl13, nyl13, tyl13, c18, c19, c20, c21, go_sem]
 obtain rfl := Option.some.inj h0
 refine AKev_ret rfl ?_
 try simp only [F15.rs, eyl13, nyl13, tyl13, c18, c19, c20, c21, c22, go_sem]
 try simp only [c21, eyl13, nyl13, tyl13, c18, c19, c20, go_sem]
 obtain rfl := Option.some.inj h0
 refine AKev_ret rfl ?_
 try simp only [F15.rs, eyl13, nyl13, tyl13, c18, c19, c20, c21, go_sem]
 try simp only [c20, eyl13, nyl13, tyl13, c18, c19, go_sem]
 obtain rfl := Option.some.inj h0
 refine AKev_ret rfl ?_
 try simp only [F15.rs, eyl13, nyl13, tyl13, c18, c19, c20, go_sem]
 try simp only [c19, eyl13, nyl13, tyl13, c18, go_sem]
 obtain rfl := Option.some.inj h0
 refine AKev_ret rfl ?_
 try simp only [F15.rs, eyl13, nyl13, tyl13, c18, c19, go_sem]
 try simp only [c18, eyl13, nyl13, tyl13, go_sem]
 obtain rfl := Option.some.inj h0
 refine AKev_ret rfl ?_
 try simp only [F15.rs, eyl13, nyl13, tyl13, c18, go_sem]
def F96.c : SC :=
 (.seq
 (.reg [sb 6 false 4 [6]])
 (.seq
 (.reg [mv 7 1 3 [1],
 mv 8 0 3 [],
 b2 9 .leq 3 7 8 3 4 [7, 8],
 mv 10 9 4 [9],
 og 11 (.move (.tmp 0)) 3 10 true [0],
 og 12 (.move (.tmp 2)) 3 10 true [2],
 og 13 (.binOp .leq 3 (.tmp 11) (.tmp 12) 3) 4 10 true [11, 12],
 oq 14 (.pick (.tmp 10) (.tmp 13) (.const (.bool false))) 4 [10, 13],
 sg 6 14 4 [14]])
 .ret))
theorem F96.rs : Tryz.f96.results.toList = [.tmp 6] := rfl
def R01_In (k : Nat) (n0 : Int) (lo1 : Int) (hi2 : Int) : Option (Bool) :=
 bif decide (lo1 ≤ n0) then
  some (decide (n0 ≤ hi2))
 else
  some false
theorem R01_In_ok (k : Nat) (n0 : Int) (lo1 : Int) (hi2 : Int) (r : Bool) (h0 : R01_In k n0 lo1 hi2 = some r) : PCall Tryz.prog 96 [.int .i64 n0, .int .i64 lo1, .int .i64 hi2] (fun y => y = .bool r) := by
 refine PB (fn := Tryz.f96) (sc := F96.c) ?_
 refine rS ?_
 simp only [R01_In] at h0
 try simp only [F96.c, go_sem]
 refine AKev_bif h0 ?_ ?_ <;> intro c1 h0
 try simp only [c1, go_sem]
 obtain rfl := Option.some.inj h0
 refine AKev_ret rfl ?_
 try simp only [F96.rs, c1, go_sem]
 try simp only [c1, go_sem]
 obtain rfl := Option.some.inj h0
 refine AKev_ret rfl ?_
 try simp only [F96.rs, c1, go_sem]
def F97.c : SC :=
 (.seq
 (.reg [oq 3 (.box 30 (.tmp 0)) 0 [0],
 sb 6 false 4 [6]])
 (.seq
 (.reg [mv 7 1 3 [1],
 fa 8 30 3 0 [],
 ld 9 3 8 [8],
 b2 10 .leq 3 7 9 3 4 [7, 9],
 mv 11 10 4 [10],
 og 12 (.fieldAddr 30 (.tmp 3) 0) 0 11 true [],
 og 13 (.load 3 (.tmp 12)) 3 11 true [12],
 og 14 (.fieldAddr 30 (.tmp 3) 1) 0 11 true [],
 og 15 (.load 3 (.tmp 14)) 3 11 true [14],
 og 16 (.binOp .leq 3 (.tmp 13) (.tmp 15) 3) 4 11 true [13, 15],
 oq 17 (.pick (.tmp 11) (.tmp 16) (.const (.bool false))) 4 [11, 16],
 mv 18 17 4 [17],
 og 19 (.fieldAddr 30 (.tmp 3) 1) 0 18 true [3],
 og 20 (.load 3 (.tmp 19)) 3 18 true [19],
 og 21 (.move (.tmp 2)) 3 18 true [2],
 og 22 (.binOp .leq 3 (.tmp 20) (.tmp 21) 3) 4 18 true [20, 21],
 oq 23 (.pick (.tmp 18) (.tmp 22) (.const (.bool false))) 4 [18, 22],
 sg 6 23 4 [23]])
 .ret))
theorem F97.rs : Tryz.f97.results.toList = [.tmp 6] := rfl
def R01_Part (k : Nat) (r0 : Range) (lo1 : Int) (hi2 : Int) : Option (Bool) :=
 bif decide (lo1 ≤ r0.Lo) then
  bif decide (r0.Lo ≤ r0.Hi) then
   some (decide (r0.Hi ≤ hi2))
  else
   some false
 else
  some false
theorem R01_Part_ok (k : Nat) (r0 : Range) (lo1 : Int) (hi2 : Int) (r : Bool) (h0 : R01_Part k r0 lo1 hi2 = some r) : PCall Tryz.prog 97 [.agg (Range.c r0), .int .i64 lo1, .int .i64 hi2] (fun y => y = .bool r) := by
 refine PB (fn := Tryz.f97) (sc := F97.c) ?_
 refine rS ?_
 simp only [R01_Part] at h0
 try simp only [F97.c, go_sem]
 refine AKev_bif h0 ?_ ?_ <;> intro c1 h0
 try simp only [c1, go_sem]
 refine AKev_bif h0 ?_ ?_ <;> intro c2 h0
 try simp only [c2, c1, go_sem]
 obtain rfl := Option.some.inj h0
 refine AKev_ret rfl ?_
 try simp only [F97.rs, c1, c2, go_sem]
 try simp only [c2, c1, go_sem]
 obtain rfl := Option.some.inj h0
 refine AKev_ret rfl ?_
 try simp only [F97.rs, c1, c2, go_sem]
 try simp only [c1, go_sem]
 obtain rfl := Option.some.inj h0
 refine AKev_ret rfl ?_
 try simp only [F97.rs, c1, go_sem]
def F37.s1 : SC :=
 (.seq
 (.seq
 (.reg [mv 36 5 3 [],
 mv 37 3 3 [],
 b2 38 .lss 3 36 37 3 4 [36, 37]])
 (.cond (.tmp 38)
 .skip
 (.exit 2)))
 (.seq
 (.block 3
 (.seq
 (.reg [fa 41 24 1 0 [],
 ld 42 22 41 [41],
 mv 43 4 3 [],
 ia 44 22 42 43 [42, 43],
 ld 45 89 44 [44],
 mv 46 5 3 [],
 ia 47 89 45 46 [45, 46],
 ld 48 30 47 [47],
 oq 49 (.call ⟨.value (.func 97), #[.tmp 48, .const (.int .i64 0), .const (.int .i64 3000)], #[30, 3, 3]⟩) 4 [48],
 oq 50 (.unOp .not 4 (.tmp 49)) 4 [49]])
 (.cond (.tmp 50)
 (.seq
 (.reg [sn 2 40 33 []])
 .ret)
 .skip)))
 (.reg [mv 39 5 3 [5],
 bn 40 .add 3 39 1 3 3 [39],
 sg 5 40 3 [40]])))
def F37.s0 : SC :=
 (.seq
 (.seq
 (.reg [mv 16 4 3 [],
 fa 17 24 1 0 [],
 ld 18 22 17 [17],
 ln 19 18 22 3 [18],
 b2 20 .lss 3 16 19 3 4 [16, 19]])
 (.cond (.tmp 20)
 .skip
 (.exit 0)))
 (.seq
 (.block 1
 (.seq
 (.seq
 (.reg [fa 23 24 1 0 [],
 ld 24 22 23 [23],
 mv 25 4 3 [],
 ia 26 22 24 25 [24, 25],
 ld 27 89 26 [26],
 ln 28 27 89 3 [27],
 mv 29 3 3 [],
 b2 30 .neq 3 28 29 3 4 [28, 29],
 mv 31 30 4 [30],
 og 32 (.move (.tmp 3)) 3 31 false [],
 og 33 (.call ⟨.value (.func 96), #[.tmp 32, .const (.int .i64 1), .const (.int .i64 24)], #[3, 3, 3]⟩) 4 31 false [32],
 og 34 (.unOp .not 4 (.tmp 33)) 4 31 false [33],
 oq 35 (.pick (.tmp 31) (.const (.bool true)) (.tmp 34)) 4 [31, 34]])
 (.cond (.tmp 35)
 (.seq
 (.reg [sn 2 40 33 []])
 .ret)
 .skip))
 (.seq
 (.reg [sn 5 0 3 []])
 (.block 2
 (.loop F37.s1)))))
 (.reg [mv 21 4 3 [4],
 bn 22 .add 3 21 1 3 3 [21],
 sg 4 22 3 [22]])))
def F37.c : SC :=
 (.seq
 (.reg [oq 1 (.box 24 (.tmp 0)) 0 [0],
 sn 2 0 33 [2]])
 (.seq
 (.seq
 (.reg [fa 6 24 1 0 [],
 ld 7 22 6 [6],
 ln 8 7 22 3 [7],
 oq 9 (.call ⟨.value (.func 96), #[.tmp 8, .const (.int .i64 1), .const (.int .i64 6)], #[3, 3, 3]⟩) 4 [8],
 oq 10 (.unOp .not 4 (.tmp 9)) 4 [9]])
 (.cond (.tmp 10)
 (.seq
 (.reg [sn 2 40 33 []])
 .ret)
 .skip))
 (.seq
 (.reg [fa 11 24 1 0 [],
 ld 12 22 11 [11],
 oq 13 (.indexAddr 22 (.tmp 12) (.const (.int .i64 0))) 0 [12],
 ld 14 89 13 [13],
 ln 15 14 89 3 [14],
 sg 3 15 3 [15]])
 (.seq
 (.seq
 (.reg [sn 4 0 3 []])
 (.block 0
 (.loop F37.s0)))
 (.seq
 (.reg [sn 2 0 33 []])
 .ret)))))
theorem F37.rs : Tryz.f37.results.toList = [.tmp 2] := rfl
def R04_CheckKiln.b1 (k : Nat) (x3 : (List Range)) (x6 : (List Range)) : Int → Option (Stp (Int) (Unit) (Int)) := fun (i10 : Int) =>
 bif decide (i10 < (x3.length : Int)) then
  (at? x6 i10).bind fun x12 =>
  (R01_Part k x12 0 3000).bind fun x13 =>
  bif (!x13) then
   some (.ret 40)
  else
   some (.next (w64 (i10 + 1)))
 else
  some (.brk ())
def R04_CheckKiln.b0 (k : Nat) (k0 : Kiln) (x3 : (List Range)) : Int → Option (Stp (Int) (Unit) (Int)) := fun (i4 : Int) =>
 bif decide (i4 < (k0.Falls.length : Int)) then
  (at? k0.Falls i4).bind fun x6 =>
  bif decide ((x6.length : Int) = (x3.length : Int)) then
   (R01_In k (x3.length : Int) 1 24).bind fun x8 =>
   bif (!x8) then
    some (.ret 40)
   else
    (whl (R04_CheckKiln.b1 k x3 x6) k 0).bind fun r15 => match r15 with
    | .next _ => none
    | .ret v_ => some (.ret v_)
    | .brk _ =>
     some (.next (w64 (i4 + 1)))
  else
   some (.ret 40)
 else
  some (.brk ())
noncomputable def R04_CheckKiln.h1 (k0 : Kiln) (x3 : (List Range)) (i4 : Int) : Int → St := fun (i10 : Int) => ⟨[(1, .ptr 0 0 0), (3, .int .i64 (x3.length : Int)), (4, .int .i64 i4), (5, .int .i64 i10)], [(0, .box [.sl 1 (List.map (eL 2 Range.c) k0.Falls)])], [], 1, Tryz.f37.ntmps⟩
noncomputable def R04_CheckKiln.x1 (k0 : Kiln) (x3 : (List Range)) (i4 : Int) : Unit → St := fun (_ : Unit) => ⟨[(1, .ptr 0 0 0), (3, .int .i64 (x3.length : Int)), (4, .int .i64 i4)], [(0, .box [.sl 1 (List.map (eL 2 Range.c) k0.Falls)])], [], 1, Tryz.f37.ntmps⟩
noncomputable def R04_CheckKiln.h0 (k0 : Kiln) (x3 : (List Range)) : Int → St := fun (i4 : Int) => ⟨[(1, .ptr 0 0 0), (3, .int .i64 (x3.length : Int)), (4, .int .i64 i4)], [(0, .box [.sl 1 (List.map (eL 2 Range.c) k0.Falls)])], [], 1, Tryz.f37.ntmps⟩
noncomputable def R04_CheckKiln.x0 : Unit → St := fun (_ : Unit) => ⟨[], [], [], 1, Tryz.f37.ntmps⟩
def R04_CheckKiln (k : Nat) (k0 : Kiln) : Option (Int) :=
 (R01_In k (k0.Falls.length : Int) 1 6).bind fun x1 =>
 bif (!x1) then
  some 40
 else
  (at? k0.Falls 0).bind fun x3 =>
  (whl (R04_CheckKiln.b0 k k0 x3) k 0).bind fun r16 => match r16 with
  | .next _ => none
  | .ret v_ => some v_
  | .brk _ =>
   some 0
theorem R04_CheckKiln_ok (k : Nat) (k0 : Kiln) (r : Int) (h0 : R04_CheckKiln k k0 = some r) : PCall Tryz.prog 37 [.agg (Kiln.c k0)] (fun y => y = .int .i64 r) := by
 refine PB (fn := Tryz.f37) (sc := F37.c) ?_
 refine rS ?_
 simp only [R04_CheckKiln] at h0
 try simp only [F37.c, go_sem]
 obtain ⟨x1, yx1, h0⟩ := bs h0
 refine zc0 (R01_In_ok k _ _ _ _ yx1) ?_ (by first | rfl | simp [AV.refsL, AV.refs, AV.scal, AV.leaf]) ?_
 try simp only [go_sem]
 try simp only [go_sem]
 refine AKev_bif h0 ?_ ?_ <;> intro c2 h0
 have c2 := bnot_t c2
 try simp only [c2, go_sem]
 obtain rfl := Option.some.inj h0
 refine AKev_ret rfl ?_
 try simp only [F37.rs, c2, go_sem]
 have c2 := bnot_f c2
 try simp only [c2, go_sem]
 obtain ⟨x3, yx3, h0⟩ := bs h0
 try simp only [aa yx3, c2, go_sem]
 obtain ⟨r16, yr16, h0⟩ := bs h0
 refine AKev_loopS yr16 (R04_CheckKiln.h0 k0 x3) (R04_CheckKiln.x0) ?_ ?_ ?_
 refine Weak.go [1, 3, 4] [0] rfl ?_
 try simp only [R04_CheckKiln.h0, c2, aa yx3, go_sem]
 rintro i4 x_1 Bk1 Br1 h1 hnext1 hbrk1 hret1
 refine rS ?_
 simp only [R04_CheckKiln.b0] at h1
 try simp only [F37.s0, R04_CheckKiln.h0, c2, aa yx3, go_sem]
 refine AKev_bif h1 ?_ ?_ <;> intro c5 h1
 try simp only [c5, c2, aa yx3, go_sem]
 obtain ⟨x6, yx6, h1⟩ := bs h1
 try simp only [aa yx6, c2, aa yx3, c5, go_sem]
 refine AKev_bif h1 ?_ ?_ <;> intro c7 h1
 try simp only [c7, c2, aa yx3, c5, aa yx6, go_sem]
 obtain ⟨x8, yx8, h1⟩ := bs h1
 refine zc0 (R01_In_ok k _ _ _ _ yx8) ?_ (by first | rfl | simp [AV.refsL, AV.refs, AV.scal, AV.leaf]) ?_
 try simp only [c2, aa yx3, c5, aa yx6, c7, go_sem]
 try simp only [c2, aa yx3, c5, aa yx6, c7, go_sem]
 refine AKev_bif h1 ?_ ?_ <;> intro c9 h1
 have c9 := bnot_t c9
 try simp only [c9, c2, aa yx3, c5, aa yx6, c7, go_sem]
 obtain rfl := hret1 _ (Option.some.inj h1).symm
 simp only at h0
 obtain rfl := Option.some.inj h0
 refine AKev_ret rfl ?_
 try simp only [F37.rs, c2, aa yx3, c5, aa yx6, c7, c9, go_sem]
 have c9 := bnot_f c9
 try simp only [c9, c2, aa yx3, c5, aa yx6, c7, go_sem]
 obtain ⟨r15, yr15, h1⟩ := bs h1
 refine AKev_loopS yr15 (R04_CheckKiln.h1 k0 x3 i4) (R04_CheckKiln.x1 k0 x3 i4) ?_ ?_ ?_
 refine Weak.go [1, 3, 4, 5] [0] rfl ?_
 try simp only [R04_CheckKiln.h1, c2, aa yx3, c5, aa yx6, c7, c9, go_sem]
 rintro i10 x_2 Bk2 Br2 h2 hnext2 hbrk2 hret2
 refine rS ?_
 simp only [R04_CheckKiln.b1] at h2
 try simp only [F37.s1, R04_CheckKiln.h1, c2, aa yx3, c5, aa yx6, c7, c9, go_sem]
 refine AKev_bif h2 ?_ ?_ <;> intro c11 h2
 try simp only [c11, aa yx6, c2, aa yx3, c5, c7, c9, go_sem]
 obtain ⟨x12, yx12, h2⟩ := bs h2
 try simp only [aa yx12, c2, aa yx3, c5, aa yx6, c7, c9, c11, go_sem]
 obtain ⟨x13, yx13, h2⟩ := bs h2
 refine zc0 (R01_Part_ok k _ _ _ _ yx13) ?_ (by first | rfl | simp [AV.refsL, AV.refs, AV.scal, AV.leaf]) ?_
 try simp only [c2, aa yx3, c5, aa yx6, c7, c9, c11, aa yx12, go_sem]
 try simp only [c2, aa yx3, c5, aa yx6, c7, c9, c11, aa yx12, go_sem]
 refine AKev_bif h2 ?_ ?_ <;> intro c14 h2
 have c14 := bnot_t c14
 try simp only [c14, c2, aa yx3, c5, aa yx6, c7, c9, c11, aa yx12, go_sem]
 obtain rfl := hret2 _ (Option.some.inj h2).symm
 simp only at h1
 obtain rfl := hret1 _ (Option.some.inj h1).symm
 simp only at h0
 obtain rfl := Option.some.inj h0
 refine AKev_ret rfl ?_
 try simp only [F37.rs, c2, aa yx3, c5, aa yx6, c7, c9, c11, aa yx12, c14, go_sem]
 have c14 := bnot_f c14
 try simp only [c14, c2, aa yx3, c5, aa yx6, c7, c9, c11, aa yx12, go_sem]
 refine AKev_backB (hnext2 _ _ (Option.some.inj h2).symm ?_)
 refine Weak.go [1, 3, 4, 5] [0] rfl ?_
 try simp only [R04_CheckKiln.h1, c2, aa yx3, c5, aa yx6, c7, c9, c11, aa yx12, c14, go_sem]
 try simp only [c11, c2, aa yx3, c5, aa yx6, c7, c9, go_sem]
 refine AKev_backB (hbrk2 _ _ (Option.some.inj h2).symm ?_)
 refine Weak.go [1, 3, 4] [0] rfl ?_
 try simp only [R04_CheckKiln.x1, c2, aa yx3, c5, aa yx6, c7, c9, c11, go_sem]
 rintro _ hr_
 subst hr_
 simp only at h1
 refine rS ?_
 try simp only [R04_CheckKiln.x1, c2, aa yx3, c5, aa yx6, c7, c9, go_sem]
 refine AKev_backB (hnext1 _ _ (Option.some.inj h1).symm ?_)
 refine Weak.go [1, 3, 4] [0] rfl ?_
 try simp only [R04_CheckKiln.h0, c2, aa yx3, c5, aa yx6, c7, c9, go_sem]
 try simp only [c7, c2, aa yx3, c5, aa yx6, go_sem]
 obtain rfl := hret1 _ (Option.some.inj h1).symm
 simp only at h0
 obtain rfl := Option.some.inj h0
 refine AKev_ret rfl ?_
 try simp only [F37.rs, c2, aa yx3, c5, aa yx6, c7, go_sem]
 try simp only [c5, c2, aa yx3, go_sem]
 refine AKev_backB (hbrk1 _ _ (Option.some.inj h1).symm ?_)
 refine Weak.go [] [] rfl ?_
 try simp only [R04_CheckKiln.x0, c2, aa yx3, c5, go_sem]
 rintro _ hr_
 subst hr_
 simp only at h0
 refine rS ?_
 try simp only [R04_CheckKiln.x0, c2, aa yx3, go_sem]
 obtain rfl := Option.some.inj h0
 refine AKev_ret rfl ?_
 try simp only [F37.rs, c2, aa yx3, go_sem]
def F90.c : SC :=
 (.seq
 (.reg [oq 2 (.box 24 (.tmp 0)) 0 [0],
 oq 3 (.box 64 (.tmp 1)) 0 [1],
 sb 4 false 4 [4]])
 (.seq
 (.seq
 (.dreg [fa 5 64 3 0 [],
 ld 6 3 5 [],
 oq 7 (.call ⟨.value (.func 96), #[.tmp 6, .const (.int .i64 1), .const (.int .i64 99999)], #[3, 3, 3]⟩) 4 [],
 oq 8 (.unOp .not 4 (.tmp 7)) 4 [],
 mv 9 8 4 [],
 og 10 (.fieldAddr 64 (.tmp 3) 1) 0 9 false [],
 og 11 (.load 3 (.tmp 10)) 3 9 false [],
 og 12 (.fieldAddr 24 (.tmp 2) 0) 0 9 false [],
 og 13 (.load 22 (.tmp 12)) 22 9 false [],
 og 14 (.indexAddr 22 (.tmp 13) (.const (.int .i64 0))) 0 9 false [],
 og 15 (.load 89 (.tmp 14)) 89 9 false [],
 og 16 (.call ⟨.builtin .len, #[.tmp 15], #[89]⟩) 3 9 false [],
 og 17 (.binOp .sub 3 (.tmp 16) (.const (.int .i64 1)) 3) 3 9 false [],
 og 18 (.call ⟨.value (.func 96), #[.tmp 11, .const (.int .i64 0), .tmp 17], #[3, 3, 3]⟩) 4 9 false [],
 og 19 (.unOp .not 4 (.tmp 18)) 4 9 false [],
 oq 20 (.pick (.tmp 9) (.const (.bool true)) (.tmp 19)) 4 []] [[], [0], [0, 1], [0, 1, 2], [0, 1, 2, 3], [0, 1, 2, 3, 4], [0, 1, 2, 3, 4, 5], [0, 1, 2, 3, 4], [0, 1, 2, 3, 4, 7], [0, 1, 2, 3, 4, 7, 8], [0, 1, 2, 3, 4, 7, 8, 9], [0, 1, 2, 3, 4, 7, 8, 9, 10], [0, 1, 2, 3, 4, 7, 8, 9, 10, 11], [0, 1, 2, 3, 4, 5, 6, 7, 8, 9, 10, 11, 12], [0, 1, 2, 3, 4, 5, 6, 7, 8, 9, 10, 11, 12, 13], [0, 1, 2, 3, 4, 5, 6, 7, 8, 9, 10, 11, 12, 13, 14]] [2, 5, 6, 7, 8, 9, 10, 11, 12, 13, 14, 15, 16, 17, 18, 19])
 (.cond (.tmp 20)
 (.seq
 (.reg [sb 4 false 4 []])
 .ret)
 .skip))
 (.seq
 (.seq
 (.reg [fa 21 64 3 2 [],
 ld 22 3 21 [21]])
 (.block 0
 (.seq
 (.seq
 (.reg [bn 24 .eql 3 22 1 3 4 [],
 sg 23 24 4 [24]])
 (.cond (.tmp 23)
 .skip
 (.reg [bn 25 .eql 3 22 2 3 4 [],
 sg 23 25 4 [25]])))
 (.cond (.tmp 23)
 (.seq
 (.reg [fa 26 64 3 3 [],
 ld 27 3 26 [26],
 oq 28 (.call ⟨.value (.func 96), #[.tmp 27, .const (.int .i64 1), .const (.int .i64 2000)], #[3, 3, 3]⟩) 4 [27],
 mv 29 28 4 [28],
 og 30 (.fieldAddr 64 (.tmp 3) 4) 0 29 true [3],
 og 31 (.load 30 (.tmp 30)) 30 29 true [30],
 og 32 (.build 30 #[]) 30 29 true [],
 og 33 (.binOp .eql 30 (.tmp 31) (.tmp 32) 30) 4 29 true [31, 32],
 oq 34 (.pick (.tmp 29) (.tmp 33) (.const (.bool false))) 4 [29, 33],
 sg 4 34 4 [34]])
 .ret)
 (.seq
 (.reg [bn 36 .eql 3 22 3 3 4 [22],
 sg 35 36 4 [36]])
 (.cond (.tmp 35)
 (.seq
 (.reg [fa 37 64 3 3 [],
 ld 38 3 37 [37],
 bn 39 .eql 3 38 0 3 4 [38],
 mv 40 39 4 [39],
 og 41 (.fieldAddr 64 (.tmp 3) 4) 0 40 true [3],
 og 42 (.load 30 (.tmp 41)) 30 40 true [41],
 og 43 (.call ⟨.value (.func 97), #[.tmp 42, .const (.int .i64 1), .const (.int .i64 2000)], #[30, 3, 3]⟩) 4 40 true [42],
 oq 44 (.pick (.tmp 40) (.tmp 43) (.const (.bool false))) 4 [40, 43],
 sg 4 44 4 [44]])
 .ret)
 .skip))))))
 (.seq
 (.reg [sb 4 false 4 []])
 .ret))))
theorem F90.rs : Tryz.f90.results.toList = [.tmp 4] := rfl
def R04_isReading (k : Nat) (k0 : Kiln) (r1 : Reading) : Option (Bool) :=
 (R01_In k r1.Source 1 99999).bind fun x1 =>
 bif x1 then
  (at? k0.Falls 0).bind fun x3 =>
  (R01_In k r1.Place 0 (w64 ((x3.length : Int) - 1))).bind fun x4 =>
  bif (!x4) then
   some false
  else
   bif decide (r1.Kind = (1 : Int)) then
    (R01_In k r1.Mark 1 2000).bind fun x7 =>
    bif x7 then
     some (decide (r1.Heat.Lo = (0 : Int)) && decide (r1.Heat.Hi = (0 : Int)))
    else
     some false
   else
    bif decide (r1.Kind = (2 : Int)) then
     (R01_In k r1.Mark 1 2000).bind fun x10 =>
     bif x10 then
      some (decide (r1.Heat.Lo = (0 : Int)) && decide (r1.Heat.Hi = (0 : Int)))
     else
      some false
    else
     bif decide (r1.Kind = (3 : Int)) then
      bif decide (r1.Mark = (0 : Int)) then
       (R01_Part k r1.Heat 1 2000).bind fun x14 =>
       some x14
      else
       some false
     else
      some false
 else
  some false
theorem R04_isReading_ok (k : Nat) (k0 : Kiln) (r1 : Reading) (r : Bool) (h0 : R04_isReading k k0 r1 = some r) : PCall Tryz.prog 90 [.agg (Kiln.c k0), .agg (Reading.c r1)] (fun y => y = .bool r) := by
 refine PB (fn := Tryz.f90) (sc := F90.c) ?_
 refine rS ?_
 simp only [R04_isReading] at h0
 try simp only [F90.c, go_sem]
 refine AKev_region T_ok follows_ok 1000 ?_
 try simp only [go_sem]
 obtain ⟨x1, yx1, h0⟩ := bs h0
 refine DG_call0 1000 (R01_In_ok k _ _ _ _ yx1) ?_ (by first | rfl | simp [AV.refsL, AV.refs, AV.scal, AV.leaf]) ?_
 try simp only [go_sem]
 try simp only [go_sem]
 refine DG_bif h0 ?_ ?_ <;> intro c2 h0
 try simp only [c2, go_sem]
 obtain ⟨x3, yx3, h0⟩ := bs h0
 try simp only [aa yx3, c2, go_sem]
 obtain ⟨x4, yx4, h0⟩ := bs h0
 refine DG_call0 1000 (R01_In_ok k _ _ _ _ yx4) ?_ (by first | rfl | simp [AV.refsL, AV.refs, AV.scal, AV.leaf]) ?_
 try simp only [c2, aa yx3, go_sem]
 try simp only [c2, aa yx3, go_sem]
 refine DG_done ⟨rfl, run_sound T_ok 1000 _ _ ?_⟩
 try simp only [c2, aa yx3, go_sem]
 refine AKev_bif h0 ?_ ?_ <;> intro c5 h0
 have c5 := bnot_t c5
 try simp only [c5, c2, aa yx3, go_sem]
 obtain rfl := Option.some.inj h0
 refine AKev_ret rfl ?_
 try simp only [F90.rs, c2, aa yx3, c5, go_sem]
 have c5 := bnot_f c5
 try simp only [c5, c2, aa yx3, go_sem]
 refine AKev_bif h0 ?_ ?_ <;> intro c6 h0
 try simp only [c6, c2, aa yx3, c5, go_sem]
 obtain ⟨x7, yx7, h0⟩ := bs h0
 refine zc0 (R01_In_ok k _ _ _ _ yx7) ?_ (by first | rfl | simp [AV.refsL, AV.refs, AV.scal, AV.leaf]) ?_
 try simp only [c2, aa yx3, c5, c6, go_sem]
 try simp only [c2, aa yx3, c5, c6, go_sem]
 refine AKev_bif h0 ?_ ?_ <;> intro c8 h0
 try simp only [c8, c2, aa yx3, c5, c6, go_sem]
 obtain rfl := Option.some.inj h0
 refine AKev_ret rfl ?_
 try simp only [F90.rs, c2, aa yx3, c5, c6, c8, go_sem]
 try simp only [c8, c2, aa yx3, c5, c6, go_sem]
 obtain rfl := Option.some.inj h0
 refine AKev_ret rfl ?_
 try simp only [F90.rs, c2, aa yx3, c5, c6, c8, go_sem]
 try simp only [c6, c2, aa yx3, c5, go_sem]
 refine AKev_bif h0 ?_ ?_ <;> intro c9 h0
 try simp only [c9, c2, aa yx3, c5, c6, go_sem]
 obtain ⟨x10, yx10, h0⟩ := bs h0
 refine zc0 (R01_In_ok k _ _ _ _ yx10) ?_ (by first | rfl | simp [AV.refsL, AV.refs, AV.scal, AV.leaf]) ?_
 try simp only [c2, aa yx3, c5, c6, c9, go_sem]
 try simp only [c2, aa yx3, c5, c6, c9, go_sem]
 refine AKev_bif h0 ?_ ?_ <;> intro c11 h0
 try simp only [c11, c2, aa yx3, c5, c6, c9, go_sem]
 obtain rfl := Option.some.inj h0
 refine AKev_ret rfl ?_
 try simp only [F90.rs, c2, aa yx3, c5, c6, c9, c11, go_sem]
 try simp only [c11, c2, aa yx3, c5, c6, c9, go_sem]
 obtain rfl := Option.some.inj h0
 refine AKev_ret rfl ?_
 try simp only [F90.rs, c2, aa yx3, c5, c6, c9, c11, go_sem]
 try simp only [c9, c2, aa yx3, c5, c6, go_sem]
 refine AKev_bif h0 ?_ ?_ <;> intro c12 h0
 try simp only [c12, c2, aa yx3, c5, c6, c9, go_sem]
 refine AKev_bif h0 ?_ ?_ <;> intro c13 h0
 try simp only [c13, c2, aa yx3, c5, c6, c9, c12, go_sem]
 obtain ⟨x14, yx14, h0⟩ := bs h0
 refine zc0 (R01_Part_ok k _ _ _ _ yx14) ?_ (by first | rfl | simp [AV.refsL, AV.refs, AV.scal, AV.leaf]) ?_
 try simp only [c2, aa yx3, c5, c6, c9, c12, c13, go_sem]
 try simp only [c2, aa yx3, c5, c6, c9, c12, c13, go_sem]
 obtain rfl := Option.some.inj h0
 refine AKev_ret rfl ?_
 try simp only [F90.rs, c2, aa yx3, c5, c6, c9, c12, c13, go_sem]
 try simp only [c13, c2, aa yx3, c5, c6, c9, c12, go_sem]
 obtain rfl := Option.some.inj h0
 refine AKev_ret rfl ?_
 try simp only [F90.rs, c2, aa yx3, c5, c6, c9, c12, c13, go_sem]
 try simp only [c12, c2, aa yx3, c5, c6, c9, go_sem]
 obtain rfl := Option.some.inj h0
 refine AKev_ret rfl ?_
 try simp only [F90.rs, c2, aa yx3, c5, c6, c9, c12, go_sem]
 try simp only [c2, go_sem]
 refine DG_done ⟨rfl, run_sound T_ok 1000 _ _ ?_⟩
 try simp only [c2, go_sem]
 obtain rfl := Option.some.inj h0
 refine AKev_ret rfl ?_
 try simp only [F90.rs, c2, go_sem]
def F43.s0 : SC :=
 (.seq
 (.seq
 (.reg [mv 12 3 3 [],
 fa 13 27 1 1 [],
 ld 14 25 13 [13],
 ln 15 14 25 3 [14],
 b2 16 .lss 3 12 15 3 4 [12, 15]])
 (.cond (.tmp 16)
 .skip
 (.exit 0)))
 (.seq
 (.block 1
 (.seq
 (.dreg [fa 19 27 1 0 [],
 ld 20 24 19 [],
 fa 21 27 1 1 [],
 ld 22 25 21 [],
 mv 23 3 3 [],
 ia 24 25 22 23 [],
 ld 25 64 24 [],
 cf2 26 90 20 25 24 64 4 [],
 oq 27 (.unOp .not 4 (.tmp 26)) 4 []] [[], [0], [], [2], [], [2, 3, 4], [2, 3, 4, 5], [0, 1, 2, 3, 4, 5, 6], [0, 1, 2, 3, 4, 5, 6, 7]] [19, 20, 21, 22, 23, 24, 25, 26])
 (.cond (.tmp 27)
 (.seq
 (.reg [sn 2 41 33 []])
 .ret)
 .skip)))
 (.reg [mv 17 3 3 [3],
 bn 18 .add 3 17 1 3 3 [17],
 sg 3 18 3 [18]])))
def F43.c : SC :=
 (.seq
 (.reg [oq 1 (.box 27 (.tmp 0)) 0 [0],
 sn 2 0 33 [2]])
 (.seq
 (.seq
 (.reg [fa 4 27 1 0 [],
 ld 5 24 4 [4],
 cf1 6 37 5 24 33 [5],
 bn 7 .neq 33 6 0 33 4 [6]])
 (.cond (.tmp 7)
 (.seq
 (.reg [sn 2 40 33 []])
 .ret)
 .skip))
 (.seq
 (.seq
 (.reg [fa 8 27 1 1 [],
 ld 9 25 8 [8],
 ln 10 9 25 3 [9],
 bn 11 .gtr 3 10 60 3 4 [10]])
 (.cond (.tmp 11)
 (.seq
 (.reg [sn 2 2 33 []])
 .ret)
 .skip))
 (.seq
 (.seq
 (.reg [sn 3 0 3 []])
 (.block 0
 (.loop F43.s0)))
 (.seq
 (.reg [sn 2 0 33 []])
 .ret)))))
theorem F43.rs : Tryz.f43.results.toList = [.tmp 2] := rfl
def R04_Check.b0 (k : Nat) (f0 : Firing) : Int → Option (Stp (Int) (Unit) (Int)) := fun (i4 : Int) =>
 bif decide (i4 < (f0.Readings.length : Int)) then
  (at? f0.Readings i4).bind fun x6 =>
  (R04_isReading k f0.Kiln x6).bind fun x7 =>
  bif (!x7) then
   some (.ret 41)
  else
   some (.next (w64 (i4 + 1)))
 else
  some (.brk ())
noncomputable def R04_Check.h0 (f0 : Firing) : Int → St := fun (i4 : Int) => ⟨[(1, .ptr 0 0 0), (3, .int .i64 i4)], [(0, .box [.sl 1 (List.map (eL 2 Range.c) f0.Kiln.Falls), .sl 6 (List.map Reading.c f0.Readings)])], [], 1, Tryz.f43.ntmps⟩
noncomputable def R04_Check.x0 : Unit → St := fun (_ : Unit) => ⟨[], [], [], 1, Tryz.f43.ntmps⟩
def R04_Check (k : Nat) (f0 : Firing) : Option (Int) :=
 (R04_CheckKiln k f0.Kiln).bind fun x1 =>
 bif (!decide (x1 = (0 : Int))) then
  some 40
 else
  bif decide ((60 : Int) < (f0.Readings.length : Int)) then
   some 2
  else
   (whl (R04_Check.b0 k f0) k 0).bind fun r9 => match r9 with
   | .next _ => none
   | .ret v_ => some v_
   | .brk _ =>
    some 0
theorem R04_Check_ok (k : Nat) (f0 : Firing) (r : Int) (h0 : R04_Check k f0 = some r) : PCall Tryz.prog 43 [.agg (Firing.c f0)] (fun y => y = .int .i64 r) := by
 refine PB (fn := Tryz.f43) (sc := F43.c) ?_
 refine rS ?_
 simp only [R04_Check] at h0
 try simp only [F43.c, go_sem]
 obtain ⟨x1, yx1, h0⟩ := bs h0
 refine zc0 (R04_CheckKiln_ok k _ _ yx1) ?_ (by first | rfl | simp [AV.refsL, AV.refs, AV.scal, AV.leaf]) ?_
 try simp only [go_sem]
 try simp only [go_sem]
 refine AKev_bif h0 ?_ ?_ <;> intro c2 h0
 have c2 := bnot_t c2
 try simp only [c2, go_sem]
 obtain rfl := Option.some.inj h0
 refine AKev_ret rfl ?_
 try simp only [F43.rs, c2, go_sem]
 have c2 := bnot_f c2
 try simp only [c2, go_sem]
 refine AKev_bif h0 ?_ ?_ <;> intro c3 h0
 try simp only [c3, c2, go_sem]
 obtain rfl := Option.some.inj h0
 refine AKev_ret rfl ?_
 try simp only [F43.rs, c2, c3, go_sem]
 try simp only [c3, c2, go_sem]
 obtain ⟨r9, yr9, h0⟩ := bs h0
 refine AKev_loopS yr9 (R04_Check.h0 f0) (R04_Check.x0) ?_ ?_ ?_
 refine Weak.go [1, 3] [0] rfl ?_
 try simp only [R04_Check.h0, c2, c3, go_sem]
 rintro i4 x_1 Bk1 Br1 h1 hnext1 hbrk1 hret1
 refine rS ?_
 simp only [R04_Check.b0] at h1
 try simp only [F43.s0, R04_Check.h0, c2, c3, go_sem]
 refine AKev_bif h1 ?_ ?_ <;> intro c5 h1
 try simp only [c5, c2, c3, go_sem]
 refine AKev_region T_ok follows_ok 1000 ?_
 try simp only [c2, c3, c5, go_sem]
 obtain ⟨x6, yx6, h1⟩ := bs h1
 try simp only [aa yx6, c2, c3, c5, go_sem]
 obtain ⟨x7, yx7, h1⟩ := bs h1
 refine DG_call0 1000 (R04_isReading_ok k _ _ _ yx7) ?_ (by first | rfl | simp [AV.refsL, AV.refs, AV.scal, AV.leaf]) ?_
 try simp only [c2, c3, c5, aa yx6, go_sem]
 try simp only [c2, c3, c5, aa yx6, go_sem]
 refine DG_done ⟨rfl, run_sound T_ok 1000 _ _ ?_⟩
 try simp only [c2, c3, c5, aa yx6, go_sem]
 refine AKev_bif h1 ?_ ?_ <;> intro c8 h1
 have c8 := bnot_t c8
 try simp only [c8, c2, c3, c5, aa yx6, go_sem]
 obtain rfl := hret1 _ (Option.some.inj h1).symm
 simp only at h0
 obtain rfl := Option.some.inj h0
 refine AKev_ret rfl ?_
 try simp only [F43.rs, c2, c3, c5, aa yx6, c8, go_sem]
 have c8 := bnot_f c8
 try simp only [c8, c2, c3, c5, aa yx6, go_sem]
 refine AKev_backB (hnext1 _ _ (Option.some.inj h1).symm ?_)
 refine Weak.go [1, 3] [0] rfl ?_
 try simp only [R04_Check.h0, c2, c3, c5, aa yx6, c8, go_sem]
 try simp only [c5, c2, c3, go_sem]
 refine AKev_backB (hbrk1 _ _ (Option.some.inj h1).symm ?_)
 refine Weak.go [] [] rfl ?_
 try simp only [R04_Check.x0, c2, c3, c5, go_sem]
 rintro _ hr_
 subst hr_
 simp only at h0
 refine rS ?_
 try simp only [R04_Check.x0, c2, c3, go_sem]
 obtain rfl := Option.some.inj h0
 refine AKev_ret rfl ?_
 try simp only [F43.rs, c2, c3, go_sem]
def F113.c : SC :=
 (.seq
 (.reg [oq 1 (.box 64 (.tmp 0)) 0 [0],
 sn 2 0 3 [2],
 sn 3 0 3 [3]])
 (.seq
 (.seq
 (.reg [fa 4 64 1 2 [],
 ld 5 3 4 [4]])
 (.block 0
 (.seq
 (.reg [bn 7 .eql 3 5 1 3 4 [],
 sg 6 7 4 [7]])
 (.cond (.tmp 6)
 (.seq
 (.reg [fa 8 64 1 3 [1],
 ld 9 3 8 [8],
 sg 2 9 3 [9],
 sn 3 1000000 3 []])
 .ret)
 (.seq
 (.reg [bn 11 .eql 3 5 2 3 4 [5],
 sg 10 11 4 [11]])
 (.cond (.tmp 10)
 (.seq
 (.dreg [fa 12 64 1 3 [],
 ld 13 3 12 [],
 bn 14 .sub 3 13 1 3 3 [],
 sn 2 (-1000000) 3 [],
 sg 3 14 3 []] [[], [0], [0, 1], [], [0, 1, 2, 3]] [1, 12, 13, 14])
 .ret)
 .skip))))))
 (.seq
 (.dreg [fa 15 64 1 4 [],
 fa 16 30 15 0 [],
 ld 17 3 16 [],
 fa 18 64 1 4 [],
 fa 19 30 18 1 [],
 ld 20 3 19 [],
 sg 2 17 3 [],
 sg 3 20 3 []] [[], [0], [0, 1], [], [3], [3, 4], [0, 1, 2], [3, 4, 5, 0, 1, 2, 6]] [1, 15, 16, 17, 18, 19, 20])
 .ret)))
theorem F113.rs : Tryz.f113.results.toList = [.tmp 2, .tmp 3] := rfl
def R04_Least (k : Nat) (r0 : Reading) : Option (Int × Int) :=
 bif decide (r0.Kind = (1 : Int)) then
  some (r0.Mark, 1000000)
 else
  bif decide (r0.Kind = (2 : Int)) then
   some (-1000000, w64 (r0.Mark - 1))
  else
   some (r0.Heat.Lo, r0.Heat.Hi)
theorem R04_Least_ok (k : Nat) (r0 : Reading) (r : Int × Int) (h0 : R04_Least k r0 = some r) : PCall Tryz.prog 113 [.agg (Reading.c r0)] (fun y => y = .tup [.int .i64 r.1, .int .i64 r.2]) := by
 refine PB (fn := Tryz.f113) (sc := F113.c) ?_
 refine rS ?_
 simp only [R04_Least] at h0
 try simp only [F113.c, go_sem]
 refine AKev_bif h0 ?_ ?_ <;> intro c1 h0
 try simp only [c1, go_sem]
 obtain rfl := Option.some.inj h0
 refine AKev_ret rfl ?_
 try simp only [F113.rs, c1, go_sem]
 try simp only [c1, go_sem]
 refine AKev_bif h0 ?_ ?_ <;> intro c2 h0
 try simp only [c2, c1, go_sem]
 refine AKev_region T_ok follows_ok 1000 ?_
 try simp only [c1, c2, go_sem]
 refine DG_done ⟨rfl, run_sound T_ok 1000 _ _ ?_⟩
 try simp only [c1, c2, go_sem]
 obtain rfl := Option.some.inj h0
 refine AKev_ret rfl ?_
 try simp only [F113.rs, c1, c2, go_sem]
 try simp only [c2, c1, go_sem]
 refine AKev_region T_ok follows_ok 1000 ?_
 try simp only [c1, c2, go_sem]
 refine DG_done ⟨rfl, run_sound T_ok 1000 _ _ ?_⟩
 try simp only [c1, c2, go_sem]
 obtain rfl := Option.some.inj h0
 refine AKev_ret rfl ?_
 try simp only [F113.rs, c1, c2, go_sem]
def F111.s1 : SC :=
 (.seq
 (.seq
 (.reg [mv 26 5 3 [],
 fa 27 27 1 1 [],
 ld 28 25 27 [27],
 ln 29 28 25 3 [28],
 b2 30 .lss 3 26 29 3 4 [26, 29]])
 (.cond (.tmp 30)
 .skip
 (.exit 2)))
 (.seq
 (.block 3
 (.seq
 (.reg [fa 34 27 1 1 [],
 ld 35 25 34 [34],
 mv 36 5 3 [],
 ia 37 25 35 36 [35, 36],
 ld 38 64 37 [37],
 cf1 39 113 38 64 132 [38],
 mv 33 39 132 [39],
 xt 40 33 0 3 [],
 xt 41 33 1 3 [33],
 sg 6 40 3 [40],
 sg 7 41 3 [41]])
 (.seq
 (.reg [fa 42 27 1 1 [],
 ld 43 25 42 [42],
 mv 44 5 3 [],
 ia 45 25 43 44 [43, 44],
 fa 46 64 45 1 [45],
 ld 47 3 46 [46],
 sg 8 47 3 [47]])
 (.seq
 (.reg [mv 48 3 89 [],
 mv 49 8 3 [],
 mv 50 3 89 [],
 mv 51 8 3 [],
 ia 52 89 50 51 [50, 51],
 fa 53 30 52 0 [52],
 ld 54 3 53 [53],
 mv 55 6 3 [6],
 oq 56 (.call ⟨.builtin .max, #[.tmp 54, .tmp 55], #[3, 3]⟩) 3 [54, 55],
 ia 57 89 48 49 [48, 49],
 fa 58 30 57 0 [57],
 ⟨none, .store 3 (.tmp 58) (.tmp 56), 0, none, [56, 58]⟩])
 (.reg [mv 59 3 89 [],
 mv 60 8 3 [],
 mv 61 3 89 [],
 mv 62 8 3 [8],
 ia 63 89 61 62 [61, 62],
 fa 64 30 63 1 [63],
 ld 65 3 64 [64],
 mv 66 7 3 [7],
 oq 67 (.call ⟨.builtin .min, #[.tmp 65, .tmp 66], #[3, 3]⟩) 3 [65, 66],
 ia 68 89 59 60 [59, 60],
 fa 69 30 68 1 [68],
 ⟨none, .store 3 (.tmp 69) (.tmp 67), 0, none, [67, 69]⟩])))))
 (.reg [mv 31 5 3 [5],
 bn 32 .add 3 31 1 3 3 [31],
 sg 5 32 3 [32]])))
def F111.s0 : SC :=
 (.seq
 (.seq
 (.reg [mv 16 4 3 [],
 mv 17 3 89 [],
 ln 18 17 89 3 [17],
 b2 19 .lss 3 16 18 3 4 [16, 18]])
 (.cond (.tmp 19)
 .skip
 (.exit 0)))
 (.seq
 (.block 1
 (.reg [mv 22 3 89 [],
 mv 23 4 3 [],
 oq 24 (.build 30 #[(0, .const (.int .i64 (-1000000))), (1, .const (.int .i64 1000000))]) 30 [],
 ia 25 89 22 23 [22, 23],
 ⟨none, .store 30 (.tmp 25) (.tmp 24), 0, none, [24, 25]⟩]))
 (.reg [mv 20 4 3 [4],
 bn 21 .add 3 20 1 3 3 [20],
 sg 4 21 3 [21]])))
def F111.c : SC :=
 (.seq
 (.reg [oq 1 (.box 27 (.tmp 0)) 0 [0],
 oq 2 (.assign (.const (.slice none 0 0))) 89 [2]])
 (.seq
 (.reg [fa 9 27 1 0 [],
 fa 10 24 9 0 [9],
 ld 11 22 10 [10],
 oq 12 (.indexAddr 22 (.tmp 11) (.const (.int .i64 0))) 0 [11],
 ld 13 89 12 [12],
 ln 14 13 89 3 [13],
 oq 15 (.makeSlice 89 (.tmp 14) (.tmp 14)) 89 [14],
 sg 3 15 89 [15]])
 (.seq
 (.seq
 (.reg [sn 4 0 3 []])
 (.block 0
 (.loop F111.s0)))
 (.seq
 (.seq
 (.reg [sn 5 0 3 []])
 (.block 2
 (.loop F111.s1)))
 (.seq
 (.reg [mv 70 3 89 [3],
 sg 2 70 89 [70]])
 .ret)))))
theorem F111.rs : Tryz.f111.results.toList = [.tmp 2] := rfl
def R04_limits.b0 (k : Nat) : (Int × (List Range)) → Option (Stp (Int × (List Range)) ((List Range)) ((List Range))) := fun (s : Int × (List Range)) => match s with
 | (i3, l4) =>
   bif decide (i3 < ((l4.length : Nat) : Int)) then
    (at? l4 i3).bind fun x7 =>
    (set? l4 i3 (⟨-1000000, 1000000⟩ : Range)).bind fun l8 =>
    some (.next (w64 (i3 + 1), l8))
   else
    some (.brk l4)
def R04_limits.b1 (k : Nat) (f0 : Firing) : (Int × (List Range)) → Option (Stp (Int × (List Range)) ((List Range)) ((List Range))) := fun (s : Int × (List Range)) => match s with
 | (i10, l11) =>
   bif decide (i10 < (f0.Readings.length : Int)) then
    (at? f0.Readings i10).bind fun x14 =>
    (R04_Least k x14).bind fun x15 =>
    (at? l11 x14.Place).bind fun x16 =>
    (set? l11 x14.Place (⟨max x16.Lo x15.1, x16.Hi⟩ : Range)).bind fun l17 =>
    (at? l17 x14.Place).bind fun x18 =>
    (set? l17 x14.Place (⟨x18.Lo, min x18.Hi x15.2⟩ : Range)).bind fun l19 =>
    some (.next (w64 (i10 + 1), l19))
   else
    some (.brk l11)
noncomputable def R04_limits.h0 (f0 : Firing) : (Int × (List Range)) → St := fun (s : Int × (List Range)) => match s with
 | (i3, l4) => ⟨[(1, .ptr 0 0 0), (3, .loc 0 1 2 0 l4.length l4.length), (4, .int .i64 i3)], [(0, .box [.sl 1 (List.map (eL 2 Range.c) f0.Kiln.Falls), .sl 6 (List.map Reading.c f0.Readings)]), (1, .arr 30 2 (List.map Range.c l4))], [], 2, Tryz.f111.ntmps⟩
noncomputable def R04_limits.x0 (f0 : Firing) : (List Range) → St := fun (l5 : (List Range)) => ⟨[(1, .ptr 0 0 0), (3, .loc 0 1 2 0 l5.length l5.length)], [(0, .box [.sl 1 (List.map (eL 2 Range.c) f0.Kiln.Falls), .sl 6 (List.map Reading.c f0.Readings)]), (1, .arr 30 2 (List.map Range.c l5))], [], 2, Tryz.f111.ntmps⟩
noncomputable def R04_limits.h1 (f0 : Firing) : (Int × (List Range)) → St := fun (s : Int × (List Range)) => match s with
 | (i10, l11) => ⟨[(1, .ptr 0 0 0), (3, .loc 0 1 2 0 l11.length l11.length), (5, .int .i64 i10)], [(0, .box [.sl 1 (List.map (eL 2 Range.c) f0.Kiln.Falls), .sl 6 (List.map Reading.c f0.Readings)]), (1, .arr 30 2 (List.map Range.c l11))], [], 2, Tryz.f111.ntmps⟩
noncomputable def R04_limits.x1 : (List Range) → St := fun (l12 : (List Range)) => ⟨[(3, .loc 0 0 2 0 l12.length l12.length)], [(0, .arr 30 2 (List.map Range.c l12))], [], 1, Tryz.f111.ntmps⟩
def R04_limits (k : Nat) (f0 : Firing) : Option ((List Range)) :=
 (at? f0.Kiln.Falls 0).bind fun x1 =>
 (mk? (x1.length : Int) 16).bind fun _ =>
 (whl (R04_limits.b0 k) k (0, List.replicate x1.length (⟨0, 0⟩ : Range))).bind fun r9 => match r9 with
 | .next _ => none
 | .ret v_ => some v_
 | .brk l5 =>
  (whl (R04_limits.b1 k f0) k (0, l5)).bind fun r20 => match r20 with
  | .next _ => none
  | .ret v_ => some v_
  | .brk l12 =>
   some l12
theorem R04_limits_ok (k : Nat) (f0 : Firing) (r : (List Range)) (h0 : R04_limits k f0 = some r) : PCall Tryz.prog 111 [.agg (Firing.c f0)] (fun y => y = .sl 2 (List.map Range.c r)) := by
 refine PB (fn := Tryz.f111) (sc := F111.c) ?_
 refine rS ?_
 simp only [R04_limits] at h0
 try simp only [F111.c, go_sem]
 obtain ⟨x1, yx1, h0⟩ := bs h0
 try simp only [aa yx1, go_sem]
 obtain ⟨u2, yu2, h0⟩ := bs h0
 try simp only [mk_some yu2, aa yx1, go_sem]
 obtain ⟨r9, yr9, h0⟩ := bs h0
 refine AKev_loopS yr9 (R04_limits.h0 f0) (R04_limits.x0 f0) ?_ ?_ ?_
 refine Weak.go [1, 3, 4] [0, 128] rfl ?_
 try simp only [R04_limits.h0, aa yx1, go_sem]
 rintro ⟨i3, l4⟩ x_1 Bk1 Br1 h1 hnext1 hbrk1 hret1
 refine rS ?_
 simp only [R04_limits.b0] at h1
 try simp only [F111.s0, R04_limits.h0, aa yx1, go_sem]
 refine AKev_bif h1 ?_ ?_ <;> intro c6 h1
 try simp only [c6, aa yx1, go_sem]
 obtain ⟨x7, yx7, h1⟩ := bs h1
 try simp only [aa yx7, aa yx1, c6, go_sem]
 obtain ⟨l8, yl8, h1⟩ := bs h1
 have eyl8 := set_map Range.c yl8
 simp only [go_sem] at eyl8
 try simp only [eyl8, aa yx1, c6, aa yx7, set_len yl8, set_take Range.c yl8, go_sem]
 refine AKev_backB (hnext1 _ _ (Option.some.inj h1).symm ?_)
 refine Weak.go [1, 3, 4] [0, 1] rfl ?_
 try simp only [R04_limits.h0, aa yx1, c6, aa yx7, eyl8, set_len yl8, set_take Range.c yl8, go_sem]
 try simp only [c6, aa yx1, go_sem]
 refine AKev_backB (hbrk1 _ _ (Option.some.inj h1).symm ?_)
 refine Weak.go [1, 3] [0, 1] rfl ?_
 try simp only [R04_limits.x0, aa yx1, c6, go_sem]
 rintro l5 hr_
 subst hr_
 simp only at h0
 refine rS ?_
 try simp only [R04_limits.x0, aa yx1, go_sem]
 obtain ⟨r20, yr20, h0⟩ := bs h0
 refine AKev_loopS yr20 (R04_limits.h1 f0) (R04_limits.x1) ?_ ?_ ?_
 refine Weak.go [1, 3, 5] [0, 1] rfl ?_
 try simp only [R04_limits.h1, aa yx1, go_sem]
 rintro ⟨i10, l11⟩ x_1 Bk1 Br1 h1 hnext1 hbrk1 hret1
 refine rS ?_
 simp only [R04_limits.b1] at h1
 try simp only [F111.s1, R04_limits.h1, aa yx1, go_sem]
 refine AKev_bif h1 ?_ ?_ <;> intro c13 h1
 try simp only [c13, aa yx1, go_sem]
 obtain ⟨x14, yx14, h1⟩ := bs h1
 try simp only [aa yx14, aa yx1, c13, go_sem]
 obtain ⟨x15, yx15, h1⟩ := bs h1
 refine zc0 (R04_Least_ok k _ _ yx15) ?_ (by first | rfl | simp [AV.refsL, AV.refs, AV.scal, AV.leaf]) ?_
 try simp only [aa yx1, c13, aa yx14, go_sem]
 try simp only [aa yx14, aa yx1, c13, go_sem]
 obtain ⟨x16, yx16, h1⟩ := bs h1
 try simp only [aa yx16, aa yx1, c13, aa yx14, go_sem]
 obtain ⟨l17, yl17, h1⟩ := bs h1
 have eyl17 := set_map Range.c yl17
 simp only [go_sem] at eyl17
 try simp only [eyl17, aa yx1, c13, aa yx14, aa yx16, set_len yl17, set_take Range.c yl17, go_sem]
 obtain ⟨x18, yx18, h1⟩ := bs h1
 have eyx18 := at_in yx18
 simp only [aa yx1, c13, aa yx14, aa yx16, eyl17, set_len yl17, set_take Range.c yl17, go_sem] at eyx18
 try simp only [eyx18, at_get Range.c yx18, aa yx1, c13, aa yx14, aa yx16, eyl17, set_len yl17, set_take Range.c yl17, go_sem]
 obtain ⟨l19, yl19, h1⟩ := bs h1
 have eyl19 := set_map Range.c yl19
 simp only [go_sem] at eyl19
 try simp only [eyl19, aa yx1, c13, aa yx14, aa yx16, eyl17, set_len yl17, set_take Range.c yl17, eyx18, at_get Range.c yx18, set_len yl19, set_take Range.c yl19, go_sem]
 refine AKev_backB (hnext1 _ _ (Option.some.inj h1).symm ?_)
 refine Weak.go [1, 3, 5] [0, 1] rfl ?_
 try simp only [R04_limits.h1, aa yx1, c13, aa yx14, aa yx16, eyl17, set_len yl17, set_take Range.c yl17, eyx18, at_get Range.c yx18, eyl19, set_len yl19, set_take Range.c yl19, go_sem]
 try simp only [c13, aa yx1, go_sem]
 refine AKev_backB (hbrk1 _ _ (Option.some.inj h1).symm ?_)
 refine Weak.go [3] [1] rfl ?_
 try simp only [R04_limits.x1, aa yx1, c13, go_sem]
 rintro l12 hr_
 subst hr_
 simp only at h0
 refine rS ?_
 try simp only [R04_limits.x1, aa yx1, go_sem]
 obtain rfl := Option.some.inj h0
 refine AKev_ret rfl ?_
 try simp only [F111.rs, aa yx1, go_sem]
def F101.s1 : SC :=
 (.seq
 (.seq
 (.reg [mv 18 7 3 [],
 mv 19 3 89 [],
 ln 20 19 89 3 [19],
 b2 21 .lss 3 18 20 3 4 [18, 20]])
 (.cond (.tmp 21)
 .skip
 (.exit 2)))
 (.seq
 (.block 3
 (.seq
 (.reg [mv 24 3 89 [],
 mv 25 7 3 [],
 ia 26 89 24 25 [24, 25],
 fa 27 30 26 1 [26],
 ld 28 3 27 [27],
 bn 29 .lss 3 28 1000000 3 4 [28]])
 (.cond (.tmp 29)
 (.dreg [mv 30 6 3 [],
 mv 31 3 89 [],
 mv 32 7 3 [],
 ia 33 89 31 32 [],
 fa 34 30 33 1 [],
 ld 35 3 34 [],
 fa 36 27 1 0 [],
 fa 37 24 36 0 [],
 ld 38 22 37 [],
 mv 39 5 3 [],
 ia 40 22 38 39 [],
 ld 41 89 40 [],
 mv 42 7 3 [],
 ia 43 89 41 42 [],
 fa 44 30 43 1 [],
 ld 45 3 44 [],
 b2 46 .add 3 35 45 3 3 [],
 oq 47 (.call ⟨.builtin .min, #[.tmp 30, .tmp 46], #[3, 3]⟩) 3 [],
 sg 6 47 3 []] [[], [], [], [1, 2], [1, 2, 3], [1, 2, 3, 4], [], [6], [6, 7], [], [6, 7, 8, 9], [6, 7, 8, 9, 10], [], [6, 7, 8, 9, 10, 11, 12], [6, 7, 8, 9, 10, 11, 12, 13], [6, 7, 8, 9, 10, 11, 12, 13, 14], [1, 2, 3, 4, 5, 6, 7, 8, 9, 10, 11, 12, 13, 14, 15], [0, 1, 2, 3, 4, 5, 6, 7, 8, 9, 10, 11, 12, 13, 14, 15, 16], [0, 1, 2, 3, 4, 5, 6, 7, 8, 9, 10, 11, 12, 13, 14, 15, 16, 17]] [30, 31, 32, 33, 34, 35, 36, 37, 38, 39, 40, 41, 42, 43, 44, 45, 46, 47])
 .skip)))
 (.reg [mv 22 7 3 [7],
 bn 23 .add 3 22 1 3 3 [22],
 sg 7 23 3 [23]])))
def F101.s0 : SC :=
 (.seq
 (.seq
 (.reg [mv 10 5 3 [],
 fa 11 27 1 0 [],
 fa 12 24 11 0 [11],
 ld 13 22 12 [12],
 ln 14 13 22 3 [13],
 b2 15 .lss 3 10 14 3 4 [10, 14]])
 (.cond (.tmp 15)
 .skip
 (.exit 0)))
 (.seq
 (.block 1
 (.seq
 (.reg [sn 6 3000 3 []])
 (.seq
 (.seq
 (.reg [sn 7 0 3 []])
 (.block 2
 (.loop F101.s1)))
 (.reg [mv 48 4 37 [4],
 mv 49 6 3 [6],
 oq 50 (.buildSlice 37 1 #[(0, .tmp 49)]) 37 [49],
 oq 51 (.call ⟨.builtin .append, #[.tmp 48, .tmp 50], #[37, 37]⟩) 37 [48, 50],
 sg 4 51 37 [51]]))))
 (.reg [mv 16 5 3 [5],
 bn 17 .add 3 16 1 3 3 [16],
 sg 5 17 3 [17]])))
def F101.c : SC :=
 (.seq
 (.reg [oq 1 (.box 27 (.tmp 0)) 0 [0],
 oq 2 (.assign (.const (.slice none 0 0))) 37 [2]])
 (.seq
 (.reg [ld 8 27 1 [],
 cf1 9 111 8 27 89 [8],
 sg 3 9 89 [9]])
 (.seq
 (.reg [oq 4 (.assign (.const (.slice none 0 0))) 37 []])
 (.seq
 (.seq
 (.reg [sn 5 0 3 []])
 (.block 0
 (.loop F101.s0)))
 (.seq
 (.reg [mv 52 4 37 [4],
 sg 2 52 37 [52]])
 .ret)))))
theorem F101.rs : Tryz.f101.results.toList = [.tmp 2] := rfl
def R04_hottest.b1 (k : Nat) (f0 : Firing) (x1 : (List Range)) (i2 : Int) : (Int × Int) → Option (Stp (Int × Int) (Int) ((List Int))) := fun (s : Int × Int) => match s with
 | (i6, i7) =>
   bif decide (i7 < (x1.length : Int)) then
    (at? x1 i7).bind fun x10 =>
    bif decide (x10.Hi < (1000000 : Int)) then
     (at? f0.Kiln.Falls i2).bind fun x12 =>
     (at? x12 i7).bind fun x13 =>
     some (.next (min i6 (w64 (x10.Hi + x13.Hi)), w64 (i7 + 1)))
    else
     some (.next (i6, w64 (i7 + 1)))
   else
    some (.brk i6)
def R04_hottest.b0 (k : Nat) (f0 : Firing) (x1 : (List Range)) : (Int × (List Int)) → Option (Stp (Int × (List Int)) ((List Int)) ((List Int))) := fun (s : Int × (List Int)) => match s with
 | (i2, l3) =>
   bif decide (i2 < (f0.Kiln.Falls.length : Int)) then
    (whl (R04_hottest.b1 k f0 x1 i2) k (3000, 0)).bind fun r14 => match r14 with
    | .next _ => none
    | .ret v_ => some (.ret v_)
    | .brk i8 =>
     (push? 8 l3 i8).bind fun l15 =>
     some (.next (w64 (i2 + 1), l15))
   else
    some (.brk l3)
noncomputable def R04_hottest.h1 (f0 : Firing) (x1 : (List Range)) (i2 : Int) (l3 : (List Int)) : (Int × Int) → St := fun (s : Int × Int) => match s with
 | (i6, i7) => ⟨[(1, .ptr 0 0 0), (3, .sl 2 (List.map Range.c x1)), (4, .loc 0 1 1 0 l3.length l3.length), (5, .int .i64 i2), (6, .int .i64 i6), (7, .int .i64 i7)], [(0, .box [.sl 1 (List.map (eL 2 Range.c) f0.Kiln.Falls), .sl 6 (List.map Reading.c f0.Readings)]), (1, .arr 3 1 (List.map eI l3))], [], 2, Tryz.f101.ntmps⟩
noncomputable def R04_hottest.x1 (f0 : Firing) (x1 : (List Range)) (i2 : Int) (l3 : (List Int)) : Int → St := fun (i8 : Int) => ⟨[(1, .ptr 0 0 0), (3, .sl 2 (List.map Range.c x1)), (4, .loc 0 1 1 0 l3.length l3.length), (5, .int .i64 i2), (6, .int .i64 i8)], [(0, .box [.sl 1 (List.map (eL 2 Range.c) f0.Kiln.Falls), .sl 6 (List.map Reading.c f0.Readings)]), (1, .arr 3 1 (List.map eI l3))], [], 2, Tryz.f101.ntmps⟩
noncomputable def R04_hottest.h0 (f0 : Firing) (x1 : (List Range)) : (Int × (List Int)) → St := fun (s : Int × (List Int)) => match s with
 | (i2, l3) => ⟨[(1, .ptr 0 0 0), (3, .sl 2 (List.map Range.c x1)), (4, .loc 0 1 1 0 l3.length l3.length), (5, .int .i64 i2)], [(0, .box [.sl 1 (List.map (eL 2 Range.c) f0.Kiln.Falls), .sl 6 (List.map Reading.c f0.Readings)]), (1, .arr 3 1 (List.map eI l3))], [], 2, Tryz.f101.ntmps⟩
noncomputable def R04_hottest.x0 : (List Int) → St := fun (l4 : (List Int)) => ⟨[(4, .loc 0 0 1 0 l4.length l4.length)], [(0, .arr 3 1 (List.map eI l4))], [], 1, Tryz.f101.ntmps⟩
def R04_hottest (k : Nat) (f0 : Firing) : Option ((List Int)) :=
 (R04_limits k f0).bind fun x1 =>
 (whl (R04_hottest.b0 k f0 x1) k (0, [])).bind fun r16 => match r16 with
 | .next _ => none
 | .ret v_ => some v_
 | .brk l4 =>
  some l4
theorem R04_hottest_ok (k : Nat) (f0 : Firing) (r : (List Int)) (h0 : R04_hottest k f0 = some r) : PCall Tryz.prog 101 [.agg (Firing.c f0)] (fun y => y = .sl 1 (List.map eI r)) := by
 refine PB (fn := Tryz.f101) (sc := F101.c) ?_
 refine rS ?_
 simp only [R04_hottest] at h0
 try simp only [F101.c, go_sem]
 obtain ⟨x1, yx1, h0⟩ := bs h0
 refine zc0 (R04_limits_ok k _ _ yx1) ?_ (by first | rfl | simp [AV.refsL, AV.refs, AV.scal, AV.leaf]) ?_
 try simp only [go_sem]
 try simp only [go_sem]
 obtain ⟨r16, yr16, h0⟩ := bs h0
 refine AKev_loopS yr16 (R04_hottest.h0 f0 x1) (R04_hottest.x0) ?_ ?_ ?_
 refine Weak.go [1, 3, 4, 5] [0, 80] rfl ?_
 try simp only [R04_hottest.h0, go_sem]
 rintro ⟨i2, l3⟩ x_1 Bk1 Br1 h1 hnext1 hbrk1 hret1
 refine rS ?_
 simp only [R04_hottest.b0] at h1
 try simp only [F101.s0, R04_hottest.h0, go_sem]
 refine AKev_bif h1 ?_ ?_ <;> intro c5 h1
 try simp only [c5, go_sem]
 obtain ⟨r14, yr14, h1⟩ := bs h1
 refine AKev_loopS yr14 (R04_hottest.h1 f0 x1 i2 l3) (R04_hottest.x1 f0 x1 i2 l3) ?_ ?_ ?_
 refine Weak.go [1, 3, 4, 5, 6, 7] [0, 1] rfl ?_
 try simp only [R04_hottest.h1, c5, go_sem]
 rintro ⟨i6, i7⟩ x_2 Bk2 Br2 h2 hnext2 hbrk2 hret2
 refine rS ?_
 simp only [R04_hottest.b1] at h2
 try simp only [F101.s1, R04_hottest.h1, c5, go_sem]
 refine AKev_bif h2 ?_ ?_ <;> intro c9 h2
 try simp only [c9, c5, go_sem]
 obtain ⟨x10, yx10, h2⟩ := bs h2
 try simp only [aa yx10, c5, c9, go_sem]
 refine AKev_bif h2 ?_ ?_ <;> intro c11 h2
 try simp only [c11, c5, c9, aa yx10, go_sem]
 refine AKev_region T_ok follows_ok 1000 ?_
 try simp only [aa yx10, c5, c9, c11, go_sem]
 obtain ⟨x12, yx12, h2⟩ := bs h2
 try simp only [aa yx12, c5, c9, aa yx10, c11, go_sem]
 obtain ⟨x13, yx13, h2⟩ := bs h2
 try simp only [aa yx13, c5, c9, aa yx10, c11, aa yx12, go_sem]
 refine DG_done ⟨rfl, run_sound T_ok 1000 _ _ ?_⟩
 try simp only [c5, c9, aa yx10, c11, aa yx12, aa yx13, go_sem]
 refine AKev_backB (hnext2 _ _ (Option.some.inj h2).symm ?_)
 refine Weak.go [1, 3, 4, 5, 6, 7] [0, 1] rfl ?_
 try simp only [R04_hottest.h1, c5, c9, aa yx10, c11, aa yx12, aa yx13, go_sem]
 try simp only [c11, c5, c9, aa yx10, go_sem]
 refine AKev_backB (hnext2 _ _ (Option.some.inj h2).symm ?_)
 refine Weak.go [1, 3, 4, 5, 6, 7] [0, 1] rfl ?_
 try simp only [R04_hottest.h1, c5, c9, aa yx10, c11, go_sem]
 try simp only [c9, c5, go_sem]
 refine AKev_backB (hbrk2 _ _ (Option.some.inj h2).symm ?_)
 refine Weak.go [1, 3, 4, 5, 6] [0, 1] rfl ?_
 try simp only [R04_hottest.x1, c5, c9, go_sem]
 rintro i8 hr_
 subst hr_
 simp only at h1
 refine rS ?_
 try simp only [R04_hottest.x1, c5, go_sem]
 obtain ⟨l15, yl15, h1⟩ := bs h1
 have eyl15 := push_map eI yl15
 have tyl15 := push_take eI yl15
 have nyl15 := push_len yl15
 have myl15 := push_room yl15
 try simp only [c5, go_sem] at eyl15 tyl15 nyl15 myl15
 try simp only [myl15, eyl15, c5, nyl15, tyl15, go_sem]
 refine AKev_backB (hnext1 _ _ (Option.some.inj h1).symm ?_)
 refine Weak.go [1, 3, 4, 5] [0, 1] rfl ?_
 try simp only [R04_hottest.h0, c5, eyl15, nyl15, tyl15, go_sem]
 try simp only [c5, go_sem]
 refine AKev_backB (hbrk1 _ _ (Option.some.inj h1).symm ?_)
 refine Weak.go [4] [1] rfl ?_
 try simp only [R04_hottest.x0, c5, go_sem]
 rintro l4 hr_
 subst hr_
 simp only at h0
 refine rS ?_
 try simp only [R04_hottest.x0, go_sem]
 obtain rfl := Option.some.inj h0
 refine AKev_ret rfl ?_
 try simp only [F101.rs, go_sem]
def F112.c : SC :=
 (.seq
 (.reg [oq 5 (.box 27 (.tmp 0)) 0 [0],
 sb 10 false 4 [10]])
 (.seq
 (.dreg [mv 11 4 3 [],
 fa 12 27 5 0 [],
 fa 13 24 12 0 [],
 ld 14 22 13 [],
 mv 15 2 3 [],
 ia 16 22 14 15 [],
 ld 17 89 16 [],
 mv 18 3 3 [],
 ia 19 89 17 18 [],
 fa 20 30 19 0 [],
 ld 21 3 20 [],
 b2 22 .add 3 11 21 3 3 [],
 mv 23 1 37 [],
 mv 24 2 3 [],
 ia 25 37 23 24 [],
 ld 26 3 25 [],
 b2 27 .leq 3 22 26 3 4 [],
 sg 10 27 4 []] [[], [], [1], [1, 2], [], [1, 2, 3, 4], [1, 2, 3, 4, 5], [], [1, 2, 3, 4, 5, 6, 7], [1, 2, 3, 4, 5, 6, 7, 8], [1, 2, 3, 4, 5, 6, 7, 8, 9], [0, 1, 2, 3, 4, 5, 6, 7, 8, 9, 10], [], [], [12, 13], [12, 13, 14], [0, 1, 2, 3, 4, 5, 6, 7, 8, 9, 10, 11, 12, 13, 14, 15], [0, 1, 2, 3, 4, 5, 6, 7, 8, 9, 10, 11, 12, 13, 14, 15, 16]] [1, 2, 3, 4, 5, 11, 12, 13, 14, 15, 16, 17, 18, 19, 20, 21, 22, 23, 24, 25, 26, 27])
 .ret))
theorem F112.rs : Tryz.f112.results.toList = [.tmp 10] := rfl
def R04_reaches (k : Nat) (f0 : Firing) (u1 : (List Int)) (j2 : Int) (p3 : Int) (heat4 : Int) : Option (Bool) :=
 (at? f0.Kiln.Falls j2).bind fun x1 =>
 (at? x1 p3).bind fun x2 =>
 (at? u1 j2).bind fun x3 =>
 some (decide (w64 (heat4 + x2.Lo) ≤ x3))
theorem R04_reaches_ok (k : Nat) (f0 : Firing) (u1 : (List Int)) (j2 : Int) (p3 : Int) (heat4 : Int) (r : Bool) (h0 : R04_reaches k f0 u1 j2 p3 heat4 = some r) : PCall Tryz.prog 112 [.agg (Firing.c f0), .sl 1 (List.map eI u1), .int .i64 j2, .int .i64 p3, .int .i64 heat4] (fun y => y = .bool r) := by
 refine PB (fn := Tryz.f112) (sc := F112.c) ?_
 refine rS ?_
 simp only [R04_reaches] at h0
 try simp only [F112.c, go_sem]
 refine AKev_region T_ok follows_ok 1000 ?_
 try simp only [go_sem]
 obtain ⟨x1, yx1, h0⟩ := bs h0
 try simp only [aa yx1, go_sem]
 obtain ⟨x2, yx2, h0⟩ := bs h0
 try simp only [aa yx2, aa yx1, go_sem]
 obtain ⟨x3, yx3, h0⟩ := bs h0
 try simp only [aa yx3, aa yx1, aa yx2, go_sem]
 refine DG_done ⟨rfl, run_sound T_ok 1000 _ _ ?_⟩
 try simp only [aa yx1, aa yx2, aa yx3, go_sem]
 obtain rfl := Option.some.inj h0
 refine AKev_ret rfl ?_
 try simp only [F112.rs, aa yx1, aa yx2, aa yx3, go_sem]
def F56.s2 : SC :=
 (.seq
 (.seq
 (.reg [mv 47 8 3 [],
 mv 48 4 37 [],
 ln 49 48 37 3 [48],
 b2 50 .lss 3 47 49 3 4 [47, 49]])
 (.cond (.tmp 50)
 .skip
 (.exit 4)))
 (.seq
 (.block 5
 (.dreg [mv 53 7 4 [],
 mv 54 53 4 [],
 og 55 (.load 27 (.tmp 1)) 27 54 false [],
 og 56 (.move (.tmp 4)) 37 54 false [],
 og 57 (.move (.tmp 8)) 3 54 false [],
 og 58 (.move (.tmp 6)) 3 54 false [],
 og 59 (.move (.tmp 3)) 89 54 false [],
 og 60 (.move (.tmp 6)) 3 54 false [],
 og 61 (.indexAddr 89 (.tmp 59) (.tmp 60)) 0 54 false [],
 og 62 (.fieldAddr 30 (.tmp 61) 0) 0 54 false [],
 og 63 (.load 3 (.tmp 62)) 3 54 false [],
 og 64 (.call ⟨.value (.func 112), #[.tmp 55, .tmp 56, .tmp 57, .tmp 58, .tmp 63], #[27, 37, 3, 3, 3]⟩) 4 54 false [],
 oq 65 (.pick (.tmp 54) (.const (.bool true)) (.tmp 64)) 4 [],
 sg 7 65 4 []] [[], [0], [0, 1], [0, 1], [0, 1], [0, 1], [0, 1], [0, 1], [0, 1, 6, 7], [0, 1, 6, 7, 8], [0, 1, 6, 7, 8, 9], [0, 1, 2, 3, 4, 5, 6, 7, 8, 9, 10], [0, 1, 2, 3, 4, 5, 6, 7, 8, 9, 10, 11], [0, 1, 2, 3, 4, 5, 6, 7, 8, 9, 10, 11, 12]] [53, 54, 55, 56, 57, 58, 59, 60, 61, 62, 63, 64, 65]))
 (.reg [mv 51 8 3 [8],
 bn 52 .add 3 51 1 3 3 [51],
 sg 8 52 3 [52]])))
def F56.s1 : SC :=
 (.seq
 (.seq
 (.reg [mv 24 6 3 [],
 mv 25 3 89 [],
 ln 26 25 89 3 [25],
 b2 27 .lss 3 24 26 3 4 [24, 26]])
 (.cond (.tmp 27)
 .skip
 (.exit 2)))
 (.seq
 (.block 3
 (.seq
 (.seq
 (.dreg [mv 30 3 89 [],
 mv 31 6 3 [],
 ia 32 89 30 31 [],
 fa 33 30 32 0 [],
 ld 34 3 33 [],
 mv 35 3 89 [],
 mv 36 6 3 [],
 ia 37 89 35 36 [],
 fa 38 30 37 1 [],
 ld 39 3 38 [],
 b2 40 .gtr 3 34 39 3 4 []] [[], [], [0, 1], [0, 1, 2], [0, 1, 2, 3], [], [], [5, 6], [5, 6, 7], [5, 6, 7, 8], [0, 1, 2, 3, 4, 5, 6, 7, 8, 9]] [30, 31, 32, 33, 34, 35, 36, 37, 38, 39])
 (.cond (.tmp 40)
 (.seq
 (.reg [sb 2 false 4 []])
 .ret)
 .skip))
 (.seq
 (.reg [mv 41 3 89 [],
 mv 42 6 3 [],
 ia 43 89 41 42 [41, 42],
 fa 44 30 43 0 [43],
 ld 45 3 44 [44],
 bn 46 .eql 3 45 (-1000000) 3 4 [45],
 sg 7 46 4 [46]])
 (.seq
 (.seq
 (.reg [sn 8 0 3 []])
 (.block 4
 (.loop F56.s2)))
 (.seq
 (.reg [mv 66 7 4 [7],
 oq 67 (.unOp .not 4 (.tmp 66)) 4 [66]])
 (.cond (.tmp 67)
 (.seq
 (.reg [sb 2 false 4 []])
 .ret)
 .skip))))))
 (.reg [mv 28 6 3 [6],
 bn 29 .add 3 28 1 3 3 [28],
 sg 6 29 3 [29]])))
def F56.s0 : SC :=
 (.seq
 (.seq
 (.reg [mv 13 5 3 [],
 mv 14 4 37 [],
 ln 15 14 37 3 [14],
 b2 16 .lss 3 13 15 3 4 [13, 15]])
 (.cond (.tmp 16)
 .skip
 (.exit 0)))
 (.seq
 (.block 1
 (.seq
 (.reg [mv 19 4 37 [],
 mv 20 5 3 [],
 ia 21 37 19 20 [19, 20],
 ld 22 3 21 [21],
 bn 23 .lss 3 22 0 3 4 [22]])
 (.cond (.tmp 23)
 (.seq
 (.reg [sb 2 false 4 []])
 .ret)
 .skip)))
 (.reg [mv 17 5 3 [5],
 bn 18 .add 3 17 1 3 3 [17],
 sg 5 18 3 [18]])))
def F56.c : SC :=
 (.seq
 (.reg [oq 1 (.box 27 (.tmp 0)) 0 [0],
 sb 2 false 4 [2]])
 (.seq
 (.reg [ld 9 27 1 [],
 cf1 10 111 9 27 89 [9],
 sg 3 10 89 [10]])
 (.seq
 (.reg [ld 11 27 1 [],
 cf1 12 101 11 27 37 [11],
 sg 4 12 37 [12]])
 (.seq
 (.seq
 (.reg [sn 5 0 3 []])
 (.block 0
 (.loop F56.s0)))
 (.seq
 (.seq
 (.reg [sn 6 0 3 []])
 (.block 2
 (.loop F56.s1)))
 (.seq
 (.reg [sb 2 true 4 []])
 .ret))))))
theorem F56.rs : Tryz.f56.results.toList = [.tmp 2] := rfl
def R04_IsSound.b0 (k : Nat) (x2 : (List Int)) : Int → Option (Stp (Int) (Unit) (Bool)) := fun (i3 : Int) =>
 bif decide (i3 < (x2.length : Int)) then
  (at? x2 i3).bind fun x5 =>
  bif decide (x5 < (0 : Int)) then
   some (.ret false)
  else
   some (.next (w64 (i3 + 1)))
 else
  some (.brk ())
def R04_IsSound.b2 (k : Nat) (f0 : Firing) (x2 : (List Int)) (i8 : Int) (x10 : Range) : (Bool × Int) → Option (Stp (Bool × Int) (Bool) (Bool)) := fun (s : Bool × Int) => match s with
 | (b12, i13) =>
   bif decide (i13 < (x2.length : Int)) then
    bif (!b12) then
     (R04_reaches k f0 x2 i13 i8 x10.Lo).bind fun x17 =>
     some (.next (x17, w64 (i13 + 1)))
    else
     some (.next (true, w64 (i13 + 1)))
   else
    some (.brk b12)
def R04_IsSound.b1 (k : Nat) (f0 : Firing) (x1 : (List Range)) (x2 : (List Int)) : Int → Option (Stp (Int) (Unit) (Bool)) := fun (i8 : Int) =>
 bif decide (i8 < (x1.length : Int)) then
  (at? x1 i8).bind fun x10 =>
  bif decide (x10.Hi < x10.Lo) then
   some (.ret false)
  else
   (whl (R04_IsSound.b2 k f0 x2 i8 x10) k (decide (x10.Lo = (-1000000 : Int)), 0)).bind fun r18 => match r18 with
   | .next _ => none
   | .ret v_ => some (.ret v_)
   | .brk b14 =>
    bif (!b14) then
     some (.ret false)
    else
     some (.next (w64 (i8 + 1)))
 else
  some (.brk ())
noncomputable def R04_IsSound.h0 (f0 : Firing) (x1 : (List Range)) (x2 : (List Int)) : Int → St := fun (i3 : Int) => ⟨[(1, .ptr 0 0 0), (3, .sl 2 (List.map Range.c x1)), (4, .sl 1 (List.map eI x2)), (5, .int .i64 i3)], [(0, .box [.sl 1 (List.map (eL 2 Range.c) f0.Kiln.Falls), .sl 6 (List.map Reading.c f0.Readings)])], [], 1, Tryz.f56.ntmps⟩
noncomputable def R04_IsSound.x0 (f0 : Firing) (x1 : (List Range)) (x2 : (List Int)) : Unit → St := fun (_ : Unit) => ⟨[(1, .ptr 0 0 0), (3, .sl 2 (List.map Range.c x1)), (4, .sl 1 (List.map eI x2))], [(0, .box [.sl 1 (List.map (eL 2 Range.c) f0.Kiln.Falls), .sl 6 (List.map Reading.c f0.Readings)])], [], 1, Tryz.f56.ntmps⟩
noncomputable def R04_IsSound.h2 (f0 : Firing) (x1 : (List Range)) (x2 : (List Int)) (i8 : Int) : (Bool × Int) → St := fun (s : Bool × Int) => match s with
 | (b12, i13) => ⟨[(1, .ptr 0 0 0), (3, .sl 2 (List.map Range.c x1)), (4, .sl 1 (List.map eI x2)), (6, .int .i64 i8), (7, .bool b12), (8, .int .i64 i13)], [(0, .box [.sl 1 (List.map (eL 2 Range.c) f0.Kiln.Falls), .sl 6 (List.map Reading.c f0.Readings)])], [], 1, Tryz.f56.ntmps⟩
noncomputable def R04_IsSound.x2 (f0 : Firing) (x1 : (List Range)) (x2 : (List Int)) (i8 : Int) : Bool → St := fun (b14 : Bool) => ⟨[(1, .ptr 0 0 0), (3, .sl 2 (List.map Range.c x1)), (4, .sl 1 (List.map eI x2)), (6, .int .i64 i8), (7, .bool b14)], [(0, .box [.sl 1 (List.map (eL 2 Range.c) f0.Kiln.Falls), .sl 6 (List.map Reading.c f0.Readings)])], [], 1, Tryz.f56.ntmps⟩
noncomputable def R04_IsSound.h1 (f0 : Firing) (x1 : (List Range)) (x2 : (List Int)) : Int → St := fun (i8 : Int) => ⟨[(1, .ptr 0 0 0), (3, .sl 2 (List.map Range.c x1)), (4, .sl 1 (List.map eI x2)), (6, .int .i64 i8)], [(0, .box [.sl 1 (List.map (eL 2 Range.c) f0.Kiln.Falls), .sl 6 (List.map Reading.c f0.Readings)])], [], 1, Tryz.f56.ntmps⟩
noncomputable def R04_IsSound.x1 : Unit → St := fun (_ : Unit) => ⟨[], [], [], 1, Tryz.f56.ntmps⟩
def R04_IsSound (k : Nat) (f0 : Firing) : Option (Bool) :=
 (R04_limits k f0).bind fun x1 =>
 (R04_hottest k f0).bind fun x2 =>
 (whl (R04_IsSound.b0 k x2) k 0).bind fun r7 => match r7 with
 | .next _ => none
 | .ret v_ => some v_
 | .brk _ =>
  (whl (R04_IsSound.b1 k f0 x1 x2) k 0).bind fun r20 => match r20 with
  | .next _ => none
  | .ret v_ => some v_
  | .brk _ =>
   some true
theorem R04_IsSound_ok (k : Nat) (f0 : Firing) (r : Bool) (h0 : R04_IsSound k f0 = some r) : PCall Tryz.prog 56 [.agg (Firing.c f0)] (fun y => y = .bool r) := by
 refine PB (fn := Tryz.f56) (sc := F56.c) ?_
 refine rS ?_
 simp only [R04_IsSound] at h0
 try simp only [F56.c, go_sem]
 obtain ⟨x1, yx1, h0⟩ := bs h0
 refine zc0 (R04_limits_ok k _ _ yx1) ?_ (by first | rfl | simp [AV.refsL, AV.refs, AV.scal, AV.leaf]) ?_
 try simp only [go_sem]
 try simp only [go_sem]
 obtain ⟨x2, yx2, h0⟩ := bs h0
 refine zc0 (R04_hottest_ok k _ _ yx2) ?_ (by first | rfl | simp [AV.refsL, AV.refs, AV.scal, AV.leaf]) ?_
 try simp only [go_sem]
 try simp only [go_sem]
 obtain ⟨r7, yr7, h0⟩ := bs h0
 refine AKev_loopS yr7 (R04_IsSound.h0 f0 x1 x2) (R04_IsSound.x0 f0 x1 x2) ?_ ?_ ?_
 refine Weak.go [1, 3, 4, 5] [0] rfl ?_
 try simp only [R04_IsSound.h0, go_sem]
 rintro i3 x_1 Bk1 Br1 h1 hnext1 hbrk1 hret1
 refine rS ?_
 simp only [R04_IsSound.b0] at h1
 try simp only [F56.s0, R04_IsSound.h0, go_sem]
 refine AKev_bif h1 ?_ ?_ <;> intro c4 h1
 try simp only [c4, go_sem]
 obtain ⟨x5, yx5, h1⟩ := bs h1
 try simp only [aa yx5, c4, go_sem]
 refine AKev_bif h1 ?_ ?_ <;> intro c6 h1
 try simp only [c6, c4, aa yx5, go_sem]
 obtain rfl := hret1 _ (Option.some.inj h1).symm
 simp only at h0
 obtain rfl := Option.some.inj h0
 refine AKev_ret rfl ?_
 try simp only [F56.rs, c4, aa yx5, c6, go_sem]
 try simp only [c6, c4, aa yx5, go_sem]
 refine AKev_backB (hnext1 _ _ (Option.some.inj h1).symm ?_)
 refine Weak.go [1, 3, 4, 5] [0] rfl ?_
 try simp only [R04_IsSound.h0, c4, aa yx5, c6, go_sem]
 try simp only [c4, go_sem]
 refine AKev_backB (hbrk1 _ _ (Option.some.inj h1).symm ?_)
 refine Weak.go [1, 3, 4] [0] rfl ?_
 try simp only [R04_IsSound.x0, c4, go_sem]
 rintro _ hr_
 subst hr_
 simp only at h0
 refine rS ?_
 try simp only [R04_IsSound.x0, go_sem]
 obtain ⟨r20, yr20, h0⟩ := bs h0
 refine AKev_loopS yr20 (R04_IsSound.h1 f0 x1 x2) (R04_IsSound.x1) ?_ ?_ ?_
 refine Weak.go [1, 3, 4, 6] [0] rfl ?_
 try simp only [R04_IsSound.h1, go_sem]
 rintro i8 x_1 Bk1 Br1 h1 hnext1 hbrk1 hret1
 refine rS ?_
 simp only [R04_IsSound.b1] at h1
 try simp only [F56.s1, R04_IsSound.h1, go_sem]
 refine AKev_bif h1 ?_ ?_ <;> intro c9 h1
 try simp only [c9, go_sem]
 refine AKev_region T_ok follows_ok 1000 ?_
 try simp only [c9, go_sem]
 obtain ⟨x10, yx10, h1⟩ := bs h1
 try simp only [aa yx10, c9, go_sem]
 refine DG_done ⟨rfl, run_sound T_ok 1000 _ _ ?_⟩
 try simp only [c9, aa yx10, go_sem]
 refine AKev_bif h1 ?_ ?_ <;> intro c11 h1
 try simp only [c11, c9, aa yx10, go_sem]
 obtain rfl := hret1 _ (Option.some.inj h1).symm
 simp only at h0
 obtain rfl := Option.some.inj h0
 refine AKev_ret rfl ?_
 try simp only [F56.rs, c9, aa yx10, c11, go_sem]
 try simp only [c11, aa yx10, c9, go_sem]
 obtain ⟨r18, yr18, h1⟩ := bs h1
 refine AKev_loopS yr18 (R04_IsSound.h2 f0 x1 x2 i8) (R04_IsSound.x2 f0 x1 x2 i8) ?_ ?_ ?_
 refine Weak.go [1, 3, 4, 6, 7, 8] [0] rfl ?_
 try simp only [R04_IsSound.h2, c9, aa yx10, c11, go_sem]
 rintro ⟨b12, i13⟩ x_2 Bk2 Br2 h2 hnext2 hbrk2 hret2
 refine rS ?_
 simp only [R04_IsSound.b2] at h2
 try simp only [F56.s2, R04_IsSound.h2, c9, aa yx10, c11, go_sem]
 refine AKev_bif h2 ?_ ?_ <;> intro c15 h2
 try simp only [c15, c9, aa yx10, c11, go_sem]
 refine AKev_region T_ok follows_ok 1000 ?_
 try simp only [c9, aa yx10, c11, c15, go_sem]
 refine DG_bif h2 ?_ ?_ <;> intro c16 h2
 have c16 := bnot_t c16
 try simp only [c16, aa yx10, c9, c11, c15, go_sem]
 obtain ⟨x17, yx17, h2⟩ := bs h2
 refine DG_call0 1000 (R04_reaches_ok k _ _ _ _ _ _ yx17) ?_ (by first | rfl | simp [AV.refsL, AV.refs, AV.scal, AV.leaf]) ?_
 try simp only [c9, aa yx10, c11, c15, c16, go_sem]
 try simp only [c9, aa yx10, c11, c15, c16, go_sem]
 refine DG_done ⟨rfl, run_sound T_ok 1000 _ _ ?_⟩
 try simp only [c9, aa yx10, c11, c15, c16, go_sem]
 refine AKev_backB (hnext2 _ _ (Option.some.inj h2).symm ?_)
 refine Weak.go [1, 3, 4, 6, 7, 8] [0] rfl ?_
 try simp only [R04_IsSound.h2, c9, aa yx10, c11, c15, c16, go_sem]
 have c16 := bnot_f c16
 try simp only [c16, c9, aa yx10, c11, c15, go_sem]
 refine DG_done ⟨rfl, run_sound T_ok 1000 _ _ ?_⟩
 try simp only [c9, aa yx10, c11, c15, c16, go_sem]
 refine AKev_backB (hnext2 _ _ (Option.some.inj h2).symm ?_)
 refine Weak.go [1, 3, 4, 6, 7, 8] [0] rfl ?_
 try simp only [R04_IsSound.h2, c9, aa yx10, c11, c15, c16, go_sem]
 try simp only [c15, c9, aa yx10, c11, go_sem]
 refine AKev_backB (hbrk2 _ _ (Option.some.inj h2).symm ?_)
 refine Weak.go [1, 3, 4, 6, 7] [0] rfl ?_
 try simp only [R04_IsSound.x2, c9, aa yx10, c11, c15, go_sem]
 rintro b14 hr_
 subst hr_
 simp only at h1
 refine rS ?_
 try simp only [R04_IsSound.x2, c9, aa yx10, c11, go_sem]
 refine AKev_bif h1 ?_ ?_ <;> intro c19 h1
 have c19 := bnot_t c19
 try simp only [c19, c9, aa yx10, c11, go_sem]
 obtain rfl := hret1 _ (Option.some.inj h1).symm
 simp only at h0
 obtain rfl := Option.some.inj h0
 refine AKev_ret rfl ?_
 try simp only [F56.rs, c9, aa yx10, c11, c19, go_sem]
 have c19 := bnot_f c19
 try simp only [c19, c9, aa yx10, c11, go_sem]
 refine AKev_backB (hnext1 _ _ (Option.some.inj h1).symm ?_)
 refine Weak.go [1, 3, 4, 6] [0] rfl ?_
 try simp only [R04_IsSound.h1, c9, aa yx10, c11, c19, go_sem]
 try simp only [c9, go_sem]
 refine AKev_backB (hbrk1 _ _ (Option.some.inj h1).symm ?_)
 refine Weak.go [] [] rfl ?_
 try simp only [R04_IsSound.x1, c9, go_sem]
 rintro _ hr_
 subst hr_
 simp only at h0
 refine rS ?_
 try simp only [R04_IsSound.x1, go_sem]
 obtain rfl := Option.some.inj h0
 refine AKev_ret rfl ?_
 try simp only [F56.rs, go_sem]
def F137.s0 : SC :=
 (.seq
 (.seq
 (.reg [mv 8 7 3 [],
 mv 9 0 37 [],
 ln 10 9 37 3 [9],
 b2 11 .lss 3 8 10 3 4 [8, 10]])
 (.cond (.tmp 11)
 .skip
 (.exit 0)))
 (.seq
 (.block 1
 (.seq
 (.seq
 (.reg [mv 14 0 37 [],
 mv 15 7 3 [],
 ia 16 37 14 15 [14, 15],
 ld 17 3 16 [16],
 mv 18 1 3 [],
 b2 19 .eql 3 17 18 3 4 [17, 18]])
 (.cond (.tmp 19)
 (.seq
 (.reg [mv 20 0 37 [0],
 sg 4 20 37 [20]])
 .ret)
 .skip))
 (.seq
 (.seq
 (.reg [mv 21 6 4 [],
 oq 22 (.unOp .not 4 (.tmp 21)) 4 [21],
 mv 23 22 4 [22],
 og 24 (.move (.tmp 0)) 37 23 true [],
 og 25 (.move (.tmp 7)) 3 23 true [],
 og 26 (.indexAddr 37 (.tmp 24) (.tmp 25)) 0 23 true [24, 25],
 og 27 (.load 3 (.tmp 26)) 3 23 true [26],
 og 28 (.move (.tmp 1)) 3 23 true [],
 og 29 (.binOp .gtr 3 (.tmp 27) (.tmp 28) 3) 4 23 true [27, 28],
 oq 30 (.pick (.tmp 23) (.tmp 29) (.const (.bool false))) 4 [23, 29]])
 (.cond (.tmp 30)
 (.seq
 (.reg [mv 31 5 37 [5],
 mv 32 1 3 [],
 oq 33 (.buildSlice 37 1 #[(0, .tmp 32)]) 37 [32],
 oq 34 (.call ⟨.builtin .append, #[.tmp 31, .tmp 33], #[37, 37]⟩) 37 [31, 33],
 sg 5 34 37 [34]])
 (.reg [sb 6 true 4 []]))
 .skip))
 (.reg [mv 35 5 37 [5],
 mv 36 0 37 [],
 mv 37 7 3 [],
 ia 38 37 36 37 [36, 37],
 ld 39 3 38 [38],
 oq 40 (.buildSlice 37 1 #[(0, .tmp 39)]) 37 [39],
 oq 41 (.call ⟨.builtin .append, #[.tmp 35, .tmp 40], #[37, 37]⟩) 37 [35, 40],
 sg 5 41 37 [41]]))))
 (.reg [mv 12 7 3 [7],
 bn 13 .add 3 12 1 3 3 [12],
 sg 7 13 3 [13]])))
def F137.c : SC :=
 (.seq
 (.reg [oq 4 (.assign (.const (.slice none 0 0))) 37 [4]])
 (.seq
 (.reg [oq 5 (.assign (.const (.slice none 0 0))) 37 []])
 (.seq
 (.reg [sb 6 false 4 []])
 (.seq
 (.seq
 (.reg [sn 7 0 3 []])
 (.block 0
 (.loop F137.s0)))
 (.seq
 (.seq
 (.reg [mv 42 6 4 [6],
 oq 43 (.unOp .not 4 (.tmp 42)) 4 [42]])
 (.cond (.tmp 43)
 (.reg [mv 44 5 37 [5],
 mv 45 1 3 [1],
 oq 46 (.buildSlice 37 1 #[(0, .tmp 45)]) 37 [45],
 oq 47 (.call ⟨.builtin .append, #[.tmp 44, .tmp 46], #[37, 37]⟩) 37 [44, 46],
 sg 5 47 37 [47]])
 .skip))
 (.seq
 (.reg [mv 48 5 37 [5],
 sg 4 48 37 [48]])
 .ret))))))
theorem F137.rs : Tryz.f137.results.toList = [.tmp 4] := rfl
def R01_add.b0 (k : Nat) (l0 : (List Int)) (n1 : Int) : (Bool × Int × (List Int)) → Option (Stp (Bool × Int × (List Int)) (Bool × (List Int)) ((List Int))) := fun (s : Bool × Int × (List Int)) => match s with
 | (b1, i2, l3) =>
   bif decide (i2 < (l0.length : Int)) then
    (at? l0 i2).bind fun x7 =>
    bif decide (x7 = n1) then
     some (.ret l0)
    else
     bif (!b1) then
      bif decide (n1 < x7) then
       (push? 8 l3 n1).bind fun l11 =>
       (push? 8 l11 x7).bind fun l12 =>
       some (.next (true, w64 (i2 + 1), l12))
      else
       (push? 8 l3 x7).bind fun l13 =>
       some (.next (b1, w64 (i2 + 1), l13))
     else
      (push? 8 l3 x7).bind fun l14 =>
      some (.next (b1, w64 (i2 + 1), l14))
   else
    some (.brk (b1, l3))
noncomputable def R01_add.h0 (l0 : (List Int)) (n1 : Int) : (Bool × Int × (List Int)) → St := fun (s : Bool × Int × (List Int)) => match s with
 | (b1, i2, l3) => ⟨[(0, .sl 1 (List.map eI l0)), (1, .int .i64 n1), (5, .loc 0 0 1 0 l3.length l3.length), (6, .bool b1), (7, .int .i64 i2)], [(0, .arr 3 1 (List.map eI l3))], [], 1, Tryz.f137.ntmps⟩
noncomputable def R01_add.x0 (n1 : Int) : (Bool × (List Int)) → St := fun (s : Bool × (List Int)) => match s with
 | (b4, l5) => ⟨[(1, .int .i64 n1), (5, .loc 0 0 1 0 l5.length l5.length), (6, .bool b4)], [(0, .arr 3 1 (List.map eI l5))], [], 1, Tryz.f137.ntmps⟩
def R01_add (k : Nat) (l0 : (List Int)) (n1 : Int) : Option ((List Int)) :=
 (whl (R01_add.b0 k l0 n1) k (false, 0, [])).bind fun r15 => match r15 with
 | .next _ => none
 | .ret v_ => some v_
 | .brk (b4, l5) =>
  bif (!b4) then
   (push? 8 l5 n1).bind fun l17 =>
   some l17
  else
   some l5
theorem R01_add_ok (k : Nat) (l0 : (List Int)) (n1 : Int) (r : (List Int)) (h0 : R01_add k l0 n1 = some r) : PCall Tryz.prog 137 [.sl 1 (List.map eI l0), .int .i64 n1] (fun y => y = .sl 1 (List.map eI r)) := by
 refine PB (fn := Tryz.f137) (sc := F137.c) ?_
 refine rS ?_
 simp only [R01_add] at h0
 try simp only [F137.c, go_sem]
 obtain ⟨r15, yr15, h0⟩ := bs h0
 refine AKev_loopS yr15 (R01_add.h0 l0 n1) (R01_add.x0 n1) ?_ ?_ ?_
 refine Weak.go [0, 1, 5, 6, 7] [16] rfl ?_
 try simp only [R01_add.h0, go_sem]
 rintro ⟨b1, i2, l3⟩ x_1 Bk1 Br1 h1 hnext1 hbrk1 hret1
 refine rS ?_
 simp only [R01_add.b0] at h1
 try simp only [F137.s0, R01_add.h0, go_sem]
 refine AKev_bif h1 ?_ ?_ <;> intro c6 h1
 try simp only [c6, go_sem]
 obtain ⟨x7, yx7, h1⟩ := bs h1
 try simp only [aa yx7, c6, go_sem]
 refine AKev_bif h1 ?_ ?_ <;> intro c8 h1
 try simp only [c8, c6, aa yx7, go_sem]
 obtain rfl := hret1 _ (Option.some.inj h1).symm
 simp only at h0
 obtain rfl := Option.some.inj h0
 refine AKev_ret rfl ?_
 try simp only [F137.rs, c6, aa yx7, c8, go_sem]
 try simp only [c8, c6, aa yx7, go_sem]
 refine AKev_bif h1 ?_ ?_ <;> intro c9 h1
 have c9 := bnot_t c9
 try simp only [c9, aa yx7, c6, c8, go_sem]
 refine AKev_bif h1 ?_ ?_ <;> intro c10 h1
 try simp only [c10, c6, aa yx7, c8, c9, go_sem]
 obtain ⟨l11, yl11, h1⟩ := bs h1
 have eyl11 := push_map eI yl11
 have tyl11 := push_take eI yl11
 have nyl11 := push_len yl11
 have myl11 := push_room yl11
 try simp only [c6, aa yx7, c8, c9, c10, go_sem] at eyl11 tyl11 nyl11 myl11
 try simp only [myl11, eyl11, aa yx7, c6, c8, c9, c10, nyl11, tyl11, go_sem]
 obtain ⟨l12, yl12, h1⟩ := bs h1
 have eyl12 := push_map eI yl12
 have tyl12 := push_take eI yl12
 have nyl12 := push_len yl12
 have myl12 := push_room yl12
 try simp only [c6, aa yx7, c8, c9, c10, eyl11, nyl11, tyl11, go_sem] at eyl12 tyl12 nyl12 myl12
 try simp only [myl12, eyl12, c6, aa yx7, c8, c9, c10, eyl11, nyl11, tyl11, nyl12, tyl12, go_sem]
 refine AKev_backB (hnext1 _ _ (Option.some.inj h1).symm ?_)
 refine Weak.go [0, 1, 5, 6, 7] [0] rfl ?_
 try simp only [R01_add.h0, c6, aa yx7, c8, c9, c10, eyl11, nyl11, tyl11, eyl12, nyl12, tyl12, go_sem]
 try simp only [c10, aa yx7, c6, c8, c9, go_sem]
 obtain ⟨l13, yl13, h1⟩ := bs h1
 have eyl13 := push_map eI yl13
 have tyl13 := push_take eI yl13
 have nyl13 := push_len yl13
 have myl13 := push_room yl13
 try simp only [c6, aa yx7, c8, c9, c10, go_sem] at eyl13 tyl13 nyl13 myl13
 try simp only [myl13, eyl13, c6, aa yx7, c8, c9, c10, nyl13, tyl13, go_sem]
 refine AKev_backB (hnext1 _ _ (Option.some.inj h1).symm ?_)
 refine Weak.go [0, 1, 5, 6, 7] [0] rfl ?_
 try simp only [R01_add.h0, c6, aa yx7, c8, c9, c10, eyl13, nyl13, tyl13, go_sem]
 have c9 := bnot_f c9
 try simp only [c9, aa yx7, c6, c8, go_sem]
 obtain ⟨l14, yl14, h1⟩ := bs h1
 have eyl14 := push_map eI yl14
 have tyl14 := push_take eI yl14
 have nyl14 := push_len yl14
 have myl14 := push_room yl14
 try simp only [c6, aa yx7, c8, c9, go_sem] at eyl14 tyl14 nyl14 myl14
 try simp only [myl14, eyl14, c6, aa yx7, c8, c9, nyl14, tyl14, go_sem]
 refine AKev_backB (hnext1 _ _ (Option.some.inj h1).symm ?_)
 refine Weak.go [0, 1, 5, 6, 7] [0] rfl ?_
 try simp only [R01_add.h0, c6, aa yx7, c8, c9, eyl14, nyl14, tyl14, go_sem]
 try simp only [c6, go_sem]
 refine AKev_backB (hbrk1 _ _ (Option.some.inj h1).symm ?_)
 refine Weak.go [1, 5, 6] [0] rfl ?_
 try simp only [R01_add.x0, c6, go_sem]
 rintro ⟨b4, l5⟩ hr_
 subst hr_
 simp only at h0
 refine rS ?_
 try simp only [R01_add.x0, go_sem]
 refine AKev_bif h0 ?_ ?_ <;> intro c16 h0
 have c16 := bnot_t c16
 try simp only [c16, go_sem]
 obtain ⟨l17, yl17, h0⟩ := bs h0
 have eyl17 := push_map eI yl17
 have tyl17 := push_take eI yl17
 have nyl17 := push_len yl17
 have myl17 := push_room yl17
 try simp only [c16, go_sem] at eyl17 tyl17 nyl17 myl17
 try simp only [myl17, eyl17, c16, nyl17, tyl17, go_sem]
 obtain rfl := Option.some.inj h0
 refine AKev_ret rfl ?_
 try simp only [F137.rs, c16, eyl17, nyl17, tyl17, go_sem]
 have c16 := bnot_f c16
 try simp only [c16, go_sem]
 obtain rfl := Option.some.inj h0
 refine AKev_ret rfl ?_
 try simp only [F137.rs, c16, go_sem]
def F119.s0 : SC :=
 (.seq
 (.seq
 (.reg [mv 5 4 3 [],
 mv 6 0 37 [],
 ln 7 6 37 3 [6],
 b2 8 .lss 3 5 7 3 4 [5, 7]])
 (.cond (.tmp 8)
 .skip
 (.exit 0)))
 (.seq
 (.block 1
 (.reg [mv 11 3 37 [3],
 mv 12 0 37 [],
 mv 13 4 3 [],
 ia 14 37 12 13 [12, 13],
 ld 15 3 14 [14],
 cf2 16 137 11 15 37 3 37 [11, 15],
 sg 3 16 37 [16]]))
 (.reg [mv 9 4 3 [4],
 bn 10 .add 3 9 1 3 3 [9],
 sg 4 10 3 [10]])))
def F119.c : SC :=
 (.seq
 (.reg [oq 2 (.assign (.const (.slice none 0 0))) 37 [2]])
 (.seq
 (.reg [oq 3 (.assign (.const (.slice none 0 0))) 37 []])
 (.seq
 (.seq
 (.reg [sn 4 0 3 []])
 (.block 0
 (.loop F119.s0)))
 (.seq
 (.reg [mv 17 3 37 [3],
 sg 2 17 37 [17]])
 .ret))))
theorem F119.rs : Tryz.f119.results.toList = [.tmp 2] := rfl
def R01_Sorted.b0 (k : Nat) (l0 : (List Int)) : ((List Int) × Int) → Option (Stp ((List Int) × Int) ((List Int)) ((List Int))) := fun (s : (List Int) × Int) => match s with
 | (l1, i2) =>
   bif decide (i2 < (l0.length : Int)) then
    (at? l0 i2).bind fun x5 =>
    (R01_add k l1 x5).bind fun x6 =>
    some (.next (x6, w64 (i2 + 1)))
   else
    some (.brk l1)
noncomputable def R01_Sorted.h0 (l0 : (List Int)) : ((List Int) × Int) → St := fun (s : (List Int) × Int) => match s with
 | (l1, i2) => ⟨[(0, .sl 1 (List.map eI l0)), (3, .sl 1 (List.map eI l1)), (4, .int .i64 i2)], [], [], 1, Tryz.f119.ntmps⟩
noncomputable def R01_Sorted.x0 : (List Int) → St := fun (l3 : (List Int)) => ⟨[(3, .sl 1 (List.map eI l3))], [], [], 1, Tryz.f119.ntmps⟩
def R01_Sorted (k : Nat) (l0 : (List Int)) : Option ((List Int)) :=
 (whl (R01_Sorted.b0 k l0) k ([], 0)).bind fun r7 => match r7 with
 | .next _ => none
 | .ret v_ => some v_
 | .brk l3 =>
  some l3
theorem R01_Sorted_ok (k : Nat) (l0 : (List Int)) (r : (List Int)) (h0 : R01_Sorted k l0 = some r) : PCall Tryz.prog 119 [.sl 1 (List.map eI l0)] (fun y => y = .sl 1 (List.map eI r)) := by
 refine PB (fn := Tryz.f119) (sc := F119.c) ?_
 refine rS ?_
 simp only [R01_Sorted] at h0
 try simp only [F119.c, go_sem]
 obtain ⟨r7, yr7, h0⟩ := bs h0
 refine AKev_loopS yr7 (R01_Sorted.h0 l0) (R01_Sorted.x0) ?_ ?_ ?_
 refine Weak.trans (Weak.fz 16 rfl (fun _ h => by cases h)) ?_
 refine Weak.go [0, 3, 4] [] rfl ?_
 try simp only [R01_Sorted.h0, go_sem]
 rintro ⟨l1, i2⟩ x_1 Bk1 Br1 h1 hnext1 hbrk1 hret1
 refine rS ?_
 simp only [R01_Sorted.b0] at h1
 try simp only [F119.s0, R01_Sorted.h0, go_sem]
 refine AKev_bif h1 ?_ ?_ <;> intro c4 h1
 try simp only [c4, go_sem]
 obtain ⟨x5, yx5, h1⟩ := bs h1
 try simp only [aa yx5, c4, go_sem]
 obtain ⟨x6, yx6, h1⟩ := bs h1
 refine zc0 (R01_add_ok k _ _ _ yx6) ?_ (by first | rfl | simp [AV.refsL, AV.refs, AV.scal, AV.leaf]) ?_
 try simp only [c4, aa yx5, go_sem]
 try simp only [c4, aa yx5, go_sem]
 refine AKev_backB (hnext1 _ _ (Option.some.inj h1).symm ?_)
 refine Weak.go [0, 3, 4] [] rfl ?_
 try simp only [R01_Sorted.h0, c4, aa yx5, go_sem]
 try simp only [c4, go_sem]
 refine AKev_backB (hbrk1 _ _ (Option.some.inj h1).symm ?_)
 refine Weak.go [3] [] rfl ?_
 try simp only [R01_Sorted.x0, c4, go_sem]
 rintro l3 hr_
 subst hr_
 simp only at h0
 refine rS ?_
 try simp only [R01_Sorted.x0, go_sem]
 obtain rfl := Option.some.inj h0
 refine AKev_ret rfl ?_
 try simp only [F119.rs, go_sem]
def F71.s0 : SC :=
 (.seq
 (.seq
 (.reg [mv 5 4 3 [],
 mv 6 0 25 [],
 ln 7 6 25 3 [6],
 b2 8 .lss 3 5 7 3 4 [5, 7]])
 (.cond (.tmp 8)
 .skip
 (.exit 0)))
 (.seq
 (.block 1
 (.reg [mv 11 3 37 [3],
 mv 12 0 25 [],
 mv 13 4 3 [],
 ia 14 25 12 13 [12, 13],
 fa 15 64 14 0 [14],
 ld 16 3 15 [15],
 oq 17 (.buildSlice 37 1 #[(0, .tmp 16)]) 37 [16],
 oq 18 (.call ⟨.builtin .append, #[.tmp 11, .tmp 17], #[37, 37]⟩) 37 [11, 17],
 sg 3 18 37 [18]]))
 (.reg [mv 9 4 3 [4],
 bn 10 .add 3 9 1 3 3 [9],
 sg 4 10 3 [10]])))
def F71.c : SC :=
 (.seq
 (.reg [oq 2 (.assign (.const (.slice none 0 0))) 37 [2]])
 (.seq
 (.reg [oq 3 (.assign (.const (.slice none 0 0))) 37 []])
 (.seq
 (.seq
 (.reg [sn 4 0 3 []])
 (.block 0
 (.loop F71.s0)))
 (.seq
 (.reg [mv 19 3 37 [3],
 cf1 20 119 19 37 37 [19],
 sg 2 20 37 [20]])
 .ret))))
theorem F71.rs : Tryz.f71.results.toList = [.tmp 2] := rfl
def R04_sources.b0 (k : Nat) (l0 : (List Reading)) : (Int × (List Int)) → Option (Stp (Int × (List Int)) ((List Int)) ((List Int))) := fun (s : Int × (List Int)) => match s with
 | (i1, l2) =>
   bif decide (i1 < (l0.length : Int)) then
    (at? l0 i1).bind fun x5 =>
    (push? 8 l2 x5.Source).bind fun l6 =>
    some (.next (w64 (i1 + 1), l6))
   else
    some (.brk l2)
noncomputable def R04_sources.h0 (l0 : (List Reading)) : (Int × (List Int)) → St := fun (s : Int × (List Int)) => match s with
 | (i1, l2) => ⟨[(0, .sl 6 (List.map Reading.c l0)), (3, .loc 0 0 1 0 l2.length l2.length), (4, .int .i64 i1)], [(0, .arr 3 1 (List.map eI l2))], [], 1, Tryz.f71.ntmps⟩
noncomputable def R04_sources.x0 : (List Int) → St := fun (l3 : (List Int)) => ⟨[(3, .loc 0 0 1 0 l3.length l3.length)], [(0, .arr 3 1 (List.map eI l3))], [], 1, Tryz.f71.ntmps⟩
def R04_sources (k : Nat) (l0 : (List Reading)) : Option ((List Int)) :=
 (whl (R04_sources.b0 k l0) k (0, [])).bind fun r7 => match r7 with
 | .next _ => none
 | .ret v_ => some v_
 | .brk l3 =>
  (R01_Sorted k l3).bind fun x8 =>
  some x8
theorem R04_sources_ok (k : Nat) (l0 : (List Reading)) (r : (List Int)) (h0 : R04_sources k l0 = some r) : PCall Tryz.prog 71 [.sl 6 (List.map Reading.c l0)] (fun y => y = .sl 1 (List.map eI r)) := by
 refine PB (fn := Tryz.f71) (sc := F71.c) ?_
 refine rS ?_
 simp only [R04_sources] at h0
 try simp only [F71.c, go_sem]
 obtain ⟨r7, yr7, h0⟩ := bs h0
 refine AKev_loopS yr7 (R04_sources.h0 l0) (R04_sources.x0) ?_ ?_ ?_
 refine Weak.go [0, 3, 4] [16] rfl ?_
 try simp only [R04_sources.h0, go_sem]
 rintro ⟨i1, l2⟩ x_1 Bk1 Br1 h1 hnext1 hbrk1 hret1
 refine rS ?_
 simp only [R04_sources.b0] at h1
 try simp only [F71.s0, R04_sources.h0, go_sem]
 refine AKev_bif h1 ?_ ?_ <;> intro c4 h1
 try simp only [c4, go_sem]
 obtain ⟨x5, yx5, h1⟩ := bs h1
 try simp only [aa yx5, c4, go_sem]
 obtain ⟨l6, yl6, h1⟩ := bs h1
 have eyl6 := push_map eI yl6
 have tyl6 := push_take eI yl6
 have nyl6 := push_len yl6
 have myl6 := push_room yl6
 try simp only [c4, aa yx5, go_sem] at eyl6 tyl6 nyl6 myl6
 try simp only [myl6, eyl6, c4, aa yx5, nyl6, tyl6, go_sem]
 refine AKev_backB (hnext1 _ _ (Option.some.inj h1).symm ?_)
 refine Weak.go [0, 3, 4] [0] rfl ?_
 try simp only [R04_sources.h0, c4, aa yx5, eyl6, nyl6, tyl6, go_sem]
 try simp only [c4, go_sem]
 refine AKev_backB (hbrk1 _ _ (Option.some.inj h1).symm ?_)
 refine Weak.go [3] [0] rfl ?_
 try simp only [R04_sources.x0, c4, go_sem]
 rintro l3 hr_
 subst hr_
 simp only at h0
 refine rS ?_
 try simp only [R04_sources.x0, go_sem]
 obtain ⟨x8, yx8, h0⟩ := bs h0
 refine zcT [0] (R01_Sorted_ok k _ _ yx8) ?_ ?_
 try simp only [go_sem]
 try simp only [go_sem]
 obtain rfl := Option.some.inj h0
 refine AKev_ret rfl ?_
 try simp only [F71.rs, go_sem]
def F72.s0 : SC :=
 (.seq
 (.seq
 (.reg [mv 7 6 3 [],
 mv 8 0 37 [],
 ln 9 8 37 3 [8],
 b2 10 .lss 3 7 9 3 4 [7, 9]])
 (.cond (.tmp 10)
 .skip
 (.exit 0)))
 (.seq
 (.block 1
 (.seq
 (.reg [mv 13 0 37 [],
 mv 14 6 3 [],
 ia 15 37 13 14 [13, 14],
 ld 16 3 15 [15],
 mv 17 1 3 [],
 b2 18 .neq 3 16 17 3 4 [16, 17]])
 (.cond (.tmp 18)
 (.reg [mv 19 5 37 [5],
 mv 20 0 37 [],
 mv 21 6 3 [],
 ia 22 37 20 21 [20, 21],
 ld 23 3 22 [22],
 oq 24 (.buildSlice 37 1 #[(0, .tmp 23)]) 37 [23],
 oq 25 (.call ⟨.builtin .append, #[.tmp 19, .tmp 24], #[37, 37]⟩) 37 [19, 24],
 sg 5 25 37 [25]])
 .skip)))
 (.reg [mv 11 6 3 [6],
 bn 12 .add 3 11 1 3 3 [11],
 sg 6 12 3 [12]])))
def F72.c : SC :=
 (.seq
 (.reg [oq 4 (.assign (.const (.slice none 0 0))) 37 [4]])
 (.seq
 (.reg [oq 5 (.assign (.const (.slice none 0 0))) 37 []])
 (.seq
 (.seq
 (.reg [sn 6 0 3 []])
 (.block 0
 (.loop F72.s0)))
 (.seq
 (.reg [mv 26 5 37 [5],
 sg 4 26 37 [26]])
 .ret))))
theorem F72.rs : Tryz.f72.results.toList = [.tmp 4] := rfl
def R01_Less.b0 (k : Nat) (l0 : (List Int)) (n1 : Int) : (Int × (List Int)) → Option (Stp (Int × (List Int)) ((List Int)) ((List Int))) := fun (s : Int × (List Int)) => match s with
 | (i1, l2) =>
   bif decide (i1 < (l0.length : Int)) then
    (at? l0 i1).bind fun x5 =>
    bif (!decide (x5 = n1)) then
     (push? 8 l2 x5).bind fun l7 =>
     some (.next (w64 (i1 + 1), l7))
    else
     some (.next (w64 (i1 + 1), l2))
   else
    some (.brk l2)
noncomputable def R01_Less.h0 (l0 : (List Int)) (n1 : Int) : (Int × (List Int)) → St := fun (s : Int × (List Int)) => match s with
 | (i1, l2) => ⟨[(0, .sl 1 (List.map eI l0)), (1, .int .i64 n1), (5, .loc 0 0 1 0 l2.length l2.length), (6, .int .i64 i1)], [(0, .arr 3 1 (List.map eI l2))], [], 1, Tryz.f72.ntmps⟩
noncomputable def R01_Less.x0 : (List Int) → St := fun (l3 : (List Int)) => ⟨[(5, .loc 0 0 1 0 l3.length l3.length)], [(0, .arr 3 1 (List.map eI l3))], [], 1, Tryz.f72.ntmps⟩
def R01_Less (k : Nat) (l0 : (List Int)) (n1 : Int) : Option ((List Int)) :=
 (whl (R01_Less.b0 k l0 n1) k (0, [])).bind fun r8 => match r8 with
 | .next _ => none
 | .ret v_ => some v_
 | .brk l3 =>
  some l3
theorem R01_Less_ok (k : Nat) (l0 : (List Int)) (n1 : Int) (r : (List Int)) (h0 : R01_Less k l0 n1 = some r) : PCall Tryz.prog 72 [.sl 1 (List.map eI l0), .int .i64 n1] (fun y => y = .sl 1 (List.map eI r)) := by
 refine PB (fn := Tryz.f72) (sc := F72.c) ?_
 refine rS ?_
 simp only [R01_Less] at h0
 try simp only [F72.c, go_sem]
 obtain ⟨r8, yr8, h0⟩ := bs h0
 refine AKev_loopS yr8 (R01_Less.h0 l0 n1) (R01_Less.x0) ?_ ?_ ?_
 refine Weak.go [0, 1, 5, 6] [16] rfl ?_
 try simp only [R01_Less.h0, go_sem]
 rintro ⟨i1, l2⟩ x_1 Bk1 Br1 h1 hnext1 hbrk1 hret1
 refine rS ?_
 simp only [R01_Less.b0] at h1
 try simp only [F72.s0, R01_Less.h0, go_sem]
 refine AKev_bif h1 ?_ ?_ <;> intro c4 h1
 try simp only [c4, go_sem]
 obtain ⟨x5, yx5, h1⟩ := bs h1
 try simp only [aa yx5, c4, go_sem]
 refine AKev_bif h1 ?_ ?_ <;> intro c6 h1
 have c6 := bnot_t c6
 try simp only [c6, aa yx5, c4, go_sem]
 obtain ⟨l7, yl7, h1⟩ := bs h1
 have eyl7 := push_map eI yl7
 have tyl7 := push_take eI yl7
 have nyl7 := push_len yl7
 have myl7 := push_room yl7
 try simp only [c4, aa yx5, c6, go_sem] at eyl7 tyl7 nyl7 myl7
 try simp only [myl7, eyl7, c4, aa yx5, c6, nyl7, tyl7, go_sem]
 refine AKev_backB (hnext1 _ _ (Option.some.inj h1).symm ?_)
 refine Weak.go [0, 1, 5, 6] [0] rfl ?_
 try simp only [R01_Less.h0, c4, aa yx5, c6, eyl7, nyl7, tyl7, go_sem]
 have c6 := bnot_f c6
 try simp only [c6, c4, aa yx5, go_sem]
 refine AKev_backB (hnext1 _ _ (Option.some.inj h1).symm ?_)
 refine Weak.go [0, 1, 5, 6] [0] rfl ?_
 try simp only [R01_Less.h0, c4, aa yx5, c6, go_sem]
 try simp only [c4, go_sem]
 refine AKev_backB (hbrk1 _ _ (Option.some.inj h1).symm ?_)
 refine Weak.go [5] [0] rfl ?_
 try simp only [R01_Less.x0, c4, go_sem]
 rintro l3 hr_
 subst hr_
 simp only at h0
 refine rS ?_
 try simp only [R01_Less.x0, go_sem]
 obtain rfl := Option.some.inj h0
 refine AKev_ret rfl ?_
 try simp only [F72.rs, go_sem]
def F91.s0 : SC :=
 (.seq
 (.seq
 (.reg [mv 5 4 3 [],
 fa 6 24 1 0 [],
 ld 7 22 6 [6],
 ln 8 7 22 3 [7],
 b2 9 .lss 3 5 8 3 4 [5, 8]])
 (.cond (.tmp 9)
 .skip
 (.exit 0)))
 (.seq
 (.block 1
 (.dreg [fa 12 24 3 0 [],
 ld 13 22 12 [],
 oq 14 (.buildSlice 89 0 #[]) 89 [],
 fa 15 24 1 0 [],
 ld 16 22 15 [],
 mv 17 4 3 [],
 ia 18 22 16 17 [],
 ld 19 89 18 [],
 oq 20 (.call ⟨.builtin .append, #[.tmp 14, .tmp 19], #[89, 89]⟩) 89 [],
 oq 21 (.buildSlice 22 1 #[(0, .tmp 20)]) 22 [],
 oq 22 (.call ⟨.builtin .append, #[.tmp 13, .tmp 21], #[22, 22]⟩) 22 [],
 fa 23 24 3 0 [],
 ⟨none, .store 22 (.tmp 23) (.tmp 22), 0, none, []⟩] [[], [0], [], [], [3], [], [3, 4, 5], [3, 4, 5, 6], [2, 3, 4, 5, 6, 7], [2, 3, 4, 5, 6, 7, 8], [0, 1, 2, 3, 4, 5, 6, 7, 8, 9], [0, 1, 2, 3, 4, 5, 6, 7, 8, 9, 10], [0, 1, 2, 3, 4, 5, 6, 7, 8, 9, 10, 11]] [12, 13, 14, 15, 16, 17, 18, 19, 20, 21, 22, 23]))
 (.reg [mv 10 4 3 [4],
 bn 11 .add 3 10 1 3 3 [10],
 sg 4 11 3 [11]])))
def F91.c : SC :=
 (.seq
 (.reg [oq 1 (.box 24 (.tmp 0)) 0 [0],
 oq 2 (.alloc 24) 0 []])
 (.seq
 (.reg [oq 3 (.alloc 24) 0 []])
 (.seq
 (.seq
 (.reg [sn 4 0 3 []])
 (.block 0
 (.loop F91.s0)))
 (.seq
 (.reg [ld 24 24 3 [3],
 ⟨none, .store 24 (.tmp 2) (.tmp 24), 0, none, [24]⟩])
 .ret))))
theorem F91.rs : Tryz.f91.results.toList = [.cell 2 24] := rfl
def R04_kiln.b0 (k : Nat) (k0 : Kiln) : (Int × (List (List Range))) → Option (Stp (Int × (List (List Range))) ((List (List Range))) (Kiln)) := fun (s : Int × (List (List Range))) => match s with
 | (i1, l2) =>
   bif decide (i1 < (k0.Falls.length : Int)) then
    (at? k0.Falls i1).bind fun x5 =>
    (room? x5.length 16).bind fun _ =>
    (push? 24 l2 x5).bind fun l7 =>
    some (.next (w64 (i1 + 1), l7))
   else
    some (.brk l2)
noncomputable def R04_kiln.h0 (k0 : Kiln) : (Int × (List (List Range))) → St := fun (s : Int × (List (List Range))) => match s with
 | (i1, l2) => ⟨[(1, .ptr 0 0 0), (2, .ptr 0 1 0), (3, .ptr 0 3 0), (4, .int .i64 i1)], [(0, .box [.sl 1 (List.map (eL 2 Range.c) k0.Falls)]), (1, .box [.loc 0 2 1 0 0 0]), (2, .arr 89 1 (List.map (eL 2 Range.c) [])), (3, .box [.loc 0 4 1 0 l2.length l2.length]), (4, .arr 89 1 (List.map (eL 2 Range.c) l2))], [], 5, Tryz.f91.ntmps⟩
noncomputable def R04_kiln.x0 : (List (List Range)) → St := fun (l3 : (List (List Range))) => ⟨[(2, .ptr 0 0 0), (3, .ptr 0 2 0)], [(0, .box [.loc 0 1 1 0 0 0]), (1, .arr 89 1 (List.map (eL 2 Range.c) [])), (2, .box [.loc 0 3 1 0 l3.length l3.length]), (3, .arr 89 1 (List.map (eL 2 Range.c) l3))], [], 4, Tryz.f91.ntmps⟩
def R04_kiln (k : Nat) (k0 : Kiln) : Option (Kiln) :=
 (whl (R04_kiln.b0 k k0) k (0, [])).bind fun r8 => match r8 with
 | .next _ => none
 | .ret v_ => some v_
 | .brk l3 =>
  some (⟨l3⟩ : Kiln)
theorem R04_kiln_ok (k : Nat) (k0 : Kiln) (r : Kiln) (h0 : R04_kiln k k0 = some r) : PCall Tryz.prog 91 [.agg (Kiln.c k0)] (fun y => y = .agg (Kiln.c r)) := by
 refine PB (fn := Tryz.f91) (sc := F91.c) ?_
 refine rS ?_
 simp only [R04_kiln] at h0
 try simp only [F91.c, go_sem]
 obtain ⟨r8, yr8, h0⟩ := bs h0
 refine AKev_loopS yr8 (R04_kiln.h0 k0) (R04_kiln.x0) ?_ ?_ ?_
 refine Weak.go [1, 2, 3, 4] [0, 16, 17, 32, 33] rfl ?_
 try simp only [R04_kiln.h0, go_sem]
 rintro ⟨i1, l2⟩ x_1 Bk1 Br1 h1 hnext1 hbrk1 hret1
 refine rS ?_
 simp only [R04_kiln.b0] at h1
 try simp only [F91.s0, R04_kiln.h0, go_sem]
 refine AKev_bif h1 ?_ ?_ <;> intro c4 h1
 try simp only [c4, go_sem]
 refine AKev_region T_ok follows_ok 1000 ?_
 try simp only [c4, go_sem]
 obtain ⟨x5, yx5, h1⟩ := bs h1
 try simp only [aa yx5, c4, go_sem]
 obtain ⟨u6, yu6, h1⟩ := bs h1
 try simp only [room_some yu6, c4, aa yx5, go_sem]
 obtain ⟨l7, yl7, h1⟩ := bs h1
 have eyl7 := push_map (eL 2 Range.c) yl7
 have tyl7 := push_take (eL 2 Range.c) yl7
 have nyl7 := push_len yl7
 have myl7 := push_room yl7
 try simp only [c4, aa yx5, go_sem] at eyl7 tyl7 nyl7 myl7
 try simp only [myl7, eyl7, c4, aa yx5, nyl7, tyl7, go_sem]
 refine DG_done ⟨rfl, run_sound T_ok 1000 _ _ ?_⟩
 try simp only [c4, aa yx5, eyl7, nyl7, tyl7, go_sem]
 refine AKev_backB (hnext1 _ _ (Option.some.inj h1).symm ?_)
 refine Weak.go [1, 2, 3, 4] [0, 1, 2, 3, 4] rfl ?_
 try simp only [R04_kiln.h0, c4, aa yx5, eyl7, nyl7, tyl7, go_sem]
 try simp only [c4, go_sem]
 refine AKev_backB (hbrk1 _ _ (Option.some.inj h1).symm ?_)
 refine Weak.go [2, 3] [1, 2, 3, 4] rfl ?_
 try simp only [R04_kiln.x0, c4, go_sem]
 rintro l3 hr_
 subst hr_
 simp only at h0
 refine rS ?_
 try simp only [R04_kiln.x0, go_sem]
 obtain rfl := Option.some.inj h0
 refine AKev_ret rfl ?_
 try simp only [F91.rs, go_sem]
def F93.s0 : SC :=
 (.seq
 (.seq
 (.reg [mv 6 5 3 [],
 mv 7 0 37 [],
 ln 8 7 37 3 [7],
 b2 9 .lss 3 6 8 3 4 [6, 8]])
 (.cond (.tmp 9)
 .skip
 (.exit 0)))
 (.seq
 (.block 1
 (.seq
 (.reg [mv 12 0 37 [],
 mv 13 5 3 [],
 ia 14 37 12 13 [12, 13],
 ld 15 3 14 [14],
 mv 16 1 3 [],
 b2 17 .eql 3 15 16 3 4 [15, 16]])
 (.cond (.tmp 17)
 (.seq
 (.reg [sb 4 true 4 []])
 .ret)
 .skip)))
 (.reg [mv 10 5 3 [5],
 bn 11 .add 3 10 1 3 3 [10],
 sg 5 11 3 [11]])))
def F93.c : SC :=
 (.seq
 (.reg [sb 4 false 4 [4]])
 (.seq
 (.seq
 (.reg [sn 5 0 3 []])
 (.block 0
 (.loop F93.s0)))
 (.seq
 (.reg [sb 4 false 4 []])
 .ret)))
theorem F93.rs : Tryz.f93.results.toList = [.tmp 4] := rfl
def R01_Has.b0 (k : Nat) (l0 : (List Int)) (n1 : Int) : Int → Option (Stp (Int) (Unit) (Bool)) := fun (i1 : Int) =>
 bif decide (i1 < (l0.length : Int)) then
  (at? l0 i1).bind fun x3 =>
  bif decide (x3 = n1) then
   some (.ret true)
  else
   some (.next (w64 (i1 + 1)))
 else
  some (.brk ())
noncomputable def R01_Has.h0 (l0 : (List Int)) (n1 : Int) : Int → St := fun (i1 : Int) => ⟨[(0, .sl 1 (List.map eI l0)), (1, .int .i64 n1), (5, .int .i64 i1)], [], [], 1, Tryz.f93.ntmps⟩
noncomputable def R01_Has.x0 : Unit → St := fun (_ : Unit) => ⟨[], [], [], 1, Tryz.f93.ntmps⟩
def R01_Has (k : Nat) (l0 : (List Int)) (n1 : Int) : Option (Bool) :=
 (whl (R01_Has.b0 k l0 n1) k 0).bind fun r5 => match r5 with
 | .next _ => none
 | .ret v_ => some v_
 | .brk _ =>
  some false
theorem R01_Has_ok (k : Nat) (l0 : (List Int)) (n1 : Int) (r : Bool) (h0 : R01_Has k l0 n1 = some r) : PCall Tryz.prog 93 [.sl 1 (List.map eI l0), .int .i64 n1] (fun y => y = .bool r) := by
 refine PB (fn := Tryz.f93) (sc := F93.c) ?_
 refine rS ?_
 simp only [R01_Has] at h0
 try simp only [F93.c, go_sem]
 obtain ⟨r5, yr5, h0⟩ := bs h0
 refine AKev_loopS yr5 (R01_Has.h0 l0 n1) (R01_Has.x0) ?_ ?_ ?_
 refine Weak.go [0, 1, 5] [] rfl ?_
 try simp only [R01_Has.h0, go_sem]
 rintro i1 x_1 Bk1 Br1 h1 hnext1 hbrk1 hret1
 refine rS ?_
 simp only [R01_Has.b0] at h1
 try simp only [F93.s0, R01_Has.h0, go_sem]
 refine AKev_bif h1 ?_ ?_ <;> intro c2 h1
 try simp only [c2, go_sem]
 obtain ⟨x3, yx3, h1⟩ := bs h1
 try simp only [aa yx3, c2, go_sem]
 refine AKev_bif h1 ?_ ?_ <;> intro c4 h1
 try simp only [c4, c2, aa yx3, go_sem]
 obtain rfl := hret1 _ (Option.some.inj h1).symm
 simp only at h0
 obtain rfl := Option.some.inj h0
 refine AKev_ret rfl ?_
 try simp only [F93.rs, c2, aa yx3, c4, go_sem]
 try simp only [c4, c2, aa yx3, go_sem]
 refine AKev_backB (hnext1 _ _ (Option.some.inj h1).symm ?_)
 refine Weak.go [0, 1, 5] [] rfl ?_
 try simp only [R01_Has.h0, c2, aa yx3, c4, go_sem]
 try simp only [c2, go_sem]
 refine AKev_backB (hbrk1 _ _ (Option.some.inj h1).symm ?_)
 refine Weak.go [] [] rfl ?_
 try simp only [R01_Has.x0, c2, go_sem]
 rintro _ hr_
 subst hr_
 simp only at h0
 refine rS ?_
 try simp only [R01_Has.x0, go_sem]
 obtain rfl := Option.some.inj h0
 refine AKev_ret rfl ?_
 try simp only [F93.rs, go_sem]
def F73.s0 : SC :=
 (.seq
 (.seq
 (.reg [mv 11 6 3 [],
 fa 12 27 2 1 [],
 ld 13 25 12 [12],
 ln 14 13 25 3 [13],
 b2 15 .lss 3 11 14 3 4 [11, 14]])
 (.cond (.tmp 15)
 .skip
 (.exit 0)))
 (.seq
 (.block 1
 (.seq
 (.reg [mv 18 1 37 [],
 fa 19 27 2 1 [],
 ld 20 25 19 [19],
 mv 21 6 3 [],
 ia 22 25 20 21 [20, 21],
 fa 23 64 22 0 [22],
 ld 24 3 23 [23],
 cf2 25 93 18 24 37 3 4 [18, 24]])
 (.cond (.tmp 25)
 (.dreg [fa 26 27 5 1 [],
 ld 27 25 26 [],
 fa 28 27 2 1 [],
 ld 29 25 28 [],
 mv 30 6 3 [],
 ia 31 25 29 30 [],
 ld 32 64 31 [],
 oq 33 (.buildSlice 25 1 #[(0, .tmp 32)]) 25 [],
 oq 34 (.call ⟨.builtin .append, #[.tmp 27, .tmp 33], #[25, 25]⟩) 25 [],
 fa 35 27 5 1 [],
 ⟨none, .store 25 (.tmp 35) (.tmp 34), 0, none, []⟩] [[], [0], [], [2], [], [2, 3, 4], [2, 3, 4, 5], [2, 3, 4, 5, 6], [0, 1, 2, 3, 4, 5, 6, 7], [0, 1, 2, 3, 4, 5, 6, 7, 8], [0, 1, 2, 3, 4, 5, 6, 7, 8, 9]] [26, 27, 28, 29, 30, 31, 32, 33, 34, 35])
 .skip)))
 (.reg [mv 16 6 3 [6],
 bn 17 .add 3 16 1 3 3 [16],
 sg 6 17 3 [17]])))
def F73.c : SC :=
 (.seq
 (.reg [oq 2 (.box 27 (.tmp 0)) 0 [0],
 oq 4 (.alloc 27) 0 []])
 (.seq
 (.reg [fa 7 27 2 0 [],
 ld 8 24 7 [7],
 cf1 9 91 8 24 24 [8],
 oq 10 (.build 27 #[(0, .tmp 9)]) 27 [9],
 oq 5 (.alloc 27) 0 [],
 ⟨none, .store 27 (.tmp 5) (.tmp 10), 0, none, [10]⟩])
 (.seq
 (.seq
 (.reg [sn 6 0 3 []])
 (.block 0
 (.loop F73.s0)))
 (.seq
 (.reg [ld 36 27 5 [5],
 ⟨none, .store 27 (.tmp 4) (.tmp 36), 0, none, [36]⟩])
 .ret))))
theorem F73.rs : Tryz.f73.results.toList = [.cell 4 27] := rfl
def R04_only.b0 (k : Nat) (f0 : Firing) (by1 : (List Int)) : (Int × (List Reading)) → Option (Stp (Int × (List Reading)) ((List Reading)) (Firing)) := fun (s : Int × (List Reading)) => match s with
 | (i2, l3) =>
   bif decide (i2 < (f0.Readings.length : Int)) then
    (at? f0.Readings i2).bind fun x6 =>
    (R01_Has k by1 x6.Source).bind fun x7 =>
    bif x7 then
     (push? 48 l3 x6).bind fun l9 =>
     some (.next (w64 (i2 + 1), l9))
    else
     some (.next (w64 (i2 + 1), l3))
   else
    some (.brk l3)
noncomputable def R04_only.h0 (f0 : Firing) (by1 : (List Int)) (x1 : Kiln) : (Int × (List Reading)) → St := fun (s : Int × (List Reading)) => match s with
 | (i2, l3) => ⟨[(1, .sl 1 (List.map eI by1)), (2, .ptr 0 0 0), (4, .ptr 0 1 0), (5, .ptr 0 4 0), (6, .int .i64 i2)], [(0, .box [.sl 1 (List.map (eL 2 Range.c) f0.Kiln.Falls), .sl 6 (List.map Reading.c f0.Readings)]), (1, .box [.loc 0 2 1 0 0 0, .loc 0 3 6 0 0 0]), (2, .arr 89 1 (List.map (eL 2 Range.c) [])), (3, .arr 64 6 (List.map Reading.c [])), (4, .box [.sl 1 (List.map (eL 2 Range.c) x1.Falls), .loc 0 5 6 0 l3.length l3.length]), (5, .arr 64 6 (List.map Reading.c l3))], [], 6, Tryz.f73.ntmps⟩
noncomputable def R04_only.x0 (x1 : Kiln) : (List Reading) → St := fun (l4 : (List Reading)) => ⟨[(4, .ptr 0 0 0), (5, .ptr 0 3 0)], [(0, .box [.loc 0 1 1 0 0 0, .loc 0 2 6 0 0 0]), (1, .arr 89 1 (List.map (eL 2 Range.c) [])), (2, .arr 64 6 (List.map Reading.c [])), (3, .box [.sl 1 (List.map (eL 2 Range.c) x1.Falls), .loc 0 4 6 0 l4.length l4.length]), (4, .arr 64 6 (List.map Reading.c l4))], [], 5, Tryz.f73.ntmps⟩
def R04_only (k : Nat) (f0 : Firing) (by1 : (List Int)) : Option (Firing) :=
 (R04_kiln k f0.Kiln).bind fun x1 =>
 (whl (R04_only.b0 k f0 by1) k (0, [])).bind fun r10 => match r10 with
 | .next _ => none
 | .ret v_ => some v_
 | .brk l4 =>
  some (⟨x1, l4⟩ : Firing)
theorem R04_only_ok (k : Nat) (f0 : Firing) (by1 : (List Int)) (r : Firing) (h0 : R04_only k f0 by1 = some r) : PCall Tryz.prog 73 [.agg (Firing.c f0), .sl 1 (List.map eI by1)] (fun y => y = .agg (Firing.c r)) := by
 refine PB (fn := Tryz.f73) (sc := F73.c) ?_
 refine rS ?_
 simp only [R04_only] at h0
 try simp only [F73.c, go_sem]
 obtain ⟨x1, yx1, h0⟩ := bs h0
 refine zc0 (R04_kiln_ok k _ _ yx1) ?_ (by first | rfl | simp [AV.refsL, AV.refs, AV.scal, AV.leaf]) ?_
 try simp only [go_sem]
 try simp only [go_sem]
 obtain ⟨r10, yr10, h0⟩ := bs h0
 refine AKev_loopS yr10 (R04_only.h0 f0 by1 x1) (R04_only.x0 x1) ?_ ?_ ?_
 refine Weak.go [1, 2, 4, 5, 6] [0, 16, 17, 18, 96, 112] rfl ?_
 try simp only [R04_only.h0, go_sem]
 rintro ⟨i2, l3⟩ x_1 Bk1 Br1 h1 hnext1 hbrk1 hret1
 refine rS ?_
 simp only [R04_only.b0] at h1
 try simp only [F73.s0, R04_only.h0, go_sem]
 refine AKev_bif h1 ?_ ?_ <;> intro c5 h1
 try simp only [c5, go_sem]
 obtain ⟨x6, yx6, h1⟩ := bs h1
 try simp only [aa yx6, c5, go_sem]
 obtain ⟨x7, yx7, h1⟩ := bs h1
 refine zc0 (R01_Has_ok k _ _ _ yx7) ?_ (by first | rfl | simp [AV.refsL, AV.refs, AV.scal, AV.leaf]) ?_
 try simp only [c5, aa yx6, go_sem]
 try simp only [c5, aa yx6, go_sem]
 refine AKev_bif h1 ?_ ?_ <;> intro c8 h1
 try simp only [c8, c5, aa yx6, go_sem]
 refine AKev_region T_ok follows_ok 1000 ?_
 try simp only [aa yx6, c5, c8, go_sem]
 obtain ⟨l9, yl9, h1⟩ := bs h1
 have eyl9 := push_map Reading.c yl9
 have tyl9 := push_take Reading.c yl9
 have nyl9 := push_len yl9
 have myl9 := push_room yl9
 try simp only [c5, aa yx6, c8, go_sem] at eyl9 tyl9 nyl9 myl9
 try simp only [myl9, eyl9, c5, aa yx6, c8, nyl9, tyl9, go_sem]
 refine DG_done ⟨rfl, run_sound T_ok 1000 _ _ ?_⟩
 try simp only [c5, aa yx6, c8, eyl9, nyl9, tyl9, go_sem]
 refine AKev_backB (hnext1 _ _ (Option.some.inj h1).symm ?_)
 refine Weak.go [1, 2, 4, 5, 6] [0, 1, 2, 3, 4, 5] rfl ?_
 try simp only [R04_only.h0, c5, aa yx6, c8, eyl9, nyl9, tyl9, go_sem]
 try simp only [c8, c5, aa yx6, go_sem]
 refine AKev_backB (hnext1 _ _ (Option.some.inj h1).symm ?_)
 refine Weak.go [1, 2, 4, 5, 6] [0, 1, 2, 3, 4, 5] rfl ?_
 try simp only [R04_only.h0, c5, aa yx6, c8, go_sem]
 try simp only [c5, go_sem]
 refine AKev_backB (hbrk1 _ _ (Option.some.inj h1).symm ?_)
 refine Weak.go [4, 5] [1, 2, 3, 4, 5] rfl ?_
 try simp only [R04_only.x0, c5, go_sem]
 rintro l4 hr_
 subst hr_
 simp only at h0
 refine rS ?_
 try simp only [R04_only.x0, go_sem]
 obtain rfl := Option.some.inj h0
 refine AKev_ret rfl ?_
 try simp only [F73.rs, go_sem]
def F17.s0 : SC :=
 (.seq
 (.seq
 (.reg [mv 18 5 3 [],
 bn 19 .geq 3 18 0 3 4 [18]])
 (.cond (.tmp 19)
 .skip
 (.exit 0)))
 (.seq
 (.block 1
 (.seq
 (.reg [mv 22 4 37 [],
 mv 23 4 37 [],
 mv 24 5 3 [],
 ia 25 37 23 24 [23, 24],
 ld 26 3 25 [25],
 cf2 27 72 22 26 37 3 37 [22, 26],
 sg 6 27 37 [27]])
 (.seq
 (.reg [ld 28 27 1 [],
 mv 29 6 37 [],
 cf2 30 73 28 29 27 37 27 [28, 29],
 cf1 31 56 30 27 4 [30],
 oq 32 (.unOp .not 4 (.tmp 31)) 4 [31]])
 (.cond (.tmp 32)
 (.reg [mv 33 6 37 [6],
 sg 4 33 37 [33]])
 .skip))))
 (.reg [mv 20 5 3 [5],
 bn 21 .sub 3 20 1 3 3 [20],
 sg 5 21 3 [21]])))
def F17.c : SC :=
 (.seq
 (.reg [oq 1 (.box 27 (.tmp 0)) 0 [0],
 oq 2 (.assign (.const (.slice none 0 0))) 37 [2],
 sn 3 0 33 [3]])
 (.seq
 (.seq
 (.reg [ld 7 27 1 [],
 cf1 8 43 7 27 33 [7],
 bn 9 .neq 33 8 0 33 4 [8]])
 (.cond (.tmp 9)
 (.seq
 (.reg [oq 2 (.assign (.const (.slice none 0 0))) 37 [],
 sn 3 42 33 []])
 .ret)
 .skip))
 (.seq
 (.seq
 (.reg [ld 10 27 1 [],
 cf1 11 56 10 27 4 [10]])
 (.cond (.tmp 11)
 (.seq
 (.reg [oq 2 (.assign (.const (.slice none 0 0))) 37 [],
 sn 3 3 33 []])
 .ret)
 .skip))
 (.seq
 (.reg [fa 12 27 1 1 [],
 ld 13 25 12 [12],
 cf1 14 71 13 25 37 [13],
 sg 4 14 37 [14]])
 (.seq
 (.seq
 (.reg [mv 15 4 37 [],
 ln 16 15 37 3 [15],
 bn 17 .sub 3 16 1 3 3 [16],
 sg 5 17 3 [17]])
 (.block 0
 (.loop F17.s0)))
 (.seq
 (.reg [mv 34 4 37 [4],
 sg 2 34 37 [34],
 sn 3 0 33 []])
 .ret))))))
theorem F17.rs : Tryz.f17.results.toList = [.tmp 2, .tmp 3] := rfl
def R04_Conflict.b0 (k : Nat) (f0 : Firing) : ((List Int) × Int) → Option (Stp ((List Int) × Int) ((List Int)) ((List Int) × Int)) := fun (s : (List Int) × Int) => match s with
 | (l6, i7) =>
   bif decide ((0 : Int) ≤ i7) then
    (at? l6 i7).bind fun x10 =>
    (R01_Less k l6 x10).bind fun x11 =>
    (R04_only k f0 x11).bind fun x12 =>
    (R04_IsSound k x12).bind fun x13 =>
    bif (!x13) then
     some (.next (x11, w64 (i7 - 1)))
    else
     some (.next (l6, w64 (i7 - 1)))
   else
    some (.brk l6)
noncomputable def R04_Conflict.h0 (f0 : Firing) : ((List Int) × Int) → St := fun (s : (List Int) × Int) => match s with
 | (l6, i7) => ⟨[(1, .ptr 0 0 0), (4, .sl 1 (List.map eI l6)), (5, .int .i64 i7)], [(0, .box [.sl 1 (List.map (eL 2 Range.c) f0.Kiln.Falls), .sl 6 (List.map Reading.c f0.Readings)])], [], 1, Tryz.f17.ntmps⟩
noncomputable def R04_Conflict.x0 : (List Int) → St := fun (l8 : (List Int)) => ⟨[(4, .sl 1 (List.map eI l8))], [], [], 1, Tryz.f17.ntmps⟩
def R04_Conflict (k : Nat) (f0 : Firing) : Option ((List Int) × Int) :=
 (R04_Check k f0).bind fun x1 =>
 bif (!decide (x1 = (0 : Int))) then
  some ([], 42)
 else
  (R04_IsSound k f0).bind fun x3 =>
  bif x3 then
   some ([], 3)
  else
   (R04_sources k f0.Readings).bind fun x5 =>
   (whl (R04_Conflict.b0 k f0) k (x5, w64 ((x5.length : Int) - 1))).bind fun r15 => match r15 with
   | .next _ => none
   | .ret v_ => some v_
   | .brk l8 =>
    some (l8, 0)
theorem R04_Conflict_ok (k : Nat) (f0 : Firing) (r : (List Int) × Int) (h0 : R04_Conflict k f0 = some r) : PCall Tryz.prog 17 [.agg (Firing.c f0)] (fun y => y = .tup [.sl 1 (List.map eI r.1), .int .i64 r.2]) := by
 refine PB (fn := Tryz.f17) (sc := F17.c) ?_
 refine rS ?_
 simp only [R04_Conflict] at h0
 try simp only [F17.c, go_sem]
 obtain ⟨x1, yx1, h0⟩ := bs h0
 refine zc0 (R04_Check_ok k _ _ yx1) ?_ (by first | rfl | simp [AV.refsL, AV.refs, AV.scal, AV.leaf]) ?_
 try simp only [go_sem]
 try simp only [go_sem]
 refine AKev_bif h0 ?_ ?_ <;> intro c2 h0
 have c2 := bnot_t c2
 try simp only [c2, go_sem]
 obtain rfl := Option.some.inj h0
 refine AKev_ret rfl ?_
 try simp only [F17.rs, c2, go_sem]
 have c2 := bnot_f c2
 try simp only [c2, go_sem]
 obtain ⟨x3, yx3, h0⟩ := bs h0
 refine zc0 (R04_IsSound_ok k _ _ yx3) ?_ (by first | rfl | simp [AV.refsL, AV.refs, AV.scal, AV.leaf]) ?_
 try simp only [c2, go_sem]
 try simp only [c2, go_sem]
 refine AKev_bif h0 ?_ ?_ <;> intro c4 h0
 try simp only [c4, c2, go_sem]
 obtain rfl := Option.some.inj h0
 refine AKev_ret rfl ?_
 try simp only [F17.rs, c2, c4, go_sem]
 try simp only [c4, c2, go_sem]
 obtain ⟨x5, yx5, h0⟩ := bs h0
 refine zc0 (R04_sources_ok k _ _ yx5) ?_ (by first | rfl | simp [AV.refsL, AV.refs, AV.scal, AV.leaf]) ?_
 try simp only [c2, c4, go_sem]
 try simp only [c2, c4, go_sem]
 obtain ⟨r15, yr15, h0⟩ := bs h0
 refine AKev_loopS yr15 (R04_Conflict.h0 f0) (R04_Conflict.x0) ?_ ?_ ?_
 refine Weak.go [1, 4, 5] [0] rfl ?_
 try simp only [R04_Conflict.h0, c2, c4, go_sem]
 rintro ⟨l6, i7⟩ x_1 Bk1 Br1 h1 hnext1 hbrk1 hret1
 refine rS ?_
 simp only [R04_Conflict.b0] at h1
 try simp only [F17.s0, R04_Conflict.h0, c2, c4, go_sem]
 refine AKev_bif h1 ?_ ?_ <;> intro c9 h1
 try simp only [c9, c2, c4, go_sem]
 obtain ⟨x10, yx10, h1⟩ := bs h1
 try simp only [aa yx10, c2, c4, c9, go_sem]
 obtain ⟨x11, yx11, h1⟩ := bs h1
 refine zc0 (R01_Less_ok k _ _ _ yx11) ?_ (by first | rfl | simp [AV.refsL, AV.refs, AV.scal, AV.leaf]) ?_
 try simp only [c2, c4, c9, aa yx10, go_sem]
 try simp only [c2, c4, c9, aa yx10, go_sem]
 obtain ⟨x12, yx12, h1⟩ := bs h1
 refine zc0 (R04_only_ok k _ _ _ yx12) ?_ (by first | rfl | simp [AV.refsL, AV.refs, AV.scal, AV.leaf]) ?_
 try simp only [c2, c4, c9, aa yx10, go_sem]
 try simp only [c2, c4, c9, aa yx10, go_sem]
 obtain ⟨x13, yx13, h1⟩ := bs h1
 refine zc0 (R04_IsSound_ok k _ _ yx13) ?_ (by first | rfl | simp [AV.refsL, AV.refs, AV.scal, AV.leaf]) ?_
 try simp only [c2, c4, c9, aa yx10, go_sem]
 try simp only [c2, c4, c9, aa yx10, go_sem]
 refine AKev_bif h1 ?_ ?_ <;> intro c14 h1
 have c14 := bnot_t c14
 try simp only [c14, c2, c4, c9, aa yx10, go_sem]
 refine AKev_backB (hnext1 _ _ (Option.some.inj h1).symm ?_)
 refine Weak.go [1, 4, 5] [0] rfl ?_
 try simp only [R04_Conflict.h0, c2, c4, c9, aa yx10, c14, go_sem]
 have c14 := bnot_f c14
 try simp only [c14, c2, c4, c9, aa yx10, go_sem]
 refine AKev_backB (hnext1 _ _ (Option.some.inj h1).symm ?_)
 refine Weak.go [1, 4, 5] [0] rfl ?_
 try simp only [R04_Conflict.h0, c2, c4, c9, aa yx10, c14, go_sem]
 try simp only [c9, c2, c4, go_sem]
 refine AKev_backB (hbrk1 _ _ (Option.some.inj h1).symm ?_)
 refine Weak.go [4] [] rfl ?_
 try simp only [R04_Conflict.x0, c2, c4, c9, go_sem]
 rintro l8 hr_
 subst hr_
 simp only at h0
 refine rS ?_
 try simp only [R04_Conflict.x0, c2, c4, go_sem]
 obtain rfl := Option.some.inj h0
 refine AKev_ret rfl ?_
 try simp only [F17.rs, c2, c4, go_sem]
def F19.s0 : SC :=
 (.seq
 (.reg [b2 17 .lss 3 16 15 3 0 []])
 (.seq
 (.cond (.tmp 17)
 .skip
 (.exit 0))
 (.seq
 (.block 1
 (.seq
 (.reg [mv 18 16 3 [],
 ia 19 37 14 16 [],
 ld 20 3 19 [19],
 sg 6 18 3 [18],
 sg 7 20 3 [20]])
 (.seq
 (.dreg [mv 21 5 37 [],
 mv 22 7 3 [],
 cf2 23 74 21 22 37 3 4 [],
 oq 24 (.unOp .not 4 (.tmp 23)) 4 [],
 mv 25 24 4 [],
 og 26 (.move (.tmp 6)) 3 25 false [],
 og 27 (.binOp .gtr 3 (.tmp 26) (.const (.int .i64 0)) 3) 4 25 false [],
 og 28 (.move (.tmp 27)) 4 25 false [],
 og 29 (.move (.tmp 1)) 37 28 true [],
 og 30 (.move (.tmp 6)) 3 28 true [],
 og 31 (.binOp .sub 3 (.tmp 30) (.const (.int .i64 1)) 3) 3 28 true [],
 og 32 (.indexAddr 37 (.tmp 29) (.tmp 31)) 0 28 true [],
 og 33 (.load 3 (.tmp 32)) 3 28 true [],
 og 34 (.move (.tmp 7)) 3 28 true [],
 og 35 (.binOp .geq 3 (.tmp 33) (.tmp 34) 3) 4 28 true [],
 og 36 (.pick (.tmp 28) (.tmp 35) (.const (.bool false))) 4 25 false [],
 oq 37 (.pick (.tmp 25) (.const (.bool true)) (.tmp 36)) 4 [],
 mv 38 37 4 [],
 og 39 (.load 27 (.tmp 2)) 27 38 false [],
 og 40 (.move (.tmp 1)) 37 38 false [],
 og 41 (.call ⟨.value (.func 69), #[.tmp 40], #[37]⟩) 37 38 false [],
 og 42 (.move (.tmp 6)) 3 38 false [],
 og 43 (.move (.tmp 6)) 3 38 false [],
 og 44 (.binOp .add 3 (.tmp 43) (.const (.int .i64 1)) 3) 3 38 false [],
 og 45 (.call ⟨.value (.func 68), #[.tmp 41, .tmp 42, .tmp 44], #[37, 3, 3]⟩) 37 38 false [],
 og 46 (.call ⟨.value (.func 70), #[.tmp 39, .tmp 45], #[27, 37]⟩) 81 38 false [],
 og 47 (.call ⟨.value (.func 53), #[.tmp 46], #[81]⟩) 4 38 false [],
 og 48 (.unOp .not 4 (.tmp 47)) 4 38 false [],
 oq 49 (.pick (.tmp 38) (.const (.bool true)) (.tmp 48)) 4 []] [[], [], [0, 1], [0, 1, 2], [0, 1, 2, 3], [0, 1, 2, 3, 4], [0, 1, 2, 3, 4, 5], [0, 1, 2, 3, 4, 5, 6], [0, 1, 2, 3, 4, 5, 6, 7], [0, 1, 2, 3, 4, 5, 6, 7], [0, 1, 2, 3, 4, 5, 6, 7, 9], [0, 1, 2, 3, 4, 5, 6, 7, 8, 9, 10], [0, 1, 2, 3, 4, 5, 6, 7, 8, 9, 10, 11], [0, 1, 2, 3, 4, 5, 6, 7], [0, 1, 2, 3, 4, 5, 6, 7, 8, 9, 10, 11, 12, 13], [0, 1, 2, 3, 4, 5, 6, 7, 8, 9, 10, 11, 12, 13, 14], [0, 1, 2, 3, 4, 5, 6, 7, 8, 9, 10, 11, 12, 13, 14, 15], [0, 1, 2, 3, 4, 5, 6, 7, 8, 9, 10, 11, 12, 13, 14, 15, 16], [0, 1, 2, 3, 4, 5, 6, 7, 8, 9, 10, 11, 12, 13, 14, 15, 16, 17], [0, 1, 2, 3, 4, 5, 6, 7, 8, 9, 10, 11, 12, 13, 14, 15, 16, 17], [0, 1, 2, 3, 4, 5, 6, 7, 8, 9, 10, 11, 12, 13, 14, 15, 16, 17, 19], [0, 1, 2, 3, 4, 5, 6, 7, 8, 9, 10, 11, 12, 13, 14, 15, 16, 17], [0, 1, 2, 3, 4, 5, 6, 7, 8, 9, 10, 11, 12, 13, 14, 15, 16, 17], [0, 1, 2, 3, 4, 5, 6, 7, 8, 9, 10, 11, 12, 13, 14, 15, 16, 17, 22], [0, 1, 2, 3, 4, 5, 6, 7, 8, 9, 10, 11, 12, 13, 14, 15, 16, 17, 19, 20, 21, 22, 23], [0, 1, 2, 3, 4, 5, 6, 7, 8, 9, 10, 11, 12, 13, 14, 15, 16, 17, 18, 19, 20, 21, 22, 23, 24], [0, 1, 2, 3, 4, 5, 6, 7, 8, 9, 10, 11, 12, 13, 14, 15, 16, 17, 18, 19, 20, 21, 22, 23, 24, 25], [0, 1, 2, 3, 4, 5, 6, 7, 8, 9, 10, 11, 12, 13, 14, 15, 16, 17, 18, 19, 20, 21, 22, 23, 24, 25, 26], [0, 1, 2, 3, 4, 5, 6, 7, 8, 9, 10, 11, 12, 13, 14, 15, 16, 17, 18, 19, 20, 21, 22, 23, 24, 25, 26, 27]] [6, 7, 21, 22, 23, 24, 25, 26, 27, 28, 29, 30, 31, 32, 33, 34, 35, 36, 37, 38, 39, 40, 41, 42, 43, 44, 45, 46, 47, 48])
 (.cond (.tmp 49)
 (.seq
 (.reg [sn 4 48 33 []])
 .ret)
 .skip))))
 (.reg [bn 50 .add 3 16 1 3 3 [16],
 mv 16 50 3 [50]]))))
def F19.c : SC :=
 (.seq
 (.reg [oq 2 (.box 27 (.tmp 0)) 0 [0],
 sn 4 0 33 [4]])
 (.seq
 (.seq
 (.reg [ld 8 27 2 [],
 cf1 9 42 8 27 33 [8],
 bn 10 .neq 33 9 0 33 4 [9]])
 (.cond (.tmp 10)
 (.seq
 (.reg [sn 4 42 33 []])
 .ret)
 .skip))
 (.seq
 (.reg [fa 11 27 2 1 [],
 ld 12 25 11 [11],
 cf1 13 67 12 25 37 [12],
 sg 5 13 37 [13]])
 (.seq
 (.seq
 (.reg [mv 14 1 37 [],
 ln 15 14 37 3 [],
 oq 16 (.move (.const (.int .i64 0))) 3 []])
 (.block 0
 (.loop F19.s0)))
 (.seq
 (.seq
 (.reg [ld 51 27 2 [2],
 mv 52 1 37 [1],
 cf2 53 70 51 52 27 37 81 [51, 52],
 cf1 54 53 53 81 4 [53]])
 (.cond (.tmp 54)
 (.seq
 (.reg [sn 4 48 33 []])
 .ret)
 .skip))
 (.seq
 (.reg [sn 4 0 33 []])
 .ret))))))
theorem F19.rs : Tryz.f19.results.toList = [.tmp 4] := rfl
def heat_CheckConflict.b0 (k : Nat) (f0 : Firing) (by1 : (List Int)) (x3 : (List Int)) : Int → Option (Stp (Int) (Unit) (Int)) := fun (i4 : Int) =>
 bif decide (i4 < (by1.length : Int)) then
  (at? by1 i4).bind fun x6 =>
  (slices_Contains_int k x3 x6).bind fun x7 =>
  bif x7 then
   bif decide ((0 : Int) < i4) then
    (at? by1 (w64 (i4 - 1))).bind fun x10 =>
    bif (!decide (x6 ≤ x10)) then
     (slices_Clone_int k by1).bind fun x13 =>
     (slices_Delete_int k x13 i4 (w64 (i4 + 1))).bind fun x15 =>
     (heat_only k f0 x15).bind fun x16 =>
     (heat_furnace_sound k x16).bind fun x17 =>
     bif (!x17) then
      some (.ret 48)
     else
      some (.next (w64 (i4 + 1)))
    else
     some (.ret 48)
   else
    (slices_Clone_int k by1).bind fun x20 =>
    (slices_Delete_int k x20 i4 (w64 (i4 + 1))).bind fun x22 =>
    (heat_only k f0 x22).bind fun x23 =>
    (heat_furnace_sound k x23).bind fun x24 =>
    bif (!x24) then
     some (.ret 48)
    else
     some (.next (w64 (i4 + 1)))
  else
   some (.ret 48)
 else
  some (.brk ())
noncomputable def heat_CheckConflict.h0 (f0 : Firing) (by1 : (List Int)) (x3 : (List Int)) : Int → St := fun (i4 : Int) => ⟨[(1, .sl 1 (List.map eI by1)), (2, .ptr 0 0 0), (5, .sl 1 (List.map eI x3)), (14, .sl 1 (List.map eI by1)), (15, .int .i64 (by1.length : Int)), (16, .int .i64 i4)], [(0, .box [.sl 1 (List.map (eL 2 Range.c) f0.Kiln.Falls), .sl 6 (List.map Reading.c f0.Readings)])], [], 1, Tryz.f19.ntmps⟩
noncomputable def heat_CheckConflict.x0 (f0 : Firing) (by1 : (List Int)) : Unit → St := fun (_ : Unit) => ⟨[(1, .sl 1 (List.map eI by1)), (2, .ptr 0 0 0)], [(0, .box [.sl 1 (List.map (eL 2 Range.c) f0.Kiln.Falls), .sl 6 (List.map Reading.c f0.Readings)])], [], 1, Tryz.f19.ntmps⟩
def heat_CheckConflict (k : Nat) (f0 : Firing) (by1 : (List Int)) : Option (Int) :=
 (heat_Check k f0).bind fun x1 =>
 bif (!decide (x1 = (0 : Int))) then
  some 42
 else
  (heat_sources k f0.Readings).bind fun x3 =>
  (whl (heat_CheckConflict.b0 k f0 by1 x3) k 0).bind fun r26 => match r26 with
  | .next _ => none
  | .ret v_ => some v_
  | .brk _ =>
   (heat_only k f0 by1).bind fun x27 =>
   (heat_furnace_sound k x27).bind fun x28 =>
   bif x28 then
    some 48
   else
    some 0
theorem heat_CheckConflict_ok (k : Nat) (f0 : Firing) (by1 : (List Int)) (r : Int) (h0 : heat_CheckConflict k f0 by1 = some r) : PCall Tryz.prog 19 [.agg (Firing.c f0), .sl 1 (List.map eI by1)] (fun y => y = .int .i64 r) := by
 refine PB (fn := Tryz.f19) (sc := F19.c) ?_
 refine rS ?_
 simp only [heat_CheckConflict] at h0
 try simp only [F19.c, go_sem]
 obtain ⟨x1, yx1, h0⟩ := bs h0
 refine zc0 (heat_Check_ok k _ _ yx1) ?_ (by first | rfl | simp [AV.refsL, AV.refs, AV.scal, AV.leaf]) ?_
 try simp only [go_sem]
 try simp only [go_sem]
 refine AKev_bif h0 ?_ ?_ <;> intro c2 h0
 have c2 := bnot_t c2
 try simp only [c2, go_sem]
 obtain rfl := Option.some.inj h0
 refine AKev_ret rfl ?_
 try simp only [F19.rs, c2, go_sem]
 have c2 := bnot_f c2
 try simp only [c2, go_sem]
 obtain ⟨x3, yx3, h0⟩ := bs h0
 refine zc0 (heat_sources_ok k _ _ yx3) ?_ (by first | rfl | simp [AV.refsL, AV.refs, AV.scal, AV.leaf]) ?_
 try simp only [c2, go_sem]
 try simp only [c2, go_sem]
 obtain ⟨r26, yr26, h0⟩ := bs h0
 refine AKev_loopS yr26 (heat_CheckConflict.h0 f0 by1 x3) (heat_CheckConflict.x0 f0 by1) ?_ ?_ ?_
 refine Weak.go [1, 2, 5, 14, 15, 16] [0] rfl ?_
 try simp only [heat_CheckConflict.h0, c2, go_sem]
 rintro i4 x_1 Bk1 Br1 h1 hnext1 hbrk1 hret1
 refine rS ?_
 simp only [heat_CheckConflict.b0] at h1
 try simp only [F19.s0, heat_CheckConflict.h0, c2, go_sem]
 refine AKev_bif h1 ?_ ?_ <;> intro c5 h1
 try simp only [c5, c2, go_sem]
 obtain ⟨x6, yx6, h1⟩ := bs h1
 try simp only [aa yx6, c2, c5, go_sem]
 refine AKev_region T_ok follows_ok 1000 ?_
 try simp only [c2, c5, aa yx6, go_sem]
 obtain ⟨x7, yx7, h1⟩ := bs h1
 refine DG_call0 1000 (slices_Contains_int_ok k _ _ _ yx7) ?_ (by first | rfl | simp [AV.refsL, AV.refs, AV.scal, AV.leaf]) ?_
 try simp only [c2, c5, aa yx6, go_sem]
 try simp only [c2, c5, aa yx6, go_sem]
 refine DG_bif h1 ?_ ?_ <;> intro c8 h1
 try simp only [c8, c2, c5, aa yx6, go_sem]
 refine DG_bif h1 ?_ ?_ <;> intro c9 h1
 try simp only [c9, c2, c5, aa yx6, c8, go_sem]
 obtain ⟨x10, yx10, h1⟩ := bs h1
 try simp only [aa yx10, c2, c5, aa yx6, c8, c9, go_sem]
 refine DG_bif h1 ?_ ?_ <;> intro c11 h1
 have c11 := bnot_t c11
 try simp only [c11, c2, c5, aa yx6, c8, c9, aa yx10, go_sem]
 obtain ⟨x13, yx13, h1⟩ := bs h1
 refine DG_give 1000 [] [] (slices_Clone_int_ok k _ _ yx13) ?_ rfl ?_
 try simp only [gOK, List.length_map, c2, c5, aa yx6, c8, c9, aa yx10, c11, go_sem]
 try simp only [c2, c5, aa yx6, c8, c9, aa yx10, c11, go_sem]
 obtain ⟨x15, yx15, h1⟩ := bs h1
 refine DG_give 1000 [] [417] (slices_Delete_int_ok k _ _ _ _ yx15) ?_ rfl ?_
 try simp only [gOK, List.length_map, c2, c5, aa yx6, c8, c9, aa yx10, c11, go_sem]
 try simp only [c2, c5, aa yx6, c8, c9, aa yx10, c11, go_sem]
 obtain ⟨x16, yx16, h1⟩ := bs h1
 refine DG_give 1000 [481] [] (GCall.of_pcall (heat_only_ok k _ _ _ yx16) ?_) ?_ rfl ?_
 simp only [AV.frz, AV.frzL, go_sem]
 try simp only [c2, c5, aa yx6, c8, c9, aa yx10, c11, go_sem]
 try simp only [c2, c5, aa yx6, c8, c9, aa yx10, c11, go_sem]
 obtain ⟨x17, yx17, h1⟩ := bs h1
 refine DG_call0 1000 (heat_furnace_sound_ok k _ _ yx17) ?_ (by first | rfl | simp [AV.refsL, AV.refs, AV.scal, AV.leaf]) ?_
 try simp only [c2, c5, aa yx6, c8, c9, aa yx10, c11, go_sem]
 try simp only [c2, c5, aa yx6, c8, c9, aa yx10, c11, go_sem]
 refine DG_done ⟨rfl, run_sound T_ok 1000 _ _ ?_⟩
 try simp only [c2, c5, aa yx6, c8, c9, aa yx10, c11, go_sem]
 refine AKev_bif h1 ?_ ?_ <;> intro c18 h1
 have c18 := bnot_t c18
 try simp only [c18, c2, c5, aa yx6, c8, c9, aa yx10, c11, go_sem]
 obtain rfl := hret1 _ (Option.some.inj h1).symm
 simp only at h0
 obtain rfl := Option.some.inj h0
 refine AKev_ret rfl ?_
 try simp only [F19.rs, c2, c5, aa yx6, c8, c9, aa yx10, c11, c18, go_sem]
 have c18 := bnot_f c18
 try simp only [c18, c2, c5, aa yx6, c8, c9, aa yx10, c11, go_sem]
 refine AKev_backB (hnext1 _ _ (Option.some.inj h1).symm ?_)
 refine Weak.go [1, 2, 5, 14, 15, 16] [0] rfl ?_
 try simp only [heat_CheckConflict.h0, c2, c5, aa yx6, c8, c9, aa yx10, c11, c18, go_sem]
 have c11 := bnot_f c11
 try simp only [c11, c2, c5, aa yx6, c8, c9, aa yx10, go_sem]
 refine DG_done ⟨rfl, run_sound T_ok 1000 _ _ ?_⟩
 try simp only [c2, c5, aa yx6, c8, c9, aa yx10, c11, go_sem]
 obtain rfl := hret1 _ (Option.some.inj h1).symm
 simp only at h0
 obtain rfl := Option.some.inj h0
 refine AKev_ret rfl ?_
 try simp only [F19.rs, c2, c5, aa yx6, c8, c9, aa yx10, c11, go_sem]
 try simp only [c9, c2, c5, aa yx6, c8, go_sem]
 obtain ⟨x20, yx20, h1⟩ := bs h1
 refine DG_give 1000 [] [] (slices_Clone_int_ok k _ _ yx20) ?_ rfl ?_
 try simp only [gOK, List.length_map, c2, c5, aa yx6, c8, c9, go_sem]
 try simp only [c2, c5, aa yx6, c8, c9, go_sem]
 obtain ⟨x22, yx22, h1⟩ := bs h1
 refine DG_give 1000 [] [417] (slices_Delete_int_ok k _ _ _ _ yx22) ?_ rfl ?_
 try simp only [gOK, List.length_map, c2, c5, aa yx6, c8, c9, go_sem]
 try simp only [c2, c5, aa yx6, c8, c9, go_sem]
 obtain ⟨x23, yx23, h1⟩ := bs h1
 refine DG_give 1000 [481] [] (GCall.of_pcall (heat_only_ok k _ _ _ yx23) ?_) ?_ rfl ?_
 simp only [AV.frz, AV.frzL, go_sem]
 try simp only [c2, c5, aa yx6, c8, c9, go_sem]
 try simp only [c2, c5, aa yx6, c8, c9, go_sem]
 obtain ⟨x24, yx24, h1⟩ := bs h1
 refine DG_call0 1000 (heat_furnace_sound_ok k _ _ yx24) ?_ (by first | rfl | simp [AV.refsL, AV.refs, AV.scal, AV.leaf]) ?_
 try simp only [c2, c5, aa yx6, c8, c9, go_sem]
 try simp only [c2, c5, aa yx6, c8, c9, go_sem]
 refine DG_done ⟨rfl, run_sound T_ok 1000 _ _ ?_⟩
 try simp only [c2, c5, aa yx6, c8, c9, go_sem]
 refine AKev_bif h1 ?_ ?_ <;> intro c25 h1
 have c25 := bnot_t c25
 try simp only [c25, c2, c5, aa yx6, c8, c9, go_sem]
 obtain rfl := hret1 _ (Option.some.inj h1).symm
 simp only at h0
 obtain rfl := Option.some.inj h0
 refine AKev_ret rfl ?_
 try simp only [F19.rs, c2, c5, aa yx6, c8, c9, c25, go_sem]
 have c25 := bnot_f c25
 try simp only [c25, c2, c5, aa yx6, c8, c9, go_sem]
 refine AKev_backB (hnext1 _ _ (Option.some.inj h1).symm ?_)
 refine Weak.go [1, 2, 5, 14, 15, 16] [0] rfl ?_
 try simp only [heat_CheckConflict.h0, c2, c5, aa yx6, c8, c9, c25, go_sem]
 try simp only [c8, c2, c5, aa yx6, go_sem]
 refine DG_done ⟨rfl, run_sound T_ok 1000 _ _ ?_⟩
 try simp only [c2, c5, aa yx6, c8, go_sem]
 obtain rfl := hret1 _ (Option.some.inj h1).symm
 simp only at h0
 obtain rfl := Option.some.inj h0
 refine AKev_ret rfl ?_
 try simp only [F19.rs, c2, c5, aa yx6, c8, go_sem]
 try simp only [c5, c2, go_sem]
 refine AKev_backB (hbrk1 _ _ (Option.some.inj h1).symm ?_)
 refine Weak.go [1, 2] [0] rfl ?_
 try simp only [heat_CheckConflict.x0, c2, c5, go_sem]
 rintro _ hr_
 subst hr_
 simp only at h0
 refine rS ?_
 try simp only [heat_CheckConflict.x0, c2, go_sem]
 obtain ⟨x27, yx27, h0⟩ := bs h0
 refine zc0 (heat_only_ok k _ _ _ yx27) ?_ (by first | rfl | simp [AV.refsL, AV.refs, AV.scal, AV.leaf]) ?_
 try simp only [c2, go_sem]
 try simp only [c2, go_sem]
 obtain ⟨x28, yx28, h0⟩ := bs h0
 refine zc0 (heat_furnace_sound_ok k _ _ yx28) ?_ (by first | rfl | simp [AV.refsL, AV.refs, AV.scal, AV.leaf]) ?_
 try simp only [c2, go_sem]
 try simp only [c2, go_sem]
 refine AKev_bif h0 ?_ ?_ <;> intro c29 h0
 try simp only [c29, c2, go_sem]
 obtain rfl := Option.some.inj h0
 refine AKev_ret rfl ?_
 try simp only [F19.rs, c2, c29, go_sem]
 try simp only [c29, c2, go_sem]
 obtain rfl := Option.some.inj h0
 refine AKev_ret rfl ?_
 try simp only [F19.rs, c2, c29, go_sem]
def F75.s0 : SC :=
 (.seq
 (.seq
 (.reg [mv 6 5 3 [],
 mv 7 0 37 [],
 ln 8 7 37 3 [7],
 b2 9 .lss 3 6 8 3 4 [6, 8]])
 (.cond (.tmp 9)
 .skip
 (.exit 0)))
 (.seq
 (.block 1
 (.seq
 (.dreg [mv 12 1 37 [],
 mv 13 0 37 [],
 mv 14 5 3 [],
 ia 15 37 13 14 [],
 ld 16 3 15 [],
 cf2 17 93 12 16 37 3 4 [],
 oq 18 (.unOp .not 4 (.tmp 17)) 4 [],
 mv 19 18 4 [],
 og 20 (.move (.tmp 5)) 3 19 false [],
 og 21 (.binOp .gtr 3 (.tmp 20) (.const (.int .i64 0)) 3) 4 19 false [],
 og 22 (.move (.tmp 21)) 4 19 false [],
 og 23 (.move (.tmp 0)) 37 22 true [],
 og 24 (.move (.tmp 5)) 3 22 true [],
 og 25 (.binOp .sub 3 (.tmp 24) (.const (.int .i64 1)) 3) 3 22 true [],
 og 26 (.indexAddr 37 (.tmp 23) (.tmp 25)) 0 22 true [],
 og 27 (.load 3 (.tmp 26)) 3 22 true [],
 og 28 (.move (.tmp 0)) 37 22 true [],
 og 29 (.move (.tmp 5)) 3 22 true [],
 og 30 (.indexAddr 37 (.tmp 28) (.tmp 29)) 0 22 true [],
 og 31 (.load 3 (.tmp 30)) 3 22 true [],
 og 32 (.binOp .geq 3 (.tmp 27) (.tmp 31) 3) 4 22 true [],
 og 33 (.pick (.tmp 22) (.tmp 32) (.const (.bool false))) 4 19 false [],
 oq 34 (.pick (.tmp 19) (.const (.bool true)) (.tmp 33)) 4 []] [[], [], [], [1, 2], [1, 2, 3], [0, 1, 2, 3, 4], [0, 1, 2, 3, 4, 5], [0, 1, 2, 3, 4, 5, 6], [0, 1, 2, 3, 4, 5, 6, 7], [0, 1, 2, 3, 4, 5, 6, 7, 8], [0, 1, 2, 3, 4, 5, 6, 7, 8, 9], [0, 1, 2, 3, 4, 5, 6, 7, 8, 9, 10], [0, 1, 2, 3, 4, 5, 6, 7, 8, 9, 10], [0, 1, 2, 3, 4, 5, 6, 7, 8, 9, 10, 12], [0, 1, 2, 3, 4, 5, 6, 7, 8, 9, 10, 11, 12, 13], [0, 1, 2, 3, 4, 5, 6, 7, 8, 9, 10, 11, 12, 13, 14], [0, 1, 2, 3, 4, 5, 6, 7, 8, 9, 10], [0, 1, 2, 3, 4, 5, 6, 7, 8, 9, 10], [0, 1, 2, 3, 4, 5, 6, 7, 8, 9, 10, 16, 17], [0, 1, 2, 3, 4, 5, 6, 7, 8, 9, 10, 16, 17, 18], [0, 1, 2, 3, 4, 5, 6, 7, 8, 9, 10, 11, 12, 13, 14, 15, 16, 17, 18, 19], [0, 1, 2, 3, 4, 5, 6, 7, 8, 9, 10, 11, 12, 13, 14, 15, 16, 17, 18, 19, 20], [0, 1, 2, 3, 4, 5, 6, 7, 8, 9, 10, 11, 12, 13, 14, 15, 16, 17, 18, 19, 20, 21]] [12, 13, 14, 15, 16, 17, 18, 19, 20, 21, 22, 23, 24, 25, 26, 27, 28, 29, 30, 31, 32, 33])
 (.cond (.tmp 34)
 (.seq
 (.reg [sb 4 false 4 []])
 .ret)
 .skip)))
 (.reg [mv 10 5 3 [5],
 bn 11 .add 3 10 1 3 3 [10],
 sg 5 11 3 [11]])))
def F75.c : SC :=
 (.seq
 (.reg [sb 4 false 4 [4]])
 (.seq
 (.seq
 (.reg [sn 5 0 3 []])
 (.block 0
 (.loop F75.s0)))
 (.seq
 (.reg [sb 4 true 4 []])
 .ret)))
theorem F75.rs : Tryz.f75.results.toList = [.tmp 4] := rfl
def R01_Rising.b0 (k : Nat) (l0 : (List Int)) (of1 : (List Int)) : Int → Option (Stp (Int) (Unit) (Bool)) := fun (i1 : Int) =>
 bif decide (i1 < (l0.length : Int)) then
  (at? l0 i1).bind fun x3 =>
  (R01_Has k of1 x3).bind fun x4 =>
  bif x4 then
   bif decide ((0 : Int) < i1) then
    (at? l0 (w64 (i1 - 1))).bind fun x7 =>
    bif decide (x3 ≤ x7) then
     some (.ret false)
    else
     some (.next (w64 (i1 + 1)))
   else
    some (.next (w64 (i1 + 1)))
  else
   some (.ret false)
 else
  some (.brk ())
noncomputable def R01_Rising.h0 (l0 : (List Int)) (of1 : (List Int)) : Int → St := fun (i1 : Int) => ⟨[(0, .sl 1 (List.map eI l0)), (1, .sl 1 (List.map eI of1)), (5, .int .i64 i1)], [], [], 1, Tryz.f75.ntmps⟩
noncomputable def R01_Rising.x0 : Unit → St := fun (_ : Unit) => ⟨[], [], [], 1, Tryz.f75.ntmps⟩
def R01_Rising (k : Nat) (l0 : (List Int)) (of1 : (List Int)) : Option (Bool) :=
 (whl (R01_Rising.b0 k l0 of1) k 0).bind fun r9 => match r9 with
 | .next _ => none
 | .ret v_ => some v_
 | .brk _ =>
  some true
theorem R01_Rising_ok (k : Nat) (l0 : (List Int)) (of1 : (List Int)) (r : Bool) (h0 : R01_Rising k l0 of1 = some r) : PCall Tryz.prog 75 [.sl 1 (List.map eI l0), .sl 1 (List.map eI of1)] (fun y => y = .bool r) := by
 refine PB (fn := Tryz.f75) (sc := F75.c) ?_
 refine rS ?_
 simp only [R01_Rising] at h0
 try simp only [F75.c, go_sem]
 obtain ⟨r9, yr9, h0⟩ := bs h0
 refine AKev_loopS yr9 (R01_Rising.h0 l0 of1) (R01_Rising.x0) ?_ ?_ ?_
 refine Weak.go [0, 1, 5] [] rfl ?_
 try simp only [R01_Rising.h0, go_sem]
 rintro i1 x_1 Bk1 Br1 h1 hnext1 hbrk1 hret1
 refine rS ?_
 simp only [R01_Rising.b0] at h1
 try simp only [F75.s0, R01_Rising.h0, go_sem]
 refine AKev_bif h1 ?_ ?_ <;> intro c2 h1
 try simp only [c2, go_sem]
 refine AKev_region T_ok follows_ok 1000 ?_
 try simp only [c2, go_sem]
 obtain ⟨x3, yx3, h1⟩ := bs h1
 try simp only [aa yx3, c2, go_sem]
 obtain ⟨x4, yx4, h1⟩ := bs h1
 refine DG_call0 1000 (R01_Has_ok k _ _ _ yx4) ?_ (by first | rfl | simp [AV.refsL, AV.refs, AV.scal, AV.leaf]) ?_
 try simp only [c2, aa yx3, go_sem]
 try simp only [c2, aa yx3, go_sem]
 refine DG_bif h1 ?_ ?_ <;> intro c5 h1
 try simp only [c5, c2, aa yx3, go_sem]
 refine DG_bif h1 ?_ ?_ <;> intro c6 h1
 try simp only [c6, c2, aa yx3, c5, go_sem]
 obtain ⟨x7, yx7, h1⟩ := bs h1
 try simp only [aa yx7, aa yx3, c2, c5, c6, go_sem]
 refine DG_done ⟨rfl, run_sound T_ok 1000 _ _ ?_⟩
 try simp only [c2, aa yx3, c5, c6, aa yx7, go_sem]
 refine AKev_bif h1 ?_ ?_ <;> intro c8 h1
 try simp only [c8, c2, aa yx3, c5, c6, aa yx7, go_sem]
 obtain rfl := hret1 _ (Option.some.inj h1).symm
 simp only at h0
 obtain rfl := Option.some.inj h0
 refine AKev_ret rfl ?_
 try simp only [F75.rs, c2, aa yx3, c5, c6, aa yx7, c8, go_sem]
 try simp only [c8, c2, aa yx3, c5, c6, aa yx7, go_sem]
 refine AKev_backB (hnext1 _ _ (Option.some.inj h1).symm ?_)
 refine Weak.go [0, 1, 5] [] rfl ?_
 try simp only [R01_Rising.h0, c2, aa yx3, c5, c6, aa yx7, c8, go_sem]
 try simp only [c6, c2, aa yx3, c5, go_sem]
 refine DG_done ⟨rfl, run_sound T_ok 1000 _ _ ?_⟩
 try simp only [c2, aa yx3, c5, c6, go_sem]
 refine AKev_backB (hnext1 _ _ (Option.some.inj h1).symm ?_)
 refine Weak.go [0, 1, 5] [] rfl ?_
 try simp only [R01_Rising.h0, c2, aa yx3, c5, c6, go_sem]
 try simp only [c5, c2, aa yx3, go_sem]
 refine DG_done ⟨rfl, run_sound T_ok 1000 _ _ ?_⟩
 try simp only [c2, aa yx3, c5, go_sem]
 obtain rfl := hret1 _ (Option.some.inj h1).symm
 simp only at h0
 obtain rfl := Option.some.inj h0
 refine AKev_ret rfl ?_
 try simp only [F75.rs, c2, aa yx3, c5, go_sem]
 try simp only [c2, go_sem]
 refine AKev_backB (hbrk1 _ _ (Option.some.inj h1).symm ?_)
 refine Weak.go [] [] rfl ?_
 try simp only [R01_Rising.x0, c2, go_sem]
 rintro _ hr_
 subst hr_
 simp only at h0
 refine rS ?_
 try simp only [R01_Rising.x0, go_sem]
 obtain rfl := Option.some.inj h0
 refine AKev_ret rfl ?_
 try simp only [F75.rs, go_sem]
def F20.s0 : SC :=
 (.seq
 (.seq
 (.reg [mv 21 5 3 [],
 mv 22 1 37 [],
 ln 23 22 37 3 [22],
 b2 24 .lss 3 21 23 3 4 [21, 23]])
 (.cond (.tmp 24)
 .skip
 (.exit 0)))
 (.seq
 (.block 1
 (.seq
 (.dreg [ld 27 27 2 [],
 mv 28 1 37 [],
 mv 29 1 37 [],
 mv 30 5 3 [],
 ia 31 37 29 30 [],
 ld 32 3 31 [],
 cf2 33 72 28 32 37 3 37 [],
 cf2 34 73 27 33 27 37 27 [],
 cf1 35 56 34 27 4 [],
 oq 36 (.unOp .not 4 (.tmp 35)) 4 []] [[], [], [], [], [2, 3], [2, 3, 4], [1, 2, 3, 4, 5], [0, 1, 2, 3, 4, 5, 6], [0, 1, 2, 3, 4, 5, 6, 7], [0, 1, 2, 3, 4, 5, 6, 7, 8]] [27, 28, 29, 30, 31, 32, 33, 34, 35])
 (.cond (.tmp 36)
 (.seq
 (.reg [sn 4 48 33 []])
 .ret)
 .skip)))
 (.reg [mv 25 5 3 [5],
 bn 26 .add 3 25 1 3 3 [25],
 sg 5 26 3 [26]])))
def F20.c : SC :=
 (.seq
 (.reg [oq 2 (.box 27 (.tmp 0)) 0 [0],
 sn 4 0 33 [4]])
 (.seq
 (.seq
 (.reg [ld 6 27 2 [],
 cf1 7 43 6 27 33 [6],
 bn 8 .neq 33 7 0 33 4 [7]])
 (.cond (.tmp 8)
 (.seq
 (.reg [sn 4 42 33 []])
 .ret)
 .skip))
 (.seq
 (.seq
 (.reg [mv 9 1 37 [],
 fa 10 27 2 1 [],
 ld 11 25 10 [10],
 cf1 12 71 11 25 37 [11],
 cf2 13 75 9 12 37 37 4 [9, 12],
 oq 14 (.unOp .not 4 (.tmp 13)) 4 [13],
 mv 15 14 4 [14],
 og 16 (.load 27 (.tmp 2)) 27 15 false [],
 og 17 (.move (.tmp 1)) 37 15 false [],
 og 18 (.call ⟨.value (.func 73), #[.tmp 16, .tmp 17], #[27, 37]⟩) 27 15 false [16, 17],
 og 19 (.call ⟨.value (.func 56), #[.tmp 18], #[27]⟩) 4 15 false [18],
 oq 20 (.pick (.tmp 15) (.const (.bool true)) (.tmp 19)) 4 [15, 19]])
 (.cond (.tmp 20)
 (.seq
 (.reg [sn 4 48 33 []])
 .ret)
 .skip))
 (.seq
 (.seq
 (.reg [sn 5 0 3 []])
 (.block 0
 (.loop F20.s0)))
 (.seq
 (.reg [sn 4 0 33 []])
 .ret)))))
theorem F20.rs : Tryz.f20.results.toList = [.tmp 4] := rfl
def R04_CheckConflict.b0 (k : Nat) (f0 : Firing) (by1 : (List Int)) : Int → Option (Stp (Int) (Unit) (Int)) := fun (i9 : Int) =>
 bif decide (i9 < (by1.length : Int)) then
  (at? by1 i9).bind fun x11 =>
  (R01_Less k by1 x11).bind fun x12 =>
  (R04_only k f0 x12).bind fun x13 =>
  (R04_IsSound k x13).bind fun x14 =>
  bif (!x14) then
   some (.ret 48)
  else
   some (.next (w64 (i9 + 1)))
 else
  some (.brk ())
noncomputable def R04_CheckConflict.h0 (f0 : Firing) (by1 : (List Int)) : Int → St := fun (i9 : Int) => ⟨[(1, .sl 1 (List.map eI by1)), (2, .ptr 0 0 0), (5, .int .i64 i9)], [(0, .box [.sl 1 (List.map (eL 2 Range.c) f0.Kiln.Falls), .sl 6 (List.map Reading.c f0.Readings)])], [], 1, Tryz.f20.ntmps⟩
noncomputable def R04_CheckConflict.x0 : Unit → St := fun (_ : Unit) => ⟨[], [], [], 1, Tryz.f20.ntmps⟩
def R04_CheckConflict (k : Nat) (f0 : Firing) (by1 : (List Int)) : Option (Int) :=
 (R04_Check k f0).bind fun x1 =>
 bif (!decide (x1 = (0 : Int))) then
  some 42
 else
  (R04_sources k f0.Readings).bind fun x3 =>
  (R01_Rising k by1 x3).bind fun x4 =>
  bif x4 then
   (R04_only k f0 by1).bind fun x6 =>
   (R04_IsSound k x6).bind fun x7 =>
   bif x7 then
    some 48
   else
    (whl (R04_CheckConflict.b0 k f0 by1) k 0).bind fun r16 => match r16 with
    | .next _ => none
    | .ret v_ => some v_
    | .brk _ =>
     some 0
  else
   some 48
theorem R04_CheckConflict_ok (k : Nat) (f0 : Firing) (by1 : (List Int)) (r : Int) (h0 : R04_CheckConflict k f0 by1 = some r) : PCall Tryz.prog 20 [.agg (Firing.c f0), .sl 1 (List.map eI by1)] (fun y => y = .int .i64 r) := by
 refine PB (fn := Tryz.f20) (sc := F20.c) ?_
 refine rS ?_
 simp only [R04_CheckConflict] at h0
 try simp only [F20.c, go_sem]
 obtain ⟨x1, yx1, h0⟩ := bs h0
 refine zc0 (R04_Check_ok k _ _ yx1) ?_ (by first | rfl | simp [AV.refsL, AV.refs, AV.scal, AV.leaf]) ?_
 try simp only [go_sem]
 try simp only [go_sem]
 refine AKev_bif h0 ?_ ?_ <;> intro c2 h0
 have c2 := bnot_t c2
 try simp only [c2, go_sem]
 obtain rfl := Option.some.inj h0
 refine AKev_ret rfl ?_
 try simp only [F20.rs, c2, go_sem]
 have c2 := bnot_f c2
 try simp only [c2, go_sem]
 obtain ⟨x3, yx3, h0⟩ := bs h0
 refine zc0 (R04_sources_ok k _ _ yx3) ?_ (by first | rfl | simp [AV.refsL, AV.refs, AV.scal, AV.leaf]) ?_
 try simp only [c2, go_sem]
 try simp only [c2, go_sem]
 obtain ⟨x4, yx4, h0⟩ := bs h0
 refine zc0 (R01_Rising_ok k _ _ _ yx4) ?_ (by first | rfl | simp [AV.refsL, AV.refs, AV.scal, AV.leaf]) ?_
 try simp only [c2, go_sem]
 try simp only [c2, go_sem]
 refine AKev_bif h0 ?_ ?_ <;> intro c5 h0
 try simp only [c5, c2, go_sem]
 obtain ⟨x6, yx6, h0⟩ := bs h0
 refine zc0 (R04_only_ok k _ _ _ yx6) ?_ (by first | rfl | simp [AV.refsL, AV.refs, AV.scal, AV.leaf]) ?_
 try simp only [c2, c5, go_sem]
 try simp only [c2, c5, go_sem]
 obtain ⟨x7, yx7, h0⟩ := bs h0
 refine zc0 (R04_IsSound_ok k _ _ yx7) ?_ (by first | rfl | simp [AV.refsL, AV.refs, AV.scal, AV.leaf]) ?_
 try simp only [c2, c5, go_sem]
 try simp only [c2, c5, go_sem]
 refine AKev_bif h0 ?_ ?_ <;> intro c8 h0
 try simp only [c8, c2, c5, go_sem]
 obtain rfl := Option.some.inj h0
 refine AKev_ret rfl ?_
 try simp only [F20.rs, c2, c5, c8, go_sem]
 try simp only [c8, c2, c5, go_sem]
 obtain ⟨r16, yr16, h0⟩ := bs h0
 refine AKev_loopS yr16 (R04_CheckConflict.h0 f0 by1) (R04_CheckConflict.x0) ?_ ?_ ?_
 refine Weak.go [1, 2, 5] [0] rfl ?_
 try simp only [R04_CheckConflict.h0, c2, c5, c8, go_sem]
 rintro i9 x_1 Bk1 Br1 h1 hnext1 hbrk1 hret1
 refine rS ?_
 simp only [R04_CheckConflict.b0] at h1
 try simp only [F20.s0, R04_CheckConflict.h0, c2, c5, c8, go_sem]
 refine AKev_bif h1 ?_ ?_ <;> intro c10 h1
 try simp only [c10, c2, c5, c8, go_sem]
 refine AKev_region T_ok follows_ok 1000 ?_
 try simp only [c2, c5, c8, c10, go_sem]
 obtain ⟨x11, yx11, h1⟩ := bs h1
 try simp only [aa yx11, c2, c5, c8, c10, go_sem]
 obtain ⟨x12, yx12, h1⟩ := bs h1
 refine DG_call0 1000 (R01_Less_ok k _ _ _ yx12) ?_ (by first | rfl | simp [AV.refsL, AV.refs, AV.scal, AV.leaf]) ?_
 try simp only [c2, c5, c8, c10, aa yx11, go_sem]
 try simp only [c2, c5, c8, c10, aa yx11, go_sem]
 obtain ⟨x13, yx13, h1⟩ := bs h1
 refine DG_call0 1000 (R04_only_ok k _ _ _ yx13) ?_ (by first | rfl | simp [AV.refsL, AV.refs, AV.scal, AV.leaf]) ?_
 try simp only [c2, c5, c8, c10, aa yx11, go_sem]
 try simp only [c2, c5, c8, c10, aa yx11, go_sem]
 obtain ⟨x14, yx14, h1⟩ := bs h1
 refine DG_call0 1000 (R04_IsSound_ok k _ _ yx14) ?_ (by first | rfl | simp [AV.refsL, AV.refs, AV.scal, AV.leaf]) ?_
 try simp only [c2, c5, c8, c10, aa yx11, go_sem]
 try simp only [c2, c5, c8, c10, aa yx11, go_sem]
 refine DG_done ⟨rfl, run_sound T_ok 1000 _ _ ?_⟩
 try simp only [c2, c5, c8, c10, aa yx11, go_sem]
 refine AKev_bif h1 ?_ ?_ <;> intro c15 h1
 have c15 := bnot_t c15
 try simp only [c15, c2, c5, c8, c10, aa yx11, go_sem]
 obtain rfl := hret1 _ (Option.some.inj h1).symm
 simp only at h0
 obtain rfl := Option.some.inj h0
 refine AKev_ret rfl ?_
 try simp only [F20.rs, c2, c5, c8, c10, aa yx11, c15, go_sem]
 have c15 := bnot_f c15
 try simp only [c15, c2, c5, c8, c10, aa yx11, go_sem]
 refine AKev_backB (hnext1 _ _ (Option.some.inj h1).symm ?_)
 refine Weak.go [1, 2, 5] [0] rfl ?_
 try simp only [R04_CheckConflict.h0, c2, c5, c8, c10, aa yx11, c15, go_sem]
 try simp only [c10, c2, c5, c8, go_sem]
 refine AKev_backB (hbrk1 _ _ (Option.some.inj h1).symm ?_)
 refine Weak.go [] [] rfl ?_
 try simp only [R04_CheckConflict.x0, c2, c5, c8, c10, go_sem]
 rintro _ hr_
 subst hr_
 simp only at h0
 refine rS ?_
 try simp only [R04_CheckConflict.x0, c2, c5, c8, go_sem]
 obtain rfl := Option.some.inj h0
 refine AKev_ret rfl ?_
 try simp only [F20.rs, c2, c5, c8, go_sem]
 try simp only [c5, c2, go_sem]
 obtain rfl := Option.some.inj h0
 refine AKev_ret rfl ?_
 try simp only [F20.rs, c2, c5, go_sem]
def F4.c : SC :=
 (.seq
 (.reg [oq 2 (.box 27 (.tmp 0)) 0 [0],
 sb 4 false 4 [4]])
 (.seq
 (.reg [ld 10 27 2 [],
 cf1 11 16 10 27 47 [10],
 mv 9 11 47 [11],
 xt 12 9 0 37 [],
 xt 13 9 1 33 [9],
 sg 5 12 37 [12],
 sg 6 13 33 [13]])
 (.seq
 (.reg [ld 15 27 2 [],
 cf1 16 17 15 27 47 [15],
 mv 14 16 47 [16],
 xt 17 14 0 37 [],
 xt 18 14 1 33 [14],
 sg 7 17 37 [17],
 sg 8 18 33 [18]])
 (.seq
 (.dreg [mv 19 5 37 [],
 mv 20 7 37 [],
 cf2 21 18 19 20 37 37 4 [],
 mv 22 21 4 [],
 og 23 (.move (.tmp 6)) 33 22 true [],
 og 24 (.move (.tmp 8)) 33 22 true [],
 og 25 (.binOp .eql 33 (.tmp 23) (.tmp 24) 33) 4 22 true [],
 oq 26 (.pick (.tmp 22) (.tmp 25) (.const (.bool false))) 4 [],
 mv 27 26 4 [],
 og 28 (.load 27 (.tmp 2)) 27 27 true [],
 og 29 (.move (.tmp 1)) 37 27 true [],
 og 30 (.call ⟨.value (.func 19), #[.tmp 28, .tmp 29], #[27, 37]⟩) 33 27 true [],
 og 31 (.load 27 (.tmp 2)) 27 27 true [],
 og 32 (.move (.tmp 1)) 37 27 true [],
 og 33 (.call ⟨.value (.func 20), #[.tmp 31, .tmp 32], #[27, 37]⟩) 33 27 true [],
 og 34 (.binOp .eql 33 (.tmp 30) (.tmp 33) 33) 4 27 true [],
 oq 35 (.pick (.tmp 27) (.tmp 34) (.const (.bool false))) 4 [],
 mv 36 35 4 [],
 og 37 (.call ⟨.value (.func 15), #[], #[]⟩) 4 36 true [],
 oq 38 (.pick (.tmp 36) (.tmp 37) (.const (.bool false))) 4 [],
 sg 4 38 4 []] [[], [], [0, 1], [0, 1, 2], [0, 1, 2, 3], [0, 1, 2, 3], [0, 1, 2, 3, 4, 5], [0, 1, 2, 3, 4, 5, 6], [0, 1, 2, 3, 4, 5, 6, 7], [0, 1, 2, 3, 4, 5, 6, 7, 8], [0, 1, 2, 3, 4, 5, 6, 7, 8], [0, 1, 2, 3, 4, 5, 6, 7, 8, 9, 10], [0, 1, 2, 3, 4, 5, 6, 7, 8], [0, 1, 2, 3, 4, 5, 6, 7, 8], [0, 1, 2, 3, 4, 5, 6, 7, 8, 12, 13, 9, 10, 11], [0, 1, 2, 3, 4, 5, 6, 7, 8, 9, 10, 11, 12, 13, 14], [0, 1, 2, 3, 4, 5, 6, 7, 8, 9, 10, 11, 12, 13, 14, 15], [0, 1, 2, 3, 4, 5, 6, 7, 8, 9, 10, 11, 12, 13, 14, 15, 16], [0, 1, 2, 3, 4, 5, 6, 7, 8, 9, 10, 11, 12, 13, 14, 15, 16, 17], [0, 1, 2, 3, 4, 5, 6, 7, 8, 9, 10, 11, 12, 13, 14, 15, 16, 17, 18], [0, 1, 2, 3, 4, 5, 6, 7, 8, 9, 10, 11, 12, 13, 14, 15, 16, 17, 18, 19]] [1, 2, 5, 6, 7, 8, 19, 20, 21, 22, 23, 24, 25, 26, 27, 28, 29, 30, 31, 32, 33, 34, 35, 36, 37, 38])
 .ret))))
theorem F4.rs : Tryz.f4.results.toList = [.tmp 4] := rfl
def L04_HeatConflicts (k : Nat) (f0 : Firing) (by1 : (List Int)) : Option (Bool) :=
 (heat_Conflict k f0).bind fun x1 =>
 (R04_Conflict k f0).bind fun x2 =>
 (R01_Same k x1.1 x2.1).bind fun x3 =>
 bif x3 then
  bif decide (x1.2 = x2.2) then
   (heat_CheckConflict k f0 by1).bind fun x6 =>
   (R04_CheckConflict k f0 by1).bind fun x7 =>
   bif decide (x6 = x7) then
    (L04_sane k).bind fun x9 =>
    some x9
   else
    some false
  else
   some false
 else
  some false
theorem L04_HeatConflicts_ok (k : Nat) (f0 : Firing) (by1 : (List Int)) (r : Bool) (h0 : L04_HeatConflicts k f0 by1 = some r) : PCall Tryz.prog 4 [.agg (Firing.c f0), .sl 1 (List.map eI by1)] (fun y => y = .bool r) := by
 refine PB (fn := Tryz.f4) (sc := F4.c) ?_
 refine rS ?_
 simp only [L04_HeatConflicts] at h0
 try simp only [F4.c, go_sem]
 obtain ⟨x1, yx1, h0⟩ := bs h0
 refine zc0 (heat_Conflict_ok k _ _ yx1) ?_ (by first | rfl | simp [AV.refsL, AV.refs, AV.scal, AV.leaf]) ?_
 try simp only [go_sem]
 try simp only [go_sem]
 obtain ⟨x2, yx2, h0⟩ := bs h0
 refine zc0 (R04_Conflict_ok k _ _ yx2) ?_ (by first | rfl | simp [AV.refsL, AV.refs, AV.scal, AV.leaf]) ?_
 try simp only [go_sem]
 try simp only [go_sem]
 refine AKev_region T_ok follows_ok 1000 ?_
 try simp only [go_sem]
 obtain ⟨x3, yx3, h0⟩ := bs h0
 refine DG_call0 1000 (R01_Same_ok k _ _ _ yx3) ?_ (by first | rfl | simp [AV.refsL, AV.refs, AV.scal, AV.leaf]) ?_
 try simp only [go_sem]
 try simp only [go_sem]
 refine DG_bif h0 ?_ ?_ <;> intro c4 h0
 try simp only [c4, go_sem]
 refine DG_bif h0 ?_ ?_ <;> intro c5 h0
 try simp only [c5, c4, go_sem]
 obtain ⟨x6, yx6, h0⟩ := bs h0
 refine DG_call0 1000 (heat_CheckConflict_ok k _ _ _ yx6) ?_ (by first | rfl | simp [AV.refsL, AV.refs, AV.scal, AV.leaf]) ?_
 try simp only [c4, c5, go_sem]
 try simp only [c4, c5, go_sem]
 obtain ⟨x7, yx7, h0⟩ := bs h0
 refine DG_call0 1000 (R04_CheckConflict_ok k _ _ _ yx7) ?_ (by first | rfl | simp [AV.refsL, AV.refs, AV.scal, AV.leaf]) ?_
 try simp only [c4, c5, go_sem]
 try simp only [c4, c5, go_sem]
 refine DG_bif h0 ?_ ?_ <;> intro c8 h0
 try simp only [c8, c4, c5, go_sem]
 obtain ⟨x9, yx9, h0⟩ := bs h0
 refine DG_call0 1000 (L04_sane_ok k _ yx9) ?_ (by first | rfl | simp [AV.refsL, AV.refs, AV.scal, AV.leaf]) ?_
 try simp only [c4, c5, c8, go_sem]
 try simp only [c4, c5, c8, go_sem]
 refine DG_done ⟨rfl, run_sound T_ok 1000 _ _ ?_⟩
 try simp only [c4, c5, c8, go_sem]
 obtain rfl := Option.some.inj h0
 refine AKev_ret rfl ?_
 try simp only [F4.rs, c4, c5, c8, go_sem]
 try simp only [c8, c4, c5, go_sem]
 refine DG_done ⟨rfl, run_sound T_ok 1000 _ _ ?_⟩
 try simp only [c4, c5, c8, go_sem]
 obtain rfl := Option.some.inj h0
 refine AKev_ret rfl ?_
 try simp only [F4.rs, c4, c5, c8, go_sem]
 try simp only [c5, c4, go_sem]
 refine DG_done ⟨rfl, run_sound T_ok 1000 _ _ ?_⟩
 try simp only [c4, c5, go_sem]
 obtain rfl := Option.some.inj h0
 refine AKev_ret rfl ?_
 try simp only [F4.rs, c4, c5, go_sem]
 try simp only [c4, go_sem]
 refine DG_done ⟨rfl, run_sound T_ok 1000 _ _ ?_⟩
 try simp only [c4, go_sem]
 obtain rfl := Option.some.inj h0
 refine AKev_ret rfl ?_
 try simp only [F4.rs, c4, go_sem]
end Go.Abs
namespace Go.Abs
open Go Go.Proofs Go.RowKit
set_option maxRecDepth 20000
def qB : Nat := reachBytes
theorem qB_le : qB ≤ 140737488351232 := by decide
theorem reads_3 : Reads qB Tryz.prog 3 eI i64ok := Reads.int Tryz.underlying3
def Range.q (x : Range) : Prop := i64ok x.Lo ∧ i64ok x.Hi
theorem reads_30 : Reads qB Tryz.prog 30 Range.c Range.q := (Reads.struct Tryz.underlying30 (by kernel_rfl) (ReadsL.cons (off := 0) (sz := 1) (off' := 1) (tot := 2) rfl (by kernel_rfl) rfl reads_3 (ReadsL.cons (off := 1) (sz := 1) (off' := 2) (tot := 2) rfl (by kernel_rfl) rfl reads_3 (ReadsL.nil (off := 2) (tot := 2) (by decide))))).as (fun p => ⟨p.1, p.2.1⟩) (fun _ => rfl) (fun _ h => ⟨h.1, h.2.1⟩)
theorem reads_89 : Reads qB Tryz.prog 89 (eL 2 Range.c) (fun l => l.length ≤ Go.maxLen ∧ l.length * 16 ≤ qB ∧ ∀ a ∈ l, Range.q a) := Reads.slice Tryz.underlying89 (by kernel_rfl) (by kernel_rfl) (by decide) reads_30
theorem reads_22 : Reads qB Tryz.prog 22 (eL 1 (eL 2 Range.c)) (fun l => l.length ≤ Go.maxLen ∧ l.length * 24 ≤ qB ∧ ∀ a ∈ l, (fun l => l.length ≤ Go.maxLen ∧ l.length * 16 ≤ qB ∧ ∀ a ∈ l, Range.q a) a) := Reads.slice Tryz.underlying22 (by kernel_rfl) (by kernel_rfl) (by decide) reads_89
def Kiln.q (x : Kiln) : Prop := (fun l => l.length ≤ Go.maxLen ∧ l.length * 24 ≤ qB ∧ ∀ a ∈ l, (fun l => l.length ≤ Go.maxLen ∧ l.length * 16 ≤ qB ∧ ∀ a ∈ l, Range.q a) a) x.Falls
theorem reads_24 : Reads qB Tryz.prog 24 Kiln.c Kiln.q := (Reads.struct Tryz.underlying24 (by kernel_rfl) (ReadsL.cons (off := 0) (sz := 1) (off' := 1) (tot := 1) rfl (by kernel_rfl) rfl reads_22 (ReadsL.nil (off := 1) (tot := 1) (by decide)))).as (fun p => ⟨p.1⟩) (fun _ => rfl) (fun _ h => h.1)
def Reading.q (x : Reading) : Prop := i64ok x.Source ∧ i64ok x.Place ∧ i64ok x.Kind ∧ i64ok x.Mark ∧ Range.q x.Heat
theorem reads_64 : Reads qB Tryz.prog 64 Reading.c Reading.q := (Reads.struct Tryz.underlying64 (by kernel_rfl) (ReadsL.cons (off := 0) (sz := 1) (off' := 1) (tot := 6) rfl (by kernel_rfl) rfl reads_3 (ReadsL.cons (off := 1) (sz := 1) (off' := 2) (tot := 6) rfl (by kernel_rfl) rfl reads_3 (ReadsL.cons (off := 2) (sz := 1) (off' := 3) (tot := 6) rfl (by kernel_rfl) rfl reads_3 (ReadsL.cons (off := 3) (sz := 1) (off' := 4) (tot := 6) rfl (by kernel_rfl) rfl reads_3 (ReadsL.cons (off := 4) (sz := 2) (off' := 6) (tot := 6) rfl (by kernel_rfl) rfl reads_30 (ReadsL.nil (off := 6) (tot := 6) (by decide)))))))).as (fun p => ⟨p.1, p.2.1, p.2.2.1, p.2.2.2.1, p.2.2.2.2.1⟩) (fun _ => rfl) (fun _ h => ⟨h.1, h.2.1, h.2.2.1, h.2.2.2.1, h.2.2.2.2.1⟩)
theorem reads_25 : Reads qB Tryz.prog 25 (eL 6 Reading.c) (fun l => l.length ≤ Go.maxLen ∧ l.length * 48 ≤ qB ∧ ∀ a ∈ l, Reading.q a) := Reads.slice Tryz.underlying25 (by kernel_rfl) (by kernel_rfl) (by decide) reads_64
def Firing.q (x : Firing) : Prop := Kiln.q x.Kiln ∧ (fun l => l.length ≤ Go.maxLen ∧ l.length * 48 ≤ qB ∧ ∀ a ∈ l, Reading.q a) x.Readings
theorem reads_27 : Reads qB Tryz.prog 27 Firing.c Firing.q := (Reads.struct Tryz.underlying27 (by kernel_rfl) (ReadsL.cons (off := 0) (sz := 1) (off' := 1) (tot := 2) rfl (by kernel_rfl) rfl reads_24 (ReadsL.cons (off := 1) (sz := 1) (off' := 2) (tot := 2) rfl (by kernel_rfl) rfl reads_25 (ReadsL.nil (off := 2) (tot := 2) (by decide))))).as (fun p => ⟨p.1, p.2.1⟩) (fun _ => rfl) (fun _ h => ⟨h.1, h.2.1⟩)
def Want.q (x : Want) : Prop := i64ok x.Place ∧ Range.q x.Heat
theorem reads_37 : Reads qB Tryz.prog 37 (eL 1 eI) (fun l => l.length ≤ Go.maxLen ∧ l.length * 8 ≤ qB ∧ ∀ a ∈ l, i64ok a) := Reads.slice Tryz.underlying37 (by kernel_rfl) (by kernel_rfl) (by decide) reads_3
def Field.q (x : Field) : Prop := (fun l => l.length ≤ Go.maxLen ∧ l.length * 8 ≤ qB ∧ ∀ a ∈ l, i64ok a) x.Mouths ∧ (fun l => l.length ≤ Go.maxLen ∧ l.length * 24 ≤ qB ∧ ∀ a ∈ l, (fun l => l.length ≤ Go.maxLen ∧ l.length * 8 ≤ qB ∧ ∀ a ∈ l, i64ok a) a) x.Falls
end Go.Abs
namespace Go.Abs
open Go
set_option linter.unusedVariables false
theorem at_getD {α : Type} (d : α) {l : List α} {i : Int} (h0 : 0 ≤ i) (h1 : i < l.length) : at? l i = some (l.getD i.toNat d) := by
 unfold at?
 rw [if_pos ⟨h0, by omega⟩]
 rw [List.getElem?_eq_getElem (by omega), List.getD_eq_getElem?_getD, List.getElem?_eq_getElem (by omega)]
 rfl
theorem at_nat {α : Type} (d : α) {l : List α} {i : Nat} (h1 : i < l.length) : at? l (i : Int) = some (l.getD i d) := by
 have := at_getD d (l := l) (i := (i : Int)) (by omega) (by omega)
 simpa using this
theorem getD_mem {α : Type} (d : α) {l : List α} {i : Nat} (h : i < l.length) : l.getD i d ∈ l := by
 rw [List.getD_eq_getElem?_getD, List.getElem?_eq_getElem h]
 exact List.getElem_mem h
theorem getD_none {α : Type} {d : α} {l : List α} {i : Nat} (h : l.length ≤ i) : l.getD i d = d := by
 rw [List.getD_eq_getElem?_getD, List.getElem?_eq_none h]; rfl
theorem getD_of {α : Type} (d : α) {l : List α} {i : Nat} {x : α} (h : l[i]? = some x) : l.getD i d = x := by
 rw [List.getD_eq_getElem?_getD, h]; rfl
theorem range_drop_cons {i d : Nat} : (List.range' i (d + 1)) = i :: List.range' (i + 1) d := by
 rw [List.range'_succ]
theorem whl_eachN {R : Type} {body : Int → Option (Stp Int Unit R)} {n : Nat} {f : Nat → Option R} (hn : n ≤ 9223372036854775807) {k : Nat} (hk : n < k)
  (h1 : ∀ i, i < n → body (i : Int) = some (match f i with | some r => .ret r | none => .next (w64 ((i : Int) + 1)))) (h2 : body (n : Int) = some (.brk ())) :
  whl body k 0 = some (match (List.range n).findSome? f with | some r => .ret r | none => .brk ()) := by
 have h := whl_for (body := body) (n := n) (g := f) hn h1 h2 k n 0 (by omega) hk
 rw [Int.natCast_zero] at h
 rw [h]
 have key : ∀ d i, scan f i d = (List.range' i d).findSome? f := by
  intro d
  induction d with
  | zero => intro i; rfl
  | succ d ih =>
   intro i
   rw [range_drop_cons, List.findSome?_cons, scan, ih]
   cases f i <;> rfl
 rw [key, List.range_eq_range']
 cases (List.range' 0 n).findSome? f <;> rfl
theorem whl_allN {R : Type} {body : Int → Option (Stp Int Unit R)} {n : Nat} {p : Nat → Bool} {c : R} (hn : n ≤ 9223372036854775807) {k : Nat} (hk : n < k)
  (h1 : ∀ i, i < n → body (i : Int) = some (bif p i then .next (w64 ((i : Int) + 1)) else .ret c)) (h2 : body (n : Int) = some (.brk ())) :
  whl body k 0 = some (bif (List.range n).all p then .brk () else .ret c) := by
 have h := whl_eachN (body := body) (n := n) (f := fun i => bif p i then none else some c) hn hk (fun i hi => by rw [h1 i hi]; cases p i <;> rfl) h2
 rw [h]
 have : ∀ l : List Nat, l.findSome? (fun i => bif p i then none else some c) = bif l.all p then none else some c := by
  intro l
  induction l with
  | nil => rfl
  | cons x l ih =>
   rw [List.findSome?_cons, List.all_cons]
   cases hp : p x with
   | true => simpa using ih
   | false => simp
 rw [this]
 cases (List.range n).all p <;> rfl
theorem whl_allL {α R : Type} {l : List α} {body : Int → Option (Stp Int Unit R)} {p : α → Bool} {c : R} (hn : l.length ≤ 9223372036854775807) {k : Nat} (hk : l.length < k)
  (h1 : ∀ (i : Nat) x, l[i]? = some x → body (i : Int) = some (bif p x then .next (w64 ((i : Int) + 1)) else .ret c)) (h2 : body (l.length : Int) = some (.brk ())) :
  whl body k 0 = some (bif l.all p then .brk () else .ret c) := by
 have h := whl_each (body := body) (l := l) (f := fun i => bif p i then none else some c) hn hk (fun i x hi => by rw [h1 i x hi]; cases p x <;> rfl) h2
 rw [h]
 have : l.findSome? (fun i => bif p i then none else some c) = bif l.all p then none else some c := by
  clear h h1 h2 hn hk
  induction l with
  | nil => rfl
  | cons x l ih =>
   rw [List.findSome?_cons, List.all_cons]
   cases hp : p x with
   | true => simpa using ih
   | false => simp
 rw [this]
 cases l.all p <;> rfl
theorem whl_foldN {S R τ : Type} {n : Nat} {body : τ → Option (Stp τ S R)} (mk : Int → S → τ) (f : S → Nat → S) (Inv : Nat → S → Prop) (hn : n ≤ 9223372036854775807) {k : Nat} (hk : n < k) {s0 : S} (h0 : Inv 0 s0)
  (h1 : ∀ i s, i < n → Inv i s → body (mk (i : Int) s) = some (.next (mk (w64 ((i : Int) + 1)) (f s i))) ∧ Inv (i + 1) (f s i)) (h2 : ∀ s, Inv n s → body (mk (n : Int) s) = some (.brk s)) :
  whl body k (mk 0 s0) = some (.brk ((List.range n).foldl f s0)) ∧ Inv n ((List.range n).foldl f s0) := by
 have h := whl_fold (l := List.range n) (body := body) mk f Inv (by simpa using hn) (k := k) (by simpa using hk) h0 (fun i x s hx hI => by
  have hi : i < n := by have := (List.getElem?_eq_some_iff.1 hx).1; simpa using this
  have e : x = i := by have := hx; rw [List.getElem?_range hi] at this; exact (Option.some.inj this).symm
  subst e
  exact h1 x s hi hI) (fun s hI => by have := h2 s (by simpa using hI); simpa using this)
 exact ⟨h.1, by simpa using h.2⟩
theorem foldl_pushN {α : Type} (g : Nat → α) : ∀ (l : List Nat) (s : List α), l.foldl (fun s i => s ++ [g i]) s = s ++ l.map g
 | [], s => by simp
 | x :: l, s => by simp [foldl_pushN g l]
end Go.Abs
namespace Go.Abs
set_option linter.unusedVariables false
def mx (f : Nat → Int) : Nat → Int
 | 0 => f 0
 | n + 1 => max (mx f n) (f (n + 1))
theorem mx_le_iff (f : Nat → Int) (t : Int) : ∀ n, mx f n ≤ t ↔ ∀ j, j ≤ n → f j ≤ t
 | 0 => ⟨fun h j hj => by have h0 : j = 0 := Nat.le_zero.1 hj; subst h0; exact h, fun h => h 0 (Nat.le_refl _)⟩
 | n + 1 => by
  rw [mx, Int.max_le, mx_le_iff f t n]
  constructor
  ·rintro ⟨h1, h2⟩ j hj
   rcases Nat.lt_or_ge n j with h | h
   ·obtain rfl : j = n + 1 := by omega
    exact h2
   ·exact h1 j h
  ·exact fun h => ⟨fun j hj => h j (by omega), h _ (Nat.le_refl _)⟩
theorem le_mx_iff (f : Nat → Int) (t : Int) : ∀ n, t ≤ mx f n ↔ ∃ j, j ≤ n ∧ t ≤ f j
 | 0 => ⟨fun h => ⟨0, Nat.le_refl _, h⟩, fun ⟨j, hj, h⟩ => by have h0 : j = 0 := Nat.le_zero.1 hj; subst h0; exact h⟩
 | n + 1 => by
  rw [mx, show t ≤ max (mx f n) (f (n + 1)) ↔ t ≤ mx f n ∨ t ≤ f (n + 1) by omega, le_mx_iff f t n]
  constructor
  ·rintro (⟨j, h1, h2⟩ | h)
   ·exact ⟨j, by omega, h2⟩
   ·exact ⟨n + 1, Nat.le_refl _, h⟩
  ·rintro ⟨j, h1, h2⟩
   rcases Nat.lt_or_ge n j with h | h
   ·obtain rfl : j = n + 1 := by omega
    exact .inr h2
   ·exact .inl ⟨j, h, h2⟩
theorem eq_of_le_iff {a b : Int} (h : ∀ t, t ≤ a ↔ t ≤ b) : a = b := by
 have h1 := (h a).1 (Int.le_refl _)
 have h2 := (h b).2 (Int.le_refl _)
 omega
theorem eq_of_ge_iff {a b : Int} (h : ∀ t, a ≤ t ↔ b ≤ t) : a = b := by
 have h1 := (h a).1 (Int.le_refl _)
 have h2 := (h b).2 (Int.le_refl _)
 omega
structure Fur where
 m : Nat
 lo : Nat → Nat → Int
 hi : Nat → Nat → Int
 L : List (Nat × Int)
 M : List (Nat × Int)
namespace Fur
def Ok (f : Fur) : Prop := ∀ j p, 0 ≤ f.lo j p ∧ f.lo j p ≤ f.hi j p ∧ f.hi j p ≤ 3000
def U (f : Fur) (j : Nat) : Int := f.M.foldl (fun n x => min n (x.2 + f.hi j x.1)) 3000
theorem U_iff (f : Fur) (j : Nat) (t : Int) : t ≤ f.U j ↔ t ≤ 3000 ∧ ∀ x ∈ f.M, t ≤ x.2 + f.hi j x.1 := by
 have key : ∀ (M : List (Nat × Int)) (a : Int), t ≤ M.foldl (fun n x => min n (x.2 + f.hi j x.1)) a ↔ t ≤ a ∧ ∀ x ∈ M, t ≤ x.2 + f.hi j x.1 := by
  intro M
  induction M with
  | nil => simp
  | cons y M ih =>
   intro a
   rw [List.foldl_cons, ih, Int.le_min]
   simp only [List.forall_mem_cons, and_assoc]
 exact key _ _
theorem U_le (f : Fur) (j : Nat) : f.U j ≤ 3000 := ((f.U_iff j _).1 (Int.le_refl _)).1
def Sound (f : Fur) : Prop :=
 (∀ j, j ≤ f.m → 0 ≤ f.U j) ∧ ∀ x ∈ f.L, (∀ y ∈ f.M, y.1 = x.1 → x.2 ≤ y.2) ∧ ∃ j, j ≤ f.m ∧ x.2 + f.lo j x.1 ≤ f.U j
def High (f : Fur) (q : Nat) (t : Int) : Prop := (∃ j, j ≤ f.m ∧ t + f.lo j q ≤ f.U j) ∧ ∀ y ∈ f.M, y.1 = q → t ≤ y.2
def Low (f : Fur) (q : Nat) (t : Int) : Prop :=
 (∀ j, j ≤ f.m → -f.hi j q ≤ t) ∧ (∀ x ∈ f.L, x.1 = q → x.2 ≤ t) ∧ ∀ x ∈ f.L, x.1 ≠ q → ∃ j, j ≤ f.m ∧ x.2 + f.lo j x.1 ≤ f.U j ∧ x.2 + f.lo j x.1 - f.hi j q ≤ t
def IsField (f : Fur) (u : Nat → Int) (d : Nat → Nat → Int) : Prop := ∀ j, j ≤ f.m → 0 ≤ u j ∧ u j ≤ 3000 ∧ ∀ p, f.lo j p ≤ d j p ∧ d j p ≤ f.hi j p
def heat (f : Fur) (u : Nat → Int) (d : Nat → Nat → Int) (p : Nat) : Int := mx (fun j => u j - d j p) f.m
def Agrees (f : Fur) (u : Nat → Int) (d : Nat → Nat → Int) : Prop :=
 (∀ x ∈ f.L, x.2 ≤ f.heat u d x.1) ∧ ∀ y ∈ f.M, f.heat u d y.1 ≤ y.2
theorem Agrees.u {f : Fur} {u d} (hF : f.IsField u d) (h : f.Agrees u d) (j : Nat) (hj : j ≤ f.m) : u j ≤ f.U j := by
 rw [U_iff]
 refine ⟨(hF j hj).2.1, fun x hx => ?_⟩
 have h1 := (mx_le_iff _ _ _).1 (h.2 x hx) j hj
 have h2 := (hF j hj).2.2 x.1
 omega
theorem Agrees.low {f : Fur} {u d} (hF : f.IsField u d) (h : f.Agrees u d) (p : Nat) : f.Low p (f.heat u d p) := by
 have hm := (mx_le_iff (fun j => u j - d j p) (f.heat u d p) f.m).1 (Int.le_refl _)
 refine ⟨fun j hj => ?_, fun x hx e => e ▸ h.1 x hx, fun x hx _ => ?_⟩
 ·have h1 := hm j hj
  have h2 := hF j hj
  have h3 := h2.2.2 p
  omega
 ·obtain ⟨j, h1, h2⟩ := (le_mx_iff _ _ _).1 (h.1 x hx)
  have h3 := h.u hF j h1
  have h4 := (hF j h1).2.2 x.1
  have h5 := (hF j h1).2.2 p
  have h6 := hm j h1
  exact ⟨j, h1, by omega, by omega⟩
def bst (p : Nat) (o : Option Int) (x : Nat × Int) : Option Int := if x.1 = p then some (match o with | none => x.2 | some n => min n x.2) else o
def best (M : List (Nat × Int)) (p : Nat) : Option Int := M.foldl (bst p) none
theorem best_iff (M : List (Nat × Int)) (p : Nat) : (best M p = none ↔ ∀ y ∈ M, y.1 ≠ p) ∧ ∀ n, best M p = some n → (∀ t, t ≤ n ↔ ∀ y ∈ M, y.1 = p → t ≤ y.2) ∧ ∃ y ∈ M, y.1 = p ∧ y.2 = n := by
 have key : ∀ (M K : List (Nat × Int)) (o : Option Int), ((o = none ↔ ∀ y ∈ K, y.1 ≠ p) ∧ ∀ n, o = some n → (∀ t, t ≤ n ↔ ∀ y ∈ K, y.1 = p → t ≤ y.2) ∧ ∃ y ∈ K, y.1 = p ∧ y.2 = n) →
   ((M.foldl (bst p) o = none ↔ ∀ y ∈ K ++ M, y.1 ≠ p) ∧ ∀ n, M.foldl (bst p) o = some n → (∀ t, t ≤ n ↔ ∀ y ∈ K ++ M, y.1 = p → t ≤ y.2) ∧ ∃ y ∈ K ++ M, y.1 = p ∧ y.2 = n) := by
  intro M
  induction M with
  | nil => intro K o h; simpa using h
  | cons x M ih =>
   intro K o h
   have h2 := ih (K ++ [x]) (bst p o x) ?_
   ·simpa only [List.append_assoc, List.cons_append, List.nil_append, List.foldl_cons] using h2
   ·by_cases hx : x.1 = p
    ·simp only [bst, hx, if_true]
     refine ⟨?_, fun n hn => ?_⟩
     ·constructor
      ·intro h; cases h
      ·intro h; exact absurd hx (h x (by simp))
     ·cases o with
      | none =>
       simp only [Option.some.injEq] at hn
       have h3 := h.1.1 rfl
       refine ⟨fun t => ⟨fun ht y hy e => ?_, fun ht => ?_⟩, x, by simp, hx, hn⟩
       ·rcases List.mem_append.1 hy with hy | hy
        ·exact absurd e (h3 y hy)
        ·simp only [List.mem_singleton] at hy; subst hy; omega
       ·have := ht x (by simp) hx; omega
      | some n0 =>
       simp only [Option.some.injEq] at hn
       obtain ⟨h3, y0, h4, h5, h6⟩ := h.2 n0 rfl
       refine ⟨fun t => ⟨fun ht y hy e => ?_, fun ht => ?_⟩, ?_⟩
       ·rcases List.mem_append.1 hy with hy | hy
        ·exact (h3 t).1 (by omega) y hy e
        ·simp only [List.mem_singleton] at hy; subst hy; omega
       ·have h7 := (h3 t).2 (fun y hy e => ht y (by simp [hy]) e)
        have h8 := ht x (by simp) hx
        omega
       ·by_cases hlt : n0 ≤ x.2
        ·exact ⟨y0, by simp [h4], h5, by omega⟩
        ·exact ⟨x, by simp, hx, by omega⟩
    ·simp only [bst, hx, if_false]
     refine ⟨?_, fun n hn => ?_⟩
     ·rw [h.1]
      constructor
      ·intro g y hy
       rcases List.mem_append.1 hy with hy | hy
       ·exact g y hy
       ·simp only [List.mem_singleton] at hy; subst hy; exact hx
      ·intro g y hy; exact g y (by simp [hy])
     ·obtain ⟨h3, y0, h4, h5, h6⟩ := h.2 n hn
      refine ⟨fun t => ?_, y0, by simp [h4], h5, h6⟩
      rw [h3]
      constructor
      ·intro g y hy e
       rcases List.mem_append.1 hy with hy | hy
       ·exact g y hy e
       ·simp only [List.mem_singleton] at hy; subst hy; exact absurd e hx
      ·intro g y hy e; exact g y (by simp [hy]) e
 have := key M [] none (by simp)
 simpa [best] using this
end Fur
end Go.Abs
namespace Go.Abs
set_option linter.unusedVariables false
namespace Fur
def Small (f : Fur) (P : Nat) : Prop := (∀ x ∈ f.L, x.1 < P ∧ -3000 ≤ x.2 ∧ x.2 ≤ 3000) ∧ ∀ x ∈ f.M, x.1 < P ∧ -3000 ≤ x.2 ∧ x.2 ≤ 3000
structure Lims (f : Fur) (P : Nat) (a b : Nat → Int) : Prop where
 hk : f.Ok
 sm : f.Small P
 A : ∀ p t, p < P → (a p ≤ t ↔ -1000000 ≤ t ∧ ∀ x ∈ f.L, x.1 = p → x.2 ≤ t)
 B : ∀ p t, p < P → (t ≤ b p ↔ t ≤ 1000000 ∧ ∀ y ∈ f.M, y.1 = p → t ≤ y.2)
namespace Lims
variable {f : Fur} {P : Nat} {a b : Nat → Int}
theorem a_ge (h : Lims f P a b) {p : Nat} (hp : p < P) : -1000000 ≤ a p := ((h.A p _ hp).1 (Int.le_refl _)).1
theorem a_lim (h : Lims f P a b) {x : Nat × Int} (hx : x ∈ f.L) : x.2 ≤ a x.1 := ((h.A x.1 _ (h.sm.1 x hx).1).1 (Int.le_refl _)).2 x hx rfl
theorem b_le (h : Lims f P a b) {p : Nat} (hp : p < P) : b p ≤ 1000000 := ((h.B p _ hp).1 (Int.le_refl _)).1
theorem b_lim (h : Lims f P a b) {y : Nat × Int} (hy : y ∈ f.M) : b y.1 ≤ y.2 := ((h.B y.1 _ (h.sm.2 y hy).1).1 (Int.le_refl _)).2 y hy rfl
theorem a_att (h : Lims f P a b) {p : Nat} (hp : p < P) (hn : a p ≠ -1000000) : ∃ x ∈ f.L, x.1 = p ∧ x.2 = a p := by
 by_cases hc : ∃ x ∈ f.L, x.1 = p ∧ x.2 = a p
 ·exact hc
 ·exfalso
  have h0 := h.a_ge hp
  have : a p ≤ a p - 1 := by
   rw [h.A p _ hp]
   refine ⟨by omega, fun x hx e => ?_⟩
   have h1 := h.a_lim hx
   rw [e] at h1
   have h2 : x.2 ≠ a p := fun e2 => hc ⟨x, hx, e, e2⟩
   omega
  omega
theorem b_att (h : Lims f P a b) {p : Nat} (hp : p < P) (hn : b p ≠ 1000000) : ∃ x ∈ f.M, x.1 = p ∧ x.2 = b p := by
 by_cases hc : ∃ x ∈ f.M, x.1 = p ∧ x.2 = b p
 ·exact hc
 ·exfalso
  have h0 := h.b_le hp
  have : b p + 1 ≤ b p := by
   rw [h.B p _ hp]
   refine ⟨by omega, fun x hx e => ?_⟩
   have h1 := h.b_lim hx
   rw [e] at h1
   have h2 : x.2 ≠ b p := fun e2 => hc ⟨x, hx, e, e2⟩
   omega
  omega
theorem U_iff (h : Lims f P a b) (j : Nat) (t : Int) : t ≤ f.U j ↔ t ≤ 3000 ∧ ∀ p, p < P → b p < 1000000 → t ≤ b p + f.hi j p := by
 rw [Fur.U_iff]
 constructor
 ·rintro ⟨h1, h2⟩
  refine ⟨h1, fun p hp hb => ?_⟩
  obtain ⟨y, hy, e, e2⟩ := h.b_att hp (by omega)
  have := h2 y hy
  rw [e, e2] at this
  exact this
 ·rintro ⟨h1, h2⟩
  refine ⟨h1, fun y hy => ?_⟩
  have h3 := h.b_lim hy
  have h4 := h.sm.2 y hy
  have := h2 y.1 h4.1 (by omega)
  omega
theorem sound_iff (h : Lims f P a b) : f.Sound ↔ (∀ j, j ≤ f.m → 0 ≤ f.U j) ∧ ∀ p, p < P → a p ≤ b p ∧ (a p = -1000000 ∨ ∃ j, j ≤ f.m ∧ a p + f.lo j p ≤ f.U j) := by
 constructor
 ·rintro ⟨h1, h2⟩
  refine ⟨h1, fun p hp => ⟨?_, ?_⟩⟩
  ·rw [h.A p _ hp]
   constructor
   ·rw [h.B p _ hp]
    exact ⟨by omega, fun y hy e => by have := h.sm.2 y hy; omega⟩
   ·intro x hx e
    rw [h.B p _ hp]
    refine ⟨by have := h.sm.1 x hx; omega, fun y hy e2 => (h2 x hx).1 y hy (by omega)⟩
  ·by_cases hn : a p = -1000000
   ·exact .inl hn
   ·right
    obtain ⟨x, hx, e, e2⟩ := h.a_att hp hn
    have := (h2 x hx).2
    rw [e, e2] at this
    exact this
 ·rintro ⟨h1, h2⟩
  refine ⟨h1, fun x hx => ⟨fun y hy e => ?_, ?_⟩⟩
  ·have h3 := h.a_lim hx
   have h4 := h.b_lim hy
   have h5 := (h2 x.1 (h.sm.1 x hx).1).1
   rw [e] at h4
   omega
  ·have h3 := h.a_lim hx
   have h6 := h.sm.1 x hx
   rcases (h2 x.1 h6.1).2 with h5 | ⟨j, h5, h7⟩
   ·omega
   ·exact ⟨j, h5, by omega⟩
end Lims
end Fur
end Go.Abs
namespace Go.Abs
open Go
set_option linter.unusedVariables false
def KK : Nat := 18446744073709551616
theorem KK_big {n : Nat} (h : n ≤ Go.maxLen) : n < KK := by unfold KK; unfold Go.maxLen at h; omega
def Kiln.s (a : Kiln) : Prop := a.Falls.length ≤ Go.maxLen ∧ ∀ x ∈ a.Falls, x.length ≤ Go.maxLen
def Firing.s (f : Firing) : Prop := Kiln.s f.Kiln ∧ f.Readings.length ≤ Go.maxLen
theorem Kiln.q.s {a : Kiln} (q : Kiln.q a) : Kiln.s a := ⟨q.1, fun x hx => (q.2.2 x hx).1⟩
theorem Firing.q.s {f : Firing} (q : Firing.q f) : Firing.s f := ⟨q.1.s, q.2.1⟩
theorem maxLen_le {n : Nat} (h : n ≤ Go.maxLen) : n ≤ 9223372036854775807 := by unfold Go.maxLen at h; omega
theorem sane_KK : L04_sane KK = some true := by unfold KK; decide +kernel
set_option maxRecDepth 10000
def inB (n lo hi : Int) : Bool := decide (lo ≤ n) && decide (n ≤ hi)
theorem heat_in_eq (k : Nat) (n lo hi : Int) : heat_in k n lo hi = some (inB n lo hi) := by
 unfold heat_in inB; cases decide (lo ≤ n) <;> rfl
theorem R01_In_eq (k : Nat) (n lo hi : Int) : R01_In k n lo hi = some (inB n lo hi) := by
 unfold R01_In inB; cases decide (lo ≤ n) <;> rfl
def rangeB (r : Range) (lo hi : Int) : Bool := decide (lo ≤ r.Lo) && (decide (r.Lo ≤ r.Hi) && decide (r.Hi ≤ hi))
theorem R01_Part_eq (k : Nat) (r : Range) (lo hi : Int) : R01_Part k r lo hi = some (rangeB r lo hi) := by
 unfold R01_Part rangeB; cases decide (lo ≤ r.Lo) <;> cases decide (r.Lo ≤ r.Hi) <;> rfl
def readB (places : Int) (r : Reading) : Bool :=
 inB r.Source 1 99999 && (inB r.Place 0 (w64 (places - 1)) &&
  (bif decide (r.Kind = (1 : Int)) then (inB r.Mark 1 2000 && (decide (r.Heat.Lo = (0 : Int)) && decide (r.Heat.Hi = (0 : Int))))
  else bif decide (r.Kind = (2 : Int)) then (inB r.Mark 1 2000 && (decide (r.Heat.Lo = (0 : Int)) && decide (r.Heat.Hi = (0 : Int))))
  else bif decide (r.Kind = (3 : Int)) then (decide (r.Mark = (0 : Int)) && rangeB r.Heat 1 2000) else false))
theorem heat_isReading_eq (k : Nat) (places : Int) (r : Reading) : heat_isReading k places r = some (readB places r) := by
 unfold heat_isReading readB rangeB
 simp only [heat_in_eq, Option.bind_some]
 cases inB r.Source 1 99999 <;> cases inB r.Place 0 (w64 (places - 1)) <;> cases decide (r.Kind = (1 : Int)) <;> cases decide (r.Kind = (2 : Int)) <;> cases decide (r.Kind = (3 : Int)) <;> cases inB r.Mark 1 2000 <;> cases decide (r.Mark = (0 : Int)) <;> cases decide ((1 : Int) ≤ r.Heat.Lo) <;> cases decide (r.Heat.Lo ≤ r.Heat.Hi) <;> rfl
theorem R04_isReading_eq (k : Nat) (k0 : Kiln) (r : Reading) (x3 : List Range) (h : k0.Falls[0]? = some x3) : R04_isReading k k0 r = some (readB (x3.length : Int) r) := by
 unfold R04_isReading readB
 have ha : at? k0.Falls 0 = some x3 := by have := at_of h; simpa using this
 simp only [R01_In_eq, R01_Part_eq, Option.bind_some, ha]
 cases inB r.Source 1 99999 <;> cases inB r.Place 0 (w64 (x3.length - 1)) <;> cases decide (r.Kind = (1 : Int)) <;> cases decide (r.Kind = (2 : Int)) <;> cases decide (r.Kind = (3 : Int)) <;> cases inB r.Mark 1 2000 <;> cases decide (r.Mark = (0 : Int)) <;> rfl
theorem findSome_bif {α R : Type} (p : α → Bool) (c : R) : ∀ l : List α, l.findSome? (fun x => bif p x then none else some c) = bif l.all p then none else some c
 | [] => rfl
 | x :: l => by
  rw [List.findSome?_cons, List.all_cons]
  cases h : p x with
  | true => simp [findSome_bif p c l]
  | false => simp
theorem lt_dec {i n : Nat} (h : i < n) : decide ((i : Int) < (n : Int)) = true := by simp; omega
theorem lt_dec_self (n : Nat) : decide ((n : Int) < (n : Int)) = false := by simp
theorem len_dec {α β : Type} (a : List α) (b : List β) : decide ((a.length : Int) = (b.length : Int)) = decide (a.length = b.length) := by
 by_cases h : a.length = b.length
 ·simp [h]
 ·have : ¬ ((a.length : Int) = (b.length : Int)) := by omega
  simp [h, this]
def kilnB (a : Kiln) : Bool := inB a.Falls.length 1 6 && (inB (a.Falls.headD []).length 1 24 && a.Falls.all fun l => decide (l.length = (a.Falls.headD []).length) && l.all fun r => rangeB r 0 3000)
theorem bad_eq (k : Nat) (r : Range) : heat_CheckKiln_1 k r = some (!rangeB r 0 3000) := by
 unfold heat_CheckKiln_1 rangeB
 have h1 : decide (r.Lo < (0 : Int)) = !decide (0 ≤ r.Lo) := by by_cases h : 0 ≤ r.Lo <;> simp [h] <;> omega
 have h2 : decide (r.Hi < r.Lo) = !decide (r.Lo ≤ r.Hi) := by by_cases h : r.Lo ≤ r.Hi <;> simp [h] <;> omega
 have h3 : decide ((3000 : Int) < r.Hi) = !decide (r.Hi ≤ 3000) := by by_cases h : r.Hi ≤ 3000 <;> simp [h] <;> omega
 rw [h1, h2, h3]
 cases decide (0 ≤ r.Lo) <;> cases decide (r.Lo ≤ r.Hi) <;> rfl
theorem contains_Range {l : List Range} (hl : l.length ≤ Go.maxLen) {f : Range → Option Bool} {p : Range → Bool} (hf : ∀ x, f x = some (p x)) : slices_ContainsFunc_api_Range KK l f = some (l.any p) := by
 unfold slices_ContainsFunc_api_Range slices_IndexFunc_api_Range
 rw [indexFunc_gen (body := slices_IndexFunc_api_Range.b0 KK f l) (p := p) (fun x _ => hf x) (maxLen_le hl) (KK_big hl) rfl]
 have : l.any p = (l.findIdx? p).isSome := by rw [List.findIdx?_isSome]
 rw [this]
 cases l.findIdx? p with
 | none => rfl
 | some i => simp
theorem heat_CheckKiln_eq (a : Kiln) (q : Kiln.s a) : heat_CheckKiln KK a = some (bif kilnB a then 0 else 40) := by
 obtain ⟨q1, q2⟩ := q
 unfold heat_CheckKiln kilnB
 simp only [heat_in_eq, Option.bind_some]
 cases h0 : inB (a.Falls.length : Int) 1 6 with
 | false => rfl
 | true =>
  obtain ⟨x3, hx⟩ : ∃ x3, a.Falls[0]? = some x3 := by
   have : 0 < a.Falls.length := by simp [inB] at h0; omega
   exact ⟨_, List.getElem?_eq_getElem this⟩
  have hd : a.Falls.headD [] = x3 := by cases hF : a.Falls with | nil => rw [hF] at hx; cases hx | cons y l => rw [hF] at hx; simpa using hx
  have ha : at? a.Falls 0 = some x3 := by have := at_of hx; simpa using this
  simp only [ha, hd, cond_true, Option.bind_some, Bool.true_and]
  cases h1 : inB (x3.length : Int) 1 24 with
  | false => rfl
  | true =>
   simp only [Bool.not_true, cond_false, Bool.true_and]
   rw [whl_each (l := a.Falls) (f := fun l => bif (decide (l.length = x3.length) && l.all fun r => rangeB r 0 3000) then none else some 40) (maxLen_le q1) (KK_big q1) ?_ ?_]
   ·rw [findSome_bif]
    cases a.Falls.all _ <;> rfl
   ·intro i x hx
    have hi : i < a.Falls.length := (List.getElem?_eq_some_iff.1 hx).1
    unfold heat_CheckKiln.b0
    rw [lt_dec hi, at_of hx]
    simp only [cond_true, Option.bind_some, len_dec]
    rw [contains_Range (q2 x (List.mem_of_getElem? hx)) (fun r => bad_eq KK r)]
    have : (x.any fun r => !rangeB r 0 3000) = !(x.all fun r => rangeB r 0 3000) := by simp [List.all_eq_not_any_not]
    rw [this]
    cases decide (x.length = x3.length) <;> cases (x.all fun r => rangeB r 0 3000) <;> rfl
   ·unfold heat_CheckKiln.b0
    rw [lt_dec_self]; rfl
theorem R04_CheckKiln_eq (a : Kiln) (q : Kiln.s a) : R04_CheckKiln KK a = some (bif kilnB a then 0 else 40) := by
 obtain ⟨q1, q2⟩ := q
 unfold R04_CheckKiln kilnB
 simp only [R01_In_eq, Option.bind_some]
 cases h0 : inB (a.Falls.length : Int) 1 6 with
 | false => rfl
 | true =>
  have hpos : 0 < a.Falls.length := by simp [inB] at h0; omega
  obtain ⟨x3, hx⟩ : ∃ x3, a.Falls[0]? = some x3 := ⟨_, List.getElem?_eq_getElem hpos⟩
  have hd : a.Falls.headD [] = x3 := by cases hF : a.Falls with | nil => rw [hF] at hx; cases hx | cons y l => rw [hF] at hx; simpa using hx
  have ha : at? a.Falls 0 = some x3 := by have := at_of hx; simpa using this
  simp only [ha, hd, Bool.not_true, cond_false, Option.bind_some, Bool.true_and]
  rw [whl_each (l := a.Falls) (f := fun l => bif (decide (l.length = x3.length) && (inB (x3.length : Int) 1 24 && l.all fun r => rangeB r 0 3000)) then none else some 40) (maxLen_le q1) (KK_big q1) ?_ ?_]
  ·rw [findSome_bif]
   have : (a.Falls.all fun l => decide (l.length = x3.length) && (inB (x3.length : Int) 1 24 && l.all fun r => rangeB r 0 3000)) = (inB (x3.length : Int) 1 24 && a.Falls.all fun l => decide (l.length = x3.length) && l.all fun r => rangeB r 0 3000) := by
    cases inB (x3.length : Int) 1 24 with
    | true => simp
    | false =>
     simp only [Bool.false_and, Bool.and_false]
     cases hF : a.Falls with
     | nil => rw [hF] at hpos; simp at hpos
     | cons y l => simp
   rw [this]
   cases (inB (x3.length : Int) 1 24 && a.Falls.all fun l => decide (l.length = x3.length) && l.all fun r => rangeB r 0 3000) <;> rfl
  ·intro i x hx'
   have hi : i < a.Falls.length := (List.getElem?_eq_some_iff.1 hx').1
   have hq := q2 x (List.mem_of_getElem? hx')
   unfold R04_CheckKiln.b0
   rw [lt_dec hi, at_of hx']
   simp only [cond_true, Option.bind_some, len_dec, R01_In_eq]
   cases hl : decide (x.length = x3.length) with
   | false => rfl
   | true =>
    simp only [cond_true, Bool.true_and]
    cases inB (x3.length : Int) 1 24 with
    | false => rfl
    | true =>
     simp only [Bool.not_true, cond_false, Bool.true_and]
     have hl' : x.length = x3.length := by simpa using hl
     rw [whl_each (l := x) (f := fun r => bif rangeB r 0 3000 then none else some 40) (maxLen_le hq) (KK_big hq) ?_ ?_]
     ·rw [findSome_bif]
      cases (x.all fun r => rangeB r 0 3000) <;> rfl
     ·intro j r hr
      have hj : j < x.length := (List.getElem?_eq_some_iff.1 hr).1
      unfold R04_CheckKiln.b1
      rw [← hl', lt_dec hj, at_of hr]
      simp only [cond_true, Option.bind_some, R01_Part_eq]
      cases rangeB r 0 3000 <;> rfl
     ·unfold R04_CheckKiln.b1
      rw [← hl', lt_dec_self]; rfl
  ·unfold R04_CheckKiln.b0
   rw [lt_dec_self]; rfl
theorem kilnB_head {a : Kiln} (h : kilnB a = true) : ∃ x3, a.Falls[0]? = some x3 ∧ at? a.Falls 0 = some x3 ∧ a.Falls.headD [] = x3 := by
 have hpos : 0 < a.Falls.length := by simp [kilnB, inB] at h; omega
 obtain ⟨x3, hx⟩ : ∃ x3, a.Falls[0]? = some x3 := ⟨_, List.getElem?_eq_getElem hpos⟩
 exact ⟨x3, hx, by have := at_of hx; simpa using this, by cases hF : a.Falls with | nil => rw [hF] at hx; cases hx | cons y l => rw [hF] at hx; simpa using hx⟩
def firingCode (f : Firing) : Int := bif kilnB f.Kiln then (bif decide ((60 : Int) < (f.Readings.length : Int)) then 2 else bif f.Readings.all (readB ((f.Kiln.Falls.headD []).length : Int)) then 0 else 41) else 40
theorem heat_Check_eq (f : Firing) (q : Firing.s f) : heat_Check KK f = some (firingCode f) := by
 obtain ⟨q1, q2⟩ := q
 unfold heat_Check firingCode
 rw [heat_CheckKiln_eq _ q1]
 cases h : kilnB f.Kiln with
 | false => rfl
 | true =>
  obtain ⟨x3, h1, h2, h3⟩ := kilnB_head h
  simp only [Option.bind_some, cond_true, h3]
  simp only [decide_true, Bool.not_true, cond_false]
  cases decide ((60 : Int) < (f.Readings.length : Int)) with
  | true => rfl
  | false =>
   simp only [cond_false]
   rw [whl_each (l := f.Readings) (f := fun r => bif readB (x3.length : Int) r then none else some 41) (maxLen_le q2) (KK_big q2) ?_ ?_]
   ·rw [findSome_bif]
    have : (f.Readings.all fun r => readB (x3.length : Int) r) = f.Readings.all (readB (x3.length : Int)) := rfl
    rw [this]
    cases f.Readings.all (readB (x3.length : Int)) <;> rfl
   ·intro i r hr
    have hi : i < f.Readings.length := (List.getElem?_eq_some_iff.1 hr).1
    unfold heat_Check.b0
    rw [lt_dec hi, at_of hr]
    simp only [cond_true, Option.bind_some, h2, heat_isReading_eq]
    cases readB (x3.length : Int) r <;> rfl
   ·unfold heat_Check.b0
    rw [lt_dec_self]; rfl
theorem R04_Check_eq (f : Firing) (q : Firing.s f) : R04_Check KK f = some (firingCode f) := by
 obtain ⟨q1, q2⟩ := q
 unfold R04_Check firingCode
 rw [R04_CheckKiln_eq _ q1]
 cases h : kilnB f.Kiln with
 | false => rfl
 | true =>
  obtain ⟨x3, h1, h2, h3⟩ := kilnB_head h
  simp only [Option.bind_some, cond_true, h3]
  simp only [decide_true, Bool.not_true, cond_false]
  cases decide ((60 : Int) < (f.Readings.length : Int)) with
  | true => rfl
  | false =>
   simp only [cond_false]
   rw [whl_each (l := f.Readings) (f := fun r => bif readB (x3.length : Int) r then none else some 41) (maxLen_le q2) (KK_big q2) ?_ ?_]
   ·rw [findSome_bif]
    have : (f.Readings.all fun r => readB (x3.length : Int) r) = f.Readings.all (readB (x3.length : Int)) := rfl
    rw [this]
    cases f.Readings.all (readB (x3.length : Int)) <;> rfl
   ·intro i r hr
    have hi : i < f.Readings.length := (List.getElem?_eq_some_iff.1 hr).1
    unfold R04_Check.b0
    rw [lt_dec hi, at_of hr]
    simp only [cond_true, Option.bind_some, R04_isReading_eq KK f.Kiln r x3 h1]
    cases readB (x3.length : Int) r <;> rfl
   ·unfold R04_Check.b0
    rw [lt_dec_self]; rfl
end Go.Abs
namespace Go.Abs
open Go
set_option linter.unusedVariables false
theorem R01_Same_refl (a : List Int) (q : a.length ≤ Go.maxLen) : R01_Same KK a a = some true := by
 unfold R01_Same
 simp only [decide_true, Bool.not_true, cond_false]
 rw [whl_each (l := a) (f := fun _ => (none : Option Bool)) (maxLen_le q) (KK_big q) ?_ ?_]
 ·have : a.findSome? (fun _ => (none : Option Bool)) = none := by induction a <;> simp_all
  rw [this]; rfl
 ·intro i x hx
  have hi : i < a.length := (List.getElem?_eq_some_iff.1 hx).1
  unfold R01_Same.b0
  rw [lt_dec hi, at_of hx]
  simp
 ·unfold R01_Same.b0
  rw [lt_dec_self]; rfl
theorem heat_kilnCopy_eq (a : Kiln) (h1 : a.Falls.length ≤ 1000) (h2 : ∀ x ∈ a.Falls, x.length ≤ 1000) : heat_kilnCopy KK a = some a := by
 unfold heat_kilnCopy
 have h := (whl_fold (l := a.Falls) (body := heat_kilnCopy.b0 KK a) (k := KK) (fun i s => (i, s)) (fun s x => s ++ [x]) (fun i s => s.length = i) (s0 := []) (by omega) (by unfold KK; omega) rfl ?_ ?_).1
 ·rw [h, foldl_push]; rfl
 ·intro i x s hx hI
  have hi : i < a.Falls.length := (List.getElem?_eq_some_iff.1 hx).1
  have hq := h2 x (List.mem_of_getElem? hx)
  refine ⟨?_, by simp [hI]⟩
  unfold heat_kilnCopy.b0 slices_Clone_api_Range
  simp only [lt_dec hi, at_of hx, cond_true, Option.bind_some]
  rw [room_of (by omega) (by omega)]
  simp only [Option.bind_some]
  rw [push_of (by omega) (by omega)]
  rfl
 ·intro s _
  unfold heat_kilnCopy.b0
  simp only [lt_dec_self]; rfl
theorem R04_kiln_eq (a : Kiln) (h1 : a.Falls.length ≤ 1000) (h2 : ∀ x ∈ a.Falls, x.length ≤ 1000) : R04_kiln KK a = some a := by
 unfold R04_kiln
 have h := (whl_fold (l := a.Falls) (body := R04_kiln.b0 KK a) (k := KK) (fun i s => (i, s)) (fun s x => s ++ [x]) (fun i s => s.length = i) (s0 := []) (by omega) (by unfold KK; omega) rfl ?_ ?_).1
 ·rw [h, foldl_push]; rfl
 ·intro i x s hx hI
  have hi : i < a.Falls.length := (List.getElem?_eq_some_iff.1 hx).1
  have hq := h2 x (List.mem_of_getElem? hx)
  refine ⟨?_, by simp [hI]⟩
  unfold R04_kiln.b0
  simp only [lt_dec hi, at_of hx, cond_true, Option.bind_some]
  rw [room_of (by omega) (by omega)]
  simp only [Option.bind_some]
  rw [push_of (by omega) (by omega)]
  rfl
 ·intro s _
  unfold R04_kiln.b0
  simp only [lt_dec_self]; rfl
theorem kilnB_small {a : Kiln} (h : kilnB a = true) : a.Falls.length ≤ 6 ∧ (a.Falls.headD []).length ≤ 24 ∧ ∀ x ∈ a.Falls, x.length = (a.Falls.headD []).length := by
 simp only [kilnB, inB, Bool.and_eq_true, decide_eq_true_eq, List.all_eq_true] at h
 obtain ⟨h1, h2, h3⟩ := h
 exact ⟨by omega, by omega, fun x hx => (h3 x hx).1⟩
theorem firing_small {f : Firing} (h : firingCode f = 0) : kilnB f.Kiln = true ∧ f.Readings.length ≤ 60 ∧ ∀ r ∈ f.Readings, readB ((f.Kiln.Falls.headD []).length : Int) r = true := by
 unfold firingCode at h
 cases h1 : kilnB f.Kiln with
 | false => rw [h1] at h; simp at h
 | true =>
  rw [h1] at h
  simp only [cond_true] at h
  by_cases h2 : (60 : Int) < (f.Readings.length : Int)
  ·simp [h2] at h
  ·simp only [h2, decide_false, cond_false] at h
   cases h3 : f.Readings.all (readB ((f.Kiln.Falls.headD []).length : Int)) with
   | false => rw [h3] at h; simp at h
   | true => exact ⟨rfl, by omega, fun r hr => List.all_eq_true.1 h3 r hr⟩
end Go.Abs
namespace Go.Abs
open Go
set_option linter.unusedVariables false
def insU (n : Int) : List Int → List Int
 | [] => [n]
 | y :: l => bif decide (y = n) then y :: l else bif decide (n < y) then n :: y :: l else y :: insU n l
theorem insU_mem (n : Int) : ∀ (l : List Int) (x : Int), x ∈ insU n l ↔ x = n ∨ x ∈ l
 | [], x => by simp [insU]
 | y :: l, x => by
  unfold insU
  by_cases h1 : y = n
  ·simp [h1]
  ·by_cases h2 : n < y
   ·simp [h1, h2]
   ·simp only [h1, h2, decide_false, cond_false, List.mem_cons, insU_mem n l]
    constructor
    ·rintro (h | h | h) <;> simp [h]
    ·rintro (h | h | h) <;> simp [h]
theorem insU_sorted (n : Int) : ∀ l : List Int, l.Pairwise (· < ·) → (insU n l).Pairwise (· < ·)
 | [], _ => by simp [insU]
 | y :: l, h => by
  have h0 := h
  rw [List.pairwise_cons] at h
  unfold insU
  by_cases h1 : y = n
  ·simp only [h1, decide_true, cond_true]; rw [← h1]; exact h0
  ·by_cases h2 : n < y
   ·simp only [h1, h2, decide_false, decide_true, cond_false, cond_true]
    rw [List.pairwise_cons]
    refine ⟨fun z hz => ?_, h0⟩
    rcases List.mem_cons.1 hz with rfl | hz
    ·exact h2
    ·have := h.1 z hz; omega
   ·simp only [h1, h2, decide_false, cond_false]
    rw [List.pairwise_cons]
    refine ⟨fun z hz => ?_, insU_sorted n l h.2⟩
    rcases (insU_mem n l z).1 hz with rfl | hz
    ·omega
    ·exact h.1 z hz
theorem insU_of_mem (n : Int) : ∀ l : List Int, l.Pairwise (· < ·) → n ∈ l → insU n l = l
 | [], _, h => by simp at h
 | y :: l, h, hm => by
  rw [List.pairwise_cons] at h
  unfold insU
  by_cases h1 : y = n
  ·simp [h1]
  ·rcases List.mem_cons.1 hm with rfl | hm
   ·exact absurd rfl h1
   ·have := h.1 n hm
    have h2 : ¬ n < y := by omega
    simp only [h1, h2, decide_false, cond_false]
    rw [insU_of_mem n l h.2 hm]
theorem insU_len (n : Int) : ∀ l : List Int, (insU n l).length ≤ l.length + 1
 | [] => by simp [insU]
 | y :: l => by
  unfold insU
  cases decide (y = n) <;> cases decide (n < y) <;> simp <;> exact insU_len n l
theorem rising_eq : ∀ {a b : List Int}, a.Pairwise (· < ·) → b.Pairwise (· < ·) → (∀ x, x ∈ a ↔ x ∈ b) → a = b
 | [], [], _, _, _ => rfl
 | [], y :: b, _, _, h => by have := (h y).2 (by simp); simp at this
 | x :: a, [], _, _, h => by have := (h x).1 (by simp); simp at this
 | x :: a, y :: b, ha, hb, h => by
  rw [List.pairwise_cons] at ha hb
  have hxy : x = y := by
   have h1 := (h x).1 (by simp)
   have h2 := (h y).2 (by simp)
   rcases List.mem_cons.1 h1 with e | e
   ·exact e
   ·rcases List.mem_cons.1 h2 with e' | e'
    ·exact e'.symm
    ·have := ha.1 y e'; have := hb.1 x e; omega
  subst hxy
  congr 1
  refine rising_eq ha.2 hb.2 fun z => ⟨fun hz => ?_, fun hz => ?_⟩
  ·rcases List.mem_cons.1 ((h z).1 (List.mem_cons_of_mem _ hz)) with e | e
   ·subst e; have := ha.1 z hz; omega
   ·exact e
  ·rcases List.mem_cons.1 ((h z).2 (List.mem_cons_of_mem _ hz)) with e | e
   ·subst e; have := hb.1 z hz; omega
   ·exact e
theorem drop_cons {α : Type} {l m : List α} {i : Nat} {x : α} (h : l.drop i = x :: m) : l[i]? = some x ∧ i < l.length ∧ l.drop (i + 1) = m := by
 have hx : l[i]? = some x := by
  have := congrArg (fun q => q[0]?) h
  simpa using this
 exact ⟨hx, (List.getElem?_eq_some_iff.1 hx).1, by rw [← List.drop_drop, h]; rfl⟩
theorem w64_succ {i n : Nat} (h : i < n) (hn : n ≤ 9223372036854775807) : w64 ((i : Int) + 1) = ((i + 1 : Nat) : Int) := by rw [w64_of (by omega) (by omega)]; omega
theorem R01_add_eq (l0 : List Int) (n : Int) (hs : l0.Pairwise (· < ·)) (hl : l0.length ≤ 8589934592) : R01_add KK l0 n = some (insU n l0) := by
 have hn : l0.length ≤ 9223372036854775807 := by omega
 have rest : ∀ (m : List Int) (i k : Nat) (l3 : List Int), l0.drop i = m → i + m.length = l0.length → m.length < k → (∀ x ∈ m, n < x) → l3.length = i + 1 →
   whl (R01_add.b0 KK l0 n) k (true, (i : Int), l3) = some (.brk (true, l3 ++ m)) := by
  intro m
  induction m with
  | nil =>
   intro i k l3 _ h3 h4 _ _
   cases k with
   | zero => omega
   | succ k =>
    have : i = l0.length := by simpa using h3
    subst this
    rw [whl]
    unfold R01_add.b0
    simp only [lt_dec_self, cond_false, List.append_nil]
  | cons x m ih =>
   intro i k l3 h1 h3 h4 h5 h6
   cases k with
   | zero => omega
   | succ k =>
    obtain ⟨hx, hi, hd⟩ := drop_cons h1
    simp only [List.length_cons] at h3 h4
    have hne : ¬ x = n := by have := h5 x (by simp); omega
    rw [whl]
    have : R01_add.b0 KK l0 n (true, (i : Int), l3) = some (.next (true, ((i + 1 : Nat) : Int), l3 ++ [x])) := by
     unfold R01_add.b0
     simp only [lt_dec hi, at_of hx, cond_true, Option.bind_some, hne, decide_false, cond_false, Bool.not_true]
     rw [push_of (by omega) (by omega), w64_succ hi hn]
     rfl
    rw [this]
    simp only
    rw [ih (i + 1) k (l3 ++ [x]) hd (by omega) (by omega) (fun y hy => h5 y (List.mem_cons_of_mem _ hy)) (by simp [h6])]
    simp
 have main : ∀ (m : List Int) (i k : Nat) (l3 : List Int), l0.drop i = m → i + m.length = l0.length → m.length < k → m.Pairwise (· < ·) → l3.length = i →
   (n ∈ m ∧ whl (R01_add.b0 KK l0 n) k (false, (i : Int), l3) = some (.ret l0)) ∨ (n ∉ m ∧ ∃ b l5, whl (R01_add.b0 KK l0 n) k (false, (i : Int), l3) = some (.brk (b, l5)) ∧ (bif b then l5 else l5 ++ [n]) = l3 ++ insU n m ∧ (b = false → l5.length = l0.length)) := by
  intro m
  induction m with
  | nil =>
   intro i k l3 _ h3 h4 _ h6
   cases k with
   | zero => omega
   | succ k =>
    have : i = l0.length := by simpa using h3
    subst this
    refine .inr ⟨by simp, false, l3, ?_, rfl, fun _ => h6⟩
    rw [whl]
    unfold R01_add.b0
    simp only [lt_dec_self, cond_false]
  | cons x m ih =>
   intro i k l3 h1 h3 h4 h5 h6
   cases k with
   | zero => omega
   | succ k =>
    obtain ⟨hx, hi, hd⟩ := drop_cons h1
    simp only [List.length_cons] at h3 h4
    rw [List.pairwise_cons] at h5
    rw [whl]
    by_cases he : x = n
    ·left
     refine ⟨by simp [he], ?_⟩
     unfold R01_add.b0
     simp only [lt_dec hi, at_of hx, cond_true, Option.bind_some, he, decide_true]
    ·by_cases hlt : n < x
     ·right
      have hnm : n ∉ x :: m := by
       intro hh
       rcases List.mem_cons.1 hh with rfl | hh
       ·exact he rfl
       ·have := h5.1 n hh; omega
      have : R01_add.b0 KK l0 n (false, (i : Int), l3) = some (.next (true, ((i + 1 : Nat) : Int), l3 ++ [n] ++ [x])) := by
       unfold R01_add.b0
       simp only [lt_dec hi, at_of hx, cond_true, Option.bind_some, he, hlt, decide_false, decide_true, cond_false, Bool.not_false]
       rw [push_of (by omega) (by omega)]
       simp only [Option.bind_some]
       rw [push_of (by simp; omega) (by simp; omega), w64_succ hi hn]
       rfl
      rw [this]
      simp only
      refine ⟨hnm, true, _, rest m (i + 1) k _ hd (by omega) (by omega) (fun y hy => by have := h5.1 y hy; omega) (by simp [h6]), ?_, by simp⟩
      unfold insU
      simp [he, hlt]
     ·have : R01_add.b0 KK l0 n (false, (i : Int), l3) = some (.next (false, ((i + 1 : Nat) : Int), l3 ++ [x])) := by
       unfold R01_add.b0
       simp only [lt_dec hi, at_of hx, cond_true, Option.bind_some, he, hlt, decide_false, cond_false, Bool.not_false]
       rw [push_of (by omega) (by omega), w64_succ hi hn]
       rfl
      rw [this]
      simp only
      have hins : insU n (x :: m) = x :: insU n m := by
       rw [insU]; simp [he, hlt]
      rcases ih (i + 1) k (l3 ++ [x]) hd (by omega) (by omega) h5.2 (by simp [h6]) with ⟨g1, g2⟩ | ⟨g1, b, l5, g2, g3, g4⟩
      ·exact .inl ⟨List.mem_cons_of_mem _ g1, g2⟩
      ·refine .inr ⟨?_, b, l5, g2, ?_, g4⟩
       ·intro hh
        rcases List.mem_cons.1 hh with rfl | hh
        ·exact he rfl
        ·exact g1 hh
       ·rw [g3, hins]; simp
 unfold R01_add
 have hk : l0.length < KK := by unfold KK; omega
 rcases main l0 0 KK [] rfl (by simp) hk hs rfl with ⟨g1, g2⟩ | ⟨g1, b, l5, g2, g3, g4⟩
 ·have g2' : whl (R01_add.b0 KK l0 n) KK (false, 0, []) = some (.ret l0) := g2
  rw [g2', insU_of_mem n l0 hs g1]; rfl
 ·have g2' : whl (R01_add.b0 KK l0 n) KK (false, 0, []) = some (.brk (b, l5)) := g2
  rw [g2']
  simp only [Option.bind_some]
  cases b with
  | true => simp only [Bool.not_true, cond_false]; simpa using g3
  | false =>
   have := g4 rfl
   simp only [Bool.not_false, cond_true]
   rw [push_of (by omega) (by omega)]
   simpa using g3
def usort (l : List Int) : List Int := l.foldl (fun s x => insU x s) []
theorem R01_Sorted_eq (l : List Int) (hl : l.length ≤ 8589934592) : R01_Sorted KK l = some (usort l) ∧ (usort l).Pairwise (· < ·) := by
 have h := whl_fold (l := l) (body := R01_Sorted.b0 KK l) (k := KK) (fun i s => (s, i)) (fun s x => insU x s) (fun i s => s.length ≤ i ∧ s.Pairwise (· < ·)) (s0 := []) (by omega) (by unfold KK; omega) ⟨by simp, by simp⟩ ?_ ?_
 ·refine ⟨?_, h.2.2⟩
  unfold R01_Sorted
  rw [h.1]; rfl
 ·intro i x s hx hI
  have hi : i < l.length := (List.getElem?_eq_some_iff.1 hx).1
  refine ⟨?_, by have := insU_len x s; omega, insU_sorted x s hI.2⟩
  unfold R01_Sorted.b0
  simp only [lt_dec hi, at_of hx, cond_true, Option.bind_some]
  rw [R01_add_eq s x hI.2 (by omega)]
  rfl
 ·intro s _
  unfold R01_Sorted.b0
  simp only [lt_dec_self]; rfl
theorem usort_mem (l : List Int) (x : Int) : x ∈ usort l ↔ x ∈ l := by
 have : ∀ (l s : List Int), x ∈ l.foldl (fun s x => insU x s) s ↔ x ∈ l ∨ x ∈ s := by
  intro l
  induction l with
  | nil => simp
  | cons y l ih => intro s; rw [List.foldl_cons, ih, insU_mem, List.mem_cons]; grind
 rw [usort, this]; simp
end Go.Abs
namespace Go.Abs
open Go
set_option linter.unusedVariables false
theorem at_part {α : Type} {l : List α} {a m j : Nat} {x : α} (h : l[j]? = some x) (h1 : a ≤ j) (h2 : j - a < m) : at? ((l.drop a).take m) ((j - a : Nat) : Int) = some x := by
 apply at_of
 rw [List.getElem?_take, if_pos h2, List.getElem?_drop, show a + (j - a) = j by omega]
 exact h
theorem set_of {α : Type} {l : List α} {i : Nat} {x : α} (h : i < l.length) : set? l (i : Int) x = some (l.set i x) := by
 unfold set?
 rw [if_pos ⟨by omega, by omega⟩]
 simp
theorem ls_of {n i : Nat} (h : i ≤ n) : ls? n (i : Int) = some () := by
 unfold ls?
 rw [if_pos ⟨by omega, by omega⟩]
theorem hs_of {n i : Nat} (h : i ≤ n) : hs? n (i : Int) = some () := by
 unfold hs?
 rw [if_pos ⟨by omega, by omega⟩]
theorem clr_take {α : Type} (l : List α) (i n : Nat) (z : α) (h : i ≤ l.length) : (clr l i n z).take i = l.take i := by
 unfold clr
 rw [List.take_append_of_le_length (by simp; omega), List.take_take, Nat.min_self]
theorem take_succ_of {α : Type} {l : List α} {i : Nat} {x : α} (h : l[i]? = some x) : l.take (i + 1) = l.take i ++ [x] := by
 rw [List.take_add_one, h]; rfl
theorem sorted_le {s : List Int} (hs : s.Pairwise (· ≤ ·)) {i j : Nat} {x y : Int} (hij : i ≤ j) (hx : s[i]? = some x) (hy : s[j]? = some y) : x ≤ y := by
 obtain ⟨h1, rfl⟩ := List.getElem?_eq_some_iff.1 hx
 obtain ⟨h2, rfl⟩ := List.getElem?_eq_some_iff.1 hy
 rcases Nat.lt_or_ge i j with h | h
 ·exact (List.pairwise_iff_getElem.1 hs) i j h1 h2 h
 ·have : i = j := by omega
  subst this; exact Int.le_refl _
theorem take_le {s : List Int} (hs : s.Pairwise (· ≤ ·)) {j : Nat} {x y : Int} (hx : x ∈ s.take j) (hy : s[j - 1]? = some y) : x ≤ y := by
 obtain ⟨i, hi, rfl⟩ := List.getElem_of_mem hx
 rw [List.getElem_take]
 simp only [List.length_take] at hi
 exact sorted_le hs (i := i) (j := j - 1) (by omega) (List.getElem?_eq_getElem (by omega)) hy
theorem compact_inner (s : List Int) (hs : s.Pairwise (· ≤ ·)) (hl : s.length ≤ 8589934592) (a : Nat) (ha : 1 ≤ a) (han : a < s.length) (hr : (s.take a).Pairwise (· < ·)) (he : s[a]? = s[a - 1]?) :
  ∃ (w : Nat) (l : List Int), whl (slices_Compact_int.b1 KK s a) KK ((a : Int), (1 : Int), s) = some (.brk ((w : Int), l)) ∧ w ≤ l.length ∧ (l.take w).Pairwise (· < ·) ∧ ∀ x, x ∈ l.take w ↔ x ∈ s := by
 have h := whl_ok (body := slices_Compact_int.b1 KK s a)
  (fun t => ∃ (w j : Nat) (l : List Int), t = ((w : Int), ((j - a : Nat) : Int), l) ∧ l.length = s.length ∧ a ≤ w ∧ w + 1 ≤ j ∧ j ≤ s.length ∧ (∀ m, j ≤ m + 1 → l[m]? = s[m]?) ∧ (l.take w).Pairwise (· < ·) ∧ ∀ x, x ∈ l.take w ↔ x ∈ s.take j)
  (fun r => ∃ (w : Nat) (l : List Int), r = .brk ((w : Int), l) ∧ w ≤ l.length ∧ (l.take w).Pairwise (· < ·) ∧ ∀ x, x ∈ l.take w ↔ x ∈ s)
  (fun t => s.length - (t.2.1.toNat + a)) ?_ KK ((a : Int), (1 : Int), s) ⟨a, a + 1, s, ?_, rfl, Nat.le_refl _, Nat.le_refl _, by omega, fun _ _ => rfl, hr, ?_⟩ (by unfold KK; omega)
 ·obtain ⟨r, h1, ⟨w, l, h2, h3⟩, _⟩ := h
  subst h2
  exact ⟨w, l, h1, h3⟩
 ·rintro t ⟨w, j, l, rfl, g1, g2, g3, g4, g5, g6, g7⟩
  by_cases hj : j = s.length
  ·right; left
   refine ⟨((w : Int), l), ?_, w, l, rfl, by omega, g6, ?_⟩
   ·unfold slices_Compact_int.b1
    have : decide (((j - a : Nat) : Int) < ((s.length - (a : Int).toNat : Nat) : Int)) = false := by subst hj; simp
    simp only [this, cond_false]
   ·intro x; rw [g7, hj, List.take_length]
  ·left
   obtain ⟨y, hy⟩ : ∃ y, s[j]? = some y := ⟨_, List.getElem?_eq_getElem (by omega)⟩
   obtain ⟨z, hz⟩ : ∃ z, s[j - 1]? = some z := ⟨_, List.getElem?_eq_getElem (by omega)⟩
   have d1 : decide (((j - a : Nat) : Int) < ((s.length - a : Nat) : Int)) = true := by simp; omega
   have d2 : w64 (((j - a : Nat) : Int) - 1) = ((j - 1 - a : Nat) : Int) := by rw [w64_of (by omega) (by omega)]; omega
   have d3 : w64 (((j - a : Nat) : Int) + 1) = ((j + 1 - a : Nat) : Int) := by rw [w64_of (by omega) (by omega)]; omega
   have e1 : at? ((l.drop a).take (s.length - a)) ((j - a : Nat) : Int) = some y := at_part (by rw [g5 j (by omega)]; exact hy) (by omega) (by omega)
   have e2 : at? ((l.drop a).take (s.length - a)) ((j - 1 - a : Nat) : Int) = some z := at_part (by rw [g5 (j - 1) (by omega)]; exact hz) (by omega) (by omega)
   have hw : w < l.length := by omega
   by_cases hyz : y = z
   ·refine ⟨((w : Int), ((j + 1 - a : Nat) : Int), l), ?_, ⟨w, j + 1, l, rfl, g1, g2, by omega, by omega, fun m hm => g5 m (by omega), g6, ?_⟩, ?_⟩
    ·unfold slices_Compact_int.b1
     simp only [d1, cond_true, Int.toNat_natCast, e1, d2, e2, Option.bind_some, hyz, decide_true, Bool.not_true, cond_false, d3]
    ·intro x
     rw [g7, take_succ_of hy, List.mem_append, List.mem_singleton]
     constructor
     ·exact .inl
     ·rintro (h | h)
      ·exact h
      ·rw [h, hyz]
       exact List.mem_of_getElem? (i := j - 1) (by rw [List.getElem?_take, if_pos (by omega)]; exact hz)
    ·simp only [Int.toNat_natCast]; omega
   ·have ew : at? l (w : Int) = some l[w] := at_of (List.getElem?_eq_getElem hw)
    have d4 : w64 ((w : Int) + 1) = ((w + 1 : Nat) : Int) := by rw [w64_of (by omega) (by omega)]; omega
    have tk : (l.set w y).take (w + 1) = l.take w ++ [y] := by
     rw [take_succ_of (x := y) (by rw [List.getElem?_set]; simp [hw])]
     rw [List.take_set_of_le (Nat.le_refl _)]
    refine ⟨(((w + 1 : Nat) : Int), ((j + 1 - a : Nat) : Int), l.set w y), ?_, ⟨w + 1, j + 1, l.set w y, rfl, by simp [g1], by omega, by omega, by omega, fun m hm => ?_, ?_, ?_⟩, ?_⟩
    ·unfold slices_Compact_int.b1
     simp only [d1, cond_true, Int.toNat_natCast, e1, d2, e2, Option.bind_some, hyz, decide_false, Bool.not_false, d3, ew, set_of hw, d4]
    ·rw [List.getElem?_set, if_neg (by omega)]; exact g5 m (by omega)
    ·rw [tk, List.pairwise_append]
     refine ⟨g6, by simp, fun x hx y' hy' => ?_⟩
     simp only [List.mem_singleton] at hy'
     subst hy'
     have h1 := take_le hs ((g7 x).1 hx) hz
     have h2 := sorted_le hs (i := j - 1) (j := j) (by omega) hz hy
     omega
    ·intro x
     rw [tk, take_succ_of hy, List.mem_append, List.mem_append, g7]
    ·simp only [Int.toNat_natCast]; omega
 ·have : a + 1 - a = 1 := by omega
  rw [this]; rfl
 ·intro x
  obtain ⟨y, hy⟩ : ∃ y, s[a]? = some y := ⟨_, List.getElem?_eq_getElem han⟩
  rw [take_succ_of hy, List.mem_append, List.mem_singleton]
  constructor
  ·exact .inl
  ·rintro (h | h)
   ·exact h
   ·rw [h]
    exact List.mem_of_getElem? (i := a - 1) (by rw [List.getElem?_take, if_pos (by omega), ← he]; exact hy)
theorem compact_eq (s : List Int) (hs : s.Pairwise (· ≤ ·)) (hl : s.length ≤ 8589934592) : ∃ r, slices_Compact_int KK s = some r ∧ r.Pairwise (· < ·) ∧ ∀ x, x ∈ r ↔ x ∈ s := by
 unfold slices_Compact_int
 by_cases h2 : ((s.length : Nat) : Int) < 2
 ·simp only [h2, decide_true, cond_true]
  refine ⟨s, rfl, ?_, fun _ => Iff.rfl⟩
  match s, h2 with
  | [], _ => exact List.Pairwise.nil
  | [x], _ => simp
  | x :: y :: l, h2 => simp at h2; omega
 ·simp only [h2, decide_false, cond_false]
  have h := whl_ok (body := slices_Compact_int.b0 KK s)
   (fun t => ∃ a : Nat, t = (a : Int) ∧ 1 ≤ a ∧ a ≤ s.length ∧ (s.take a).Pairwise (· < ·))
   (fun r => (r = .brk () ∧ s.Pairwise (· < ·)) ∨ ∃ l : List Int, r = .ret l ∧ l.Pairwise (· < ·) ∧ ∀ x, x ∈ l ↔ x ∈ s)
   (fun t => s.length - t.toNat) ?_ KK 1 ⟨1, rfl, Nat.le_refl _, by omega, ?_⟩ (by unfold KK; omega)
  ·obtain ⟨r, h1, h3 | ⟨l, h3, h4⟩, _⟩ := h
   ·rw [h1, h3.1]
    exact ⟨s, rfl, h3.2, fun _ => Iff.rfl⟩
   ·rw [h1, h3]
    exact ⟨l, rfl, h4⟩
  ·rintro t ⟨a, rfl, g1, g2, g3⟩
   by_cases ha : a = s.length
   ·right; left
    refine ⟨(), ?_, .inl ⟨rfl, ?_⟩⟩
    ·unfold slices_Compact_int.b0
     subst ha
     simp only [lt_dec_self, cond_false]
    ·rw [ha, List.take_length] at g3; exact g3
   ·obtain ⟨y, hy⟩ : ∃ y, s[a]? = some y := ⟨_, List.getElem?_eq_getElem (by omega)⟩
    obtain ⟨z, hz⟩ : ∃ z, s[a - 1]? = some z := ⟨_, List.getElem?_eq_getElem (by omega)⟩
    have d1 : decide ((a : Int) < ((s.length : Nat) : Int)) = true := lt_dec (by omega)
    have d2 : w64 ((a : Int) - 1) = ((a - 1 : Nat) : Int) := by rw [w64_of (by omega) (by omega)]; omega
    have d3 : w64 ((a : Int) + 1) = ((a + 1 : Nat) : Int) := by rw [w64_of (by omega) (by omega)]; omega
    by_cases hyz : y = z
    ·right; right
     obtain ⟨w, l, k1, k2, k3, k4⟩ := compact_inner s hs hl a g1 (by omega) g3 (by rw [hy, hz, hyz])
     refine ⟨l.take w, ?_, .inr ⟨_, rfl, k3, k4⟩⟩
     unfold slices_Compact_int.b0
     simp only [d1, cond_true, at_of hy, d2, at_of hz, Option.bind_some, hyz, decide_true, ls_of (show a ≤ s.length by omega), k1, ls_of k2, hs_of k2, Int.toNat_natCast, clr_take l w _ 0 k2]
    ·left
     refine ⟨((a + 1 : Nat) : Int), ?_, ⟨a + 1, rfl, by omega, by omega, ?_⟩, by simp only [Int.toNat_natCast]; omega⟩
     ·unfold slices_Compact_int.b0
      simp only [d1, cond_true, at_of hy, d2, at_of hz, Option.bind_some, hyz, decide_false, cond_false, d3]
     ·rw [take_succ_of hy, List.pairwise_append]
      refine ⟨g3, by simp, fun x hx y' hy' => ?_⟩
      simp only [List.mem_singleton] at hy'
      subst hy'
      have h1 := take_le hs hx hz
      have h2 := sorted_le hs (i := a - 1) (j := a) (by omega) hz hy
      omega
  ·match s, h2 with
   | [], h2 => simp at h2
   | x :: l, _ => simp
end Go.Abs
namespace Go.Abs
open Go
set_option linter.unusedVariables false
theorem heat_sources_eq (l : List Reading) (hl : l.length ≤ 8589934592) : heat_sources KK l = some (usort (l.map fun r => r.Source)) := by
 unfold heat_sources
 have h := (whl_fold (l := l) (body := heat_sources.b0 KK l) (k := KK) (fun i s => (i, s)) (fun s x => s ++ [x.Source]) (fun i s => s.length = i) (s0 := []) (by omega) (by unfold KK; omega) rfl ?_ ?_).1
 ·rw [h, foldl_map (fun r : Reading => r.Source)]
  simp only [List.nil_append, Option.bind_some]
  rw [room_of (by simp; omega) (by simp; omega)]
  simp only [Option.bind_some]
  obtain ⟨r, h1, h2, h3⟩ := compact_eq (srt (l.map fun r => r.Source)) (srt_sorted _) (by rw [srt_len]; simp; omega)
  rw [h1]
  have : r = usort (l.map fun r => r.Source) := rising_eq h2 (R01_Sorted_eq _ (by simp; omega)).2 fun x => by rw [h3, usort_mem]; exact (srt_perm _).mem_iff
  rw [this]; rfl
 ·intro i x s hx hI
  have hi : i < l.length := (List.getElem?_eq_some_iff.1 hx).1
  refine ⟨?_, by simp [hI]⟩
  unfold heat_sources.b0
  simp only [lt_dec hi, at_of hx, cond_true, Option.bind_some]
  rw [push_of (by omega) (by omega)]
  rfl
 ·intro s _
  unfold heat_sources.b0
  simp only [lt_dec_self]; rfl
theorem R04_sources_eq (l : List Reading) (hl : l.length ≤ 8589934592) : R04_sources KK l = some (usort (l.map fun r => r.Source)) := by
 unfold R04_sources
 have h := (whl_fold (l := l) (body := R04_sources.b0 KK l) (k := KK) (fun i s => (i, s)) (fun s x => s ++ [x.Source]) (fun i s => s.length = i) (s0 := []) (by omega) (by unfold KK; omega) rfl ?_ ?_).1
 ·rw [h, foldl_map (fun r : Reading => r.Source)]
  simp only [List.nil_append, Option.bind_some]
  rw [(R01_Sorted_eq _ (by simp; omega)).1]; rfl
 ·intro i x s hx hI
  have hi : i < l.length := (List.getElem?_eq_some_iff.1 hx).1
  refine ⟨?_, by simp [hI]⟩
  unfold R04_sources.b0
  simp only [lt_dec hi, at_of hx, cond_true, Option.bind_some]
  rw [push_of (by omega) (by omega)]
  rfl
 ·intro s _
  unfold R04_sources.b0
  simp only [lt_dec_self]; rfl
theorem R01_Has_eq (l : List Int) (n : Int) (hl : l.length ≤ Go.maxLen) : R01_Has KK l n = some (decide (n ∈ l)) := by
 unfold R01_Has
 rw [whl_each (l := l) (f := fun x => bif !decide (x = n) then none else some true) (maxLen_le hl) (KK_big hl) ?_ ?_]
 ·rw [findSome_bif]
  have : (l.all fun x => !decide (x = n)) = !decide (n ∈ l) := by
   rw [Bool.eq_iff_iff]
   simp only [List.all_eq_true, Bool.not_eq_true', decide_eq_false_iff_not]
   constructor
   ·intro h hm; exact h n hm rfl
   ·intro h x hx e; exact h (e ▸ hx)
  rw [this]
  cases decide (n ∈ l) <;> rfl
 ·intro i x hx
  have hi : i < l.length := (List.getElem?_eq_some_iff.1 hx).1
  unfold R01_Has.b0
  rw [lt_dec hi, at_of hx]
  simp only [cond_true, Option.bind_some]
  cases decide (x = n) <;> rfl
 ·unfold R01_Has.b0
  rw [lt_dec_self]; rfl
theorem R04_only_eq (f : Firing) (by1 : List Int) (h1 : f.Kiln.Falls.length ≤ 1000) (h2 : ∀ x ∈ f.Kiln.Falls, x.length ≤ 1000) (h3 : f.Readings.length ≤ 1000) (h4 : by1.length ≤ Go.maxLen) :
  R04_only KK f by1 = some ⟨f.Kiln, f.Readings.filter fun r => decide (r.Source ∈ by1)⟩ := by
 unfold R04_only
 rw [R04_kiln_eq _ h1 h2]
 simp only [Option.bind_some]
 have h := (whl_fold (l := f.Readings) (body := R04_only.b0 KK f by1) (k := KK) (fun i s => (i, s)) (fun s x => bif decide (x.Source ∈ by1) then s ++ [x] else s) (fun i s => s.length ≤ i) (s0 := []) (by omega) (by unfold KK; omega) (by simp) ?_ ?_).1
 ·rw [h, foldl_filter (fun x : Reading => decide (x.Source ∈ by1))]; rfl
 ·intro i x s hx hI
  have hi : i < f.Readings.length := (List.getElem?_eq_some_iff.1 hx).1
  unfold R04_only.b0
  simp only [lt_dec hi, at_of hx, cond_true, Option.bind_some, R01_Has_eq by1 x.Source h4]
  cases decide (x.Source ∈ by1) with
  | true =>
   simp only [cond_true]
   rw [push_of (by omega) (by omega)]
   exact ⟨rfl, by simp; omega⟩
  | false => exact ⟨rfl, by simp; omega⟩
 ·intro s _
  unfold R04_only.b0
  simp only [lt_dec_self]; rfl
theorem deleteFunc_eq (l : List Reading) (hl : l.length ≤ 10000) {del : Reading → Option Bool} {p : Reading → Bool} (hp : ∀ x, del x = some (p x)) : slices_DeleteFunc_api_Reading KK l del = some (l.filter fun x => !p x) := by
 unfold slices_DeleteFunc_api_Reading slices_IndexFunc_api_Reading
 rw [indexFunc_gen (body := slices_IndexFunc_api_Reading.b0 KK del l) (p := p) (fun x _ => hp x) (by omega) (by unfold KK; omega) rfl]
 cases hf : l.findIdx? p with
 | none =>
  simp only [Option.bind_some, decide_true, cond_true]
  rw [List.findIdx?_eq_none_iff] at hf
  rw [List.filter_eq_self.2 (fun x hx => by rw [hf x hx]; rfl)]
 | some a =>
  rw [List.findIdx?_eq_some_iff_getElem] at hf
  obtain ⟨ha, hpa, hbef⟩ := hf
  have hne : ¬ (a : Int) = -1 := by omega
  have d0 : w64 ((a : Int) + 1) = ((a + 1 : Nat) : Int) := by rw [w64_of (by omega) (by omega)]; omega
  simp only [Option.bind_some, hne, decide_false, cond_false, d0]
  have h := whl_ok (body := slices_DeleteFunc_api_Reading.b0 KK del)
   (fun t => ∃ (w j : Nat) (m : List Reading), t = ((w : Int), (j : Int), m) ∧ m.length = l.length ∧ w + 1 ≤ j ∧ j ≤ l.length ∧ (∀ i, j ≤ i → m[i]? = l[i]?) ∧ m.take w = (l.take j).filter fun x => !p x)
   (fun r => ∃ (w : Nat) (m : List Reading), r = .brk ((w : Int), m) ∧ w ≤ m.length ∧ m.take w = l.filter fun x => !p x)
   (fun t => l.length - t.2.1.toNat) ?_ KK ((a : Int), ((a + 1 : Nat) : Int), l) ⟨a, a + 1, l, rfl, rfl, Nat.le_refl _, by omega, fun _ _ => rfl, ?_⟩ (by unfold KK; omega)
  ·obtain ⟨r, h1, ⟨w, m, h2, h3, h4⟩, _⟩ := h
   rw [h1, h2]
   simp only [Option.bind_some, ls_of h3, hs_of h3, Int.toNat_natCast, clr_take m w _ _ h3, h4]
  ·rintro t ⟨w, j, m, rfl, g1, g2, g3, g4, g5⟩
   by_cases hj : j = l.length
   ·right; left
    refine ⟨((w : Int), m), ?_, w, m, rfl, by omega, ?_⟩
    ·unfold slices_DeleteFunc_api_Reading.b0
     have : decide ((j : Int) < ((m.length : Nat) : Int)) = false := by rw [g1, hj]; exact lt_dec_self _
     simp only [this, cond_false]
    ·rw [g5, hj, List.take_length]
   ·left
    obtain ⟨y, hy⟩ : ∃ y, l[j]? = some y := ⟨_, List.getElem?_eq_getElem (by omega)⟩
    have hw : w < m.length := by omega
    have d1 : decide ((j : Int) < ((m.length : Nat) : Int)) = true := lt_dec (by omega)
    have d3 : w64 ((j : Int) + 1) = ((j + 1 : Nat) : Int) := by rw [w64_of (by omega) (by omega)]; omega
    have d4 : w64 ((w : Int) + 1) = ((w + 1 : Nat) : Int) := by rw [w64_of (by omega) (by omega)]; omega
    have e1 : at? m (j : Int) = some y := at_of (by rw [g4 j (Nat.le_refl _)]; exact hy)
    cases hpy : p y with
    | true =>
     refine ⟨((w : Int), ((j + 1 : Nat) : Int), m), ?_, ⟨w, j + 1, m, rfl, g1, by omega, by omega, fun i hi => g4 i (by omega), ?_⟩, by simp only [Int.toNat_natCast]; omega⟩
     ·unfold slices_DeleteFunc_api_Reading.b0
      simp only [d1, cond_true, e1, Option.bind_some, hp, hpy, Bool.not_true, cond_false, d3]
     ·rw [take_succ_of hy, List.filter_append, g5]; simp [hpy]
    | false =>
     have ew : at? m (w : Int) = some m[w] := at_of (List.getElem?_eq_getElem hw)
     refine ⟨(((w + 1 : Nat) : Int), ((j + 1 : Nat) : Int), m.set w y), ?_, ⟨w + 1, j + 1, m.set w y, rfl, by simp [g1], by omega, by omega, fun i hi => ?_, ?_⟩, by simp only [Int.toNat_natCast]; omega⟩
     ·unfold slices_DeleteFunc_api_Reading.b0
      simp only [d1, cond_true, e1, Option.bind_some, hp, hpy, Bool.not_false, d3, ew, set_of hw, d4]
     ·rw [List.getElem?_set, if_neg (by omega)]; exact g4 i (by omega)
     ·rw [take_succ_of (x := y) (by rw [List.getElem?_set]; simp [hw]), List.take_set_of_le (Nat.le_refl _), take_succ_of hy, List.filter_append, g5]; simp [hpy]
  ·rw [take_succ_of (List.getElem?_eq_getElem ha), List.filter_append]
   have : (l.take a).filter (fun x => !p x) = l.take a := List.filter_eq_self.2 (fun x hx => by
    obtain ⟨i, hi, rfl⟩ := List.getElem_of_mem hx
    rw [List.getElem_take]
    simp only [List.length_take] at hi
    have := hbef i (by omega)
    simpa using this)
   rw [this]
   simp [hpa]
end Go.Abs
namespace Go.Abs
open Go
set_option linter.unusedVariables false
theorem heat_without_eq (f : Firing) (h : firingCode f = 0) (g : Int → Option Bool) (p : Int → Bool) (hg : ∀ x, g x = some (p x)) : heat_without KK f g = some ⟨f.Kiln, f.Readings.filter fun r => !p r.Source⟩ := by
 obtain ⟨h1, h2, _⟩ := firing_small h
 obtain ⟨s1, s2, s3⟩ := kilnB_small h1
 unfold heat_without
 rw [heat_kilnCopy_eq f.Kiln (by omega) (fun x hx => by rw [s3 x hx]; omega)]
 unfold slices_Clone_api_Reading
 simp only [Option.bind_some]
 rw [room_of (by omega) (by omega)]
 simp only [Option.bind_some]
 rw [deleteFunc_eq f.Readings (by omega) (p := fun r => p r.Source) (fun r => by unfold heat_without_1; rw [hg]; rfl)]
 rfl
theorem usort_len (l : List Int) : (usort l).length ≤ l.length := by
 have : ∀ (l s : List Int), (l.foldl (fun s x => insU x s) s).length ≤ l.length + s.length := by
  intro l
  induction l with
  | nil => simp
  | cons y l ih => intro s; rw [List.foldl_cons]; have := ih (insU y s); have := insU_len y s; simp only [List.length_cons]; omega
 have := this l []
 simpa [usort] using this
end Go.Abs
namespace Go.Abs
open Go
set_option linter.unusedVariables false
def R0 : Range := ⟨0, 0⟩
def Kiln.at (a : Kiln) (j p : Nat) : Range := (a.Falls.getD j []).getD p R0
def Kiln.P (a : Kiln) : Nat := (a.Falls.headD []).length
def lp (x : heat_limit) : Nat × Int := (x.place.toNat, x.heat)
def heat_furnace.fur (x : heat_furnace) : Fur := ⟨x.Firing.Kiln.Falls.length - 1, fun j p => (x.Firing.Kiln.at j p).Lo, fun j p => (x.Firing.Kiln.at j p).Hi, x.least.map lp, x.most.map lp⟩
def limOk (P : Nat) (x : heat_limit) : Prop := 0 ≤ x.place ∧ x.place < P ∧ -3000 ≤ x.heat ∧ x.heat ≤ 3000
structure heat_furnace.ok (x : heat_furnace) : Prop where
 k : kilnB x.Firing.Kiln = true
 ll : x.least.length ≤ 1000
 l : ∀ y ∈ x.least, limOk x.Firing.Kiln.P y
 ml : x.most.length ≤ 1000
 m : ∀ y ∈ x.most, limOk x.Firing.Kiln.P y
theorem kilnB_len {a : Kiln} (h : kilnB a = true) : 1 ≤ a.Falls.length ∧ a.Falls.length ≤ 6 ∧ 1 ≤ a.P ∧ a.P ≤ 24 := by
 simp only [kilnB, inB, Bool.and_eq_true, decide_eq_true_eq] at h
 have : a.P = (a.Falls.headD []).length := rfl
 omega
theorem kilnB_row {a : Kiln} (h : kilnB a = true) {j : Nat} (hj : j < a.Falls.length) : (a.Falls.getD j []).length = a.P := (kilnB_small h).2.2 _ (getD_mem [] hj)
theorem rangeB_iff {r : Range} : rangeB r 0 3000 = true ↔ 0 ≤ r.Lo ∧ r.Lo ≤ r.Hi ∧ r.Hi ≤ 3000 := by
 simp only [rangeB, Bool.and_eq_true, decide_eq_true_eq]
theorem kilnB_at {a : Kiln} (h : kilnB a = true) (j p : Nat) : 0 ≤ (a.at j p).Lo ∧ (a.at j p).Lo ≤ (a.at j p).Hi ∧ (a.at j p).Hi ≤ 3000 := by
 unfold Kiln.at
 by_cases hj : j < a.Falls.length
 ·by_cases hp : p < (a.Falls.getD j []).length
  ·have h1 := getD_mem R0 hp
   have h2 : rangeB ((a.Falls.getD j []).getD p R0) 0 3000 = true := by
    simp only [kilnB, Bool.and_eq_true, List.all_eq_true] at h
    exact (h.2.2 _ (getD_mem [] hj)).2 _ h1
   exact rangeB_iff.1 h2
  ·rw [getD_none (by omega)]
   decide
 ·rw [getD_none (l := a.Falls) (by omega)]
  simp [R0]
theorem at_row {a : Kiln} (h : kilnB a = true) {j : Nat} (hj : j < a.Falls.length) : at? a.Falls (j : Int) = some (a.Falls.getD j []) := at_nat [] hj
theorem at_cell {a : Kiln} (h : kilnB a = true) {j : Nat} (hj : j < a.Falls.length) {p : Int} (h0 : 0 ≤ p) (hp : p < a.P) : at? (a.Falls.getD j []) p = some (a.at j p.toNat) :=
 at_getD R0 h0 (by rw [kilnB_row h hj]; exact hp)
theorem at_cellN {a : Kiln} (h : kilnB a = true) {j : Nat} (hj : j < a.Falls.length) {p : Nat} (hp : p < a.P) : at? (a.Falls.getD j []) (p : Int) = some (a.at j p) :=
 at_nat R0 (by rw [kilnB_row h hj]; exact hp)
theorem fur_ok {x : heat_furnace} (h : x.ok) : x.fur.Ok := fun j p => kilnB_at h.k j p
def hotStep (x : heat_furnace) (j : Nat) (s : Int × Int) (y : heat_limit) : Int × Int := bif decide (y.heat + (x.Firing.Kiln.at j y.place.toNat).Hi < s.1) then (y.heat + (x.Firing.Kiln.at j y.place.toNat).Hi, y.by_) else s
def hot (x : heat_furnace) (j : Nat) : Int × Int := x.most.foldl (hotStep x j) (3000, -1)
theorem heat_hottest_eq {x : heat_furnace} (h : x.ok) {j : Nat} (hj : j < x.Firing.Kiln.Falls.length) : heat_furnace_hottest KK x (j : Int) = some (hot x j) := by
 have hml := h.ml
 unfold heat_furnace_hottest
 have h1 := (whl_fold (l := x.most) (body := heat_furnace_hottest.b0 KK x (j : Int)) (k := KK) (fun i s => (s.1, s.2, i)) (hotStep x j) (fun _ _ => True) (s0 := (3000, -1)) (by omega) (by unfold KK; omega) trivial ?_ ?_).1
 ·rw [h1]; rfl
 ·intro i y s hy _
  have hi : i < x.most.length := (List.getElem?_eq_some_iff.1 hy).1
  obtain ⟨g1, g2, g3, g4⟩ := h.m y (List.mem_of_getElem? hy)
  have g5 := kilnB_at h.k j y.place.toNat
  refine ⟨?_, trivial⟩
  unfold heat_furnace_hottest.b0 hotStep
  simp only [lt_dec hi, at_of hy, cond_true, Option.bind_some, at_row h.k hj, at_cell h.k hj g1 g2]
  rw [w64_of (n := y.heat + (x.Firing.Kiln.at j y.place.toNat).Hi) (by omega) (by omega)]
  cases decide (y.heat + (x.Firing.Kiln.at j y.place.toNat).Hi < s.1) <;> rfl
 ·intro s _
  unfold heat_furnace_hottest.b0
  simp only [lt_dec_self]; rfl
theorem hot_U (x : heat_furnace) (j : Nat) : (hot x j).1 = x.fur.U j := by
 have key : ∀ (l : List heat_limit) (s : Int × Int), (l.foldl (hotStep x j) s).1 = (l.map lp).foldl (fun n y => min n (y.2 + x.fur.hi j y.1)) s.1 := by
  intro l
  induction l with
  | nil => intro s; rfl
  | cons y l ih =>
   intro s
   rw [List.foldl_cons, ih, List.map_cons, List.foldl_cons]
   congr 1
   unfold hotStep
   show _ = min s.1 (y.heat + (x.Firing.Kiln.at j y.place.toNat).Hi)
   by_cases hc : y.heat + (x.Firing.Kiln.at j y.place.toNat).Hi < s.1
   ·simp only [hc, decide_true, cond_true]; omega
   ·simp only [hc, decide_false, cond_false]; omega
 exact key _ _
theorem U_ge {x : heat_furnace} (h : x.ok) (j : Nat) : -3000 ≤ x.fur.U j ∧ x.fur.U j ≤ 3000 := by
 refine ⟨?_, x.fur.U_le j⟩
 rw [Fur.U_iff]
 refine ⟨by omega, fun y hy => ?_⟩
 obtain ⟨z, hz, rfl⟩ := List.mem_map.1 hy
 have := (h.m z hz).2.2
 have := (fur_ok h j (lp z).1)
 show -3000 ≤ z.heat + _
 omega
def bestStep (p : Int) (s : heat_limit × Bool) (y : heat_limit) : heat_limit × Bool := bif decide (y.place = p) then (bif s.2 then (bif decide (y.heat < s.1.heat) then (y, true) else s) else (y, true)) else s
def bestL (l : List heat_limit) (p : Int) : heat_limit × Bool := l.foldl (bestStep p) (⟨0, 0, 0⟩, false)
theorem heat_best_eq (l : List heat_limit) (hl : l.length ≤ 1000) (p : Int) : heat_best KK l p (fun q0 q1 => heat_less KK q0 q1) = some (bestL l p) := by
 unfold heat_best
 have h1 := (whl_fold (l := l) (body := heat_best.b0 KK (fun q0 q1 => heat_less KK q0 q1) l p) (k := KK) (fun i s => (s.1, s.2, i)) (bestStep p) (fun _ _ => True) (s0 := (⟨0, 0, 0⟩, false)) (by omega) (by unfold KK; omega) trivial ?_ ?_).1
 ·rw [h1]; rfl
 ·intro i y s hy _
  have hi : i < l.length := (List.getElem?_eq_some_iff.1 hy).1
  refine ⟨?_, trivial⟩
  unfold heat_best.b0 bestStep heat_less
  obtain ⟨s1, s2⟩ := s
  simp only [lt_dec hi, at_of hy, cond_true, Option.bind_some]
  cases decide (y.place = p) <;> cases s2 <;> cases decide (y.heat < s1.heat) <;> rfl
 ·intro s _
  unfold heat_best.b0
  simp only [lt_dec_self]; rfl
theorem bestL_some (l : List heat_limit) (p : Nat) (hl : ∀ y ∈ l, 0 ≤ y.place) : Fur.best (l.map lp) p = bif (bestL l p).2 then some (bestL l p).1.heat else none := by
 have key : ∀ (l : List heat_limit) (s : heat_limit × Bool), (∀ y ∈ l, 0 ≤ y.place) → (l.map lp).foldl (Fur.bst p) (bif s.2 then some s.1.heat else none) = bif (l.foldl (bestStep p) s).2 then some (l.foldl (bestStep p) s).1.heat else none := by
  intro l
  induction l with
  | nil => intro s _; rfl
  | cons y l ih =>
   intro s hl
   rw [List.map_cons, List.foldl_cons, List.foldl_cons, ← ih _ (fun z hz => hl z (List.mem_cons_of_mem _ hz))]
   congr 1
   have h0 := hl y (by simp)
   unfold bestStep Fur.bst
   obtain ⟨s1, s2⟩ := s
   by_cases hp : y.place = (p : Int)
   ·have hp2 : (lp y).1 = p := by show y.place.toNat = p; omega
    simp only [hp, hp2, decide_true, cond_true, if_true]
    cases s2 with
    | false => rfl
    | true =>
     simp only [cond_true]
     by_cases hc : y.heat < s1.heat
     ·simp only [hc, decide_true, cond_true, Option.some.injEq]
      show min s1.heat y.heat = y.heat
      omega
     ·simp only [hc, decide_false, cond_false, cond_true, Option.some.injEq]
      show min s1.heat y.heat = s1.heat
      omega
   ·have hp2 : ¬ (lp y).1 = p := by show ¬ y.place.toNat = p; omega
    simp only [hp, hp2, decide_false, cond_false, if_false]
 exact key l (⟨0, 0, 0⟩, false) hl
theorem bestL_mem (l : List heat_limit) (p : Int) : (bestL l p).2 = true → (bestL l p).1 ∈ l ∧ (bestL l p).1.place = p := by
 have key : ∀ (l K : List heat_limit) (s : heat_limit × Bool), (s.2 = true → s.1 ∈ K ∧ s.1.place = p) → (l.foldl (bestStep p) s).2 = true → (l.foldl (bestStep p) s).1 ∈ K ++ l ∧ (l.foldl (bestStep p) s).1.place = p := by
  intro l
  induction l with
  | nil => intro K s h; simpa using h
  | cons y l ih =>
   intro K s h
   have h2 := ih (K ++ [y]) (bestStep p s y) ?_
   ·simpa using h2
   ·unfold bestStep
    by_cases hp : y.place = p
    ·simp only [hp, decide_true, cond_true]
     cases hs : s.2 with
     | false => simp [hp]
     | true =>
      have := h hs
      cases decide (y.heat < s.1.heat) with
      | true => simp [hp]
      | false => simp only [cond_true, cond_false]; intro _; exact ⟨by simp [this.1], this.2⟩
    ·simp only [hp, decide_false, cond_false]
     intro hs
     have := h hs
     exact ⟨by simp [this.1], this.2⟩
 have := key l [] (⟨0, 0, 0⟩, false) (by simp)
 simpa [bestL] using this
def reachB (x : heat_furnace) (p : Nat) (n : Int) : Bool := (List.range x.Firing.Kiln.Falls.length).any fun j => !decide (x.fur.U j < 0) && !decide (x.fur.U j - x.fur.lo j p < n)
theorem heat_reaches_eq {x : heat_furnace} (h : x.ok) {p n : Int} (h0 : 0 ≤ p) (hp : p < x.Firing.Kiln.P) : heat_furnace_reaches KK x p n = some (reachB x p.toNat n) := by
 have hk := kilnB_len h.k
 unfold heat_furnace_reaches
 rw [whl_allN (n := x.Firing.Kiln.Falls.length) (p := fun j => !(!decide (x.fur.U j < 0) && !decide (x.fur.U j - x.fur.lo j p.toNat < n))) (c := true) (by omega) (by unfold KK; omega) ?_ ?_]
 ·have : ((List.range x.Firing.Kiln.Falls.length).all fun j => !(!decide (x.fur.U j < 0) && !decide (x.fur.U j - x.fur.lo j p.toNat < n))) = !reachB x p.toNat n := by
   unfold reachB; rw [List.not_any_eq_all_not]
  rw [this]
  cases reachB x p.toNat n <;> rfl
 ·intro j hj
  unfold heat_furnace_reaches.b0
  have hu := U_ge h j
  have hc := kilnB_at h.k j p.toNat
  have hlo : x.fur.lo j p.toNat = (x.Firing.Kiln.at j p.toNat).Lo := rfl
  simp only [lt_dec hj, cond_true, heat_hottest_eq h hj, Option.bind_some, hot_U, at_row h.k hj, at_cell h.k hj h0 hp]
  rw [w64_of (n := x.fur.U j - (x.Firing.Kiln.at j p.toNat).Lo) (by omega) (by omega), hlo]
  cases decide (x.fur.U j < 0) <;> cases decide (x.fur.U j - (x.Firing.Kiln.at j p.toNat).Lo < n) <;> rfl
 ·unfold heat_furnace_reaches.b0
  rw [lt_dec_self]; rfl
theorem reachB_iff {x : heat_furnace} (h : x.ok) (hu : ∀ j, j ≤ x.fur.m → 0 ≤ x.fur.U j) (p : Nat) (n : Int) : reachB x p n = true ↔ ∃ j, j ≤ x.fur.m ∧ n + x.fur.lo j p ≤ x.fur.U j := by
 have hk := kilnB_len h.k
 have hm : x.fur.m = x.Firing.Kiln.Falls.length - 1 := rfl
 unfold reachB
 rw [List.any_eq_true]
 constructor
 ·rintro ⟨j, h1, h2⟩
  simp only [List.mem_range] at h1
  simp only [Bool.and_eq_true, Bool.not_eq_true', decide_eq_false_iff_not] at h2
  exact ⟨j, by omega, by omega⟩
 ·rintro ⟨j, h1, h2⟩
  have := hu j h1
  refine ⟨j, by simp only [List.mem_range]; omega, ?_⟩
  simp only [Bool.and_eq_true, Bool.not_eq_true', decide_eq_false_iff_not]
  omega
def soundB (x : heat_furnace) : Bool := ((List.range x.Firing.Kiln.Falls.length).all fun j => !decide (x.fur.U j < 0)) &&
 x.least.all fun y => !((bestL x.most y.place).2 && decide ((bestL x.most y.place).1.heat < y.heat)) && reachB x y.place.toNat y.heat
theorem heat_sound_eq {x : heat_furnace} (h : x.ok) : heat_furnace_sound KK x = some (soundB x) := by
 have hk := kilnB_len h.k
 have hll := h.ll
 unfold heat_furnace_sound soundB
 rw [whl_allN (n := x.Firing.Kiln.Falls.length) (p := fun j => !decide (x.fur.U j < 0)) (c := false) (by omega) (by unfold KK; omega) ?_ ?_]
 ·cases ((List.range x.Firing.Kiln.Falls.length).all fun j => !decide (x.fur.U j < 0)) with
  | false => rfl
  | true =>
   simp only [cond_true, Option.bind_some, Bool.true_and]
   rw [whl_allL (l := x.least) (p := fun y => !((bestL x.most y.place).2 && decide ((bestL x.most y.place).1.heat < y.heat)) && reachB x y.place.toNat y.heat) (c := false) (by omega) (by unfold KK; omega) ?_ ?_]
   ·cases x.least.all fun y => !((bestL x.most y.place).2 && decide ((bestL x.most y.place).1.heat < y.heat)) && reachB x y.place.toNat y.heat <;> rfl
   ·intro i y hy
    have hi : i < x.least.length := (List.getElem?_eq_some_iff.1 hy).1
    obtain ⟨g1, g2, g3, g4⟩ := h.l y (List.mem_of_getElem? hy)
    unfold heat_furnace_sound.b1
    simp only [lt_dec hi, at_of hy, cond_true, Option.bind_some, heat_best_eq _ h.ml, heat_reaches_eq h g1 g2]
    cases (bestL x.most y.place).2 <;> cases decide ((bestL x.most y.place).1.heat < y.heat) <;> cases reachB x y.place.toNat y.heat <;> rfl
   ·unfold heat_furnace_sound.b1
    rw [lt_dec_self]; rfl
 ·intro j hj
  unfold heat_furnace_sound.b0
  simp only [lt_dec hj, cond_true, heat_hottest_eq h hj, Option.bind_some, hot_U]
  cases decide (x.fur.U j < 0) <;> rfl
 ·unfold heat_furnace_sound.b0
  rw [lt_dec_self]; rfl
theorem soundB_iff {x : heat_furnace} (h : x.ok) : soundB x = true ↔ x.fur.Sound := by
 have hk := kilnB_len h.k
 have hm : x.fur.m = x.Firing.Kiln.Falls.length - 1 := rfl
 have h1 : (((List.range x.Firing.Kiln.Falls.length).all fun j => !decide (x.fur.U j < 0)) = true) ↔ ∀ j, j ≤ x.fur.m → 0 ≤ x.fur.U j := by
  rw [List.all_eq_true]
  constructor
  ·intro g j hj
   have := g j (by simp only [List.mem_range]; omega)
   simp only [Bool.not_eq_true', decide_eq_false_iff_not] at this
   omega
  ·intro g j hj
   simp only [List.mem_range] at hj
   have := g j (by omega)
   simp only [Bool.not_eq_true', decide_eq_false_iff_not]
   omega
 unfold soundB Fur.Sound
 rw [Bool.and_eq_true, h1]
 constructor
 ·rintro ⟨g1, g2⟩
  refine ⟨g1, fun z hz => ?_⟩
  obtain ⟨y, hy, rfl⟩ := List.mem_map.1 hz
  have g3 := List.all_eq_true.1 g2 y hy
  rw [Bool.and_eq_true, reachB_iff h g1] at g3
  refine ⟨fun z hz e => ?_, g3.2⟩
  obtain ⟨w, hw, rfl⟩ := List.mem_map.1 hz
  have hp := h.l y hy
  have hb := bestL_some x.most y.place.toNat (fun y hy => (h.m y hy).1)
  have ey : ((y.place.toNat : Nat) : Int) = y.place := by have := hp.1; omega
  rw [ey] at hb
  cases hs : (bestL x.most y.place).2 with
  | false =>
   rw [hs] at hb
   exact absurd e ((Fur.best_iff _ _).1.1 hb (lp w) (List.mem_map.2 ⟨w, hw, rfl⟩))
  | true =>
   rw [hs] at hb
   have g4 := (((Fur.best_iff _ _).2 _ hb).1 _).1 (Int.le_refl _) (lp w) (List.mem_map.2 ⟨w, hw, rfl⟩) e
   have g5 := g3.1
   simp only [hs, Bool.true_and, Bool.not_eq_true', decide_eq_false_iff_not] at g5
   show y.heat ≤ _
   omega
 ·rintro ⟨g1, g2⟩
  refine ⟨g1, List.all_eq_true.2 fun y hy => ?_⟩
  have g3 := g2 (lp y) (List.mem_map.2 ⟨y, hy, rfl⟩)
  rw [Bool.and_eq_true, reachB_iff h g1]
  refine ⟨?_, g3.2⟩
  cases hs : (bestL x.most y.place).2 with
  | false => rfl
  | true =>
   have g4 := bestL_mem _ _ hs
   have g5 := g3.1 (lp (bestL x.most y.place).1) (List.mem_map.2 ⟨_, g4.1, rfl⟩) (by show (bestL x.most y.place).1.place.toNat = y.place.toNat; rw [g4.2])
   have g6 : y.heat ≤ (bestL x.most y.place).1.heat := g5
   simp only [Bool.true_and, Bool.not_eq_true', decide_eq_false_iff_not]
   omega
end Go.Abs
namespace Go.Abs
open Go
set_option linter.unusedVariables false
def rd0 : Reading := ⟨0, 0, 0, 0, ⟨0, 0⟩⟩
def lo? (r : Reading) : Option Int := bif decide (r.Kind = (1 : Int)) then some r.Mark else bif decide (r.Kind = (3 : Int)) then some r.Heat.Lo else none
def hi? (r : Reading) : Option Int := bif decide (r.Kind = (2 : Int)) then some (w64 (r.Mark - 1)) else bif decide (r.Kind = (3 : Int)) then some r.Heat.Hi else none
def limOf (l : List Reading) (g : Reading → Option Int) (i : Nat) : Option heat_limit := (g (l.getD i rd0)).map fun n => ⟨(l.getD i rd0).Place, n, i⟩
def limsOf (l : List Reading) (g : Reading → Option Int) : List heat_limit := (List.range l.length).filterMap (limOf l g)
def nf (f : Firing) : heat_furnace := ⟨f, limsOf f.Readings lo?, limsOf f.Readings hi?⟩
theorem limsOf_mem {l : List Reading} {g : Reading → Option Int} {y : heat_limit} : y ∈ limsOf l g ↔ ∃ (i : Nat) (r : Reading), l[i]? = some r ∧ g r = some y.heat ∧ y.place = r.Place ∧ y.by_ = (i : Int) := by
 unfold limsOf
 rw [List.mem_filterMap]
 constructor
 ·rintro ⟨i, hi, h⟩
  simp only [List.mem_range] at hi
  have hx : l[i]? = some l[i] := List.getElem?_eq_getElem hi
  unfold limOf at h
  rw [getD_of rd0 hx] at h
  cases hg : g l[i] with
  | none => rw [hg] at h; cases h
  | some n => rw [hg] at h; cases h; exact ⟨i, l[i], hx, hg, rfl, rfl⟩
 ·rintro ⟨i, r, hx, h1, h2, h3⟩
  refine ⟨i, by simp only [List.mem_range]; exact (List.getElem?_eq_some_iff.1 hx).1, ?_⟩
  unfold limOf
  rw [getD_of rd0 hx, h1, Option.map_some, ← h2, ← h3]
theorem limsOf_lp {l : List Reading} {g : Reading → Option Int} {z : Nat × Int} : z ∈ (limsOf l g).map lp ↔ ∃ r ∈ l, g r = some z.2 ∧ r.Place.toNat = z.1 := by
 rw [List.mem_map]
 constructor
 ·rintro ⟨y, hy, rfl⟩
  obtain ⟨i, r, h1, h2, h3, _⟩ := limsOf_mem.1 hy
  exact ⟨r, List.mem_of_getElem? h1, h2, by show _ = y.place.toNat; rw [h3]⟩
 ·rintro ⟨r, hr, h1, h2⟩
  obtain ⟨i, hi⟩ := List.getElem?_of_mem hr
  refine ⟨⟨r.Place, z.2, (i : Int)⟩, limsOf_mem.2 ⟨i, r, hi, h1, rfl, rfl⟩, ?_⟩
  show (r.Place.toNat, z.2) = z
  rw [h2]
theorem limsOf_len (l : List Reading) (g : Reading → Option Int) : (limsOf l g).length ≤ l.length := by
 have := List.length_filterMap_le (limOf l g) (List.range l.length)
 simpa [limsOf] using this
theorem limsOf_bounds {l : List Reading} {g : Reading → Option Int} {y : heat_limit} (h : y ∈ limsOf l g) : ∃ r ∈ l, g r = some y.heat ∧ y.place = r.Place := by
 obtain ⟨i, r, h1, h2, h3, _⟩ := limsOf_mem.1 h
 exact ⟨r, List.mem_of_getElem? h1, h2, h3⟩
theorem heat_least_eq (r : Reading) : heat_reading_least KK ⟨r⟩ = some ((lo? r).getD 0, (lo? r).isSome) := by
 unfold heat_reading_least lo?
 cases decide (r.Kind = (1 : Int)) <;> cases decide (r.Kind = (3 : Int)) <;> rfl
theorem heat_most_eq (r : Reading) : heat_reading_most KK ⟨r⟩ = some ((hi? r).getD 0, (hi? r).isSome) := by
 unfold heat_reading_most hi?
 cases decide (r.Kind = (2 : Int)) <;> cases decide (r.Kind = (3 : Int)) <;> rfl
def nfStep (l : List Reading) (s : List heat_limit × List heat_limit) (i : Nat) : List heat_limit × List heat_limit :=
 (s.1 ++ (limOf l lo? i).toList, s.2 ++ (limOf l hi? i).toList)
theorem nf_fold (l : List Reading) : ∀ (m : List Nat) (s : List heat_limit × List heat_limit), m.foldl (nfStep l) s = (s.1 ++ m.filterMap (limOf l lo?), s.2 ++ m.filterMap (limOf l hi?)) := by
 intro m
 induction m with
 | nil => intro s; simp
 | cons i m ih =>
  intro s
  rw [List.foldl_cons, ih, List.filterMap_cons, List.filterMap_cons]
  unfold nfStep
  cases limOf l lo? i <;> cases limOf l hi? i <;> simp
theorem heat_newFurnace_eq (f : Firing) (hl : f.Readings.length * 24 + 24 ≤ 140737488355328) : heat_newFurnace KK f = some (nf f) := by
 unfold heat_newFurnace
 have h1 := (whl_foldN (n := f.Readings.length) (body := heat_newFurnace.b0 KK f) (k := KK) (fun i (s : List heat_limit × List heat_limit) => (i, s.1, s.2)) (nfStep f.Readings) (fun i s => s.1.length ≤ i ∧ s.2.length ≤ i) (s0 := ([], [])) (by omega) (by unfold KK; omega) ⟨by simp, by simp⟩ ?_ ?_).1
 ·rw [h1, nf_fold]; rfl
 ·intro i s hi hI
  have hx : f.Readings[i]? = some f.Readings[i] := List.getElem?_eq_getElem hi
  have e1 : limOf f.Readings lo? i = (lo? f.Readings[i]).map fun n => ⟨f.Readings[i].Place, n, i⟩ := by unfold limOf; rw [getD_of rd0 hx]
  have e2 : limOf f.Readings hi? i = (hi? f.Readings[i]).map fun n => ⟨f.Readings[i].Place, n, i⟩ := by unfold limOf; rw [getD_of rd0 hx]
  obtain ⟨s1, s2⟩ := s
  simp only at hI
  refine ⟨?_, ?_⟩
  ·unfold heat_newFurnace.b0 nfStep
   rw [e1, e2]
   simp only [lt_dec hi, cond_true, at_of hx, Option.bind_some, heat_least_eq, heat_most_eq]
   cases h1 : lo? f.Readings[i] with
   | none =>
    cases h2 : hi? f.Readings[i] with
    | none => simp
    | some n2 =>
     simp only [Option.isSome_none, Option.isSome_some, cond_true, cond_false, Option.getD_some, Option.map_none, Option.map_some, Option.toList_none, Option.toList_some, List.append_nil]
     rw [push_of (by omega) (by omega)]; rfl
   | some n1 =>
    simp only [Option.isSome_some, cond_true, Option.getD_some]
    rw [push_of (by omega) (by omega)]
    cases h2 : hi? f.Readings[i] with
    | none => simp
    | some n2 =>
     simp only [Option.bind_some, Option.isSome_some, cond_true, Option.getD_some, Option.map_some, Option.toList_some]
     rw [push_of (by omega) (by omega)]; rfl
  ·unfold nfStep
   simp only [List.length_append]
   have : ∀ o : Option heat_limit, o.toList.length ≤ 1 := fun o => by cases o <;> simp
   have t1 := this (limOf f.Readings lo? i)
   have t2 := this (limOf f.Readings hi? i)
   exact ⟨by omega, by omega⟩
 ·intro s _
  unfold heat_newFurnace.b0
  simp only [lt_dec_self]; rfl
def rdOk (P : Nat) (r : Reading) : Prop := 0 ≤ r.Place ∧ r.Place < P ∧ (r.Kind = 1 ∨ r.Kind = 2 ∨ r.Kind = 3) ∧ (∀ n, lo? r = some n → -3000 ≤ n ∧ n ≤ 3000) ∧ ∀ n, hi? r = some n → -3000 ≤ n ∧ n ≤ 3000
structure Firing.ok (f : Firing) : Prop where
 k : kilnB f.Kiln = true
 l : f.Readings.length ≤ 100
 r : ∀ r ∈ f.Readings, rdOk f.Kiln.P r
theorem readB_ok {P : Nat} (hP : 1 ≤ P ∧ P ≤ 24) {r : Reading} (h : readB (P : Int) r = true) : rdOk P r := by
 unfold readB at h
 simp only [Bool.and_eq_true] at h
 obtain ⟨h1, h2, h3⟩ := h
 simp only [inB, Bool.and_eq_true, decide_eq_true_eq] at h2
 rw [w64_of (by omega) (by omega)] at h2
 refine ⟨by omega, by omega, ?_⟩
 unfold lo? hi?
 by_cases k1 : r.Kind = 1
 ·simp only [k1, decide_true, cond_true, Bool.and_eq_true, inB, decide_eq_true_eq] at h3
  refine ⟨.inl k1, fun n hn => ?_, fun n hn => ?_⟩
  ·simp only [k1, decide_true, cond_true, Option.some.injEq] at hn; omega
  ·simp [k1] at hn
 ·by_cases k2 : r.Kind = 2
  ·simp only [k2, decide_true, cond_true, cond_false, Bool.and_eq_true, inB, decide_eq_true_eq] at h3
   refine ⟨.inr (.inl k2), fun n hn => ?_, fun n hn => ?_⟩
   ·simp [k2] at hn
   ·simp only [k2, decide_true, cond_true, Option.some.injEq] at hn
    simp only [show decide ((2 : Int) = 1) = false by decide, cond_false, Bool.and_eq_true, decide_eq_true_eq] at h3
    rw [w64_of (by omega) (by omega)] at hn; omega
  ·by_cases k3 : r.Kind = 3
   ·simp only [k1, k2, k3, show decide ((3 : Int) = 1) = false by decide, show decide ((3 : Int) = 2) = false by decide, decide_true, cond_true, cond_false, Bool.and_eq_true, rangeB, decide_eq_true_eq] at h3
    refine ⟨.inr (.inr k3), fun n hn => ?_, fun n hn => ?_⟩
    ·simp only [k3, show decide ((3 : Int) = 1) = false by decide, decide_true, cond_true, cond_false, Option.some.injEq] at hn; omega
    ·simp only [k3, show decide ((3 : Int) = 2) = false by decide, decide_true, cond_true, cond_false, Option.some.injEq] at hn; omega
   ·simp [k1, k2, k3] at h3
theorem firing_ok {f : Firing} (h : firingCode f = 0) : f.ok := by
 obtain ⟨h1, h2, h3⟩ := firing_small h
 have hk := kilnB_len h1
 exact ⟨h1, by omega, fun r hr => readB_ok ⟨hk.2.2.1, hk.2.2.2⟩ (h3 r hr)⟩
theorem nf_ok {f : Firing} (h : f.ok) : (nf f).ok := by
 have h2 := h.l
 have a := limsOf_len f.Readings lo?
 have b := limsOf_len f.Readings hi?
 refine ⟨h.k, by show (limsOf f.Readings lo?).length ≤ 1000; omega, fun y hy => ?_, by show (limsOf f.Readings hi?).length ≤ 1000; omega, fun y hy => ?_⟩
 ·obtain ⟨r, hr, h3, h4⟩ := limsOf_bounds hy
  obtain ⟨g1, g2, g3, g4, g5⟩ := h.r r hr
  have := g4 _ h3
  refine ⟨by omega, ?_, this⟩
  rw [h4]; exact g2
 ·obtain ⟨r, hr, h3, h4⟩ := limsOf_bounds hy
  obtain ⟨g1, g2, g3, g4, g5⟩ := h.r r hr
  have := g5 _ h3
  refine ⟨by omega, ?_, this⟩
  rw [h4]; exact g2
theorem fur_small {x : heat_furnace} (h : x.ok) : x.fur.Small x.Firing.Kiln.P := by
 constructor
 ·intro z hz
  obtain ⟨y, hy, rfl⟩ := List.mem_map.1 hz
  obtain ⟨g1, g2, g3, g4⟩ := h.l y hy
  exact ⟨by show y.place.toNat < _; omega, g3, g4⟩
 ·intro z hz
  obtain ⟨y, hy, rfl⟩ := List.mem_map.1 hz
  obtain ⟨g1, g2, g3, g4⟩ := h.m y hy
  exact ⟨by show y.place.toNat < _; omega, g3, g4⟩
theorem R04_Least_eq {P : Nat} {r : Reading} (h : rdOk P r) : R04_Least KK r = some ((lo? r).getD (-1000000), (hi? r).getD 1000000) := by
 unfold R04_Least lo? hi?
 rcases h.2.2.1 with e | e | e <;> rw [e] <;> rfl
def limStep (l : List Reading) (s : List Range) (i : Nat) : List Range :=
 let r := l.getD i rd0
 s.set r.Place.toNat ⟨max (s.getD r.Place.toNat R0).Lo ((lo? r).getD (-1000000)), min (s.getD r.Place.toNat R0).Hi ((hi? r).getD 1000000)⟩
theorem mk_of {n : Nat} (h : n ≤ 1000) : mk? (n : Int) 16 = some () := by
 unfold mk?
 rw [if_pos (by constructor <;> omega)]
theorem set_getD {α : Type} (d : α) (l : List α) (i j : Nat) (x : α) (hi : i < l.length) : (l.set i x).getD j d = if j = i then x else l.getD j d := by
 rw [List.getD_eq_getElem?_getD, List.getD_eq_getElem?_getD, List.getElem?_set]
 by_cases h : j = i
 ·subst h; simp [hi]
 ·rw [if_neg (by omega), if_neg h]
theorem R04_limits_eq {f : Firing} (h : f.ok) : ∃ l, R04_limits KK f = some l ∧ l.length = f.Kiln.P ∧ (nf f).fur.Lims f.Kiln.P (fun p => (l.getD p R0).Lo) (fun p => (l.getD p R0).Hi) := by
 have hk := kilnB_len h.k
 obtain ⟨x3, g1, g2, g3⟩ := kilnB_head h.k
 have hP : x3.length = f.Kiln.P := by unfold Kiln.P; rw [g3]
 have hl := h.l
 unfold R04_limits
 rw [g2]
 simp only [Option.bind_some]
 rw [mk_of (by omega)]
 simp only [Option.bind_some]
 obtain ⟨e1, I1⟩ := whl_foldN (n := x3.length) (body := R04_limits.b0 KK) (k := KK) (fun i s => (i, s)) (fun s i => s.set i (⟨-1000000, 1000000⟩ : Range)) (fun i s => s.length = x3.length ∧ ∀ q, q < i → s.getD q R0 = ⟨-1000000, 1000000⟩) (s0 := List.replicate x3.length (⟨0, 0⟩ : Range)) (by omega) (by unfold KK; omega) ⟨by simp, by omega⟩ (fun i s hi hI => by
   obtain ⟨I1, I2⟩ := hI
   refine ⟨?_, by simp [I1], fun q hq => ?_⟩
   ·unfold R04_limits.b0
    simp only [show decide ((i : Int) < ((s.length : Nat) : Int)) = true by simp; omega, cond_true]
    rw [at_nat R0 (by omega)]
    simp only [Option.bind_some]
    rw [set_of (by omega)]
    rfl
   ·rw [set_getD R0 s i q _ (by omega)]
    by_cases hqi : q = i
    ·rw [if_pos hqi]
    ·rw [if_neg hqi]; exact I2 q (by omega)) (fun s hI => by
   unfold R04_limits.b0
   simp only [hI.1, lt_dec_self]; rfl)
 rw [e1]
 simp only [Option.bind_some]
 generalize (List.range x3.length).foldl (fun s i => s.set i (⟨-1000000, 1000000⟩ : Range)) (List.replicate x3.length (⟨0, 0⟩ : Range)) = l0 at I1
 obtain ⟨e2, I2⟩ := whl_foldN (n := f.Readings.length) (body := R04_limits.b1 KK f) (k := KK) (fun i s => (i, s)) (limStep f.Readings)
  (fun i s => s.length = x3.length ∧ (∀ p t, p < f.Kiln.P → ((s.getD p R0).Lo ≤ t ↔ -1000000 ≤ t ∧ ∀ r ∈ f.Readings.take i, r.Place.toNat = p → ∀ n, lo? r = some n → n ≤ t)) ∧
   ∀ p t, p < f.Kiln.P → (t ≤ (s.getD p R0).Hi ↔ t ≤ 1000000 ∧ ∀ r ∈ f.Readings.take i, r.Place.toNat = p → ∀ n, hi? r = some n → t ≤ n)) (s0 := l0) (by omega) (by unfold KK; omega)
  ⟨I1.1, fun p t hp => by rw [I1.2 p (by omega)]; simp, fun p t hp => by rw [I1.2 p (by omega)]; simp⟩ (fun i s hi hI => by
   obtain ⟨J1, J2, J3⟩ := hI
   have hx : f.Readings[i]? = some f.Readings[i] := List.getElem?_eq_getElem hi
   have hr := h.r _ (List.getElem_mem hi)
   have hp := hr.1
   have hp2 := hr.2.1
   have hst : limStep f.Readings s i = s.set f.Readings[i].Place.toNat ⟨max (s.getD f.Readings[i].Place.toNat R0).Lo ((lo? f.Readings[i]).getD (-1000000)), min (s.getD f.Readings[i].Place.toNat R0).Hi ((hi? f.Readings[i]).getD 1000000)⟩ := by
    unfold limStep; rw [getD_of rd0 hx]
   have hpl : ((f.Readings[i].Place.toNat : Nat) : Int) = f.Readings[i].Place := by omega
   refine ⟨?_, ?_, fun p t hpP => ?_, fun p t hpP => ?_⟩
   ·unfold R04_limits.b1
    simp only [lt_dec hi, cond_true, at_of hx, Option.bind_some, R04_Least_eq hr]
    rw [hst, ← hpl]
    rw [at_nat R0 (by omega)]
    simp only [Option.bind_some]
    rw [set_of (by omega)]
    simp only [Option.bind_some, Int.toNat_natCast]
    rw [at_nat R0 (by rw [List.length_set]; omega), set_getD R0 _ _ _ _ (by omega), if_pos rfl]
    simp only [Option.bind_some]
    rw [set_of (by rw [List.length_set]; omega), List.set_set]
    rfl
   ·rw [hst, List.length_set]; exact J1
   ·rw [hst, set_getD R0 _ _ _ _ (by omega), take_succ_of hx]
    by_cases hpe : p = f.Readings[i].Place.toNat
    ·rw [if_pos hpe]
     show max _ _ ≤ t ↔ _
     rw [Int.max_le, ← hpe, J2 p t hpP]
     constructor
     ·rintro ⟨⟨k1, k2⟩, k3⟩
      refine ⟨k1, fun r hr e n hn => ?_⟩
      rcases List.mem_append.1 hr with hr | hr
      ·exact k2 r hr e n hn
      ·simp only [List.mem_singleton] at hr
       subst hr
       rw [hn] at k3; exact k3
     ·rintro ⟨k1, k2⟩
      refine ⟨⟨k1, fun r hr e n hn => k2 r (List.mem_append.2 (.inl hr)) e n hn⟩, ?_⟩
      cases hn : lo? f.Readings[i] with
      | none => exact k1
      | some n => exact k2 _ (List.mem_append.2 (.inr (by simp))) hpe.symm n hn
    ·rw [if_neg hpe, J2 p t hpP]
     constructor
     ·rintro ⟨k1, k2⟩
      refine ⟨k1, fun r hr e n hn => ?_⟩
      rcases List.mem_append.1 hr with hr | hr
      ·exact k2 r hr e n hn
      ·simp only [List.mem_singleton] at hr
       subst hr
       exact absurd e.symm hpe
     ·rintro ⟨k1, k2⟩
      exact ⟨k1, fun r hr e n hn => k2 r (List.mem_append.2 (.inl hr)) e n hn⟩
   ·rw [hst, set_getD R0 _ _ _ _ (by omega), take_succ_of hx]
    by_cases hpe : p = f.Readings[i].Place.toNat
    ·rw [if_pos hpe]
     show t ≤ min _ _ ↔ _
     rw [Int.le_min, ← hpe, J3 p t hpP]
     constructor
     ·rintro ⟨⟨k1, k2⟩, k3⟩
      refine ⟨k1, fun r hr e n hn => ?_⟩
      rcases List.mem_append.1 hr with hr | hr
      ·exact k2 r hr e n hn
      ·simp only [List.mem_singleton] at hr
       subst hr
       rw [hn] at k3; exact k3
     ·rintro ⟨k1, k2⟩
      refine ⟨⟨k1, fun r hr e n hn => k2 r (List.mem_append.2 (.inl hr)) e n hn⟩, ?_⟩
      cases hn : hi? f.Readings[i] with
      | none => exact k1
      | some n => exact k2 _ (List.mem_append.2 (.inr (by simp))) hpe.symm n hn
    ·rw [if_neg hpe, J3 p t hpP]
     constructor
     ·rintro ⟨k1, k2⟩
      refine ⟨k1, fun r hr e n hn => ?_⟩
      rcases List.mem_append.1 hr with hr | hr
      ·exact k2 r hr e n hn
      ·simp only [List.mem_singleton] at hr
       subst hr
       exact absurd e.symm hpe
     ·rintro ⟨k1, k2⟩
      exact ⟨k1, fun r hr e n hn => k2 r (List.mem_append.2 (.inl hr)) e n hn⟩) (fun s hI => by
   unfold R04_limits.b1
   simp only [lt_dec_self]; rfl)
 rw [e2]
 refine ⟨_, rfl, by rw [I2.1, hP], fur_ok (nf_ok h), fur_small (nf_ok h), fun p t hp => ?_, fun p t hp => ?_⟩
 ·rw [I2.2.1 p t hp, List.take_length]
  constructor
  ·rintro ⟨k1, k2⟩
   refine ⟨k1, fun z hz e => ?_⟩
   obtain ⟨r, hr, h1, h2⟩ := limsOf_lp.1 hz
   exact k2 r hr (by omega) _ h1
  ·rintro ⟨k1, k2⟩
   exact ⟨k1, fun r hr e n hn => k2 (p, n) (limsOf_lp.2 ⟨r, hr, hn, e⟩) rfl⟩
 ·rw [I2.2.2 p t hp, List.take_length]
  constructor
  ·rintro ⟨k1, k2⟩
   refine ⟨k1, fun z hz e => ?_⟩
   obtain ⟨r, hr, h1, h2⟩ := limsOf_lp.1 hz
   exact k2 r hr (by omega) _ h1
  ·rintro ⟨k1, k2⟩
   exact ⟨k1, fun r hr e n hn => k2 (p, n) (limsOf_lp.2 ⟨r, hr, hn, e⟩) rfl⟩
end Go.Abs
