/-
  Part 5 of the proof: a machine over named blocks, what each function computes, and what follows. No condition.
-/
import Derived.Test.YtafmgcbfmifaeaaGreatHBoundsD
set_option linter.unusedVariables false
set_option linter.unusedSimpArgs false
set_option linter.all false
set_option maxRecDepth 20000
set_option maxHeartbeats 8000000
namespace Go.Abs
open Go.Proofs
def F114.s0 : SC :=
 (.seq
 (.reg [b2 55 .lss 3 54 53 3 0 []])
 (.seq
 (.cond (.tmp 55)
 .skip
 (.exit 0))
 (.seq
 (.block 1
 (.seq
 (.reg [mv 56 54 3 [],
 ia 57 37 52 54 [],
 ld 58 3 57 [57],
 sg 11 56 3 [56],
 sg 12 58 3 [58]])
 (.seq
 (.reg [sn 13 3000 3 []])
 (.seq
 (.seq
 (.reg [mv 59 12 3 [],
 bn 60 .neq 3 59 (-1) 3 4 [59]])
 (.cond (.tmp 60)
 (.seq
 (.reg [ld 62 81 3 [],
 mv 63 12 3 [12],
 cf2 64 132 62 63 81 3 136 [62, 63],
 mv 61 64 136 [64],
 xt 65 61 0 135 [],
 xt 66 61 1 4 [61],
 oq 14 (.alloc 135) 0 [],
 ⟨none, .store 135 (.tmp 14) (.tmp 65), 0, none, [65]⟩,
 sg 15 66 4 [66]])
 (.seq
 (.seq
 (.reg [mv 67 15 4 [15],
 oq 68 (.unOp .not 4 (.tmp 67)) 4 [67]])
 (.cond (.tmp 68)
 (.seq
 (.reg [sn 6 0 3 [],
 sb 7 false 4 []])
 .ret)
 .skip))
 (.dreg [fa 69 135 14 1 [],
 ld 70 3 69 [],
 fa 71 81 3 0 [],
 fa 72 27 71 0 [],
 fa 73 24 72 0 [],
 ld 74 22 73 [],
 mv 75 11 3 [],
 ia 76 22 74 75 [],
 ld 77 89 76 [],
 fa 78 135 14 0 [],
 ld 79 3 78 [],
 ia 80 89 77 79 [],
 fa 81 30 80 1 [],
 ld 82 3 81 [],
 b2 83 .add 3 70 82 3 3 [],
 sg 13 83 3 []] [[], [0], [], [2], [2, 3], [2, 3, 4], [], [2, 3, 4, 5, 6], [2, 3, 4, 5, 6, 7], [], [9], [2, 3, 4, 5, 6, 7, 8, 9, 10], [2, 3, 4, 5, 6, 7, 8, 9, 10, 11], [2, 3, 4, 5, 6, 7, 8, 9, 10, 11, 12], [0, 1, 2, 3, 4, 5, 6, 7, 8, 9, 10, 11, 12, 13], [0, 1, 2, 3, 4, 5, 6, 7, 8, 9, 10, 11, 12, 13, 14]] [14, 69, 70, 71, 72, 73, 74, 75, 76, 77, 78, 79, 80, 81, 82, 83])))
 .skip))
 (.seq
 (.reg [mv 84 13 3 [13],
 fa 85 81 3 0 [],
 fa 86 27 85 0 [85],
 fa 87 24 86 0 [86],
 ld 88 22 87 [87],
 mv 89 11 3 [],
 ia 90 22 88 89 [88, 89],
 ld 91 89 90 [90],
 mv 92 1 3 [],
 ia 93 89 91 92 [91, 92],
 fa 94 30 93 0 [93],
 ld 95 3 94 [94],
 b2 96 .sub 3 84 95 3 3 [84, 95],
 sg 16 96 3 [96]])
 (.seq
 (.reg [mv 97 11 3 [11],
 bn 98 .eql 3 97 0 3 4 [97],
 mv 99 98 4 [98],
 og 100 (.move (.tmp 16)) 3 99 false [],
 og 101 (.move (.tmp 10)) 3 99 false [],
 og 102 (.binOp .gtr 3 (.tmp 100) (.tmp 101) 3) 4 99 false [100, 101],
 oq 103 (.pick (.tmp 99) (.const (.bool true)) (.tmp 102)) 4 [99, 102]])
 (.cond (.tmp 103)
 (.reg [mv 104 16 3 [16],
 sg 10 104 3 [104]])
 .skip)))))))
 (.reg [bn 105 .add 3 54 1 3 3 [54],
 mv 54 105 3 [105]]))))
def F114.c : SC :=
 (.seq
 (.reg [oq 3 (.box 81 (.tmp 0)) 0 [0],
 oq 5 (.box 57 (.tmp 2)) 0 [2],
 sn 6 0 3 [6],
 sb 7 false 4 [7]])
 (.seq
 (.seq
 (.reg [fa 17 57 5 0 [],
 ld 18 3 17 [17],
 bn 19 .neq 3 18 (-1) 3 4 [18]])
 (.cond (.tmp 19)
 (.seq
 (.reg [ld 21 81 3 [3],
 fa 22 57 5 0 [],
 ld 23 3 22 [22],
 cf2 24 132 21 23 81 3 136 [21, 23],
 mv 20 24 136 [24],
 xt 25 20 0 135 [],
 xt 26 20 1 4 [20],
 oq 8 (.alloc 135) 0 [],
 ⟨none, .store 135 (.tmp 8) (.tmp 25), 0, none, [25]⟩,
 sg 9 26 4 [26]])
 (.seq
 (.dreg [fa 27 135 8 1 [],
 ld 28 3 27 [],
 mv 29 9 4 [],
 mv 30 29 4 [],
 og 31 (.fieldAddr 135 (.tmp 8) 0) 0 30 true [],
 og 32 (.load 3 (.tmp 31)) 3 30 true [],
 og 33 (.move (.tmp 1)) 3 30 true [],
 og 34 (.binOp .eql 3 (.tmp 32) (.tmp 33) 3) 4 30 true [],
 oq 35 (.pick (.tmp 30) (.tmp 34) (.const (.bool false))) 4 [],
 mv 36 35 4 [],
 og 37 (.fieldAddr 57 (.tmp 5) 1) 0 36 true [],
 og 38 (.load 37 (.tmp 37)) 37 36 true [],
 og 39 (.call ⟨.builtin .len, #[.tmp 38], #[37]⟩) 3 36 true [],
 og 40 (.binOp .eql 3 (.tmp 39) (.const (.int .i64 0)) 3) 4 36 true [],
 oq 41 (.pick (.tmp 36) (.tmp 40) (.const (.bool false))) 4 [],
 sg 6 28 3 [],
 sg 7 41 4 []] [[], [0], [], [2], [2, 3], [2, 3, 4], [2, 3], [2, 3, 4, 5, 6], [2, 3, 4, 5, 6, 7], [2, 3, 4, 5, 6, 7, 8], [2, 3, 4, 5, 6, 7, 8, 9], [2, 3, 4, 5, 6, 7, 8, 9, 10], [2, 3, 4, 5, 6, 7, 8, 9, 10, 11], [2, 3, 4, 5, 6, 7, 8, 9, 10, 11, 12], [2, 3, 4, 5, 6, 7, 8, 9, 10, 11, 12, 13], [0, 1, 2, 3, 4, 5, 6, 7, 8, 9], [2, 3, 4, 5, 6, 7, 8, 9, 10, 11, 12, 13, 14, 0, 1, 15]] [1, 5, 8, 9, 27, 28, 29, 30, 31, 32, 33, 34, 35, 36, 37, 38, 39, 40, 41])
 .ret))
 .skip))
 (.seq
 (.seq
 (.reg [fa 42 57 5 1 [],
 ld 43 37 42 [42],
 ln 44 43 37 3 [43],
 fa 45 81 3 0 [],
 fa 46 27 45 0 [45],
 fa 47 24 46 0 [46],
 ld 48 22 47 [47],
 ln 49 48 22 3 [48],
 b2 50 .neq 3 44 49 3 4 [44, 49]])
 (.cond (.tmp 50)
 (.seq
 (.reg [sn 6 0 3 [],
 sb 7 false 4 []])
 .ret)
 .skip))
 (.seq
 (.reg [sn 10 (-3000) 3 []])
 (.seq
 (.seq
 (.reg [fa 51 57 5 1 [5],
 ld 52 37 51 [51],
 ln 53 52 37 3 [],
 oq 54 (.move (.const (.int .i64 0))) 3 []])
 (.block 0
 (.loop F114.s0)))
 (.seq
 (.reg [mv 106 10 3 [10],
 sg 6 106 3 [106],
 sb 7 true 4 []])
 .ret))))))
theorem F114.rs : Tryz.f114.results.toList = [.tmp 6, .tmp 7] := rfl
def heat_furnace_showsHigh.b0 (k : Nat) (f0 : heat_furnace) (place1 : Int) (p2 : HeatProof) : (Int × Int) → Option (Stp (Int × Int) (Int) (Int × Bool)) := fun (s : Int × Int) => match s with
 | (i6, i7) =>
   bif decide (i7 < (p2.By.length : Int)) then
    (at? p2.By i7).bind fun x10 =>
    bif (!decide (x10 = (-1 : Int))) then
     (heat_furnace_told k f0 x10).bind fun x12 =>
     bif (!x12.2) then
      some (.ret (0, false))
     else
      (at? f0.Firing.Kiln.Falls i7).bind fun x14 =>
      (at? x14 x12.1.place).bind fun x15 =>
      (at? x14 place1).bind fun x16 =>
      bif (!decide (i7 = (0 : Int))) then
       bif decide (i6 < w64 ((w64 (x12.1.heat + x15.Hi)) - x16.Lo)) then
        some (.next (w64 ((w64 (x12.1.heat + x15.Hi)) - x16.Lo), w64 (i7 + 1)))
       else
        some (.next (i6, w64 (i7 + 1)))
      else
       some (.next (w64 ((w64 (x12.1.heat + x15.Hi)) - x16.Lo), w64 (i7 + 1)))
    else
     (at? f0.Firing.Kiln.Falls i7).bind fun x19 =>
     (at? x19 place1).bind fun x20 =>
     bif (!decide (i7 = (0 : Int))) then
      bif decide (i6 < w64 (3000 - x20.Lo)) then
       some (.next (w64 (3000 - x20.Lo), w64 (i7 + 1)))
      else
       some (.next (i6, w64 (i7 + 1)))
     else
      some (.next (w64 (3000 - x20.Lo), w64 (i7 + 1)))
   else
    some (.brk i6)
noncomputable def heat_furnace_showsHigh.h0 (f0 : heat_furnace) (place1 : Int) (p2 : HeatProof) : (Int × Int) → St := fun (s : Int × Int) => match s with
 | (i6, i7) => ⟨[(1, .int .i64 place1), (3, .ptr 0 0 0), (10, .int .i64 i6), (52, .sl 1 (List.map eI p2.By)), (53, .int .i64 (p2.By.length : Int)), (54, .int .i64 i7)], [(0, .box [.sl 1 (List.map (eL 2 Range.c) f0.Firing.Kiln.Falls), .sl 6 (List.map Reading.c f0.Firing.Readings), .sl 3 (List.map heat_limit.c f0.least), .sl 3 (List.map heat_limit.c f0.most)])], [], 1, Tryz.f114.ntmps⟩
noncomputable def heat_furnace_showsHigh.x0 : Int → St := fun (i8 : Int) => ⟨[(10, .int .i64 i8)], [], [], 1, Tryz.f114.ntmps⟩
def heat_furnace_showsHigh (k : Nat) (f0 : heat_furnace) (place1 : Int) (p2 : HeatProof) : Option (Int × Bool) :=
 bif (!decide (p2.Reading = (-1 : Int))) then
  (heat_furnace_told k f0 p2.Reading).bind fun x2 =>
  bif x2.2 then
   bif decide (x2.1.place = place1) then
    some (x2.1.heat, decide ((p2.By.length : Int) = (0 : Int)))
   else
    some (x2.1.heat, false)
  else
   some (x2.1.heat, false)
 else
  bif (!decide ((p2.By.length : Int) = (f0.Firing.Kiln.Falls.length : Int))) then
   some (0, false)
  else
   (whl (heat_furnace_showsHigh.b0 k f0 place1 p2) k (-3000, 0)).bind fun r23 => match r23 with
   | .next _ => none
   | .ret v_ => some v_
   | .brk i8 =>
    some (i8, true)
theorem heat_furnace_showsHigh_ok (k : Nat) (f0 : heat_furnace) (place1 : Int) (p2 : HeatProof) (r : Int × Bool) (h0 : heat_furnace_showsHigh k f0 place1 p2 = some r) : PCall Tryz.prog 114 [.agg (heat_furnace.c f0), .int .i64 place1, .agg (HeatProof.c p2)] (fun y => y = .tup [.int .i64 r.1, .bool r.2]) := by
 refine PB (fn := Tryz.f114) (sc := F114.c) ?_
 refine rS ?_
 simp only [heat_furnace_showsHigh] at h0
 try simp only [F114.c, go_sem]
 refine AKev_bif h0 ?_ ?_ <;> intro c1 h0
 have c1 := bnot_t c1
 try simp only [c1, go_sem]
 obtain ⟨x2, yx2, h0⟩ := bs h0
 refine zc0 (heat_furnace_told_ok k _ _ _ yx2) ?_ (by first | rfl | simp [AV.refsL, AV.refs, AV.scal, AV.leaf]) ?_
 try simp only [c1, go_sem]
 try simp only [c1, go_sem]
 refine AKev_region T_ok follows_ok 1000 ?_
 try simp only [c1, go_sem]
 refine DG_bif h0 ?_ ?_ <;> intro c3 h0
 try simp only [c3, c1, go_sem]
 refine DG_bif h0 ?_ ?_ <;> intro c4 h0
 try simp only [c4, c1, c3, go_sem]
 refine DG_done ⟨rfl, run_sound T_ok 1000 _ _ ?_⟩
 try simp only [c1, c3, c4, go_sem]
 obtain rfl := Option.some.inj h0
 refine AKev_ret rfl ?_
 try simp only [F114.rs, c1, c3, c4, go_sem]
 try simp only [c4, c1, c3, go_sem]
 refine DG_done ⟨rfl, run_sound T_ok 1000 _ _ ?_⟩
 try simp only [c1, c3, c4, go_sem]
 obtain rfl := Option.some.inj h0
 refine AKev_ret rfl ?_
 try simp only [F114.rs, c1, c3, c4, go_sem]
 try simp only [c3, c1, go_sem]
 refine DG_done ⟨rfl, run_sound T_ok 1000 _ _ ?_⟩
 try simp only [c1, c3, go_sem]
 obtain rfl := Option.some.inj h0
 refine AKev_ret rfl ?_
 try simp only [F114.rs, c1, c3, go_sem]
 have c1 := bnot_f c1
 try simp only [c1, go_sem]
 refine AKev_bif h0 ?_ ?_ <;> intro c5 h0
 have c5 := bnot_t c5
 try simp only [c5, c1, go_sem]
 obtain rfl := Option.some.inj h0
 refine AKev_ret rfl ?_
 try simp only [F114.rs, c1, c5, go_sem]
 have c5 := bnot_f c5
 try simp only [c5, c1, go_sem]
 obtain ⟨r23, yr23, h0⟩ := bs h0
 refine AKev_loopS yr23 (heat_furnace_showsHigh.h0 f0 place1 p2) (heat_furnace_showsHigh.x0) ?_ ?_ ?_
 refine Weak.go [1, 3, 10, 52, 53, 54] [0] rfl ?_
 try simp only [heat_furnace_showsHigh.h0, c1, c5, go_sem]
 rintro ⟨i6, i7⟩ x_1 Bk1 Br1 h1 hnext1 hbrk1 hret1
 refine rS ?_
 simp only [heat_furnace_showsHigh.b0] at h1
 try simp only [F114.s0, heat_furnace_showsHigh.h0, c1, c5, go_sem]
 refine AKev_bif h1 ?_ ?_ <;> intro c9 h1
 try simp only [c9, c1, c5, go_sem]
 obtain ⟨x10, yx10, h1⟩ := bs h1
 try simp only [aa yx10, c1, c5, c9, go_sem]
 refine AKev_bif h1 ?_ ?_ <;> intro c11 h1
 have c11 := bnot_t c11
 try simp only [c11, c1, c5, c9, aa yx10, go_sem]
 obtain ⟨x12, yx12, h1⟩ := bs h1
 refine zc0 (heat_furnace_told_ok k _ _ _ yx12) ?_ (by first | rfl | simp [AV.refsL, AV.refs, AV.scal, AV.leaf]) ?_
 try simp only [c1, c5, c9, aa yx10, c11, go_sem]
 try simp only [c1, c5, c9, aa yx10, c11, go_sem]
 refine AKev_bif h1 ?_ ?_ <;> intro c13 h1
 have c13 := bnot_t c13
 try simp only [c13, c1, c5, c9, aa yx10, c11, go_sem]
 obtain rfl := hret1 _ (Option.some.inj h1).symm
 simp only at h0
 obtain rfl := Option.some.inj h0
 refine AKev_ret rfl ?_
 try simp only [F114.rs, c1, c5, c9, aa yx10, c11, c13, go_sem]
 have c13 := bnot_f c13
 try simp only [c13, c1, c5, c9, aa yx10, c11, go_sem]
 refine AKev_region T_ok follows_ok 1000 ?_
 try simp only [c1, c5, c9, aa yx10, c11, c13, go_sem]
 obtain ⟨x14, yx14, h1⟩ := bs h1
 try simp only [aa yx14, c1, c5, c9, aa yx10, c11, c13, go_sem]
 obtain ⟨x15, yx15, h1⟩ := bs h1
 try simp only [aa yx15, c1, c5, c9, aa yx10, c11, c13, aa yx14, go_sem]
 refine DG_done ⟨rfl, run_sound T_ok 1000 _ _ ?_⟩
 try simp only [aa yx14, c1, c5, c9, aa yx10, c11, c13, aa yx15, go_sem]
 obtain ⟨x16, yx16, h1⟩ := bs h1
 try simp only [aa yx16, c1, c5, c9, aa yx10, c11, c13, aa yx14, aa yx15, go_sem]
 refine AKev_bif h1 ?_ ?_ <;> intro c17 h1
 have c17 := bnot_t c17
 try simp only [c17, c1, c5, c9, aa yx10, c11, c13, aa yx14, aa yx15, aa yx16, go_sem]
 refine AKev_bif h1 ?_ ?_ <;> intro c18 h1
 try simp only [c18, c1, c5, c9, aa yx10, c11, c13, aa yx14, aa yx15, aa yx16, c17, go_sem]
 refine AKev_backB (hnext1 _ _ (Option.some.inj h1).symm ?_)
 refine Weak.go [1, 3, 10, 52, 53, 54] [0] rfl ?_
 try simp only [heat_furnace_showsHigh.h0, c1, c5, c9, aa yx10, c11, c13, aa yx14, aa yx15, aa yx16, c17, c18, go_sem]
 try simp only [c18, c1, c5, c9, aa yx10, c11, c13, aa yx14, aa yx15, aa yx16, c17, go_sem]
 refine AKev_backB (hnext1 _ _ (Option.some.inj h1).symm ?_)
 refine Weak.go [1, 3, 10, 52, 53, 54] [0] rfl ?_
 try simp only [heat_furnace_showsHigh.h0, c1, c5, c9, aa yx10, c11, c13, aa yx14, aa yx15, aa yx16, c17, c18, go_sem]
 have c17 := bnot_f c17
 try simp only [c17, c1, c5, c9, aa yx10, c11, c13, aa yx14, aa yx15, aa yx16, go_sem]
 refine AKev_backB (hnext1 _ _ (Option.some.inj h1).symm ?_)
 refine Weak.go [1, 3, 10, 52, 53, 54] [0] rfl ?_
 try simp only [heat_furnace_showsHigh.h0, c1, c5, c9, aa yx10, c11, c13, aa yx14, aa yx15, aa yx16, c17, go_sem]
 have c11 := bnot_f c11
 try simp only [c11, c1, c5, c9, aa yx10, go_sem]
 obtain ⟨x19, yx19, h1⟩ := bs h1
 try simp only [aa yx19, c1, c5, c9, aa yx10, c11, go_sem]
 obtain ⟨x20, yx20, h1⟩ := bs h1
 try simp only [aa yx20, c1, c5, c9, aa yx10, c11, aa yx19, go_sem]
 refine AKev_bif h1 ?_ ?_ <;> intro c21 h1
 have c21 := bnot_t c21
 try simp only [c21, c1, c5, c9, aa yx10, c11, aa yx19, aa yx20, go_sem]
 refine AKev_bif h1 ?_ ?_ <;> intro c22 h1
 try simp only [c22, c1, c5, c9, aa yx10, c11, aa yx19, aa yx20, c21, go_sem]
 refine AKev_backB (hnext1 _ _ (Option.some.inj h1).symm ?_)
 refine Weak.go [1, 3, 10, 52, 53, 54] [0] rfl ?_
 try simp only [heat_furnace_showsHigh.h0, c1, c5, c9, aa yx10, c11, aa yx19, aa yx20, c21, c22, go_sem]
 try simp only [c22, c1, c5, c9, aa yx10, c11, aa yx19, aa yx20, c21, go_sem]
 refine AKev_backB (hnext1 _ _ (Option.some.inj h1).symm ?_)
 refine Weak.go [1, 3, 10, 52, 53, 54] [0] rfl ?_
 try simp only [heat_furnace_showsHigh.h0, c1, c5, c9, aa yx10, c11, aa yx19, aa yx20, c21, c22, go_sem]
 have c21 := bnot_f c21
 try simp only [c21, c1, c5, c9, aa yx10, c11, aa yx19, aa yx20, go_sem]
 refine AKev_backB (hnext1 _ _ (Option.some.inj h1).symm ?_)
 refine Weak.go [1, 3, 10, 52, 53, 54] [0] rfl ?_
 try simp only [heat_furnace_showsHigh.h0, c1, c5, c9, aa yx10, c11, aa yx19, aa yx20, c21, go_sem]
 try simp only [c9, c1, c5, go_sem]
 refine AKev_backB (hbrk1 _ _ (Option.some.inj h1).symm ?_)
 refine Weak.go [10] [] rfl ?_
 try simp only [heat_furnace_showsHigh.x0, c1, c5, c9, go_sem]
 rintro i8 hr_
 subst hr_
 simp only at h0
 refine rS ?_
 try simp only [heat_furnace_showsHigh.x0, c1, c5, go_sem]
 obtain rfl := Option.some.inj h0
 refine AKev_ret rfl ?_
 try simp only [F114.rs, c1, c5, go_sem]
def F134.c : SC :=
 (.seq
 (.reg [oq 2 (.box 135 (.tmp 0)) 0 [0],
 sb 3 false 4 [3]])
 (.seq
 (.reg [fa 4 135 2 2 [2],
 ld 5 3 4 [4],
 fa 6 57 1 0 [1],
 ld 7 3 6 [6],
 b2 8 .eql 3 5 7 3 4 [5, 7],
 sg 3 8 4 [8]])
 .ret))
theorem F134.rs : Tryz.f134.results.toList = [.tmp 3] := rfl
def heat_furnace_showsLow_1 (k : Nat) (x0 : heat_limit) (c1 : HeatProof) : Option (Bool) :=
 some (decide (x0.by_ = c1.Reading))
theorem heat_furnace_showsLow_1_ok (k : Nat) (x0 : heat_limit) (c1 : HeatProof) (r : Bool) (h0 : heat_furnace_showsLow_1 k x0 c1 = some r) : PCall Tryz.prog 134 [.agg (heat_limit.c x0), .rptr 2 [HeatProof.c c1] 0 0] (fun y => y = .bool r) := by
 refine PB (fn := Tryz.f134) (sc := F134.c) ?_
 refine rS ?_
 simp only [heat_furnace_showsLow_1] at h0
 try simp only [F134.c, go_sem]
 obtain rfl := Option.some.inj h0
 refine AKev_ret rfl ?_
 try simp only [F134.rs, go_sem]
def F115.s0 : SC :=
 (.seq
 (.reg [b2 87 .lss 3 86 85 3 0 []])
 (.seq
 (.cond (.tmp 87)
 .skip
 (.exit 0))
 (.seq
 (.block 1
 (.seq
 (.reg [mv 88 86 3 [],
 ia 89 37 84 86 [],
 ld 90 3 89 [89],
 sg 11 88 3 [88],
 sg 12 90 3 [90]])
 (.seq
 (.dreg [fa 91 135 10 1 [],
 ld 92 3 91 [],
 fa 93 81 3 0 [],
 fa 94 27 93 0 [],
 fa 95 24 94 0 [],
 ld 96 22 95 [],
 mv 97 11 3 [],
 ia 98 22 96 97 [],
 ld 99 89 98 [],
 fa 100 135 10 0 [],
 ld 101 3 100 [],
 ia 102 89 99 101 [],
 fa 103 30 102 0 [],
 ld 104 3 103 [],
 b2 105 .add 3 92 104 3 3 [],
 sg 13 105 3 []] [[], [0], [], [2], [2, 3], [2, 3, 4], [], [2, 3, 4, 5, 6], [2, 3, 4, 5, 6, 7], [], [9], [2, 3, 4, 5, 6, 7, 8, 9, 10], [2, 3, 4, 5, 6, 7, 8, 9, 10, 11], [2, 3, 4, 5, 6, 7, 8, 9, 10, 11, 12], [0, 1, 2, 3, 4, 5, 6, 7, 8, 9, 10, 11, 12, 13], [0, 1, 2, 3, 4, 5, 6, 7, 8, 9, 10, 11, 12, 13, 14]] [91, 92, 93, 94, 95, 96, 97, 98, 99, 100, 101, 102, 103, 104, 105])
 (.seq
 (.reg [mv 106 12 3 []])
 (.block 2
 (.seq
 (.reg [bn 135 .eql 3 106 (-1) 3 4 [],
 sg 134 135 4 [135]])
 (.cond (.tmp 134)
 (.seq
 (.reg [mv 136 13 3 [13],
 fa 137 81 3 0 [],
 fa 138 27 137 0 [137],
 fa 139 24 138 0 [138],
 ld 140 22 139 [139],
 mv 141 11 3 [11],
 ia 142 22 140 141 [140, 141],
 ld 143 89 142 [142],
 mv 144 1 3 [],
 ia 145 89 143 144 [143, 144],
 fa 146 30 145 1 [145],
 ld 147 3 146 [146],
 b2 148 .sub 3 136 147 3 3 [136, 147],
 sg 14 148 3 [148]])
 (.seq
 (.reg [mv 149 7 4 [],
 mv 150 149 4 [149],
 og 151 (.move (.tmp 14)) 3 150 false [],
 og 152 (.move (.tmp 6)) 3 150 false [],
 og 153 (.binOp .lss 3 (.tmp 151) (.tmp 152) 3) 4 150 false [151, 152],
 oq 154 (.pick (.tmp 150) (.const (.bool true)) (.tmp 153)) 4 [150, 153]])
 (.cond (.tmp 154)
 (.reg [mv 155 14 3 [14],
 sg 6 155 3 [155],
 sb 7 false 4 []])
 .skip)))
 (.seq
 (.reg [bn 157 .eql 3 106 (-2) 3 4 [106],
 sg 156 157 4 [157]])
 (.cond (.tmp 156)
 (.seq
 (.reg [mv 158 13 3 [13],
 bn 159 .leq 3 158 3000 3 4 [158]])
 (.cond (.tmp 159)
 (.seq
 (.reg [sn 6 0 3 [],
 sb 7 false 4 [],
 sb 8 false 4 []])
 .ret)
 .skip))
 (.seq
 (.reg [ld 108 81 3 [],
 mv 109 12 3 [12],
 cf2 110 132 108 109 81 3 136 [108, 109],
 mv 107 110 136 [110],
 xt 111 107 0 135 [],
 xt 112 107 1 4 [107],
 oq 15 (.alloc 135) 0 [],
 ⟨none, .store 135 (.tmp 15) (.tmp 111), 0, none, [111]⟩,
 sg 16 112 4 [112]])
 (.seq
 (.dreg [mv 113 16 4 [],
 oq 114 (.unOp .not 4 (.tmp 113)) 4 [],
 mv 115 114 4 [],
 og 116 (.move (.tmp 13)) 3 115 false [],
 og 117 (.fieldAddr 135 (.tmp 15) 1) 0 115 false [],
 og 118 (.load 3 (.tmp 117)) 3 115 false [],
 og 119 (.fieldAddr 81 (.tmp 3) 0) 0 115 false [],
 og 120 (.fieldAddr 27 (.tmp 119) 0) 0 115 false [],
 og 121 (.fieldAddr 24 (.tmp 120) 0) 0 115 false [],
 og 122 (.load 22 (.tmp 121)) 22 115 false [],
 og 123 (.move (.tmp 11)) 3 115 false [],
 og 124 (.indexAddr 22 (.tmp 122) (.tmp 123)) 0 115 false [],
 og 125 (.load 89 (.tmp 124)) 89 115 false [],
 og 126 (.fieldAddr 135 (.tmp 15) 0) 0 115 false [],
 og 127 (.load 3 (.tmp 126)) 3 115 false [],
 og 128 (.indexAddr 89 (.tmp 125) (.tmp 127)) 0 115 false [],
 og 129 (.fieldAddr 30 (.tmp 128) 1) 0 115 false [],
 og 130 (.load 3 (.tmp 129)) 3 115 false [],
 og 131 (.binOp .add 3 (.tmp 118) (.tmp 130) 3) 3 115 false [],
 og 132 (.binOp .leq 3 (.tmp 116) (.tmp 131) 3) 4 115 false [],
 oq 133 (.pick (.tmp 115) (.const (.bool true)) (.tmp 132)) 4 []] [[], [0], [0, 1], [0, 1, 2], [0, 1, 2], [0, 1, 2, 4], [0, 1, 2], [0, 1, 2, 6], [0, 1, 2, 6, 7], [0, 1, 2, 6, 7, 8], [0, 1, 2], [0, 1, 2, 6, 7, 8, 9, 10], [0, 1, 2, 6, 7, 8, 9, 10, 11], [0, 1, 2], [0, 1, 2, 13], [0, 1, 2, 6, 7, 8, 9, 10, 11, 12, 13, 14], [0, 1, 2, 6, 7, 8, 9, 10, 11, 12, 13, 14, 15], [0, 1, 2, 6, 7, 8, 9, 10, 11, 12, 13, 14, 15, 16], [0, 1, 2, 4, 5, 6, 7, 8, 9, 10, 11, 12, 13, 14, 15, 16, 17], [0, 1, 2, 3, 4, 5, 6, 7, 8, 9, 10, 11, 12, 13, 14, 15, 16, 17, 18], [0, 1, 2, 3, 4, 5, 6, 7, 8, 9, 10, 11, 12, 13, 14, 15, 16, 17, 18, 19]] [11, 13, 15, 16, 113, 114, 115, 116, 117, 118, 119, 120, 121, 122, 123, 124, 125, 126, 127, 128, 129, 130, 131, 132])
 (.cond (.tmp 133)
 (.seq
 (.reg [sn 6 0 3 [],
 sb 7 false 4 [],
 sb 8 false 4 []])
 .ret)
 .skip))))))))))))
 (.reg [bn 160 .add 3 86 1 3 3 [86],
 mv 86 160 3 [160]]))))
def F115.c : SC :=
 (.seq
 (.reg [oq 3 (.box 81 (.tmp 0)) 0 [0],
 oq 5 (.box 57 (.tmp 2)) 0 [2],
 sn 6 0 3 [],
 sb 7 false 4 [7],
 sb 8 false 4 [8]])
 (.seq
 (.seq
 (.reg [fa 17 57 5 0 [],
 ld 18 3 17 [17],
 bn 19 .eql 3 18 (-2) 3 4 [18]])
 (.cond (.tmp 19)
 (.seq
 (.seq
 (.dreg [fa 20 57 5 1 [],
 ld 21 37 20 [],
 ln 22 21 37 3 [],
 bn 23 .neq 3 22 1 3 4 [],
 mv 24 23 4 [],
 og 25 (.fieldAddr 57 (.tmp 5) 1) 0 24 false [],
 og 26 (.load 37 (.tmp 25)) 37 24 false [],
 og 27 (.indexAddr 37 (.tmp 26) (.const (.int .i64 0))) 0 24 false [],
 og 28 (.load 3 (.tmp 27)) 3 24 false [],
 og 29 (.fieldAddr 81 (.tmp 3) 0) 0 24 false [],
 og 30 (.fieldAddr 27 (.tmp 29) 0) 0 24 false [],
 og 31 (.fieldAddr 24 (.tmp 30) 0) 0 24 false [],
 og 32 (.load 22 (.tmp 31)) 22 24 false [],
 og 33 (.call ⟨.builtin .len, #[.tmp 32], #[22]⟩) 3 24 false [],
 og 34 (.binOp .sub 3 (.tmp 33) (.const (.int .i64 1)) 3) 3 24 false [],
 og 35 (.call ⟨.value (.func 58), #[.tmp 28, .const (.int .i64 0), .tmp 34], #[3, 3, 3]⟩) 4 24 false [],
 og 36 (.unOp .not 4 (.tmp 35)) 4 24 false [],
 oq 37 (.pick (.tmp 24) (.const (.bool true)) (.tmp 36)) 4 []] [[], [0], [0, 1], [0, 1, 2], [0, 1, 2, 3], [0, 1, 2, 3, 4], [0, 1, 2, 3, 4, 5], [0, 1, 2, 3, 4, 5, 6], [0, 1, 2, 3, 4, 5, 6, 7], [0, 1, 2, 3, 4], [0, 1, 2, 3, 4, 9], [0, 1, 2, 3, 4, 9, 10], [0, 1, 2, 3, 4, 9, 10, 11], [0, 1, 2, 3, 4, 9, 10, 11, 12], [0, 1, 2, 3, 4, 9, 10, 11, 12, 13], [0, 1, 2, 3, 4, 5, 6, 7, 8, 9, 10, 11, 12, 13, 14], [0, 1, 2, 3, 4, 5, 6, 7, 8, 9, 10, 11, 12, 13, 14, 15], [0, 1, 2, 3, 4, 5, 6, 7, 8, 9, 10, 11, 12, 13, 14, 15, 16]] [20, 21, 22, 23, 24, 25, 26, 27, 28, 29, 30, 31, 32, 33, 34, 35, 36])
 (.cond (.tmp 37)
 (.seq
 (.reg [sn 6 0 3 [],
 sb 7 false 4 [],
 sb 8 false 4 []])
 .ret)
 .skip))
 (.seq
 (.dreg [fa 38 81 3 0 [],
 fa 39 27 38 0 [],
 fa 40 24 39 0 [],
 ld 41 22 40 [],
 fa 42 57 5 1 [],
 ld 43 37 42 [],
 oq 44 (.indexAddr 37 (.tmp 43) (.const (.int .i64 0))) 0 [],
 ld 45 3 44 [],
 ia 46 22 41 45 [],
 ld 47 89 46 [],
 mv 48 1 3 [],
 ia 49 89 47 48 [],
 fa 50 30 49 1 [],
 ld 51 3 50 [],
 oq 52 (.unOp .neg 3 (.tmp 51)) 3 [],
 sg 6 52 3 [],
 sb 7 false 4 [],
 sb 8 true 4 []] [[], [0], [0, 1], [0, 1, 2], [], [4], [4, 5], [4, 5, 6], [0, 1, 2, 3, 4, 5, 6, 7], [0, 1, 2, 3, 4, 5, 6, 7, 8], [], [0, 1, 2, 3, 4, 5, 6, 7, 8, 9, 10], [0, 1, 2, 3, 4, 5, 6, 7, 8, 9, 10, 11], [0, 1, 2, 3, 4, 5, 6, 7, 8, 9, 10, 11, 12], [0, 1, 2, 3, 4, 5, 6, 7, 8, 9, 10, 11, 12, 13], [0, 1, 2, 3, 4, 5, 6, 7, 8, 9, 10, 11, 12, 13, 14], [0, 1, 2, 3, 4, 5, 6, 7, 8, 9, 10, 11, 12, 13, 14, 15], [0, 1, 2, 3, 4, 5, 6, 7, 8, 9, 10, 11, 12, 13, 14, 15, 16]] [1, 3, 5, 38, 39, 40, 41, 42, 43, 44, 45, 46, 47, 48, 49, 50, 51, 52])
 .ret))
 .skip))
 (.seq
 (.reg [fa 53 81 3 1 [],
 ld 54 79 53 [53],
 oq 55 (.makeFunc (.func 134) #[] #[.tmp 5]) 159 [],
 cf2 56 133 54 55 79 159 3 [54, 55],
 sg 9 56 3 [56]])
 (.seq
 (.seq
 (.reg [mv 57 9 3 [],
 bn 58 .lss 3 57 0 3 4 [57]])
 (.cond (.tmp 58)
 (.seq
 (.reg [sn 6 0 3 [],
 sb 7 false 4 [],
 sb 8 false 4 []])
 .ret)
 .skip))
 (.seq
 (.reg [fa 59 81 3 1 [],
 ld 60 79 59 [59],
 mv 61 9 3 [9],
 ia 62 79 60 61 [60, 61],
 ld 63 135 62 [62],
 oq 10 (.alloc 135) 0 [],
 ⟨none, .store 135 (.tmp 10) (.tmp 63), 0, none, [63]⟩])
 (.seq
 (.seq
 (.reg [fa 64 135 10 0 [],
 ld 65 3 64 [64],
 mv 66 1 3 [],
 b2 67 .eql 3 65 66 3 4 [65, 66]])
 (.cond (.tmp 67)
 (.seq
 (.dreg [fa 68 135 10 1 [],
 ld 69 3 68 [],
 fa 70 57 5 1 [],
 ld 71 37 70 [],
 ln 72 71 37 3 [],
 bn 73 .eql 3 72 0 3 4 [],
 sg 6 69 3 [],
 sb 7 false 4 [],
 sg 8 73 4 []] [[], [0], [], [2], [2, 3], [2, 3, 4], [0, 1], [0, 1, 6], [2, 3, 4, 5, 0, 1, 6, 7]] [5, 10, 68, 69, 70, 71, 72, 73])
 .ret)
 .skip))
 (.seq
 (.seq
 (.reg [fa 74 57 5 1 [],
 ld 75 37 74 [74],
 ln 76 75 37 3 [75],
 fa 77 81 3 0 [],
 fa 78 27 77 0 [77],
 fa 79 24 78 0 [78],
 ld 80 22 79 [79],
 ln 81 80 22 3 [80],
 b2 82 .neq 3 76 81 3 4 [76, 81]])
 (.cond (.tmp 82)
 (.seq
 (.reg [sn 6 0 3 [],
 sb 7 false 4 [],
 sb 8 false 4 []])
 .ret)
 .skip))
 (.seq
 (.reg [sb 7 true 4 []])
 (.seq
 (.seq
 (.reg [fa 83 57 5 1 [5],
 ld 84 37 83 [83],
 ln 85 84 37 3 [],
 oq 86 (.move (.const (.int .i64 0))) 3 []])
 (.block 0
 (.loop F115.s0)))
 (.seq
 (.reg [mv 161 6 3 [6],
 mv 162 7 4 [7],
 sg 6 161 3 [161],
 sg 7 162 4 [162],
 sb 8 true 4 []])
 .ret))))))))))
theorem F115.rs : Tryz.f115.results.toList = [.tmp 6, .tmp 7, .tmp 8] := rfl
def heat_furnace_showsLow.b0 (k : Nat) (f0 : heat_furnace) (place1 : Int) (p2 : HeatProof) (x10 : heat_limit) : (Int × Bool × Int) → Option (Stp (Int × Bool × Int) (Int × Bool) (Int × Bool × Bool)) := fun (s : Int × Bool × Int) => match s with
 | (i13, b14, i15) =>
   bif decide (i15 < (p2.By.length : Int)) then
    (at? p2.By i15).bind fun x19 =>
    (at? f0.Firing.Kiln.Falls i15).bind fun x20 =>
    (at? x20 x10.place).bind fun x21 =>
    bif decide (x19 = (-1 : Int)) then
     (at? x20 place1).bind fun x23 =>
     bif (!b14) then
      bif decide (w64 ((w64 (x10.heat + x21.Lo)) - x23.Hi) < i13) then
       some (.next (w64 ((w64 (x10.heat + x21.Lo)) - x23.Hi), false, w64 (i15 + 1)))
      else
       some (.next (i13, b14, w64 (i15 + 1)))
     else
      some (.next (w64 ((w64 (x10.heat + x21.Lo)) - x23.Hi), false, w64 (i15 + 1)))
    else
     bif decide (x19 = (-2 : Int)) then
      bif decide (w64 (x10.heat + x21.Lo) ≤ (3000 : Int)) then
       some (.ret (0, false, false))
      else
       some (.next (i13, b14, w64 (i15 + 1)))
     else
      (heat_furnace_told k f0 x19).bind fun x28 =>
      bif x28.2 then
       (at? x20 x28.1.place).bind fun x30 =>
       bif decide (w64 (x10.heat + x21.Lo) ≤ w64 (x28.1.heat + x30.Hi)) then
        some (.ret (0, false, false))
       else
        some (.next (i13, b14, w64 (i15 + 1)))
      else
       some (.ret (0, false, false))
   else
    some (.brk (i13, b14))
noncomputable def heat_furnace_showsLow.h0 (f0 : heat_furnace) (place1 : Int) (p2 : HeatProof) (x10 : heat_limit) : (Int × Bool × Int) → St := fun (s : Int × Bool × Int) => match s with
 | (i13, b14, i15) => ⟨[(1, .int .i64 place1), (3, .ptr 0 0 0), (6, .int .i64 i13), (7, .bool b14), (10, .ptr 0 1 0), (84, .sl 1 (List.map eI p2.By)), (85, .int .i64 (p2.By.length : Int)), (86, .int .i64 i15)], [(0, .box [.sl 1 (List.map (eL 2 Range.c) f0.Firing.Kiln.Falls), .sl 6 (List.map Reading.c f0.Firing.Readings), .sl 3 (List.map heat_limit.c f0.least), .sl 3 (List.map heat_limit.c f0.most)]), (1, .box [.int .i64 x10.place, .int .i64 x10.heat, .int .i64 x10.by_])], [], 2, Tryz.f115.ntmps⟩
noncomputable def heat_furnace_showsLow.x0 : (Int × Bool) → St := fun (s : Int × Bool) => match s with
 | (i16, b17) => ⟨[(6, .int .i64 i16), (7, .bool b17)], [], [], 1, Tryz.f115.ntmps⟩
def heat_furnace_showsLow (k : Nat) (f0 : heat_furnace) (place1 : Int) (p2 : HeatProof) : Option (Int × Bool × Bool) :=
 bif decide (p2.Reading = (-2 : Int)) then
  bif decide ((p2.By.length : Int) = (1 : Int)) then
   (at? p2.By 0).bind fun x3 =>
   (heat_in k x3 0 (w64 ((f0.Firing.Kiln.Falls.length : Int) - 1))).bind fun x4 =>
   bif (!x4) then
    some (0, false, false)
   else
    (at? f0.Firing.Kiln.Falls x3).bind fun x6 =>
    (at? x6 place1).bind fun x7 =>
    some (w64 (0 - x7.Hi), false, true)
  else
   some (0, false, false)
 else
  (slices_IndexFunc_heat_limit k f0.least (fun q0 => heat_furnace_showsLow_1 k q0 p2)).bind fun x8 =>
  bif decide (x8 < (0 : Int)) then
   some (0, false, false)
  else
   (at? f0.least x8).bind fun x10 =>
   bif decide (x10.place = place1) then
    some (x10.heat, false, decide ((p2.By.length : Int) = (0 : Int)))
   else
    bif (!decide ((p2.By.length : Int) = (f0.Firing.Kiln.Falls.length : Int))) then
     some (0, false, false)
    else
     (whl (heat_furnace_showsLow.b0 k f0 place1 p2 x10) k (0, true, 0)).bind fun r32 => match r32 with
     | .next _ => none
     | .ret v_ => some v_
     | .brk (i16, b17) =>
      some (i16, b17, true)
theorem heat_furnace_showsLow_ok (k : Nat) (f0 : heat_furnace) (place1 : Int) (p2 : HeatProof) (r : Int × Bool × Bool) (h0 : heat_furnace_showsLow k f0 place1 p2 = some r) : PCall Tryz.prog 115 [.agg (heat_furnace.c f0), .int .i64 place1, .agg (HeatProof.c p2)] (fun y => y = .tup [.int .i64 r.1, .bool r.2.1, .bool r.2.2]) := by
 refine PB (fn := Tryz.f115) (sc := F115.c) ?_
 refine rS ?_
 simp only [heat_furnace_showsLow] at h0
 try simp only [F115.c, go_sem]
 refine AKev_bif h0 ?_ ?_ <;> intro c1 h0
 try simp only [c1, go_sem]
 refine AKev_region T_ok follows_ok 1000 ?_
 try simp only [c1, go_sem]
 refine DG_bif h0 ?_ ?_ <;> intro c2 h0
 try simp only [c2, c1, go_sem]
 obtain ⟨x3, yx3, h0⟩ := bs h0
 try simp only [aa yx3, c1, c2, go_sem]
 obtain ⟨x4, yx4, h0⟩ := bs h0
 refine DG_call0 1000 (heat_in_ok k _ _ _ _ yx4) ?_ (by first | rfl | simp [AV.refsL, AV.refs, AV.scal, AV.leaf]) ?_
 try simp only [c1, c2, aa yx3, go_sem]
 try simp only [c1, c2, aa yx3, go_sem]
 refine DG_done ⟨rfl, run_sound T_ok 1000 _ _ ?_⟩
 try simp only [c1, c2, aa yx3, go_sem]
 refine AKev_bif h0 ?_ ?_ <;> intro c5 h0
 have c5 := bnot_t c5
 try simp only [c5, c1, c2, aa yx3, go_sem]
 obtain rfl := Option.some.inj h0
 refine AKev_ret rfl ?_
 try simp only [F115.rs, c1, c2, aa yx3, c5, go_sem]
 have c5 := bnot_f c5
 try simp only [c5, c1, c2, aa yx3, go_sem]
 refine AKev_region T_ok follows_ok 1000 ?_
 try simp only [aa yx3, c1, c2, c5, go_sem]
 obtain ⟨x6, yx6, h0⟩ := bs h0
 try simp only [aa yx6, c1, c2, aa yx3, c5, go_sem]
 obtain ⟨x7, yx7, h0⟩ := bs h0
 try simp only [aa yx7, c1, c2, aa yx3, c5, aa yx6, go_sem]
 refine DG_done ⟨rfl, run_sound T_ok 1000 _ _ ?_⟩
 try simp only [c1, c2, aa yx3, c5, aa yx6, aa yx7, go_sem]
 obtain rfl := Option.some.inj h0
 refine AKev_ret rfl ?_
 try simp only [F115.rs, c1, c2, aa yx3, c5, aa yx6, aa yx7, go_sem]
 try simp only [c2, c1, go_sem]
 refine DG_done ⟨rfl, run_sound T_ok 1000 _ _ ?_⟩
 try simp only [c1, c2, go_sem]
 obtain rfl := Option.some.inj h0
 refine AKev_ret rfl ?_
 try simp only [F115.rs, c1, c2, go_sem]
 try simp only [c1, go_sem]
 obtain ⟨x8, yx8, h0⟩ := bs h0
 refine zcL (slices_IndexFunc_heat_limit_ok k _ 134 [.rptr 2 [HeatProof.c p2] 0 0] ⟨fun _ => rfl, fun _ => rfl, fun _ _ => rfl, rfl, fun _ => rfl, fun _ => rfl, fun _ => rfl⟩ (fun q0 => heat_furnace_showsLow_1 k q0 p2) (fun q0 qr qh => heat_furnace_showsLow_1_ok k q0 _ qr qh) _ yx8) ?_ (by first | rfl | simp [AV.refsL, AV.refs, AV.scal, AV.leaf]) ?_
 try simp only [c1, go_sem]
 try simp only [c1, go_sem]
 refine AKev_bif h0 ?_ ?_ <;> intro c9 h0
 try simp only [c9, c1, go_sem]
 obtain rfl := Option.some.inj h0
 refine AKev_ret rfl ?_
 try simp only [F115.rs, c1, c9, go_sem]
 try simp only [c9, c1, go_sem]
 obtain ⟨x10, yx10, h0⟩ := bs h0
 try simp only [aa yx10, c1, c9, go_sem]
 refine AKev_bif h0 ?_ ?_ <;> intro c11 h0
 try simp only [c11, c1, c9, aa yx10, go_sem]
 refine AKev_region T_ok follows_ok 1000 ?_
 try simp only [c1, c9, aa yx10, c11, go_sem]
 refine DG_done ⟨rfl, run_sound T_ok 1000 _ _ ?_⟩
 try simp only [c1, c9, aa yx10, c11, go_sem]
 obtain rfl := Option.some.inj h0
 refine AKev_ret rfl ?_
 try simp only [F115.rs, c1, c9, aa yx10, c11, go_sem]
 try simp only [c11, c1, c9, aa yx10, go_sem]
 refine AKev_bif h0 ?_ ?_ <;> intro c12 h0
 have c12 := bnot_t c12
 try simp only [c12, c1, c9, aa yx10, c11, go_sem]
 obtain rfl := Option.some.inj h0
 refine AKev_ret rfl ?_
 try simp only [F115.rs, c1, c9, aa yx10, c11, c12, go_sem]
 have c12 := bnot_f c12
 try simp only [c12, c1, c9, aa yx10, c11, go_sem]
 obtain ⟨r32, yr32, h0⟩ := bs h0
 refine AKev_loopS yr32 (heat_furnace_showsLow.h0 f0 place1 p2 x10) (heat_furnace_showsLow.x0) ?_ ?_ ?_
 refine Weak.go [1, 3, 6, 7, 10, 84, 85, 86] [0, 320] rfl ?_
 try simp only [heat_furnace_showsLow.h0, c1, c9, aa yx10, c11, c12, go_sem]
 rintro ⟨i13, b14, i15⟩ x_1 Bk1 Br1 h1 hnext1 hbrk1 hret1
 refine rS ?_
 simp only [heat_furnace_showsLow.b0] at h1
 try simp only [F115.s0, heat_furnace_showsLow.h0, c1, c9, aa yx10, c11, c12, go_sem]
 refine AKev_bif h1 ?_ ?_ <;> intro c18 h1
 try simp only [c18, c1, c9, aa yx10, c11, c12, go_sem]
 obtain ⟨x19, yx19, h1⟩ := bs h1
 try simp only [aa yx19, c1, c9, aa yx10, c11, c12, c18, go_sem]
 refine AKev_region T_ok follows_ok 1000 ?_
 try simp only [c1, c9, aa yx10, c11, c12, c18, aa yx19, go_sem]
 obtain ⟨x20, yx20, h1⟩ := bs h1
 try simp only [aa yx20, c1, c9, aa yx10, c11, c12, c18, aa yx19, go_sem]
 obtain ⟨x21, yx21, h1⟩ := bs h1
 try simp only [aa yx21, c1, c9, aa yx10, c11, c12, c18, aa yx19, aa yx20, go_sem]
 refine DG_done ⟨rfl, run_sound T_ok 1000 _ _ ?_⟩
 try simp only [c1, c9, aa yx10, c11, c12, c18, aa yx19, aa yx20, aa yx21, go_sem]
 refine AKev_bif h1 ?_ ?_ <;> intro c22 h1
 try simp only [c22, aa yx20, c1, c9, aa yx10, c11, c12, c18, aa yx19, aa yx21, go_sem]
 obtain ⟨x23, yx23, h1⟩ := bs h1
 try simp only [aa yx23, c1, c9, aa yx10, c11, c12, c18, aa yx19, aa yx20, aa yx21, c22, go_sem]
 refine AKev_bif h1 ?_ ?_ <;> intro c24 h1
 have c24 := bnot_t c24
 try simp only [c24, c1, c9, aa yx10, c11, c12, c18, aa yx19, aa yx20, aa yx21, c22, aa yx23, go_sem]
 refine AKev_bif h1 ?_ ?_ <;> intro c25 h1
 try simp only [c25, c1, c9, aa yx10, c11, c12, c18, aa yx19, aa yx20, aa yx21, c22, aa yx23, c24, go_sem]
 refine AKev_backB (hnext1 _ _ (Option.some.inj h1).symm ?_)
 refine Weak.go [1, 3, 6, 7, 10, 84, 85, 86] [0, 1] rfl ?_
 try simp only [heat_furnace_showsLow.h0, c1, c9, aa yx10, c11, c12, c18, aa yx19, aa yx20, aa yx21, c22, aa yx23, c24, c25, go_sem]
 try simp only [c25, c1, c9, aa yx10, c11, c12, c18, aa yx19, aa yx20, aa yx21, c22, aa yx23, c24, go_sem]
 refine AKev_backB (hnext1 _ _ (Option.some.inj h1).symm ?_)
 refine Weak.go [1, 3, 6, 7, 10, 84, 85, 86] [0, 1] rfl ?_
 try simp only [heat_furnace_showsLow.h0, c1, c9, aa yx10, c11, c12, c18, aa yx19, aa yx20, aa yx21, c22, aa yx23, c24, c25, go_sem]
 have c24 := bnot_f c24
 try simp only [c24, c1, c9, aa yx10, c11, c12, c18, aa yx19, aa yx20, aa yx21, c22, aa yx23, go_sem]
 refine AKev_backB (hnext1 _ _ (Option.some.inj h1).symm ?_)
 refine Weak.go [1, 3, 6, 7, 10, 84, 85, 86] [0, 1] rfl ?_
 try simp only [heat_furnace_showsLow.h0, c1, c9, aa yx10, c11, c12, c18, aa yx19, aa yx20, aa yx21, c22, aa yx23, c24, go_sem]
 try simp only [c22, c1, c9, aa yx10, c11, c12, c18, aa yx19, aa yx20, aa yx21, go_sem]
 refine AKev_bif h1 ?_ ?_ <;> intro c26 h1
 try simp only [c26, c1, c9, aa yx10, c11, c12, c18, aa yx19, aa yx20, aa yx21, c22, go_sem]
 refine AKev_bif h1 ?_ ?_ <;> intro c27 h1
 try simp only [c27, c1, c9, aa yx10, c11, c12, c18, aa yx19, aa yx20, aa yx21, c22, c26, go_sem]
 obtain rfl := hret1 _ (Option.some.inj h1).symm
 simp only at h0
 obtain rfl := Option.some.inj h0
 refine AKev_ret rfl ?_
 try simp only [F115.rs, c1, c9, aa yx10, c11, c12, c18, aa yx19, aa yx20, aa yx21, c22, c26, c27, go_sem]
 try simp only [c27, c1, c9, aa yx10, c11, c12, c18, aa yx19, aa yx20, aa yx21, c22, c26, go_sem]
 refine AKev_backB (hnext1 _ _ (Option.some.inj h1).symm ?_)
 refine Weak.go [1, 3, 6, 7, 10, 84, 85, 86] [0, 1] rfl ?_
 try simp only [heat_furnace_showsLow.h0, c1, c9, aa yx10, c11, c12, c18, aa yx19, aa yx20, aa yx21, c22, c26, c27, go_sem]
 try simp only [c26, c1, c9, aa yx10, c11, c12, c18, aa yx19, aa yx20, aa yx21, c22, go_sem]
 obtain ⟨x28, yx28, h1⟩ := bs h1
 refine zc0 (heat_furnace_told_ok k _ _ _ yx28) ?_ (by first | rfl | simp [AV.refsL, AV.refs, AV.scal, AV.leaf]) ?_
 try simp only [c1, c9, aa yx10, c11, c12, c18, aa yx19, aa yx20, aa yx21, c22, c26, go_sem]
 try simp only [c1, c9, aa yx10, c11, c12, c18, aa yx19, aa yx20, aa yx21, c22, c26, go_sem]
 refine AKev_region T_ok follows_ok 1000 ?_
 try simp only [c1, c9, aa yx10, c11, c12, c18, aa yx19, aa yx20, aa yx21, c22, c26, go_sem]
 refine DG_bif h1 ?_ ?_ <;> intro c29 h1
 try simp only [c29, aa yx20, c1, c9, aa yx10, c11, c12, c18, aa yx19, aa yx21, c22, c26, go_sem]
 obtain ⟨x30, yx30, h1⟩ := bs h1
 try simp only [aa yx30, c1, c9, aa yx10, c11, c12, c18, aa yx19, aa yx20, aa yx21, c22, c26, c29, go_sem]
 refine DG_done ⟨rfl, run_sound T_ok 1000 _ _ ?_⟩
 try simp only [c1, c9, aa yx10, c11, c12, c18, aa yx19, aa yx20, aa yx21, c22, c26, c29, aa yx30, go_sem]
 refine AKev_bif h1 ?_ ?_ <;> intro c31 h1
 try simp only [c31, c1, c9, aa yx10, c11, c12, c18, aa yx19, aa yx20, aa yx21, c22, c26, c29, aa yx30, go_sem]
 obtain rfl := hret1 _ (Option.some.inj h1).symm
 simp only at h0
 obtain rfl := Option.some.inj h0
 refine AKev_ret rfl ?_
 try simp only [F115.rs, c1, c9, aa yx10, c11, c12, c18, aa yx19, aa yx20, aa yx21, c22, c26, c29, aa yx30, c31, go_sem]
 try simp only [c31, c1, c9, aa yx10, c11, c12, c18, aa yx19, aa yx20, aa yx21, c22, c26, c29, aa yx30, go_sem]
 refine AKev_backB (hnext1 _ _ (Option.some.inj h1).symm ?_)
 refine Weak.go [1, 3, 6, 7, 10, 84, 85, 86] [0, 1] rfl ?_
 try simp only [heat_furnace_showsLow.h0, c1, c9, aa yx10, c11, c12, c18, aa yx19, aa yx20, aa yx21, c22, c26, c29, aa yx30, c31, go_sem]
 try simp only [c29, c1, c9, aa yx10, c11, c12, c18, aa yx19, aa yx20, aa yx21, c22, c26, go_sem]
 refine DG_done ⟨rfl, run_sound T_ok 1000 _ _ ?_⟩
 try simp only [c1, c9, aa yx10, c11, c12, c18, aa yx19, aa yx20, aa yx21, c22, c26, c29, go_sem]
 obtain rfl := hret1 _ (Option.some.inj h1).symm
 simp only at h0
 obtain rfl := Option.some.inj h0
 refine AKev_ret rfl ?_
 try simp only [F115.rs, c1, c9, aa yx10, c11, c12, c18, aa yx19, aa yx20, aa yx21, c22, c26, c29, go_sem]
 try simp only [c18, c1, c9, aa yx10, c11, c12, go_sem]
 refine AKev_backB (hbrk1 _ _ (Option.some.inj h1).symm ?_)
 refine Weak.go [6, 7] [] rfl ?_
 try simp only [heat_furnace_showsLow.x0, c1, c9, aa yx10, c11, c12, c18, go_sem]
 rintro ⟨i16, b17⟩ hr_
 subst hr_
 simp only at h0
 refine rS ?_
 try simp only [heat_furnace_showsLow.x0, c1, c9, aa yx10, c11, c12, go_sem]
 obtain rfl := Option.some.inj h0
 refine AKev_ret rfl ?_
 try simp only [F115.rs, c1, c9, aa yx10, c11, c12, go_sem]
def F65.c : SC :=
 (.seq
 (.reg [oq 5 (.box 27 (.tmp 0)) 0 [0],
 oq 9 (.box 57 (.tmp 4)) 0 [4],
 sn 10 0 33 [10]])
 (.seq
 (.block 0
 (.seq
 (.reg [ld 17 27 5 [],
 cf1 18 42 17 27 33 [17],
 bn 19 .neq 33 18 0 33 4 [18],
 sg 16 19 4 [19]])
 (.cond (.tmp 16)
 (.seq
 (.reg [sn 10 42 33 []])
 .ret)
 (.seq
 (.reg [mv 21 1 3 [],
 fa 22 27 5 0 [],
 fa 23 24 22 0 [22],
 ld 24 22 23 [23],
 oq 25 (.indexAddr 22 (.tmp 24) (.const (.int .i64 0))) 0 [24],
 ld 26 89 25 [25],
 ln 27 26 89 3 [26],
 bn 28 .sub 3 27 1 3 3 [27],
 oq 29 (.call ⟨.value (.func 58), #[.tmp 21, .const (.int .i64 0), .tmp 28], #[3, 3, 3]⟩) 4 [21, 28],
 oq 30 (.unOp .not 4 (.tmp 29)) 4 [29],
 sg 20 30 4 [30]])
 (.cond (.tmp 20)
 (.seq
 (.reg [sn 10 43 33 []])
 .ret)
 .skip)))))
 (.seq
 (.reg [ld 31 27 5 [5],
 cf1 32 66 31 27 81 [31],
 oq 11 (.alloc 81) 0 [],
 ⟨none, .store 81 (.tmp 11) (.tmp 32), 0, none, [32]⟩])
 (.seq
 (.reg [ld 34 81 11 [],
 mv 35 1 3 [],
 ld 36 57 9 [],
 oq 37 (.call ⟨.value (.func 114), #[.tmp 34, .tmp 35, .tmp 36], #[81, 3, 57]⟩) 126 [34, 35, 36],
 mv 33 37 126 [37],
 xt 38 33 0 3 [],
 xt 39 33 1 4 [33],
 sg 12 38 3 [38],
 sg 13 39 4 [39]])
 (.seq
 (.reg [mv 40 12 3 [12],
 mv 41 3 3 [],
 b2 42 .leq 3 40 41 3 4 [40, 41],
 sg 14 42 4 [42]])
 (.seq
 (.seq
 (.reg [mv 43 2 4 [2],
 oq 44 (.unOp .not 4 (.tmp 43)) 4 [43]])
 (.cond (.tmp 44)
 (.seq
 (.reg [sb 15 false 4 [15]])
 (.seq
 (.reg [ld 46 81 11 [11],
 mv 47 1 3 [1],
 ld 48 57 9 [9],
 oq 49 (.call ⟨.value (.func 115), #[.tmp 46, .tmp 47, .tmp 48], #[81, 3, 57]⟩) 143 [46, 47, 48],
 mv 45 49 143 [49],
 xt 50 45 0 3 [],
 xt 51 45 1 4 [],
 xt 52 45 2 4 [45],
 sg 12 50 3 [50],
 sg 15 51 4 [51],
 sg 13 52 4 [52]])
 (.reg [mv 53 15 4 [15],
 mv 54 53 4 [53],
 og 55 (.move (.tmp 12)) 3 54 false [12],
 og 56 (.move (.tmp 3)) 3 54 false [3],
 og 57 (.binOp .geq 3 (.tmp 55) (.tmp 56) 3) 4 54 false [55, 56],
 oq 58 (.pick (.tmp 54) (.const (.bool true)) (.tmp 57)) 4 [54, 57],
 sg 14 58 4 [58]])))
 .skip))
 (.seq
 (.block 1
 (.seq
 (.reg [mv 60 13 4 [13],
 oq 61 (.unOp .not 4 (.tmp 60)) 4 [60],
 sg 59 61 4 [61]])
 (.cond (.tmp 59)
 (.seq
 (.reg [sn 10 46 33 []])
 .ret)
 (.seq
 (.reg [mv 63 14 4 [14],
 oq 64 (.unOp .not 4 (.tmp 63)) 4 [63],
 sg 62 64 4 [64]])
 (.cond (.tmp 62)
 (.seq
 (.reg [sn 10 47 33 []])
 .ret)
 .skip)))))
 (.seq
 (.reg [sn 10 0 33 []])
 .ret))))))))
theorem F65.rs : Tryz.f65.results.toList = [.tmp 10] := rfl
def heat_CheckProof (k : Nat) (f0 : Firing) (place1 : Int) (high2 : Bool) (n3 : Int) (p4 : HeatProof) : Option (Int) :=
 (heat_Check k f0).bind fun x1 =>
 bif (!decide (x1 = (0 : Int))) then
  some 42
 else
  (at? f0.Kiln.Falls 0).bind fun x3 =>
  (heat_in k place1 0 (w64 ((x3.length : Int) - 1))).bind fun x4 =>
  bif (!x4) then
   some 43
  else
   (heat_newFurnace k f0).bind fun x6 =>
   (heat_furnace_showsHigh k x6 place1 p4).bind fun x7 =>
   bif (!high2) then
    (heat_furnace_showsLow k x6 place1 p4).bind fun x9 =>
    bif (!x9.2.1) then
     bif (!x9.2.2) then
      some 46
     else
      bif (!decide (n3 ≤ x9.1)) then
       some 47
      else
       some 0
    else
     bif (!x9.2.2) then
      some 46
     else
      some 0
   else
    bif (!x7.2) then
     some 46
    else
     bif (!decide (x7.1 ≤ n3)) then
      some 47
     else
      some 0
theorem heat_CheckProof_ok (k : Nat) (f0 : Firing) (place1 : Int) (high2 : Bool) (n3 : Int) (p4 : HeatProof) (r : Int) (h0 : heat_CheckProof k f0 place1 high2 n3 p4 = some r) : PCall Tryz.prog 65 [.agg (Firing.c f0), .int .i64 place1, .bool high2, .int .i64 n3, .agg (HeatProof.c p4)] (fun y => y = .int .i64 r) := by
 refine PB (fn := Tryz.f65) (sc := F65.c) ?_
 refine rS ?_
 simp only [heat_CheckProof] at h0
 try simp only [F65.c, go_sem]
 obtain ⟨x1, yx1, h0⟩ := bs h0
 refine zc0 (heat_Check_ok k _ _ yx1) ?_ (by first | rfl | simp [AV.refsL, AV.refs, AV.scal, AV.leaf]) ?_
 try simp only [go_sem]
 try simp only [go_sem]
 refine AKev_bif h0 ?_ ?_ <;> intro c2 h0
 have c2 := bnot_t c2
 try simp only [c2, go_sem]
 obtain rfl := Option.some.inj h0
 refine AKev_ret rfl ?_
 try simp only [F65.rs, c2, go_sem]
 have c2 := bnot_f c2
 try simp only [c2, go_sem]
 obtain ⟨x3, yx3, h0⟩ := bs h0
 try simp only [aa yx3, c2, go_sem]
 obtain ⟨x4, yx4, h0⟩ := bs h0
 refine zc0 (heat_in_ok k _ _ _ _ yx4) ?_ (by first | rfl | simp [AV.refsL, AV.refs, AV.scal, AV.leaf]) ?_
 try simp only [c2, aa yx3, go_sem]
 try simp only [c2, aa yx3, go_sem]
 refine AKev_bif h0 ?_ ?_ <;> intro c5 h0
 have c5 := bnot_t c5
 try simp only [c5, c2, aa yx3, go_sem]
 obtain rfl := Option.some.inj h0
 refine AKev_ret rfl ?_
 try simp only [F65.rs, c2, aa yx3, c5, go_sem]
 have c5 := bnot_f c5
 try simp only [c5, c2, aa yx3, go_sem]
 obtain ⟨x6, yx6, h0⟩ := bs h0
 refine zc0 (heat_newFurnace_ok k _ _ yx6) ?_ (by first | rfl | simp [AV.refsL, AV.refs, AV.scal, AV.leaf]) ?_
 try simp only [c2, aa yx3, c5, go_sem]
 try simp only [c2, aa yx3, c5, go_sem]
 obtain ⟨x7, yx7, h0⟩ := bs h0
 refine zc0 (heat_furnace_showsHigh_ok k _ _ _ _ yx7) ?_ (by first | rfl | simp [AV.refsL, AV.refs, AV.scal, AV.leaf]) ?_
 try simp only [c2, aa yx3, c5, go_sem]
 try simp only [c2, aa yx3, c5, go_sem]
 refine AKev_bif h0 ?_ ?_ <;> intro c8 h0
 have c8 := bnot_t c8
 try simp only [c8, c2, aa yx3, c5, go_sem]
 obtain ⟨x9, yx9, h0⟩ := bs h0
 refine zc0 (heat_furnace_showsLow_ok k _ _ _ _ yx9) ?_ (by first | rfl | simp [AV.refsL, AV.refs, AV.scal, AV.leaf]) ?_
 try simp only [c2, aa yx3, c5, c8, go_sem]
 try simp only [c2, aa yx3, c5, c8, go_sem]
 refine AKev_bif h0 ?_ ?_ <;> intro c10 h0
 have c10 := bnot_t c10
 try simp only [c10, c2, aa yx3, c5, c8, go_sem]
 refine AKev_bif h0 ?_ ?_ <;> intro c11 h0
 have c11 := bnot_t c11
 try simp only [c11, c2, aa yx3, c5, c8, c10, go_sem]
 obtain rfl := Option.some.inj h0
 refine AKev_ret rfl ?_
 try simp only [F65.rs, c2, aa yx3, c5, c8, c10, c11, go_sem]
 have c11 := bnot_f c11
 try simp only [c11, c2, aa yx3, c5, c8, c10, go_sem]
 refine AKev_bif h0 ?_ ?_ <;> intro c12 h0
 have c12 := bnot_t c12
 try simp only [c12, c2, aa yx3, c5, c8, c10, c11, go_sem]
 obtain rfl := Option.some.inj h0
 refine AKev_ret rfl ?_
 try simp only [F65.rs, c2, aa yx3, c5, c8, c10, c11, c12, go_sem]
 have c12 := bnot_f c12
 try simp only [c12, c2, aa yx3, c5, c8, c10, c11, go_sem]
 obtain rfl := Option.some.inj h0
 refine AKev_ret rfl ?_
 try simp only [F65.rs, c2, aa yx3, c5, c8, c10, c11, c12, go_sem]
 have c10 := bnot_f c10
 try simp only [c10, c2, aa yx3, c5, c8, go_sem]
 refine AKev_bif h0 ?_ ?_ <;> intro c13 h0
 have c13 := bnot_t c13
 try simp only [c13, c2, aa yx3, c5, c8, c10, go_sem]
 obtain rfl := Option.some.inj h0
 refine AKev_ret rfl ?_
 try simp only [F65.rs, c2, aa yx3, c5, c8, c10, c13, go_sem]
 have c13 := bnot_f c13
 try simp only [c13, c2, aa yx3, c5, c8, c10, go_sem]
 obtain rfl := Option.some.inj h0
 refine AKev_ret rfl ?_
 try simp only [F65.rs, c2, aa yx3, c5, c8, c10, c13, go_sem]
 have c8 := bnot_f c8
 try simp only [c8, c2, aa yx3, c5, go_sem]
 refine AKev_bif h0 ?_ ?_ <;> intro c14 h0
 have c14 := bnot_t c14
 try simp only [c14, c2, aa yx3, c5, c8, go_sem]
 obtain rfl := Option.some.inj h0
 refine AKev_ret rfl ?_
 try simp only [F65.rs, c2, aa yx3, c5, c8, c14, go_sem]
 have c14 := bnot_f c14
 try simp only [c14, c2, aa yx3, c5, c8, go_sem]
 refine AKev_bif h0 ?_ ?_ <;> intro c15 h0
 have c15 := bnot_t c15
 try simp only [c15, c2, aa yx3, c5, c8, c14, go_sem]
 obtain rfl := Option.some.inj h0
 refine AKev_ret rfl ?_
 try simp only [F65.rs, c2, aa yx3, c5, c8, c14, c15, go_sem]
 have c15 := bnot_f c15
 try simp only [c15, c2, aa yx3, c5, c8, c14, go_sem]
 obtain rfl := Option.some.inj h0
 refine AKev_ret rfl ?_
 try simp only [F65.rs, c2, aa yx3, c5, c8, c14, c15, go_sem]
def F15.c : SC :=
 (.seq
 (.reg [sb 0 false 4 [0]])
 (.seq
 (.reg [oq 12 (.call ⟨.value (.func 63), #[], #[]⟩) 27 [],
 cf1 13 48 12 27 47 [12],
 mv 11 13 47 [13],
 xt 14 11 0 37 [],
 xt 15 11 1 33 [11],
 sg 1 14 37 [14],
 sg 2 15 33 [15]])
 (.seq
 (.reg [oq 17 (.call ⟨.value (.func 63), #[], #[]⟩) 27 [],
 oq 18 (.call ⟨.value (.func 21), #[.tmp 17, .const (.int .i64 1)], #[27, 3]⟩) 52 [17],
 mv 16 18 52 [18],
 xt 19 16 0 30 [],
 xt 20 16 1 33 [16],
 oq 3 (.alloc 30) 0 [],
 ⟨none, .store 30 (.tmp 3) (.tmp 19), 0, none, [19]⟩,
 sg 4 20 33 [20]])
 (.seq
 (.reg [oq 22 (.call ⟨.value (.func 63), #[], #[]⟩) 27 [],
 oq 23 (.build 30 #[(0, .const (.int .i64 900)), (1, .const (.int .i64 950))]) 30 [],
 oq 24 (.call ⟨.value (.func 10), #[.tmp 22, .const (.int .i64 1), .tmp 23], #[27, 3, 30]⟩) 34 [22, 23],
 mv 21 24 34 [24],
 xt 25 21 0 3 [],
 xt 26 21 1 33 [21],
 sg 5 25 3 [25],
 sg 6 26 33 [26]])
 (.seq
 (.reg [oq 28 (.call ⟨.value (.func 64), #[], #[]⟩) 24 [],
 oq 29 (.call ⟨.value (.func 63), #[], #[]⟩) 27 [],
 oq 30 (.field 27 (.tmp 29) 1) 25 [29],
 oq 31 (.build 64 #[(0, .const (.int .i64 4)), (1, .const (.int .i64 1)), (2, .const (.int .i64 2)), (3, .const (.int .i64 600))]) 64 [],
 oq 32 (.buildSlice 25 1 #[(0, .tmp 31)]) 25 [31],
 oq 33 (.call ⟨.builtin .append, #[.tmp 30, .tmp 32], #[25, 25]⟩) 25 [30, 32],
 oq 34 (.build 27 #[(0, .tmp 28), (1, .tmp 33)]) 27 [28, 33],
 cf1 35 16 34 27 47 [34],
 mv 27 35 47 [35],
 xt 36 27 0 37 [],
 xt 37 27 1 33 [27],
 sg 7 36 37 [36],
 sg 8 37 33 [37]])
 (.seq
 (.reg [oq 38 (.call ⟨.value (.func 63), #[], #[]⟩) 27 [],
 oq 39 (.buildSlice 37 2 #[(0, .const (.int .i64 (-1))), (1, .const (.int .i64 2))]) 37 [],
 oq 40 (.build 57 #[(0, .const (.int .i64 0)), (1, .tmp 39)]) 57 [39],
 oq 41 (.call ⟨.value (.func 65), #[.tmp 38, .const (.int .i64 1), .const (.bool false), .const (.int .i64 700), .tmp 40], #[27, 3, 4, 3, 57]⟩) 33 [38, 40],
 sg 9 41 33 [41]])
 (.seq
 (.reg [mv 42 2 33 [2],
 bn 43 .eql 33 42 0 33 4 [42],
 mv 44 43 4 [43],
 og 45 (.move (.tmp 4)) 33 44 true [4],
 og 46 (.binOp .eql 33 (.tmp 45) (.const (.int .i64 0)) 33) 4 44 true [45],
 oq 47 (.pick (.tmp 44) (.tmp 46) (.const (.bool false))) 4 [44, 46],
 mv 48 47 4 [47],
 og 49 (.move (.tmp 6)) 33 48 true [6],
 og 50 (.binOp .eql 33 (.tmp 49) (.const (.int .i64 0)) 33) 4 48 true [49],
 oq 51 (.pick (.tmp 48) (.tmp 50) (.const (.bool false))) 4 [48, 50],
 mv 52 51 4 [51],
 og 53 (.move (.tmp 8)) 33 52 true [8],
 og 54 (.binOp .eql 33 (.tmp 53) (.const (.int .i64 0)) 33) 4 52 true [53],
 oq 55 (.pick (.tmp 52) (.tmp 54) (.const (.bool false))) 4 [52, 54],
 mv 56 55 4 [55],
 og 57 (.move (.tmp 9)) 33 56 true [9],
 og 58 (.binOp .eql 33 (.tmp 57) (.const (.int .i64 0)) 33) 4 56 true [57],
 oq 59 (.pick (.tmp 56) (.tmp 58) (.const (.bool false))) 4 [56, 58],
 sg 10 59 4 [59]])
 (.seq
 (.reg [mv 60 10 4 [10],
 mv 61 60 4 [60],
 og 62 (.move (.tmp 1)) 37 61 true [1],
 og 63 (.buildSlice 37 2 #[(0, .const (.int .i64 1300)), (1, .const (.int .i64 1100))]) 37 61 true [],
 og 64 (.call ⟨.value (.func 18), #[.tmp 62, .tmp 63], #[37, 37]⟩) 4 61 true [62, 63],
 oq 65 (.pick (.tmp 61) (.tmp 64) (.const (.bool false))) 4 [61, 64],
 mv 66 65 4 [65],
 og 67 (.load 30 (.tmp 3)) 30 66 true [3],
 og 68 (.build 30 #[(0, .const (.int .i64 700)), (1, .const (.int .i64 1000))]) 30 66 true [],
 og 69 (.binOp .eql 30 (.tmp 67) (.tmp 68) 30) 4 66 true [67, 68],
 oq 70 (.pick (.tmp 66) (.tmp 69) (.const (.bool false))) 4 [66, 69],
 mv 71 70 4 [70],
 og 72 (.move (.tmp 5)) 3 71 true [5],
 og 73 (.binOp .eql 3 (.tmp 72) (.const (.int .i64 2)) 3) 4 71 true [72],
 oq 74 (.pick (.tmp 71) (.tmp 73) (.const (.bool false))) 4 [71, 73],
 mv 75 74 4 [74],
 og 76 (.move (.tmp 7)) 37 75 true [7],
 og 77 (.buildSlice 37 2 #[(0, .const (.int .i64 1)), (1, .const (.int .i64 4))]) 37 75 true [],
 og 78 (.call ⟨.value (.func 18), #[.tmp 76, .tmp 77], #[37, 37]⟩) 4 75 true [76, 77],
 oq 79 (.pick (.tmp 75) (.tmp 78) (.const (.bool false))) 4 [75, 78],
 sg 0 79 4 [79]])
 .ret))))))))
theorem F15.rs : Tryz.f15.results.toList = [.tmp 0] := rfl
def L04_sane (k : Nat) : Option (Bool) :=
 (L04_firing_o k).bind fun x2 =>
 (heat_Hottest k x2).bind fun x3 =>
 (L04_firing_o k).bind fun x5 =>
 (heat_Bound k x5 1).bind fun x6 =>
 (L04_firing_o k).bind fun x8 =>
 (heat_Verdict k x8 1 (⟨900, 950⟩ : Range)).bind fun x9 =>
 (L04_kiln k).bind fun x10 =>
 (L04_firing_o k).bind fun x12 =>
 (push? 48 x12.Readings (⟨4, 1, 2, 600, (⟨0, 0⟩ : Range)⟩ : Reading)).bind fun l13 =>
 (heat_Conflict k (⟨x10, l13⟩ : Firing)).bind fun x14 =>
 (L04_firing_o k).bind fun x16 =>
 (heat_CheckProof k x16 1 false 700 (⟨0, [-1, 2]⟩ : HeatProof)).bind fun x17 =>
 bif decide (x3.2 = (0 : Int)) then
  bif decide (x6.2 = (0 : Int)) then
   bif decide (x9.2 = (0 : Int)) then
    bif decide (x14.2 = (0 : Int)) then
     bif decide (x17 = (0 : Int)) then
      (R01_Same k x3.1 [1300, 1100]).bind fun x23 =>
      bif x23 then
       bif (decide (x6.1.Lo = (700 : Int)) && decide (x6.1.Hi = (1000 : Int))) then
        bif decide (x9.1 = (2 : Int)) then
         (R01_Same k x14.1 [1, 4]).bind fun x27 =>
         some x27
        else
         some false
       else
        some false
      else
       some false
     else
      some false
    else
     some false
   else
    some false
  else
   some false
 else
  some false
theorem L04_sane_ok (k : Nat) (r : Bool) (h0 : L04_sane k = some r) : PCall Tryz.prog 15 [] (fun y => y = .bool r) := by
 refine PB (fn := Tryz.f15) (sc := F15.c) ?_
 refine rS ?_
 simp only [L04_sane] at h0
 try simp only [F15.c, go_sem]
 obtain ⟨x2, yx2, h0⟩ := bs h0
 refine AKev_giveF [] [] (L04_firing_o_ok k _ yx2) ?_ rfl ?_
 try simp only [gOK, go_sem]
 try simp only [go_sem]
 refine rS ?_
 try simp only [go_sem]
 obtain ⟨x3, yx3, h0⟩ := bs h0
 refine zcT [16] (heat_Hottest_ok k _ _ yx3) ?_ ?_
 try simp only [go_sem]
 try simp only [go_sem]
 obtain ⟨x5, yx5, h0⟩ := bs h0
 refine AKev_giveF [] [] (L04_firing_o_ok k _ yx5) ?_ rfl ?_
 try simp only [gOK, go_sem]
 try simp only [go_sem]
 refine rS ?_
 try simp only [go_sem]
 obtain ⟨x6, yx6, h0⟩ := bs h0
 refine zcT [128] (heat_Bound_ok k _ _ _ yx6) ?_ ?_
 try simp only [go_sem]
 try simp only [go_sem]
 obtain ⟨x8, yx8, h0⟩ := bs h0
 refine AKev_giveF [] [] (L04_firing_o_ok k _ yx8) ?_ rfl ?_
 try simp only [gOK, go_sem]
 try simp only [go_sem]
 refine rS ?_
 try simp only [go_sem]
 obtain ⟨x9, yx9, h0⟩ := bs h0
 refine zc0 (heat_Verdict_ok k _ _ _ _ yx9) ?_ (by first | rfl | simp [AV.refsL, AV.refs, AV.scal, AV.leaf]) ?_
 try simp only [go_sem]
 try simp only [go_sem]
 obtain ⟨x10, yx10, h0⟩ := bs h0
 refine zc0 (L04_kiln_ok k _ yx10) ?_ (by first | rfl | simp [AV.refsL, AV.refs, AV.scal, AV.leaf]) ?_
 try simp only [go_sem]
 try simp only [go_sem]
 obtain ⟨x12, yx12, h0⟩ := bs h0
 refine AKev_giveF [] [] (L04_firing_o_ok k _ yx12) ?_ rfl ?_
 try simp only [gOK, go_sem]
 try simp only [go_sem]
 refine rS ?_
 try simp only [go_sem]
 obtain ⟨l13, yl13, h0⟩ := bs h0
 have eyl13 := push_map Reading.c yl13
 have tyl13 := push_take Reading.c yl13
 have nyl13 := push_len yl13
 have myl13 := push_room yl13
 try simp only [go_sem] at eyl13 tyl13 nyl13 myl13
 try simp only [myl13, eyl13, nyl13, tyl13, go_sem]
 obtain ⟨x14, yx14, h0⟩ := bs h0
 refine zcT [400] (heat_Conflict_ok k _ _ yx14) ?_ ?_
 try simp only [eyl13, nyl13, tyl13, go_sem]
 try simp only [eyl13, nyl13, tyl13, go_sem]
 obtain ⟨x16, yx16, h0⟩ := bs h0
 refine AKev_giveF [] [] (L04_firing_o_ok k _ yx16) ?_ rfl ?_
 try simp only [gOK, eyl13, nyl13, tyl13, go_sem]
 try simp only [eyl13, nyl13, tyl13, go_sem]
 refine rS ?_
 try simp only [eyl13, nyl13, tyl13, go_sem]
 obtain ⟨x17, yx17, h0⟩ := bs h0
 refine zc0 (heat_CheckProof_ok k _ _ _ _ _ _ yx17) ?_ (by first | rfl | simp [AV.refsL, AV.refs, AV.scal, AV.leaf]) ?_
 try simp only [eyl13, nyl13, tyl13, go_sem]
 try simp only [eyl13, nyl13, tyl13, go_sem]
 refine AKev_bif h0 ?_ ?_ <;> intro c18 h0
 try simp only [c18, eyl13, nyl13, tyl13, go_sem]
 refine AKev_bif h0 ?_ ?_ <;> intro c19 h0
 try simp only [c19, eyl13, nyl13, tyl13, c18, go_sem]
 refine AKev_bif h0 ?_ ?_ <;> intro c20 h0
 try simp only [c20, eyl13, nyl13, tyl13, c18, c19, go_sem]
 refine AKev_bif h0 ?_ ?_ <;> intro c21 h0
 try simp only [c21, eyl13, nyl13, tyl13, c18, c19, c20, go_sem]
 refine AKev_bif h0 ?_ ?_ <;> intro c22 h0
 try simp only [c22, eyl13, nyl13, tyl13, c18, c19, c20, c21, go_sem]
 obtain ⟨x23, yx23, h0⟩ := bs h0
 refine zc0 (R01_Same_ok k _ _ _ yx23) ?_ (by first | rfl | simp [AV.refsL, AV.refs, AV.scal, AV.leaf]) ?_
 try simp only [eyl13, nyl13, tyl13, c18, c19, c20, c21, c22, go_sem]
 try simp only [eyl13, nyl13, tyl13, c18, c19, c20, c21, c22, go_sem]
 refine AKev_bif h0 ?_ ?_ <;> intro c24 h0
 try simp only [c24, eyl13, nyl13, tyl13, c18, c19, c20, c21, c22, go_sem]
 refine AKev_bif h0 ?_ ?_ <;> intro c25 h0
 try simp only [c25, eyl13, nyl13, tyl13, c18, c19, c20, c21, c22, c24, go_sem]
 refine AKev_bif h0 ?_ ?_ <;> intro c26 h0
 try simp only [c26, eyl13, nyl13, tyl13, c18, c19, c20, c21, c22, c24, c25, go_sem]
 obtain ⟨x27, yx27, h0⟩ := bs h0
 refine zc0 (R01_Same_ok k _ _ _ yx27) ?_ (by first | rfl | simp [AV.refsL, AV.refs, AV.scal, AV.leaf]) ?_
 try simp only [eyl13, nyl13, tyl13, c18, c19, c20, c21, c22, c24, c25, c26, go_sem]
 try simp only [eyl13, nyl13, tyl13, c18, c19, c20, c21, c22, c24, c25, c26, go_sem]
 obtain rfl := Option.some.inj h0
 refine AKev_ret rfl ?_
 try simp only [F15.rs, eyl13, nyl13, tyl13, c18, c19, c20, c21, c22, c24, c25, c26, go_sem]
 try simp only [c26, eyl13, nyl13, tyl13, c18, c19, c20, c21, c22, c24, c25, go_sem]
 obtain rfl := Option.some.inj h0
 refine AKev_ret rfl ?_
 try simp only [F15.rs, eyl13, nyl13, tyl13, c18, c19, c20, c21, c22, c24, c25, c26, go_sem]
 try simp only [c25, eyl13, nyl13, tyl13, c18, c19, c20, c21, c22, c24, go_sem]
 obtain rfl := Option.some.inj h0
 refine AKev_ret rfl ?_
 try simp only [F15.rs, eyl13, nyl13, tyl13, c18, c19, c20, c21, c22, c24, c25, go_sem]
 try simp only [c24, eyl13, nyl13, tyl13, c18, c19, c20, c21, c22, go_sem]
 obtain rfl := Option.some.inj h0
 refine AKev_ret rfl ?_
 try simp only [F15.rs, eyl13, nyl13, tyl13, c18, c19, c20, c21, c22, c24, go_sem]
 try simp only [c22, eyl13, nyl13, tyl13, c18, c19, c20, c21, go_sem]
 obtain rfl := Option.some.inj h0
 refine AKev_ret rfl ?_
 try simp only [F15.rs, eyl13, nyl13, tyl13, c18, c19, c20, c21, c22, go_sem]
 try simp only [c21, eyl13, nyl13, tyl13, c18, c19, c20, go_sem]
 obtain rfl := Option.some.inj h0
 refine AKev_ret rfl ?_
 try simp only [F15.rs, eyl13, nyl13, tyl13, c18, c19, c20, c21, go_sem]
 try simp only [c20, eyl13, nyl13, tyl13, c18, c19, go_sem]
 obtain rfl := Option.some.inj h0
 refine AKev_ret rfl ?_
 try simp only [F15.rs, eyl13, nyl13, tyl13, c18, c19, c20, go_sem]
 try simp only [c19, eyl13, nyl13, tyl13, c18, go_sem]
 obtain rfl := Option.some.inj h0
 refine AKev_ret rfl ?_
 try simp only [F15.rs, eyl13, nyl13, tyl13, c18, c19, go_sem]
 try simp only [c18, eyl13, nyl13, tyl13, go_sem]
 obtain rfl := Option.some.inj h0
 refine AKev_ret rfl ?_
 try simp only [F15.rs, eyl13, nyl13, tyl13, c18, go_sem]
def F113.c : SC :=
 (.seq
 (.reg [oq 1 (.box 64 (.tmp 0)) 0 [0],
 sn 2 0 3 [2],
 sn 3 0 3 [3]])
 (.seq
 (.seq
 (.reg [fa 4 64 1 2 [],
 ld 5 3 4 [4]])
 (.block 0
 (.seq
 (.reg [bn 7 .eql 3 5 1 3 4 [],
 sg 6 7 4 [7]])
 (.cond (.tmp 6)
 (.seq
 (.reg [fa 8 64 1 3 [1],
 ld 9 3 8 [8],
 sg 2 9 3 [9],
 sn 3 1000000 3 []])
 .ret)
 (.seq
 (.reg [bn 11 .eql 3 5 2 3 4 [5],
 sg 10 11 4 [11]])
 (.cond (.tmp 10)
 (.seq
 (.dreg [fa 12 64 1 3 [],
 ld 13 3 12 [],
 bn 14 .sub 3 13 1 3 3 [],
 sn 2 (-1000000) 3 [],
 sg 3 14 3 []] [[], [0], [0, 1], [], [0, 1, 2, 3]] [1, 12, 13, 14])
 .ret)
 .skip))))))
 (.seq
 (.dreg [fa 15 64 1 4 [],
 fa 16 30 15 0 [],
 ld 17 3 16 [],
 fa 18 64 1 4 [],
 fa 19 30 18 1 [],
 ld 20 3 19 [],
 sg 2 17 3 [],
 sg 3 20 3 []] [[], [0], [0, 1], [], [3], [3, 4], [0, 1, 2], [3, 4, 5, 0, 1, 2, 6]] [1, 15, 16, 17, 18, 19, 20])
 .ret)))
theorem F113.rs : Tryz.f113.results.toList = [.tmp 2, .tmp 3] := rfl
def R04_Least (k : Nat) (r0 : Reading) : Option (Int × Int) :=
 bif decide (r0.Kind = (1 : Int)) then
  some (r0.Mark, 1000000)
 else
  bif decide (r0.Kind = (2 : Int)) then
   some (-1000000, w64 (r0.Mark - 1))
  else
   some (r0.Heat.Lo, r0.Heat.Hi)
theorem R04_Least_ok (k : Nat) (r0 : Reading) (r : Int × Int) (h0 : R04_Least k r0 = some r) : PCall Tryz.prog 113 [.agg (Reading.c r0)] (fun y => y = .tup [.int .i64 r.1, .int .i64 r.2]) := by
 refine PB (fn := Tryz.f113) (sc := F113.c) ?_
 refine rS ?_
 simp only [R04_Least] at h0
 try simp only [F113.c, go_sem]
 refine AKev_bif h0 ?_ ?_ <;> intro c1 h0
 try simp only [c1, go_sem]
 obtain rfl := Option.some.inj h0
 refine AKev_ret rfl ?_
 try simp only [F113.rs, c1, go_sem]
 try simp only [c1, go_sem]
 refine AKev_bif h0 ?_ ?_ <;> intro c2 h0
 try simp only [c2, c1, go_sem]
 refine AKev_region T_ok follows_ok 1000 ?_
 try simp only [c1, c2, go_sem]
 refine DG_done ⟨rfl, run_sound T_ok 1000 _ _ ?_⟩
 try simp only [c1, c2, go_sem]
 obtain rfl := Option.some.inj h0
 refine AKev_ret rfl ?_
 try simp only [F113.rs, c1, c2, go_sem]
 try simp only [c2, c1, go_sem]
 refine AKev_region T_ok follows_ok 1000 ?_
 try simp only [c1, c2, go_sem]
 refine DG_done ⟨rfl, run_sound T_ok 1000 _ _ ?_⟩
 try simp only [c1, c2, go_sem]
 obtain rfl := Option.some.inj h0
 refine AKev_ret rfl ?_
 try simp only [F113.rs, c1, c2, go_sem]
def F111.s1 : SC :=
 (.seq
 (.seq
 (.reg [mv 26 5 3 [],
 fa 27 27 1 1 [],
 ld 28 25 27 [27],
 ln 29 28 25 3 [28],
 b2 30 .lss 3 26 29 3 4 [26, 29]])
 (.cond (.tmp 30)
 .skip
 (.exit 2)))
 (.seq
 (.block 3
 (.seq
 (.reg [fa 34 27 1 1 [],
 ld 35 25 34 [34],
 mv 36 5 3 [],
 ia 37 25 35 36 [35, 36],
 ld 38 64 37 [37],
 cf1 39 113 38 64 132 [38],
 mv 33 39 132 [39],
 xt 40 33 0 3 [],
 xt 41 33 1 3 [33],
 sg 6 40 3 [40],
 sg 7 41 3 [41]])
 (.seq
 (.reg [fa 42 27 1 1 [],
 ld 43 25 42 [42],
 mv 44 5 3 [],
 ia 45 25 43 44 [43, 44],
 fa 46 64 45 1 [45],
 ld 47 3 46 [46],
 sg 8 47 3 [47]])
 (.seq
 (.reg [mv 48 3 89 [],
 mv 49 8 3 [],
 mv 50 3 89 [],
 mv 51 8 3 [],
 ia 52 89 50 51 [50, 51],
 fa 53 30 52 0 [52],
 ld 54 3 53 [53],
 mv 55 6 3 [6],
 oq 56 (.call ⟨.builtin .max, #[.tmp 54, .tmp 55], #[3, 3]⟩) 3 [54, 55],
 ia 57 89 48 49 [48, 49],
 fa 58 30 57 0 [57],
 ⟨none, .store 3 (.tmp 58) (.tmp 56), 0, none, [56, 58]⟩])
 (.reg [mv 59 3 89 [],
 mv 60 8 3 [],
 mv 61 3 89 [],
 mv 62 8 3 [8],
 ia 63 89 61 62 [61, 62],
 fa 64 30 63 1 [63],
 ld 65 3 64 [64],
 mv 66 7 3 [7],
 oq 67 (.call ⟨.builtin .min, #[.tmp 65, .tmp 66], #[3, 3]⟩) 3 [65, 66],
 ia 68 89 59 60 [59, 60],
 fa 69 30 68 1 [68],
 ⟨none, .store 3 (.tmp 69) (.tmp 67), 0, none, [67, 69]⟩])))))
 (.reg [mv 31 5 3 [5],
 bn 32 .add 3 31 1 3 3 [31],
 sg 5 32 3 [32]])))
def F111.s0 : SC :=
 (.seq
 (.seq
 (.reg [mv 16 4 3 [],
 mv 17 3 89 [],
 ln 18 17 89 3 [17],
 b2 19 .lss 3 16 18 3 4 [16, 18]])
 (.cond (.tmp 19)
 .skip
 (.exit 0)))
 (.seq
 (.block 1
 (.reg [mv 22 3 89 [],
 mv 23 4 3 [],
 oq 24 (.build 30 #[(0, .const (.int .i64 (-1000000))), (1, .const (.int .i64 1000000))]) 30 [],
 ia 25 89 22 23 [22, 23],
 ⟨none, .store 30 (.tmp 25) (.tmp 24), 0, none, [24, 25]⟩]))
 (.reg [mv 20 4 3 [4],
 bn 21 .add 3 20 1 3 3 [20],
 sg 4 21 3 [21]])))
def F111.c : SC :=
 (.seq
 (.reg [oq 1 (.box 27 (.tmp 0)) 0 [0],
 oq 2 (.assign (.const (.slice none 0 0))) 89 [2]])
 (.seq
 (.reg [fa 9 27 1 0 [],
 fa 10 24 9 0 [9],
 ld 11 22 10 [10],
 oq 12 (.indexAddr 22 (.tmp 11) (.const (.int .i64 0))) 0 [11],
 ld 13 89 12 [12],
 ln 14 13 89 3 [13],
 oq 15 (.makeSlice 89 (.tmp 14) (.tmp 14)) 89 [14],
 sg 3 15 89 [15]])
 (.seq
 (.seq
 (.reg [sn 4 0 3 []])
 (.block 0
 (.loop F111.s0)))
 (.seq
 (.seq
 (.reg [sn 5 0 3 []])
 (.block 2
 (.loop F111.s1)))
 (.seq
 (.reg [mv 70 3 89 [3],
 sg 2 70 89 [70]])
 .ret)))))
theorem F111.rs : Tryz.f111.results.toList = [.tmp 2] := rfl
def R04_limits.b0 (k : Nat) : (Int × (List Range)) → Option (Stp (Int × (List Range)) ((List Range)) ((List Range))) := fun (s : Int × (List Range)) => match s with
 | (i3, l4) =>
   bif decide (i3 < ((l4.length : Nat) : Int)) then
    (at? l4 i3).bind fun x7 =>
    (set? l4 i3 (⟨-1000000, 1000000⟩ : Range)).bind fun l8 =>
    some (.next (w64 (i3 + 1), l8))
   else
    some (.brk l4)
def R04_limits.b1 (k : Nat) (f0 : Firing) : (Int × (List Range)) → Option (Stp (Int × (List Range)) ((List Range)) ((List Range))) := fun (s : Int × (List Range)) => match s with
 | (i10, l11) =>
   bif decide (i10 < (f0.Readings.length : Int)) then
    (at? f0.Readings i10).bind fun x14 =>
    (R04_Least k x14).bind fun x15 =>
    (at? l11 x14.Place).bind fun x16 =>
    (set? l11 x14.Place (⟨max x16.Lo x15.1, x16.Hi⟩ : Range)).bind fun l17 =>
    (at? l17 x14.Place).bind fun x18 =>
    (set? l17 x14.Place (⟨x18.Lo, min x18.Hi x15.2⟩ : Range)).bind fun l19 =>
    some (.next (w64 (i10 + 1), l19))
   else
    some (.brk l11)
noncomputable def R04_limits.h0 (f0 : Firing) : (Int × (List Range)) → St := fun (s : Int × (List Range)) => match s with
 | (i3, l4) => ⟨[(1, .ptr 0 0 0), (3, .loc 0 1 2 0 l4.length l4.length), (4, .int .i64 i3)], [(0, .box [.sl 1 (List.map (eL 2 Range.c) f0.Kiln.Falls), .sl 6 (List.map Reading.c f0.Readings)]), (1, .arr 30 2 (List.map Range.c l4))], [], 2, Tryz.f111.ntmps⟩
noncomputable def R04_limits.x0 (f0 : Firing) : (List Range) → St := fun (l5 : (List Range)) => ⟨[(1, .ptr 0 0 0), (3, .loc 0 1 2 0 l5.length l5.length)], [(0, .box [.sl 1 (List.map (eL 2 Range.c) f0.Kiln.Falls), .sl 6 (List.map Reading.c f0.Readings)]), (1, .arr 30 2 (List.map Range.c l5))], [], 2, Tryz.f111.ntmps⟩
noncomputable def R04_limits.h1 (f0 : Firing) : (Int × (List Range)) → St := fun (s : Int × (List Range)) => match s with
 | (i10, l11) => ⟨[(1, .ptr 0 0 0), (3, .loc 0 1 2 0 l11.length l11.length), (5, .int .i64 i10)], [(0, .box [.sl 1 (List.map (eL 2 Range.c) f0.Kiln.Falls), .sl 6 (List.map Reading.c f0.Readings)]), (1, .arr 30 2 (List.map Range.c l11))], [], 2, Tryz.f111.ntmps⟩
noncomputable def R04_limits.x1 : (List Range) → St := fun (l12 : (List Range)) => ⟨[(3, .loc 0 0 2 0 l12.length l12.length)], [(0, .arr 30 2 (List.map Range.c l12))], [], 1, Tryz.f111.ntmps⟩
def R04_limits (k : Nat) (f0 : Firing) : Option ((List Range)) :=
 (at? f0.Kiln.Falls 0).bind fun x1 =>
 (mk? (x1.length : Int) 16).bind fun _ =>
 (whl (R04_limits.b0 k) k (0, List.replicate x1.length (⟨0, 0⟩ : Range))).bind fun r9 => match r9 with
 | .next _ => none
 | .ret v_ => some v_
 | .brk l5 =>
  (whl (R04_limits.b1 k f0) k (0, l5)).bind fun r20 => match r20 with
  | .next _ => none
  | .ret v_ => some v_
  | .brk l12 =>
   some l12
theorem R04_limits_ok (k : Nat) (f0 : Firing) (r : (List Range)) (h0 : R04_limits k f0 = some r) : PCall Tryz.prog 111 [.agg (Firing.c f0)] (fun y => y = .sl 2 (List.map Range.c r)) := by
 refine PB (fn := Tryz.f111) (sc := F111.c) ?_
 refine rS ?_
 simp only [R04_limits] at h0
 try simp only [F111.c, go_sem]
 obtain ⟨x1, yx1, h0⟩ := bs h0
 try simp only [aa yx1, go_sem]
 obtain ⟨u2, yu2, h0⟩ := bs h0
 try simp only [mk_some yu2, aa yx1, go_sem]
 obtain ⟨r9, yr9, h0⟩ := bs h0
 refine AKev_loopS yr9 (R04_limits.h0 f0) (R04_limits.x0 f0) ?_ ?_ ?_
 refine Weak.go [1, 3, 4] [0, 128] rfl ?_
 try simp only [R04_limits.h0, aa yx1, go_sem]
 rintro ⟨i3, l4⟩ x_1 Bk1 Br1 h1 hnext1 hbrk1 hret1
 refine rS ?_
 simp only [R04_limits.b0] at h1
 try simp only [F111.s0, R04_limits.h0, aa yx1, go_sem]
 refine AKev_bif h1 ?_ ?_ <;> intro c6 h1
 try simp only [c6, aa yx1, go_sem]
 obtain ⟨x7, yx7, h1⟩ := bs h1
 try simp only [aa yx7, aa yx1, c6, go_sem]
 obtain ⟨l8, yl8, h1⟩ := bs h1
 have eyl8 := set_map Range.c yl8
 simp only [go_sem] at eyl8
 try simp only [eyl8, aa yx1, c6, aa yx7, set_len yl8, set_take Range.c yl8, go_sem]
 refine AKev_backB (hnext1 _ _ (Option.some.inj h1).symm ?_)
 refine Weak.go [1, 3, 4] [0, 1] rfl ?_
 try simp only [R04_limits.h0, aa yx1, c6, aa yx7, eyl8, set_len yl8, set_take Range.c yl8, go_sem]
 try simp only [c6, aa yx1, go_sem]
 refine AKev_backB (hbrk1 _ _ (Option.some.inj h1).symm ?_)
 refine Weak.go [1, 3] [0, 1] rfl ?_
 try simp only [R04_limits.x0, aa yx1, c6, go_sem]
 rintro l5 hr_
 subst hr_
 simp only at h0
 refine rS ?_
 try simp only [R04_limits.x0, aa yx1, go_sem]
 obtain ⟨r20, yr20, h0⟩ := bs h0
 refine AKev_loopS yr20 (R04_limits.h1 f0) (R04_limits.x1) ?_ ?_ ?_
 refine Weak.go [1, 3, 5] [0, 1] rfl ?_
 try simp only [R04_limits.h1, aa yx1, go_sem]
 rintro ⟨i10, l11⟩ x_1 Bk1 Br1 h1 hnext1 hbrk1 hret1
 refine rS ?_
 simp only [R04_limits.b1] at h1
 try simp only [F111.s1, R04_limits.h1, aa yx1, go_sem]
 refine AKev_bif h1 ?_ ?_ <;> intro c13 h1
 try simp only [c13, aa yx1, go_sem]
 obtain ⟨x14, yx14, h1⟩ := bs h1
 try simp only [aa yx14, aa yx1, c13, go_sem]
 obtain ⟨x15, yx15, h1⟩ := bs h1
 refine zc0 (R04_Least_ok k _ _ yx15) ?_ (by first | rfl | simp [AV.refsL, AV.refs, AV.scal, AV.leaf]) ?_
 try simp only [aa yx1, c13, aa yx14, go_sem]
 try simp only [aa yx14, aa yx1, c13, go_sem]
 obtain ⟨x16, yx16, h1⟩ := bs h1
 try simp only [aa yx16, aa yx1, c13, aa yx14, go_sem]
 obtain ⟨l17, yl17, h1⟩ := bs h1
 have eyl17 := set_map Range.c yl17
 simp only [go_sem] at eyl17
 try simp only [eyl17, aa yx1, c13, aa yx14, aa yx16, set_len yl17, set_take Range.c yl17, go_sem]
 obtain ⟨x18, yx18, h1⟩ := bs h1
 have eyx18 := at_in yx18
 simp only [aa yx1, c13, aa yx14, aa yx16, eyl17, set_len yl17, set_take Range.c yl17, go_sem] at eyx18
 try simp only [eyx18, at_get Range.c yx18, aa yx1, c13, aa yx14, aa yx16, eyl17, set_len yl17, set_take Range.c yl17, go_sem]
 obtain ⟨l19, yl19, h1⟩ := bs h1
 have eyl19 := set_map Range.c yl19
 simp only [go_sem] at eyl19
 try simp only [eyl19, aa yx1, c13, aa yx14, aa yx16, eyl17, set_len yl17, set_take Range.c yl17, eyx18, at_get Range.c yx18, set_len yl19, set_take Range.c yl19, go_sem]
 refine AKev_backB (hnext1 _ _ (Option.some.inj h1).symm ?_)
 refine Weak.go [1, 3, 5] [0, 1] rfl ?_
 try simp only [R04_limits.h1, aa yx1, c13, aa yx14, aa yx16, eyl17, set_len yl17, set_take Range.c yl17, eyx18, at_get Range.c yx18, eyl19, set_len yl19, set_take Range.c yl19, go_sem]
 try simp only [c13, aa yx1, go_sem]
 refine AKev_backB (hbrk1 _ _ (Option.some.inj h1).symm ?_)
 refine Weak.go [3] [1] rfl ?_
 try simp only [R04_limits.x1, aa yx1, c13, go_sem]
 rintro l12 hr_
 subst hr_
 simp only at h0
 refine rS ?_
 try simp only [R04_limits.x1, aa yx1, go_sem]
 obtain rfl := Option.some.inj h0
 refine AKev_ret rfl ?_
 try simp only [F111.rs, aa yx1, go_sem]
def F101.s1 : SC :=
 (.seq
 (.seq
 (.reg [mv 18 7 3 [],
 mv 19 3 89 [],
 ln 20 19 89 3 [19],
 b2 21 .lss 3 18 20 3 4 [18, 20]])
 (.cond (.tmp 21)
 .skip
 (.exit 2)))
 (.seq
 (.block 3
 (.seq
 (.reg [mv 24 3 89 [],
 mv 25 7 3 [],
 ia 26 89 24 25 [24, 25],
 fa 27 30 26 1 [26],
 ld 28 3 27 [27],
 bn 29 .lss 3 28 1000000 3 4 [28]])
 (.cond (.tmp 29)
 (.dreg [mv 30 6 3 [],
 mv 31 3 89 [],
 mv 32 7 3 [],
 ia 33 89 31 32 [],
 fa 34 30 33 1 [],
 ld 35 3 34 [],
 fa 36 27 1 0 [],
 fa 37 24 36 0 [],
 ld 38 22 37 [],
 mv 39 5 3 [],
 ia 40 22 38 39 [],
 ld 41 89 40 [],
 mv 42 7 3 [],
 ia 43 89 41 42 [],
 fa 44 30 43 1 [],
 ld 45 3 44 [],
 b2 46 .add 3 35 45 3 3 [],
 oq 47 (.call ⟨.builtin .min, #[.tmp 30, .tmp 46], #[3, 3]⟩) 3 [],
 sg 6 47 3 []] [[], [], [], [1, 2], [1, 2, 3], [1, 2, 3, 4], [], [6], [6, 7], [], [6, 7, 8, 9], [6, 7, 8, 9, 10], [], [6, 7, 8, 9, 10, 11, 12], [6, 7, 8, 9, 10, 11, 12, 13], [6, 7, 8, 9, 10, 11, 12, 13, 14], [1, 2, 3, 4, 5, 6, 7, 8, 9, 10, 11, 12, 13, 14, 15], [0, 1, 2, 3, 4, 5, 6, 7, 8, 9, 10, 11, 12, 13, 14, 15, 16], [0, 1, 2, 3, 4, 5, 6, 7, 8, 9, 10, 11, 12, 13, 14, 15, 16, 17]] [30, 31, 32, 33, 34, 35, 36, 37, 38, 39, 40, 41, 42, 43, 44, 45, 46, 47])
 .skip)))
 (.reg [mv 22 7 3 [7],
 bn 23 .add 3 22 1 3 3 [22],
 sg 7 23 3 [23]])))
def F101.s0 : SC :=
 (.seq
 (.seq
 (.reg [mv 10 5 3 [],
 fa 11 27 1 0 [],
 fa 12 24 11 0 [11],
 ld 13 22 12 [12],
 ln 14 13 22 3 [13],
 b2 15 .lss 3 10 14 3 4 [10, 14]])
 (.cond (.tmp 15)
 .skip
 (.exit 0)))
 (.seq
 (.block 1
 (.seq
 (.reg [sn 6 3000 3 []])
 (.seq
 (.seq
 (.reg [sn 7 0 3 []])
 (.block 2
 (.loop F101.s1)))
 (.reg [mv 48 4 37 [4],
 mv 49 6 3 [6],
 oq 50 (.buildSlice 37 1 #[(0, .tmp 49)]) 37 [49],
 oq 51 (.call ⟨.builtin .append, #[.tmp 48, .tmp 50], #[37, 37]⟩) 37 [48, 50],
 sg 4 51 37 [51]]))))
 (.reg [mv 16 5 3 [5],
 bn 17 .add 3 16 1 3 3 [16],
 sg 5 17 3 [17]])))
def F101.c : SC :=
 (.seq
 (.reg [oq 1 (.box 27 (.tmp 0)) 0 [0],
 oq 2 (.assign (.const (.slice none 0 0))) 37 [2]])
 (.seq
 (.reg [ld 8 27 1 [],
 cf1 9 111 8 27 89 [8],
 sg 3 9 89 [9]])
 (.seq
 (.reg [oq 4 (.assign (.const (.slice none 0 0))) 37 []])
 (.seq
 (.seq
 (.reg [sn 5 0 3 []])
 (.block 0
 (.loop F101.s0)))
 (.seq
 (.reg [mv 52 4 37 [4],
 sg 2 52 37 [52]])
 .ret)))))
theorem F101.rs : Tryz.f101.results.toList = [.tmp 2] := rfl
def R04_hottest.b1 (k : Nat) (f0 : Firing) (x1 : (List Range)) (i2 : Int) : (Int × Int) → Option (Stp (Int × Int) (Int) ((List Int))) := fun (s : Int × Int) => match s with
 | (i6, i7) =>
   bif decide (i7 < (x1.length : Int)) then
    (at? x1 i7).bind fun x10 =>
    bif decide (x10.Hi < (1000000 : Int)) then
     (at? f0.Kiln.Falls i2).bind fun x12 =>
     (at? x12 i7).bind fun x13 =>
     some (.next (min i6 (w64 (x10.Hi + x13.Hi)), w64 (i7 + 1)))
    else
     some (.next (i6, w64 (i7 + 1)))
   else
    some (.brk i6)
def R04_hottest.b0 (k : Nat) (f0 : Firing) (x1 : (List Range)) : (Int × (List Int)) → Option (Stp (Int × (List Int)) ((List Int)) ((List Int))) := fun (s : Int × (List Int)) => match s with
 | (i2, l3) =>
   bif decide (i2 < (f0.Kiln.Falls.length : Int)) then
    (whl (R04_hottest.b1 k f0 x1 i2) k (3000, 0)).bind fun r14 => match r14 with
    | .next _ => none
    | .ret v_ => some (.ret v_)
    | .brk i8 =>
     (push? 8 l3 i8).bind fun l15 =>
     some (.next (w64 (i2 + 1), l15))
   else
    some (.brk l3)
noncomputable def R04_hottest.h1 (f0 : Firing) (x1 : (List Range)) (i2 : Int) (l3 : (List Int)) : (Int × Int) → St := fun (s : Int × Int) => match s with
 | (i6, i7) => ⟨[(1, .ptr 0 0 0), (3, .sl 2 (List.map Range.c x1)), (4, .loc 0 1 1 0 l3.length l3.length), (5, .int .i64 i2), (6, .int .i64 i6), (7, .int .i64 i7)], [(0, .box [.sl 1 (List.map (eL 2 Range.c) f0.Kiln.Falls), .sl 6 (List.map Reading.c f0.Readings)]), (1, .arr 3 1 (List.map eI l3))], [], 2, Tryz.f101.ntmps⟩
noncomputable def R04_hottest.x1 (f0 : Firing) (x1 : (List Range)) (i2 : Int) (l3 : (List Int)) : Int → St := fun (i8 : Int) => ⟨[(1, .ptr 0 0 0), (3, .sl 2 (List.map Range.c x1)), (4, .loc 0 1 1 0 l3.length l3.length), (5, .int .i64 i2), (6, .int .i64 i8)], [(0, .box [.sl 1 (List.map (eL 2 Range.c) f0.Kiln.Falls), .sl 6 (List.map Reading.c f0.Readings)]), (1, .arr 3 1 (List.map eI l3))], [], 2, Tryz.f101.ntmps⟩
noncomputable def R04_hottest.h0 (f0 : Firing) (x1 : (List Range)) : (Int × (List Int)) → St := fun (s : Int × (List Int)) => match s with
 | (i2, l3) => ⟨[(1, .ptr 0 0 0), (3, .sl 2 (List.map Range.c x1)), (4, .loc 0 1 1 0 l3.length l3.length), (5, .int .i64 i2)], [(0, .box [.sl 1 (List.map (eL 2 Range.c) f0.Kiln.Falls), .sl 6 (List.map Reading.c f0.Readings)]), (1, .arr 3 1 (List.map eI l3))], [], 2, Tryz.f101.ntmps⟩
noncomputable def R04_hottest.x0 : (List Int) → St := fun (l4 : (List Int)) => ⟨[(4, .loc 0 0 1 0 l4.length l4.length)], [(0, .arr 3 1 (List.map eI l4))], [], 1, Tryz.f101.ntmps⟩
def R04_hottest (k : Nat) (f0 : Firing) : Option ((List Int)) :=
 (R04_limits k f0).bind fun x1 =>
 (whl (R04_hottest.b0 k f0 x1) k (0, [])).bind fun r16 => match r16 with
 | .next _ => none
 | .ret v_ => some v_
 | .brk l4 =>
  some l4
theorem R04_hottest_ok (k : Nat) (f0 : Firing) (r : (List Int)) (h0 : R04_hottest k f0 = some r) : PCall Tryz.prog 101 [.agg (Firing.c f0)] (fun y => y = .sl 1 (List.map eI r)) := by
 refine PB (fn := Tryz.f101) (sc := F101.c) ?_
 refine rS ?_
 simp only [R04_hottest] at h0
 try simp only [F101.c, go_sem]
 obtain ⟨x1, yx1, h0⟩ := bs h0
 refine zc0 (R04_limits_ok k _ _ yx1) ?_ (by first | rfl | simp [AV.refsL, AV.refs, AV.scal, AV.leaf]) ?_
 try simp only [go_sem]
 try simp only [go_sem]
 obtain ⟨r16, yr16, h0⟩ := bs h0
 refine AKev_loopS yr16 (R04_hottest.h0 f0 x1) (R04_hottest.x0) ?_ ?_ ?_
 refine Weak.go [1, 3, 4, 5] [0, 80] rfl ?_
 try simp only [R04_hottest.h0, go_sem]
 rintro ⟨i2, l3⟩ x_1 Bk1 Br1 h1 hnext1 hbrk1 hret1
 refine rS ?_
 simp only [R04_hottest.b0] at h1
 try simp only [F101.s0, R04_hottest.h0, go_sem]
 refine AKev_bif h1 ?_ ?_ <;> intro c5 h1
 try simp only [c5, go_sem]
 obtain ⟨r14, yr14, h1⟩ := bs h1
 refine AKev_loopS yr14 (R04_hottest.h1 f0 x1 i2 l3) (R04_hottest.x1 f0 x1 i2 l3) ?_ ?_ ?_
 refine Weak.go [1, 3, 4, 5, 6, 7] [0, 1] rfl ?_
 try simp only [R04_hottest.h1, c5, go_sem]
 rintro ⟨i6, i7⟩ x_2 Bk2 Br2 h2 hnext2 hbrk2 hret2
 refine rS ?_
 simp only [R04_hottest.b1] at h2
 try simp only [F101.s1, R04_hottest.h1, c5, go_sem]
 refine AKev_bif h2 ?_ ?_ <;> intro c9 h2
 try simp only [c9, c5, go_sem]
 obtain ⟨x10, yx10, h2⟩ := bs h2
 try simp only [aa yx10, c5, c9, go_sem]
 refine AKev_bif h2 ?_ ?_ <;> intro c11 h2
 try simp only [c11, c5, c9, aa yx10, go_sem]
 refine AKev_region T_ok follows_ok 1000 ?_
 try simp only [aa yx10, c5, c9, c11, go_sem]
 obtain ⟨x12, yx12, h2⟩ := bs h2
 try simp only [aa yx12, c5, c9, aa yx10, c11, go_sem]
 obtain ⟨x13, yx13, h2⟩ := bs h2
 try simp only [aa yx13, c5, c9, aa yx10, c11, aa yx12, go_sem]
 refine DG_done ⟨rfl, run_sound T_ok 1000 _ _ ?_⟩
 try simp only [c5, c9, aa yx10, c11, aa yx12, aa yx13, go_sem]
 refine AKev_backB (hnext2 _ _ (Option.some.inj h2).symm ?_)
 refine Weak.go [1, 3, 4, 5, 6, 7] [0, 1] rfl ?_
 try simp only [R04_hottest.h1, c5, c9, aa yx10, c11, aa yx12, aa yx13, go_sem]
 try simp only [c11, c5, c9, aa yx10, go_sem]
 refine AKev_backB (hnext2 _ _ (Option.some.inj h2).symm ?_)
 refine Weak.go [1, 3, 4, 5, 6, 7] [0, 1] rfl ?_
 try simp only [R04_hottest.h1, c5, c9, aa yx10, c11, go_sem]
 try simp only [c9, c5, go_sem]
 refine AKev_backB (hbrk2 _ _ (Option.some.inj h2).symm ?_)
 refine Weak.go [1, 3, 4, 5, 6] [0, 1] rfl ?_
 try simp only [R04_hottest.x1, c5, c9, go_sem]
 rintro i8 hr_
 subst hr_
 simp only at h1
 refine rS ?_
 try simp only [R04_hottest.x1, c5, go_sem]
 obtain ⟨l15, yl15, h1⟩ := bs h1
 have eyl15 := push_map eI yl15
 have tyl15 := push_take eI yl15
 have nyl15 := push_len yl15
 have myl15 := push_room yl15
 try simp only [c5, go_sem] at eyl15 tyl15 nyl15 myl15
 try simp only [myl15, eyl15, c5, nyl15, tyl15, go_sem]
 refine AKev_backB (hnext1 _ _ (Option.some.inj h1).symm ?_)
 refine Weak.go [1, 3, 4, 5] [0, 1] rfl ?_
 try simp only [R04_hottest.h0, c5, eyl15, nyl15, tyl15, go_sem]
 try simp only [c5, go_sem]
 refine AKev_backB (hbrk1 _ _ (Option.some.inj h1).symm ?_)
 refine Weak.go [4] [1] rfl ?_
 try simp only [R04_hottest.x0, c5, go_sem]
 rintro l4 hr_
 subst hr_
 simp only at h0
 refine rS ?_
 try simp only [R04_hottest.x0, go_sem]
 obtain rfl := Option.some.inj h0
 refine AKev_ret rfl ?_
 try simp only [F101.rs, go_sem]
def F112.c : SC :=
 (.seq
 (.reg [oq 5 (.box 27 (.tmp 0)) 0 [0],
 sb 10 false 4 [10]])
 (.seq
 (.dreg [mv 11 4 3 [],
 fa 12 27 5 0 [],
 fa 13 24 12 0 [],
 ld 14 22 13 [],
 mv 15 2 3 [],
 ia 16 22 14 15 [],
 ld 17 89 16 [],
 mv 18 3 3 [],
 ia 19 89 17 18 [],
 fa 20 30 19 0 [],
 ld 21 3 20 [],
 b2 22 .add 3 11 21 3 3 [],
 mv 23 1 37 [],
 mv 24 2 3 [],
 ia 25 37 23 24 [],
 ld 26 3 25 [],
 b2 27 .leq 3 22 26 3 4 [],
 sg 10 27 4 []] [[], [], [1], [1, 2], [], [1, 2, 3, 4], [1, 2, 3, 4, 5], [], [1, 2, 3, 4, 5, 6, 7], [1, 2, 3, 4, 5, 6, 7, 8], [1, 2, 3, 4, 5, 6, 7, 8, 9], [0, 1, 2, 3, 4, 5, 6, 7, 8, 9, 10], [], [], [12, 13], [12, 13, 14], [0, 1, 2, 3, 4, 5, 6, 7, 8, 9, 10, 11, 12, 13, 14, 15], [0, 1, 2, 3, 4, 5, 6, 7, 8, 9, 10, 11, 12, 13, 14, 15, 16]] [1, 2, 3, 4, 5, 11, 12, 13, 14, 15, 16, 17, 18, 19, 20, 21, 22, 23, 24, 25, 26, 27])
 .ret))
theorem F112.rs : Tryz.f112.results.toList = [.tmp 10] := rfl
def R04_reaches (k : Nat) (f0 : Firing) (u1 : (List Int)) (j2 : Int) (p3 : Int) (heat4 : Int) : Option (Bool) :=
 (at? f0.Kiln.Falls j2).bind fun x1 =>
 (at? x1 p3).bind fun x2 =>
 (at? u1 j2).bind fun x3 =>
 some (decide (w64 (heat4 + x2.Lo) ≤ x3))
theorem R04_reaches_ok (k : Nat) (f0 : Firing) (u1 : (List Int)) (j2 : Int) (p3 : Int) (heat4 : Int) (r : Bool) (h0 : R04_reaches k f0 u1 j2 p3 heat4 = some r) : PCall Tryz.prog 112 [.agg (Firing.c f0), .sl 1 (List.map eI u1), .int .i64 j2, .int .i64 p3, .int .i64 heat4] (fun y => y = .bool r) := by
 refine PB (fn := Tryz.f112) (sc := F112.c) ?_
 refine rS ?_
 simp only [R04_reaches] at h0
 try simp only [F112.c, go_sem]
 refine AKev_region T_ok follows_ok 1000 ?_
 try simp only [go_sem]
 obtain ⟨x1, yx1, h0⟩ := bs h0
 try simp only [aa yx1, go_sem]
 obtain ⟨x2, yx2, h0⟩ := bs h0
 try simp only [aa yx2, aa yx1, go_sem]
 obtain ⟨x3, yx3, h0⟩ := bs h0
 try simp only [aa yx3, aa yx1, aa yx2, go_sem]
 refine DG_done ⟨rfl, run_sound T_ok 1000 _ _ ?_⟩
 try simp only [aa yx1, aa yx2, aa yx3, go_sem]
 obtain rfl := Option.some.inj h0
 refine AKev_ret rfl ?_
 try simp only [F112.rs, aa yx1, aa yx2, aa yx3, go_sem]
def F56.s2 : SC :=
 (.seq
 (.seq
 (.reg [mv 47 8 3 [],
 mv 48 4 37 [],
 ln 49 48 37 3 [48],
 b2 50 .lss 3 47 49 3 4 [47, 49]])
 (.cond (.tmp 50)
 .skip
 (.exit 4)))
 (.seq
 (.block 5
 (.dreg [mv 53 7 4 [],
 mv 54 53 4 [],
 og 55 (.load 27 (.tmp 1)) 27 54 false [],
 og 56 (.move (.tmp 4)) 37 54 false [],
 og 57 (.move (.tmp 8)) 3 54 false [],
 og 58 (.move (.tmp 6)) 3 54 false [],
 og 59 (.move (.tmp 3)) 89 54 false [],
 og 60 (.move (.tmp 6)) 3 54 false [],
 og 61 (.indexAddr 89 (.tmp 59) (.tmp 60)) 0 54 false [],
 og 62 (.fieldAddr 30 (.tmp 61) 0) 0 54 false [],
 og 63 (.load 3 (.tmp 62)) 3 54 false [],
 og 64 (.call ⟨.value (.func 112), #[.tmp 55, .tmp 56, .tmp 57, .tmp 58, .tmp 63], #[27, 37, 3, 3, 3]⟩) 4 54 false [],
 oq 65 (.pick (.tmp 54) (.const (.bool true)) (.tmp 64)) 4 [],
 sg 7 65 4 []] [[], [0], [0, 1], [0, 1], [0, 1], [0, 1], [0, 1], [0, 1], [0, 1, 6, 7], [0, 1, 6, 7, 8], [0, 1, 6, 7, 8, 9], [0, 1, 2, 3, 4, 5, 6, 7, 8, 9, 10], [0, 1, 2, 3, 4, 5, 6, 7, 8, 9, 10, 11], [0, 1, 2, 3, 4, 5, 6, 7, 8, 9, 10, 11, 12]] [53, 54, 55, 56, 57, 58, 59, 60, 61, 62, 63, 64, 65]))
 (.reg [mv 51 8 3 [8],
 bn 52 .add 3 51 1 3 3 [51],
 sg 8 52 3 [52]])))
def F56.s1 : SC :=
 (.seq
 (.seq
 (.reg [mv 24 6 3 [],
 mv 25 3 89 [],
 ln 26 25 89 3 [25],
 b2 27 .lss 3 24 26 3 4 [24, 26]])
 (.cond (.tmp 27)
 .skip
 (.exit 2)))
 (.seq
 (.block 3
 (.seq
 (.seq
 (.dreg [mv 30 3 89 [],
 mv 31 6 3 [],
 ia 32 89 30 31 [],
 fa 33 30 32 0 [],
 ld 34 3 33 [],
 mv 35 3 89 [],
 mv 36 6 3 [],
 ia 37 89 35 36 [],
 fa 38 30 37 1 [],
 ld 39 3 38 [],
 b2 40 .gtr 3 34 39 3 4 []] [[], [], [0, 1], [0, 1, 2], [0, 1, 2, 3], [], [], [5, 6], [5, 6, 7], [5, 6, 7, 8], [0, 1, 2, 3, 4, 5, 6, 7, 8, 9]] [30, 31, 32, 33, 34, 35, 36, 37, 38, 39])
 (.cond (.tmp 40)
 (.seq
 (.reg [sb 2 false 4 []])
 .ret)
 .skip))
 (.seq
 (.reg [mv 41 3 89 [],
 mv 42 6 3 [],
 ia 43 89 41 42 [41, 42],
 fa 44 30 43 0 [43],
 ld 45 3 44 [44],
 bn 46 .eql 3 45 (-1000000) 3 4 [45],
 sg 7 46 4 [46]])
 (.seq
 (.seq
 (.reg [sn 8 0 3 []])
 (.block 4
 (.loop F56.s2)))
 (.seq
 (.reg [mv 66 7 4 [7],
 oq 67 (.unOp .not 4 (.tmp 66)) 4 [66]])
 (.cond (.tmp 67)
 (.seq
 (.reg [sb 2 false 4 []])
 .ret)
 .skip))))))
 (.reg [mv 28 6 3 [6],
 bn 29 .add 3 28 1 3 3 [28],
 sg 6 29 3 [29]])))
def F56.s0 : SC :=
 (.seq
 (.seq
 (.reg [mv 13 5 3 [],
 mv 14 4 37 [],
 ln 15 14 37 3 [14],
 b2 16 .lss 3 13 15 3 4 [13, 15]])
 (.cond (.tmp 16)
 .skip
 (.exit 0)))
 (.seq
 (.block 1
 (.seq
 (.reg [mv 19 4 37 [],
 mv 20 5 3 [],
 ia 21 37 19 20 [19, 20],
 ld 22 3 21 [21],
 bn 23 .lss 3 22 0 3 4 [22]])
 (.cond (.tmp 23)
 (.seq
 (.reg [sb 2 false 4 []])
 .ret)
 .skip)))
 (.reg [mv 17 5 3 [5],
 bn 18 .add 3 17 1 3 3 [17],
 sg 5 18 3 [18]])))
def F56.c : SC :=
 (.seq
 (.reg [oq 1 (.box 27 (.tmp 0)) 0 [0],
 sb 2 false 4 [2]])
 (.seq
 (.reg [ld 9 27 1 [],
 cf1 10 111 9 27 89 [9],
 sg 3 10 89 [10]])
 (.seq
 (.reg [ld 11 27 1 [],
 cf1 12 101 11 27 37 [11],
 sg 4 12 37 [12]])
 (.seq
 (.seq
 (.reg [sn 5 0 3 []])
 (.block 0
 (.loop F56.s0)))
 (.seq
 (.seq
 (.reg [sn 6 0 3 []])
 (.block 2
 (.loop F56.s1)))
 (.seq
 (.reg [sb 2 true 4 []])
 .ret))))))
theorem F56.rs : Tryz.f56.results.toList = [.tmp 2] := rfl
def R04_IsSound.b0 (k : Nat) (x2 : (List Int)) : Int → Option (Stp (Int) (Unit) (Bool)) := fun (i3 : Int) =>
 bif decide (i3 < (x2.length : Int)) then
  (at? x2 i3).bind fun x5 =>
  bif decide (x5 < (0 : Int)) then
   some (.ret false)
  else
   some (.next (w64 (i3 + 1)))
 else
  some (.brk ())
def R04_IsSound.b2 (k : Nat) (f0 : Firing) (x2 : (List Int)) (i8 : Int) (x10 : Range) : (Bool × Int) → Option (Stp (Bool × Int) (Bool) (Bool)) := fun (s : Bool × Int) => match s with
 | (b12, i13) =>
   bif decide (i13 < (x2.length : Int)) then
    bif (!b12) then
     (R04_reaches k f0 x2 i13 i8 x10.Lo).bind fun x17 =>
     some (.next (x17, w64 (i13 + 1)))
    else
     some (.next (true, w64 (i13 + 1)))
   else
    some (.brk b12)
def R04_IsSound.b1 (k : Nat) (f0 : Firing) (x1 : (List Range)) (x2 : (List Int)) : Int → Option (Stp (Int) (Unit) (Bool)) := fun (i8 : Int) =>
 bif decide (i8 < (x1.length : Int)) then
  (at? x1 i8).bind fun x10 =>
  bif decide (x10.Hi < x10.Lo) then
   some (.ret false)
  else
   (whl (R04_IsSound.b2 k f0 x2 i8 x10) k (decide (x10.Lo = (-1000000 : Int)), 0)).bind fun r18 => match r18 with
   | .next _ => none
   | .ret v_ => some (.ret v_)
   | .brk b14 =>
    bif (!b14) then
     some (.ret false)
    else
     some (.next (w64 (i8 + 1)))
 else
  some (.brk ())
noncomputable def R04_IsSound.h0 (f0 : Firing) (x1 : (List Range)) (x2 : (List Int)) : Int → St := fun (i3 : Int) => ⟨[(1, .ptr 0 0 0), (3, .sl 2 (List.map Range.c x1)), (4, .sl 1 (List.map eI x2)), (5, .int .i64 i3)], [(0, .box [.sl 1 (List.map (eL 2 Range.c) f0.Kiln.Falls), .sl 6 (List.map Reading.c f0.Readings)])], [], 1, Tryz.f56.ntmps⟩
noncomputable def R04_IsSound.x0 (f0 : Firing) (x1 : (List Range)) (x2 : (List Int)) : Unit → St := fun (_ : Unit) => ⟨[(1, .ptr 0 0 0), (3, .sl 2 (List.map Range.c x1)), (4, .sl 1 (List.map eI x2))], [(0, .box [.sl 1 (List.map (eL 2 Range.c) f0.Kiln.Falls), .sl 6 (List.map Reading.c f0.Readings)])], [], 1, Tryz.f56.ntmps⟩
noncomputable def R04_IsSound.h2 (f0 : Firing) (x1 : (List Range)) (x2 : (List Int)) (i8 : Int) : (Bool × Int) → St := fun (s : Bool × Int) => match s with
 | (b12, i13) => ⟨[(1, .ptr 0 0 0), (3, .sl 2 (List.map Range.c x1)), (4, .sl 1 (List.map eI x2)), (6, .int .i64 i8), (7, .bool b12), (8, .int .i64 i13)], [(0, .box [.sl 1 (List.map (eL 2 Range.c) f0.Kiln.Falls), .sl 6 (List.map Reading.c f0.Readings)])], [], 1, Tryz.f56.ntmps⟩
noncomputable def R04_IsSound.x2 (f0 : Firing) (x1 : (List Range)) (x2 : (List Int)) (i8 : Int) : Bool → St := fun (b14 : Bool) => ⟨[(1, .ptr 0 0 0), (3, .sl 2 (List.map Range.c x1)), (4, .sl 1 (List.map eI x2)), (6, .int .i64 i8), (7, .bool b14)], [(0, .box [.sl 1 (List.map (eL 2 Range.c) f0.Kiln.Falls), .sl 6 (List.map Reading.c f0.Readings)])], [], 1, Tryz.f56.ntmps⟩
noncomputable def R04_IsSound.h1 (f0 : Firing) (x1 : (List Range)) (x2 : (List Int)) : Int → St := fun (i8 : Int) => ⟨[(1, .ptr 0 0 0), (3, .sl 2 (List.map Range.c x1)), (4, .sl 1 (List.map eI x2)), (6, .int .i64 i8)], [(0, .box [.sl 1 (List.map (eL 2 Range.c) f0.Kiln.Falls), .sl 6 (List.map Reading.c f0.Readings)])], [], 1, Tryz.f56.ntmps⟩
noncomputable def R04_IsSound.x1 : Unit → St := fun (_ : Unit) => ⟨[], [], [], 1, Tryz.f56.ntmps⟩
def R04_IsSound (k : Nat) (f0 : Firing) : Option (Bool) :=
 (R04_limits k f0).bind fun x1 =>
 (R04_hottest k f0).bind fun x2 =>
 (whl (R04_IsSound.b0 k x2) k 0).bind fun r7 => match r7 with
 | .next _ => none
 | .ret v_ => some v_
 | .brk _ =>
  (whl (R04_IsSound.b1 k f0 x1 x2) k 0).bind fun r20 => match r20 with
  | .next _ => none
  | .ret v_ => some v_
  | .brk _ =>
   some true
theorem R04_IsSound_ok (k : Nat) (f0 : Firing) (r : Bool) (h0 : R04_IsSound k f0 = some r) : PCall Tryz.prog 56 [.agg (Firing.c f0)] (fun y => y = .bool r) := by
 refine PB (fn := Tryz.f56) (sc := F56.c) ?_
 refine rS ?_
 simp only [R04_IsSound] at h0
 try simp only [F56.c, go_sem]
 obtain ⟨x1, yx1, h0⟩ := bs h0
 refine zc0 (R04_limits_ok k _ _ yx1) ?_ (by first | rfl | simp [AV.refsL, AV.refs, AV.scal, AV.leaf]) ?_
 try simp only [go_sem]
 try simp only [go_sem]
 obtain ⟨x2, yx2, h0⟩ := bs h0
 refine zc0 (R04_hottest_ok k _ _ yx2) ?_ (by first | rfl | simp [AV.refsL, AV.refs, AV.scal, AV.leaf]) ?_
 try simp only [go_sem]
 try simp only [go_sem]
 obtain ⟨r7, yr7, h0⟩ := bs h0
 refine AKev_loopS yr7 (R04_IsSound.h0 f0 x1 x2) (R04_IsSound.x0 f0 x1 x2) ?_ ?_ ?_
 refine Weak.go [1, 3, 4, 5] [0] rfl ?_
 try simp only [R04_IsSound.h0, go_sem]
 rintro i3 x_1 Bk1 Br1 h1 hnext1 hbrk1 hret1
 refine rS ?_
 simp only [R04_IsSound.b0] at h1
 try simp only [F56.s0, R04_IsSound.h0, go_sem]
 refine AKev_bif h1 ?_ ?_ <;> intro c4 h1
 try simp only [c4, go_sem]
 obtain ⟨x5, yx5, h1⟩ := bs h1
 try simp only [aa yx5, c4, go_sem]
 refine AKev_bif h1 ?_ ?_ <;> intro c6 h1
 try simp only [c6, c4, aa yx5, go_sem]
 obtain rfl := hret1 _ (Option.some.inj h1).symm
 simp only at h0
 obtain rfl := Option.some.inj h0
 refine AKev_ret rfl ?_
 try simp only [F56.rs, c4, aa yx5, c6, go_sem]
 try simp only [c6, c4, aa yx5, go_sem]
 refine AKev_backB (hnext1 _ _ (Option.some.inj h1).symm ?_)
 refine Weak.go [1, 3, 4, 5] [0] rfl ?_
 try simp only [R04_IsSound.h0, c4, aa yx5, c6, go_sem]
 try simp only [c4, go_sem]
 refine AKev_backB (hbrk1 _ _ (Option.some.inj h1).symm ?_)
 refine Weak.go [1, 3, 4] [0] rfl ?_
 try simp only [R04_IsSound.x0, c4, go_sem]
 rintro _ hr_
 subst hr_
 simp only at h0
 refine rS ?_
 try simp only [R04_IsSound.x0, go_sem]
 obtain ⟨r20, yr20, h0⟩ := bs h0
 refine AKev_loopS yr20 (R04_IsSound.h1 f0 x1 x2) (R04_IsSound.x1) ?_ ?_ ?_
 refine Weak.go [1, 3, 4, 6] [0] rfl ?_
 try simp only [R04_IsSound.h1, go_sem]
 rintro i8 x_1 Bk1 Br1 h1 hnext1 hbrk1 hret1
 refine rS ?_
 simp only [R04_IsSound.b1] at h1
 try simp only [F56.s1, R04_IsSound.h1, go_sem]
 refine AKev_bif h1 ?_ ?_ <;> intro c9 h1
 try simp only [c9, go_sem]
 refine AKev_region T_ok follows_ok 1000 ?_
 try simp only [c9, go_sem]
 obtain ⟨x10, yx10, h1⟩ := bs h1
 try simp only [aa yx10, c9, go_sem]
 refine DG_done ⟨rfl, run_sound T_ok 1000 _ _ ?_⟩
 try simp only [c9, aa yx10, go_sem]
 refine AKev_bif h1 ?_ ?_ <;> intro c11 h1
 try simp only [c11, c9, aa yx10, go_sem]
 obtain rfl := hret1 _ (Option.some.inj h1).symm
 simp only at h0
 obtain rfl := Option.some.inj h0
 refine AKev_ret rfl ?_
 try simp only [F56.rs, c9, aa yx10, c11, go_sem]
 try simp only [c11, aa yx10, c9, go_sem]
 obtain ⟨r18, yr18, h1⟩ := bs h1
 refine AKev_loopS yr18 (R04_IsSound.h2 f0 x1 x2 i8) (R04_IsSound.x2 f0 x1 x2 i8) ?_ ?_ ?_
 refine Weak.go [1, 3, 4, 6, 7, 8] [0] rfl ?_
 try simp only [R04_IsSound.h2, c9, aa yx10, c11, go_sem]
 rintro ⟨b12, i13⟩ x_2 Bk2 Br2 h2 hnext2 hbrk2 hret2
 refine rS ?_
 simp only [R04_IsSound.b2] at h2
 try simp only [F56.s2, R04_IsSound.h2, c9, aa yx10, c11, go_sem]
 refine AKev_bif h2 ?_ ?_ <;> intro c15 h2
 try simp only [c15, c9, aa yx10, c11, go_sem]
 refine AKev_region T_ok follows_ok 1000 ?_
 try simp only [c9, aa yx10, c11, c15, go_sem]
 refine DG_bif h2 ?_ ?_ <;> intro c16 h2
 have c16 := bnot_t c16
 try simp only [c16, aa yx10, c9, c11, c15, go_sem]
 obtain ⟨x17, yx17, h2⟩ := bs h2
 refine DG_call0 1000 (R04_reaches_ok k _ _ _ _ _ _ yx17) ?_ (by first | rfl | simp [AV.refsL, AV.refs, AV.scal, AV.leaf]) ?_
 try simp only [c9, aa yx10, c11, c15, c16, go_sem]
 try simp only [c9, aa yx10, c11, c15, c16, go_sem]
 refine DG_done ⟨rfl, run_sound T_ok 1000 _ _ ?_⟩
 try simp only [c9, aa yx10, c11, c15, c16, go_sem]
 refine AKev_backB (hnext2 _ _ (Option.some.inj h2).symm ?_)
 refine Weak.go [1, 3, 4, 6, 7, 8] [0] rfl ?_
 try simp only [R04_IsSound.h2, c9, aa yx10, c11, c15, c16, go_sem]
 have c16 := bnot_f c16
 try simp only [c16, c9, aa yx10, c11, c15, go_sem]
 refine DG_done ⟨rfl, run_sound T_ok 1000 _ _ ?_⟩
 try simp only [c9, aa yx10, c11, c15, c16, go_sem]
 refine AKev_backB (hnext2 _ _ (Option.some.inj h2).symm ?_)
 refine Weak.go [1, 3, 4, 6, 7, 8] [0] rfl ?_
 try simp only [R04_IsSound.h2, c9, aa yx10, c11, c15, c16, go_sem]
 try simp only [c15, c9, aa yx10, c11, go_sem]
 refine AKev_backB (hbrk2 _ _ (Option.some.inj h2).symm ?_)
 refine Weak.go [1, 3, 4, 6, 7] [0] rfl ?_
 try simp only [R04_IsSound.x2, c9, aa yx10, c11, c15, go_sem]
 rintro b14 hr_
 subst hr_
 simp only at h1
 refine rS ?_
 try simp only [R04_IsSound.x2, c9, aa yx10, c11, go_sem]
 refine AKev_bif h1 ?_ ?_ <;> intro c19 h1
 have c19 := bnot_t c19
 try simp only [c19, c9, aa yx10, c11, go_sem]
 obtain rfl := hret1 _ (Option.some.inj h1).symm
 simp only at h0
 obtain rfl := Option.some.inj h0
 refine AKev_ret rfl ?_
 try simp only [F56.rs, c9, aa yx10, c11, c19, go_sem]
 have c19 := bnot_f c19
 try simp only [c19, c9, aa yx10, c11, go_sem]
 refine AKev_backB (hnext1 _ _ (Option.some.inj h1).symm ?_)
 refine Weak.go [1, 3, 4, 6] [0] rfl ?_
 try simp only [R04_IsSound.h1, c9, aa yx10, c11, c19, go_sem]
 try simp only [c9, go_sem]
 refine AKev_backB (hbrk1 _ _ (Option.some.inj h1).symm ?_)
 refine Weak.go [] [] rfl ?_
 try simp only [R04_IsSound.x1, c9, go_sem]
 rintro _ hr_
 subst hr_
 simp only at h0
 refine rS ?_
 try simp only [R04_IsSound.x1, go_sem]
 obtain rfl := Option.some.inj h0
 refine AKev_ret rfl ?_
 try simp only [F56.rs, go_sem]
def F96.c : SC :=
 (.seq
 (.reg [sb 6 false 4 [6]])
 (.seq
 (.reg [mv 7 1 3 [1],
 mv 8 0 3 [],
 b2 9 .leq 3 7 8 3 4 [7, 8],
 mv 10 9 4 [9],
 og 11 (.move (.tmp 0)) 3 10 true [0],
 og 12 (.move (.tmp 2)) 3 10 true [2],
 og 13 (.binOp .leq 3 (.tmp 11) (.tmp 12) 3) 4 10 true [11, 12],
 oq 14 (.pick (.tmp 10) (.tmp 13) (.const (.bool false))) 4 [10, 13],
 sg 6 14 4 [14]])
 .ret))
theorem F96.rs : Tryz.f96.results.toList = [.tmp 6] := rfl
def R01_In (k : Nat) (n0 : Int) (lo1 : Int) (hi2 : Int) : Option (Bool) :=
 bif decide (lo1 ≤ n0) then
  some (decide (n0 ≤ hi2))
 else
  some false
theorem R01_In_ok (k : Nat) (n0 : Int) (lo1 : Int) (hi2 : Int) (r : Bool) (h0 : R01_In k n0 lo1 hi2 = some r) : PCall Tryz.prog 96 [.int .i64 n0, .int .i64 lo1, .int .i64 hi2] (fun y => y = .bool r) := by
 refine PB (fn := Tryz.f96) (sc := F96.c) ?_
 refine rS ?_
 simp only [R01_In] at h0
 try simp only [F96.c, go_sem]
 refine AKev_bif h0 ?_ ?_ <;> intro c1 h0
 try simp only [c1, go_sem]
 obtain rfl := Option.some.inj h0
 refine AKev_ret rfl ?_
 try simp only [F96.rs, c1, go_sem]
 try simp only [c1, go_sem]
 obtain rfl := Option.some.inj h0
 refine AKev_ret rfl ?_
 try simp only [F96.rs, c1, go_sem]
def F97.c : SC :=
 (.seq
 (.reg [oq 3 (.box 30 (.tmp 0)) 0 [0],
 sb 6 false 4 [6]])
 (.seq
 (.reg [mv 7 1 3 [1],
 fa 8 30 3 0 [],
 ld 9 3 8 [8],
 b2 10 .leq 3 7 9 3 4 [7, 9],
 mv 11 10 4 [10],
 og 12 (.fieldAddr 30 (.tmp 3) 0) 0 11 true [],
 og 13 (.load 3 (.tmp 12)) 3 11 true [12],
 og 14 (.fieldAddr 30 (.tmp 3) 1) 0 11 true [],
 og 15 (.load 3 (.tmp 14)) 3 11 true [14],
 og 16 (.binOp .leq 3 (.tmp 13) (.tmp 15) 3) 4 11 true [13, 15],
 oq 17 (.pick (.tmp 11) (.tmp 16) (.const (.bool false))) 4 [11, 16],
 mv 18 17 4 [17],
 og 19 (.fieldAddr 30 (.tmp 3) 1) 0 18 true [3],
 og 20 (.load 3 (.tmp 19)) 3 18 true [19],
 og 21 (.move (.tmp 2)) 3 18 true [2],
 og 22 (.binOp .leq 3 (.tmp 20) (.tmp 21) 3) 4 18 true [20, 21],
 oq 23 (.pick (.tmp 18) (.tmp 22) (.const (.bool false))) 4 [18, 22],
 sg 6 23 4 [23]])
 .ret))
theorem F97.rs : Tryz.f97.results.toList = [.tmp 6] := rfl
def R01_Part (k : Nat) (r0 : Range) (lo1 : Int) (hi2 : Int) : Option (Bool) :=
 bif decide (lo1 ≤ r0.Lo) then
  bif decide (r0.Lo ≤ r0.Hi) then
   some (decide (r0.Hi ≤ hi2))
  else
   some false
 else
  some false
theorem R01_Part_ok (k : Nat) (r0 : Range) (lo1 : Int) (hi2 : Int) (r : Bool) (h0 : R01_Part k r0 lo1 hi2 = some r) : PCall Tryz.prog 97 [.agg (Range.c r0), .int .i64 lo1, .int .i64 hi2] (fun y => y = .bool r) := by
 refine PB (fn := Tryz.f97) (sc := F97.c) ?_
 refine rS ?_
 simp only [R01_Part] at h0
 try simp only [F97.c, go_sem]
 refine AKev_bif h0 ?_ ?_ <;> intro c1 h0
 try simp only [c1, go_sem]
 refine AKev_bif h0 ?_ ?_ <;> intro c2 h0
 try simp only [c2, c1, go_sem]
 obtain rfl := Option.some.inj h0
 refine AKev_ret rfl ?_
 try simp only [F97.rs, c1, c2, go_sem]
 try simp only [c2, c1, go_sem]
 obtain rfl := Option.some.inj h0
 refine AKev_ret rfl ?_
 try simp only [F97.rs, c1, c2, go_sem]
 try simp only [c1, go_sem]
 obtain rfl := Option.some.inj h0
 refine AKev_ret rfl ?_
 try simp only [F97.rs, c1, go_sem]
def F37.s1 : SC :=
 (.seq
 (.seq
 (.reg [mv 36 5 3 [],
 mv 37 3 3 [],
 b2 38 .lss 3 36 37 3 4 [36, 37]])
 (.cond (.tmp 38)
 .skip
 (.exit 2)))
 (.seq
 (.block 3
 (.seq
 (.reg [fa 41 24 1 0 [],
 ld 42 22 41 [41],
 mv 43 4 3 [],
 ia 44 22 42 43 [42, 43],
 ld 45 89 44 [44],
 mv 46 5 3 [],
 ia 47 89 45 46 [45, 46],
 ld 48 30 47 [47],
 oq 49 (.call ⟨.value (.func 97), #[.tmp 48, .const (.int .i64 0), .const (.int .i64 3000)], #[30, 3, 3]⟩) 4 [48],
 oq 50 (.unOp .not 4 (.tmp 49)) 4 [49]])
 (.cond (.tmp 50)
 (.seq
 (.reg [sn 2 40 33 []])
 .ret)
 .skip)))
 (.reg [mv 39 5 3 [5],
 bn 40 .add 3 39 1 3 3 [39],
 sg 5 40 3 [40]])))
def F37.s0 : SC :=
 (.seq
 (.seq
 (.reg [mv 16 4 3 [],
 fa 17 24 1 0 [],
 ld 18 22 17 [17],
 ln 19 18 22 3 [18],
 b2 20 .lss 3 16 19 3 4 [16, 19]])
 (.cond (.tmp 20)
 .skip
 (.exit 0)))
 (.seq
 (.block 1
 (.seq
 (.seq
 (.reg [fa 23 24 1 0 [],
 ld 24 22 23 [23],
 mv 25 4 3 [],
 ia 26 22 24 25 [24, 25],
 ld 27 89 26 [26],
 ln 28 27 89 3 [27],
 mv 29 3 3 [],
 b2 30 .neq 3 28 29 3 4 [28, 29],
 mv 31 30 4 [30],
 og 32 (.move (.tmp 3)) 3 31 false [],
 og 33 (.call ⟨.value (.func 96), #[.tmp 32, .const (.int .i64 1), .const (.int .i64 24)], #[3, 3, 3]⟩) 4 31 false [32],
 og 34 (.unOp .not 4 (.tmp 33)) 4 31 false [33],
 oq 35 (.pick (.tmp 31) (.const (.bool true)) (.tmp 34)) 4 [31, 34]])
 (.cond (.tmp 35)
 (.seq
 (.reg [sn 2 40 33 []])
 .ret)
 .skip))
 (.seq
 (.reg [sn 5 0 3 []])
 (.block 2
 (.loop F37.s1)))))
 (.reg [mv 21 4 3 [4],
 bn 22 .add 3 21 1 3 3 [21],
 sg 4 22 3 [22]])))
def F37.c : SC :=
 (.seq
 (.reg [oq 1 (.box 24 (.tmp 0)) 0 [0],
 sn 2 0 33 [2]])
 (.seq
 (.seq
 (.reg [fa 6 24 1 0 [],
 ld 7 22 6 [6],
 ln 8 7 22 3 [7],
 oq 9 (.call ⟨.value (.func 96), #[.tmp 8, .const (.int .i64 1), .const (.int .i64 6)], #[3, 3, 3]⟩) 4 [8],
 oq 10 (.unOp .not 4 (.tmp 9)) 4 [9]])
 (.cond (.tmp 10)
 (.seq
 (.reg [sn 2 40 33 []])
 .ret)
 .skip))
 (.seq
 (.reg [fa 11 24 1 0 [],
 ld 12 22 11 [11],
 oq 13 (.indexAddr 22 (.tmp 12) (.const (.int .i64 0))) 0 [12],
 ld 14 89 13 [13],
 ln 15 14 89 3 [14],
 sg 3 15 3 [15]])
 (.seq
 (.seq
 (.reg [sn 4 0 3 []])
 (.block 0
 (.loop F37.s0)))
 (.seq
 (.reg [sn 2 0 33 []])
 .ret)))))
theorem F37.rs : Tryz.f37.results.toList = [.tmp 2] := rfl
def R04_CheckKiln.b1 (k : Nat) (x3 : (List Range)) (x6 : (List Range)) : Int → Option (Stp (Int) (Unit) (Int)) := fun (i10 : Int) =>
 bif decide (i10 < (x3.length : Int)) then
  (at? x6 i10).bind fun x12 =>
  (R01_Part k x12 0 3000).bind fun x13 =>
  bif (!x13) then
   some (.ret 40)
  else
   some (.next (w64 (i10 + 1)))
 else
  some (.brk ())
def R04_CheckKiln.b0 (k : Nat) (k0 : Kiln) (x3 : (List Range)) : Int → Option (Stp (Int) (Unit) (Int)) := fun (i4 : Int) =>
 bif decide (i4 < (k0.Falls.length : Int)) then
  (at? k0.Falls i4).bind fun x6 =>
  bif decide ((x6.length : Int) = (x3.length : Int)) then
   (R01_In k (x3.length : Int) 1 24).bind fun x8 =>
   bif (!x8) then
    some (.ret 40)
   else
    (whl (R04_CheckKiln.b1 k x3 x6) k 0).bind fun r15 => match r15 with
    | .next _ => none
    | .ret v_ => some (.ret v_)
    | .brk _ =>
     some (.next (w64 (i4 + 1)))
  else
   some (.ret 40)
 else
  some (.brk ())
noncomputable def R04_CheckKiln.h1 (k0 : Kiln) (x3 : (List Range)) (i4 : Int) : Int → St := fun (i10 : Int) => ⟨[(1, .ptr 0 0 0), (3, .int .i64 (x3.length : Int)), (4, .int .i64 i4), (5, .int .i64 i10)], [(0, .box [.sl 1 (List.map (eL 2 Range.c) k0.Falls)])], [], 1, Tryz.f37.ntmps⟩
noncomputable def R04_CheckKiln.x1 (k0 : Kiln) (x3 : (List Range)) (i4 : Int) : Unit → St := fun (_ : Unit) => ⟨[(1, .ptr 0 0 0), (3, .int .i64 (x3.length : Int)), (4, .int .i64 i4)], [(0, .box [.sl 1 (List.map (eL 2 Range.c) k0.Falls)])], [], 1, Tryz.f37.ntmps⟩
noncomputable def R04_CheckKiln.h0 (k0 : Kiln) (x3 : (List Range)) : Int → St := fun (i4 : Int) => ⟨[(1, .ptr 0 0 0), (3, .int .i64 (x3.length : Int)), (4, .int .i64 i4)], [(0, .box [.sl 1 (List.map (eL 2 Range.c) k0.Falls)])], [], 1, Tryz.f37.ntmps⟩
noncomputable def R04_CheckKiln.x0 : Unit → St := fun (_ : Unit) => ⟨[], [], [], 1, Tryz.f37.ntmps⟩
def R04_CheckKiln (k : Nat) (k0 : Kiln) : Option (Int) :=
 (R01_In k (k0.Falls.length : Int) 1 6).bind fun x1 =>
 bif (!x1) then
  some 40
 else
  (at? k0.Falls 0).bind fun x3 =>
  (whl (R04_CheckKiln.b0 k k0 x3) k 0).bind fun r16 => match r16 with
  | .next _ => none
  | .ret v_ => some v_
  | .brk _ =>
   some 0
theorem R04_CheckKiln_ok (k : Nat) (k0 : Kiln) (r : Int) (h0 : R04_CheckKiln k k0 = some r) : PCall Tryz.prog 37 [.agg (Kiln.c k0)] (fun y => y = .int .i64 r) := by
 refine PB (fn := Tryz.f37) (sc := F37.c) ?_
 refine rS ?_
 simp only [R04_CheckKiln] at h0
 try simp only [F37.c, go_sem]
 obtain ⟨x1, yx1, h0⟩ := bs h0
 refine zc0 (R01_In_ok k _ _ _ _ yx1) ?_ (by first | rfl | simp [AV.refsL, AV.refs, AV.scal, AV.leaf]) ?_
 try simp only [go_sem]
 try simp only [go_sem]
 refine AKev_bif h0 ?_ ?_ <;> intro c2 h0
 have c2 := bnot_t c2
 try simp only [c2, go_sem]
 obtain rfl := Option.some.inj h0
 refine AKev_ret rfl ?_
 try simp only [F37.rs, c2, go_sem]
 have c2 := bnot_f c2
 try simp only [c2, go_sem]
 obtain ⟨x3, yx3, h0⟩ := bs h0
 try simp only [aa yx3, c2, go_sem]
 obtain ⟨r16, yr16, h0⟩ := bs h0
 refine AKev_loopS yr16 (R04_CheckKiln.h0 k0 x3) (R04_CheckKiln.x0) ?_ ?_ ?_
 refine Weak.go [1, 3, 4] [0] rfl ?_
 try simp only [R04_CheckKiln.h0, c2, aa yx3, go_sem]
 rintro i4 x_1 Bk1 Br1 h1 hnext1 hbrk1 hret1
 refine rS ?_
 simp only [R04_CheckKiln.b0] at h1
 try simp only [F37.s0, R04_CheckKiln.h0, c2, aa yx3, go_sem]
 refine AKev_bif h1 ?_ ?_ <;> intro c5 h1
 try simp only [c5, c2, aa yx3, go_sem]
 obtain ⟨x6, yx6, h1⟩ := bs h1
 try simp only [aa yx6, c2, aa yx3, c5, go_sem]
 refine AKev_bif h1 ?_ ?_ <;> intro c7 h1
 try simp only [c7, c2, aa yx3, c5, aa yx6, go_sem]
 obtain ⟨x8, yx8, h1⟩ := bs h1
 refine zc0 (R01_In_ok k _ _ _ _ yx8) ?_ (by first | rfl | simp [AV.refsL, AV.refs, AV.scal, AV.leaf]) ?_
 try simp only [c2, aa yx3, c5, aa yx6, c7, go_sem]
 try simp only [c2, aa yx3, c5, aa yx6, c7, go_sem]
 refine AKev_bif h1 ?_ ?_ <;> intro c9 h1
 have c9 := bnot_t c9
 try simp only [c9, c2, aa yx3, c5, aa yx6, c7, go_sem]
 obtain rfl := hret1 _ (Option.some.inj h1).symm
 simp only at h0
 obtain rfl := Option.some.inj h0
 refine AKev_ret rfl ?_
 try simp only [F37.rs, c2, aa yx3, c5, aa yx6, c7, c9, go_sem]
 have c9 := bnot_f c9
 try simp only [c9, c2, aa yx3, c5, aa yx6, c7, go_sem]
 obtain ⟨r15, yr15, h1⟩ := bs h1
 refine AKev_loopS yr15 (R04_CheckKiln.h1 k0 x3 i4) (R04_CheckKiln.x1 k0 x3 i4) ?_ ?_ ?_
 refine Weak.go [1, 3, 4, 5] [0] rfl ?_
 try simp only [R04_CheckKiln.h1, c2, aa yx3, c5, aa yx6, c7, c9, go_sem]
 rintro i10 x_2 Bk2 Br2 h2 hnext2 hbrk2 hret2
 refine rS ?_
 simp only [R04_CheckKiln.b1] at h2
 try simp only [F37.s1, R04_CheckKiln.h1, c2, aa yx3, c5, aa yx6, c7, c9, go_sem]
 refine AKev_bif h2 ?_ ?_ <;> intro c11 h2
 try simp only [c11, aa yx6, c2, aa yx3, c5, c7, c9, go_sem]
 obtain ⟨x12, yx12, h2⟩ := bs h2
 try simp only [aa yx12, c2, aa yx3, c5, aa yx6, c7, c9, c11, go_sem]
 obtain ⟨x13, yx13, h2⟩ := bs h2
 refine zc0 (R01_Part_ok k _ _ _ _ yx13) ?_ (by first | rfl | simp [AV.refsL, AV.refs, AV.scal, AV.leaf]) ?_
 try simp only [c2, aa yx3, c5, aa yx6, c7, c9, c11, aa yx12, go_sem]
 try simp only [c2, aa yx3, c5, aa yx6, c7, c9, c11, aa yx12, go_sem]
 refine AKev_bif h2 ?_ ?_ <;> intro c14 h2
 have c14 := bnot_t c14
 try simp only [c14, c2, aa yx3, c5, aa yx6, c7, c9, c11, aa yx12, go_sem]
 obtain rfl := hret2 _ (Option.some.inj h2).symm
 simp only at h1
 obtain rfl := hret1 _ (Option.some.inj h1).symm
 simp only at h0
 obtain rfl := Option.some.inj h0
 refine AKev_ret rfl ?_
 try simp only [F37.rs, c2, aa yx3, c5, aa yx6, c7, c9, c11, aa yx12, c14, go_sem]
 have c14 := bnot_f c14
 try simp only [c14, c2, aa yx3, c5, aa yx6, c7, c9, c11, aa yx12, go_sem]
 refine AKev_backB (hnext2 _ _ (Option.some.inj h2).symm ?_)
 refine Weak.go [1, 3, 4, 5] [0] rfl ?_
 try simp only [R04_CheckKiln.h1, c2, aa yx3, c5, aa yx6, c7, c9, c11, aa yx12, c14, go_sem]
 try simp only [c11, c2, aa yx3, c5, aa yx6, c7, c9, go_sem]
 refine AKev_backB (hbrk2 _ _ (Option.some.inj h2).symm ?_)
 refine Weak.go [1, 3, 4] [0] rfl ?_
 try simp only [R04_CheckKiln.x1, c2, aa yx3, c5, aa yx6, c7, c9, c11, go_sem]
 rintro _ hr_
 subst hr_
 simp only at h1
 refine rS ?_
 try simp only [R04_CheckKiln.x1, c2, aa yx3, c5, aa yx6, c7, c9, go_sem]
 refine AKev_backB (hnext1 _ _ (Option.some.inj h1).symm ?_)
 refine Weak.go [1, 3, 4] [0] rfl ?_
 try simp only [R04_CheckKiln.h0, c2, aa yx3, c5, aa yx6, c7, c9, go_sem]
 try simp only [c7, c2, aa yx3, c5, aa yx6, go_sem]
 obtain rfl := hret1 _ (Option.some.inj h1).symm
 simp only at h0
 obtain rfl := Option.some.inj h0
 refine AKev_ret rfl ?_
 try simp only [F37.rs, c2, aa yx3, c5, aa yx6, c7, go_sem]
 try simp only [c5, c2, aa yx3, go_sem]
 refine AKev_backB (hbrk1 _ _ (Option.some.inj h1).symm ?_)
 refine Weak.go [] [] rfl ?_
 try simp only [R04_CheckKiln.x0, c2, aa yx3, c5, go_sem]
 rintro _ hr_
 subst hr_
 simp only at h0
 refine rS ?_
 try simp only [R04_CheckKiln.x0, c2, aa yx3, go_sem]
 obtain rfl := Option.some.inj h0
 refine AKev_ret rfl ?_
 try simp only [F37.rs, c2, aa yx3, go_sem]
def F90.c : SC :=
 (.seq
 (.reg [oq 2 (.box 24 (.tmp 0)) 0 [0],
 oq 3 (.box 64 (.tmp 1)) 0 [1],
 sb 4 false 4 [4]])
 (.seq
 (.seq
 (.dreg [fa 5 64 3 0 [],
 ld 6 3 5 [],
 oq 7 (.call ⟨.value (.func 96), #[.tmp 6, .const (.int .i64 1), .const (.int .i64 99999)], #[3, 3, 3]⟩) 4 [],
 oq 8 (.unOp .not 4 (.tmp 7)) 4 [],
 mv 9 8 4 [],
 og 10 (.fieldAddr 64 (.tmp 3) 1) 0 9 false [],
 og 11 (.load 3 (.tmp 10)) 3 9 false [],
 og 12 (.fieldAddr 24 (.tmp 2) 0) 0 9 false [],
 og 13 (.load 22 (.tmp 12)) 22 9 false [],
 og 14 (.indexAddr 22 (.tmp 13) (.const (.int .i64 0))) 0 9 false [],
 og 15 (.load 89 (.tmp 14)) 89 9 false [],
 og 16 (.call ⟨.builtin .len, #[.tmp 15], #[89]⟩) 3 9 false [],
 og 17 (.binOp .sub 3 (.tmp 16) (.const (.int .i64 1)) 3) 3 9 false [],
 og 18 (.call ⟨.value (.func 96), #[.tmp 11, .const (.int .i64 0), .tmp 17], #[3, 3, 3]⟩) 4 9 false [],
 og 19 (.unOp .not 4 (.tmp 18)) 4 9 false [],
 oq 20 (.pick (.tmp 9) (.const (.bool true)) (.tmp 19)) 4 []] [[], [0], [0, 1], [0, 1, 2], [0, 1, 2, 3], [0, 1, 2, 3, 4], [0, 1, 2, 3, 4, 5], [0, 1, 2, 3, 4], [0, 1, 2, 3, 4, 7], [0, 1, 2, 3, 4, 7, 8], [0, 1, 2, 3, 4, 7, 8, 9], [0, 1, 2, 3, 4, 7, 8, 9, 10], [0, 1, 2, 3, 4, 7, 8, 9, 10, 11], [0, 1, 2, 3, 4, 5, 6, 7, 8, 9, 10, 11, 12], [0, 1, 2, 3, 4, 5, 6, 7, 8, 9, 10, 11, 12, 13], [0, 1, 2, 3, 4, 5, 6, 7, 8, 9, 10, 11, 12, 13, 14]] [2, 5, 6, 7, 8, 9, 10, 11, 12, 13, 14, 15, 16, 17, 18, 19])
 (.cond (.tmp 20)
 (.seq
 (.reg [sb 4 false 4 []])
 .ret)
 .skip))
 (.seq
 (.seq
 (.reg [fa 21 64 3 2 [],
 ld 22 3 21 [21]])
 (.block 0
 (.seq
 (.seq
 (.reg [bn 24 .eql 3 22 1 3 4 [],
 sg 23 24 4 [24]])
 (.cond (.tmp 23)
 .skip
 (.reg [bn 25 .eql 3 22 2 3 4 [],
 sg 23 25 4 [25]])))
 (.cond (.tmp 23)
 (.seq
 (.reg [fa 26 64 3 3 [],
 ld 27 3 26 [26],
 oq 28 (.call ⟨.value (.func 96), #[.tmp 27, .const (.int .i64 1), .const (.int .i64 2000)], #[3, 3, 3]⟩) 4 [27],
 mv 29 28 4 [28],
 og 30 (.fieldAddr 64 (.tmp 3) 4) 0 29 true [3],
 og 31 (.load 30 (.tmp 30)) 30 29 true [30],
 og 32 (.build 30 #[]) 30 29 true [],
 og 33 (.binOp .eql 30 (.tmp 31) (.tmp 32) 30) 4 29 true [31, 32],
 oq 34 (.pick (.tmp 29) (.tmp 33) (.const (.bool false))) 4 [29, 33],
 sg 4 34 4 [34]])
 .ret)
 (.seq
 (.reg [bn 36 .eql 3 22 3 3 4 [22],
 sg 35 36 4 [36]])
 (.cond (.tmp 35)
 (.seq
 (.reg [fa 37 64 3 3 [],
 ld 38 3 37 [37],
 bn 39 .eql 3 38 0 3 4 [38],
 mv 40 39 4 [39],
 og 41 (.fieldAddr 64 (.tmp 3) 4) 0 40 true [3],
 og 42 (.load 30 (.tmp 41)) 30 40 true [41],
 og 43 (.call ⟨.value (.func 97), #[.tmp 42, .const (.int .i64 1), .const (.int .i64 2000)], #[30, 3, 3]⟩) 4 40 true [42],
 oq 44 (.pick (.tmp 40) (.tmp 43) (.const (.bool false))) 4 [40, 43],
 sg 4 44 4 [44]])
 .ret)
 .skip))))))
 (.seq
 (.reg [sb 4 false 4 []])
 .ret))))
theorem F90.rs : Tryz.f90.results.toList = [.tmp 4] := rfl
def R04_isReading (k : Nat) (k0 : Kiln) (r1 : Reading) : Option (Bool) :=
 (R01_In k r1.Source 1 99999).bind fun x1 =>
 bif x1 then
  (at? k0.Falls 0).bind fun x3 =>
  (R01_In k r1.Place 0 (w64 ((x3.length : Int) - 1))).bind fun x4 =>
  bif (!x4) then
   some false
  else
   bif decide (r1.Kind = (1 : Int)) then
    (R01_In k r1.Mark 1 2000).bind fun x7 =>
    bif x7 then
     some (decide (r1.Heat.Lo = (0 : Int)) && decide (r1.Heat.Hi = (0 : Int)))
    else
     some false
   else
    bif decide (r1.Kind = (2 : Int)) then
     (R01_In k r1.Mark 1 2000).bind fun x10 =>
     bif x10 then
      some (decide (r1.Heat.Lo = (0 : Int)) && decide (r1.Heat.Hi = (0 : Int)))
     else
      some false
    else
     bif decide (r1.Kind = (3 : Int)) then
      bif decide (r1.Mark = (0 : Int)) then
       (R01_Part k r1.Heat 1 2000).bind fun x14 =>
       some x14
      else
       some false
     else
      some false
 else
  some false
theorem R04_isReading_ok (k : Nat) (k0 : Kiln) (r1 : Reading) (r : Bool) (h0 : R04_isReading k k0 r1 = some r) : PCall Tryz.prog 90 [.agg (Kiln.c k0), .agg (Reading.c r1)] (fun y => y = .bool r) := by
 refine PB (fn := Tryz.f90) (sc := F90.c) ?_
 refine rS ?_
 simp only [R04_isReading] at h0
 try simp only [F90.c, go_sem]
 refine AKev_region T_ok follows_ok 1000 ?_
 try simp only [go_sem]
 obtain ⟨x1, yx1, h0⟩ := bs h0
 refine DG_call0 1000 (R01_In_ok k _ _ _ _ yx1) ?_ (by first | rfl | simp [AV.refsL, AV.refs, AV.scal, AV.leaf]) ?_
 try simp only [go_sem]
 try simp only [go_sem]
 refine DG_bif h0 ?_ ?_ <;> intro c2 h0
 try simp only [c2, go_sem]
 obtain ⟨x3, yx3, h0⟩ := bs h0
 try simp only [aa yx3, c2, go_sem]
 obtain ⟨x4, yx4, h0⟩ := bs h0
 refine DG_call0 1000 (R01_In_ok k _ _ _ _ yx4) ?_ (by first | rfl | simp [AV.refsL, AV.refs, AV.scal, AV.leaf]) ?_
 try simp only [c2, aa yx3, go_sem]
 try simp only [c2, aa yx3, go_sem]
 refine DG_done ⟨rfl, run_sound T_ok 1000 _ _ ?_⟩
 try simp only [c2, aa yx3, go_sem]
 refine AKev_bif h0 ?_ ?_ <;> intro c5 h0
 have c5 := bnot_t c5
 try simp only [c5, c2, aa yx3, go_sem]
 obtain rfl := Option.some.inj h0
 refine AKev_ret rfl ?_
 try simp only [F90.rs, c2, aa yx3, c5, go_sem]
 have c5 := bnot_f c5
 try simp only [c5, c2, aa yx3, go_sem]
 refine AKev_bif h0 ?_ ?_ <;> intro c6 h0
 try simp only [c6, c2, aa yx3, c5, go_sem]
 obtain ⟨x7, yx7, h0⟩ := bs h0
 refine zc0 (R01_In_ok k _ _ _ _ yx7) ?_ (by first | rfl | simp [AV.refsL, AV.refs, AV.scal, AV.leaf]) ?_
 try simp only [c2, aa yx3, c5, c6, go_sem]
 try simp only [c2, aa yx3, c5, c6, go_sem]
 refine AKev_bif h0 ?_ ?_ <;> intro c8 h0
 try simp only [c8, c2, aa yx3, c5, c6, go_sem]
 obtain rfl := Option.some.inj h0
 refine AKev_ret rfl ?_
 try simp only [F90.rs, c2, aa yx3, c5, c6, c8, go_sem]
 try simp only [c8, c2, aa yx3, c5, c6, go_sem]
 obtain rfl := Option.some.inj h0
 refine AKev_ret rfl ?_
 try simp only [F90.rs, c2, aa yx3, c5, c6, c8, go_sem]
 try simp only [c6, c2, aa yx3, c5, go_sem]
 refine AKev_bif h0 ?_ ?_ <;> intro c9 h0
 try simp only [c9, c2, aa yx3, c5, c6, go_sem]
 obtain ⟨x10, yx10, h0⟩ := bs h0
 refine zc0 (R01_In_ok k _ _ _ _ yx10) ?_ (by first | rfl | simp [AV.refsL, AV.refs, AV.scal, AV.leaf]) ?_
 try simp only [c2, aa yx3, c5, c6, c9, go_sem]
 try simp only [c2, aa yx3, c5, c6, c9, go_sem]
 refine AKev_bif h0 ?_ ?_ <;> intro c11 h0
 try simp only [c11, c2, aa yx3, c5, c6, c9, go_sem]
 obtain rfl := Option.some.inj h0
 refine AKev_ret rfl ?_
 try simp only [F90.rs, c2, aa yx3, c5, c6, c9, c11, go_sem]
 try simp only [c11, c2, aa yx3, c5, c6, c9, go_sem]
 obtain rfl := Option.some.inj h0
 refine AKev_ret rfl ?_
 try simp only [F90.rs, c2, aa yx3, c5, c6, c9, c11, go_sem]
 try simp only [c9, c2, aa yx3, c5, c6, go_sem]
 refine AKev_bif h0 ?_ ?_ <;> intro c12 h0
 try simp only [c12, c2, aa yx3, c5, c6, c9, go_sem]
 refine AKev_bif h0 ?_ ?_ <;> intro c13 h0
 try simp only [c13, c2, aa yx3, c5, c6, c9, c12, go_sem]
 obtain ⟨x14, yx14, h0⟩ := bs h0
 refine zc0 (R01_Part_ok k _ _ _ _ yx14) ?_ (by first | rfl | simp [AV.refsL, AV.refs, AV.scal, AV.leaf]) ?_
 try simp only [c2, aa yx3, c5, c6, c9, c12, c13, go_sem]
 try simp only [c2, aa yx3, c5, c6, c9, c12, c13, go_sem]
 obtain rfl := Option.some.inj h0
 refine AKev_ret rfl ?_
 try simp only [F90.rs, c2, aa yx3, c5, c6, c9, c12, c13, go_sem]
 try simp only [c13, c2, aa yx3, c5, c6, c9, c12, go_sem]
 obtain rfl := Option.some.inj h0
 refine AKev_ret rfl ?_
 try simp only [F90.rs, c2, aa yx3, c5, c6, c9, c12, c13, go_sem]
 try simp only [c12, c2, aa yx3, c5, c6, c9, go_sem]
 obtain rfl := Option.some.inj h0
 refine AKev_ret rfl ?_
 try simp only [F90.rs, c2, aa yx3, c5, c6, c9, c12, go_sem]
 try simp only [c2, go_sem]
 refine DG_done ⟨rfl, run_sound T_ok 1000 _ _ ?_⟩
 try simp only [c2, go_sem]
 obtain rfl := Option.some.inj h0
 refine AKev_ret rfl ?_
 try simp only [F90.rs, c2, go_sem]
def F43.s0 : SC :=
 (.seq
 (.seq
 (.reg [mv 12 3 3 [],
 fa 13 27 1 1 [],
 ld 14 25 13 [13],
 ln 15 14 25 3 [14],
 b2 16 .lss 3 12 15 3 4 [12, 15]])
 (.cond (.tmp 16)
 .skip
 (.exit 0)))
 (.seq
 (.block 1
 (.seq
 (.dreg [fa 19 27 1 0 [],
 ld 20 24 19 [],
 fa 21 27 1 1 [],
 ld 22 25 21 [],
 mv 23 3 3 [],
 ia 24 25 22 23 [],
 ld 25 64 24 [],
 cf2 26 90 20 25 24 64 4 [],
 oq 27 (.unOp .not 4 (.tmp 26)) 4 []] [[], [0], [], [2], [], [2, 3, 4], [2, 3, 4, 5], [0, 1, 2, 3, 4, 5, 6], [0, 1, 2, 3, 4, 5, 6, 7]] [19, 20, 21, 22, 23, 24, 25, 26])
 (.cond (.tmp 27)
 (.seq
 (.reg [sn 2 41 33 []])
 .ret)
 .skip)))
 (.reg [mv 17 3 3 [3],
 bn 18 .add 3 17 1 3 3 [17],
 sg 3 18 3 [18]])))
def F43.c : SC :=
 (.seq
 (.reg [oq 1 (.box 27 (.tmp 0)) 0 [0],
 sn 2 0 33 [2]])
 (.seq
 (.seq
 (.reg [fa 4 27 1 0 [],
 ld 5 24 4 [4],
 cf1 6 37 5 24 33 [5],
 bn 7 .neq 33 6 0 33 4 [6]])
 (.cond (.tmp 7)
 (.seq
 (.reg [sn 2 40 33 []])
 .ret)
 .skip))
 (.seq
 (.seq
 (.reg [fa 8 27 1 1 [],
 ld 9 25 8 [8],
 ln 10 9 25 3 [9],
 bn 11 .gtr 3 10 60 3 4 [10]])
 (.cond (.tmp 11)
 (.seq
 (.reg [sn 2 2 33 []])
 .ret)
 .skip))
 (.seq
 (.seq
 (.reg [sn 3 0 3 []])
 (.block 0
 (.loop F43.s0)))
 (.seq
 (.reg [sn 2 0 33 []])
 .ret)))))
theorem F43.rs : Tryz.f43.results.toList = [.tmp 2] := rfl
def R04_Check.b0 (k : Nat) (f0 : Firing) : Int → Option (Stp (Int) (Unit) (Int)) := fun (i4 : Int) =>
 bif decide (i4 < (f0.Readings.length : Int)) then
  (at? f0.Readings i4).bind fun x6 =>
  (R04_isReading k f0.Kiln x6).bind fun x7 =>
  bif (!x7) then
   some (.ret 41)
  else
   some (.next (w64 (i4 + 1)))
 else
  some (.brk ())
noncomputable def R04_Check.h0 (f0 : Firing) : Int → St := fun (i4 : Int) => ⟨[(1, .ptr 0 0 0), (3, .int .i64 i4)], [(0, .box [.sl 1 (List.map (eL 2 Range.c) f0.Kiln.Falls), .sl 6 (List.map Reading.c f0.Readings)])], [], 1, Tryz.f43.ntmps⟩
noncomputable def R04_Check.x0 : Unit → St := fun (_ : Unit) => ⟨[], [], [], 1, Tryz.f43.ntmps⟩
def R04_Check (k : Nat) (f0 : Firing) : Option (Int) :=
 (R04_CheckKiln k f0.Kiln).bind fun x1 =>
 bif (!decide (x1 = (0 : Int))) then
  some 40
 else
  bif decide ((60 : Int) < (f0.Readings.length : Int)) then
   some 2
  else
   (whl (R04_Check.b0 k f0) k 0).bind fun r9 => match r9 with
   | .next _ => none
   | .ret v_ => some v_
   | .brk _ =>
    some 0
theorem R04_Check_ok (k : Nat) (f0 : Firing) (r : Int) (h0 : R04_Check k f0 = some r) : PCall Tryz.prog 43 [.agg (Firing.c f0)] (fun y => y = .int .i64 r) := by
 refine PB (fn := Tryz.f43) (sc := F43.c) ?_
 refine rS ?_
 simp only [R04_Check] at h0
 try simp only [F43.c, go_sem]
 obtain ⟨x1, yx1, h0⟩ := bs h0
 refine zc0 (R04_CheckKiln_ok k _ _ yx1) ?_ (by first | rfl | simp [AV.refsL, AV.refs, AV.scal, AV.leaf]) ?_
 try simp only [go_sem]
 try simp only [go_sem]
 refine AKev_bif h0 ?_ ?_ <;> intro c2 h0
 have c2 := bnot_t c2
 try simp only [c2, go_sem]
 obtain rfl := Option.some.inj h0
 refine AKev_ret rfl ?_
 try simp only [F43.rs, c2, go_sem]
 have c2 := bnot_f c2
 try simp only [c2, go_sem]
 refine AKev_bif h0 ?_ ?_ <;> intro c3 h0
 try simp only [c3, c2, go_sem]
 obtain rfl := Option.some.inj h0
 refine AKev_ret rfl ?_
 try simp only [F43.rs, c2, c3, go_sem]
 try simp only [c3, c2, go_sem]
 obtain ⟨r9, yr9, h0⟩ := bs h0
 refine AKev_loopS yr9 (R04_Check.h0 f0) (R04_Check.x0) ?_ ?_ ?_
 refine Weak.go [1, 3] [0] rfl ?_
 try simp only [R04_Check.h0, c2, c3, go_sem]
 rintro i4 x_1 Bk1 Br1 h1 hnext1 hbrk1 hret1
 refine rS ?_
 simp only [R04_Check.b0] at h1
 try simp only [F43.s0, R04_Check.h0, c2, c3, go_sem]
 refine AKev_bif h1 ?_ ?_ <;> intro c5 h1
 try simp only [c5, c2, c3, go_sem]
 refine AKev_region T_ok follows_ok 1000 ?_
 try simp only [c2, c3, c5, go_sem]
 obtain ⟨x6, yx6, h1⟩ := bs h1
 try simp only [aa yx6, c2, c3, c5, go_sem]
 obtain ⟨x7, yx7, h1⟩ := bs h1
 refine DG_call0 1000 (R04_isReading_ok k _ _ _ yx7) ?_ (by first | rfl | simp [AV.refsL, AV.refs, AV.scal, AV.leaf]) ?_
 try simp only [c2, c3, c5, aa yx6, go_sem]
 try simp only [c2, c3, c5, aa yx6, go_sem]
 refine DG_done ⟨rfl, run_sound T_ok 1000 _ _ ?_⟩
 try simp only [c2, c3, c5, aa yx6, go_sem]
 refine AKev_bif h1 ?_ ?_ <;> intro c8 h1
 have c8 := bnot_t c8
 try simp only [c8, c2, c3, c5, aa yx6, go_sem]
 obtain rfl := hret1 _ (Option.some.inj h1).symm
 simp only at h0
 obtain rfl := Option.some.inj h0
 refine AKev_ret rfl ?_
 try simp only [F43.rs, c2, c3, c5, aa yx6, c8, go_sem]
 have c8 := bnot_f c8
 try simp only [c8, c2, c3, c5, aa yx6, go_sem]
 refine AKev_backB (hnext1 _ _ (Option.some.inj h1).symm ?_)
 refine Weak.go [1, 3] [0] rfl ?_
 try simp only [R04_Check.h0, c2, c3, c5, aa yx6, c8, go_sem]
 try simp only [c5, c2, c3, go_sem]
 refine AKev_backB (hbrk1 _ _ (Option.some.inj h1).symm ?_)
 refine Weak.go [] [] rfl ?_
 try simp only [R04_Check.x0, c2, c3, c5, go_sem]
 rintro _ hr_
 subst hr_
 simp only at h0
 refine rS ?_
 try simp only [R04_Check.x0, c2, c3, go_sem]
 obtain rfl := Option.some.inj h0
 refine AKev_ret rfl ?_
 try simp only [F43.rs, c2, c3, go_sem]
def F59.c : SC :=
 (.seq
 (.reg [oq 2 (.box 27 (.tmp 0)) 0 [0],
 sn 4 0 33 [4]])
 (.seq
 (.seq
 (.reg [ld 5 27 2 [],
 cf1 6 43 5 27 33 [5],
 bn 7 .neq 33 6 0 33 4 [6]])
 (.cond (.tmp 7)
 (.seq
 (.reg [sn 4 42 33 []])
 .ret)
 .skip))
 (.seq
 (.seq
 (.reg [mv 8 1 3 [1],
 fa 9 27 2 0 [2],
 fa 10 24 9 0 [9],
 ld 11 22 10 [10],
 oq 12 (.indexAddr 22 (.tmp 11) (.const (.int .i64 0))) 0 [11],
 ld 13 89 12 [12],
 ln 14 13 89 3 [13],
 bn 15 .sub 3 14 1 3 3 [14],
 oq 16 (.call ⟨.value (.func 96), #[.tmp 8, .const (.int .i64 0), .tmp 15], #[3, 3, 3]⟩) 4 [8, 15],
 oq 17 (.unOp .not 4 (.tmp 16)) 4 [16]])
 (.cond (.tmp 17)
 (.seq
 (.reg [sn 4 43 33 []])
 .ret)
 .skip))
 (.seq
 (.reg [sn 4 0 33 []])
 .ret))))
theorem F59.rs : Tryz.f59.results.toList = [.tmp 4] := rfl
def R04_asked (k : Nat) (f0 : Firing) (place1 : Int) : Option (Int) :=
 (R04_Check k f0).bind fun x1 =>
 bif (!decide (x1 = (0 : Int))) then
  some 42
 else
  (at? f0.Kiln.Falls 0).bind fun x3 =>
  (R01_In k place1 0 (w64 ((x3.length : Int) - 1))).bind fun x4 =>
  bif (!x4) then
   some 43
  else
   some 0
theorem R04_asked_ok (k : Nat) (f0 : Firing) (place1 : Int) (r : Int) (h0 : R04_asked k f0 place1 = some r) : PCall Tryz.prog 59 [.agg (Firing.c f0), .int .i64 place1] (fun y => y = .int .i64 r) := by
 refine PB (fn := Tryz.f59) (sc := F59.c) ?_
 refine rS ?_
 simp only [R04_asked] at h0
 try simp only [F59.c, go_sem]
 obtain ⟨x1, yx1, h0⟩ := bs h0
 refine zc0 (R04_Check_ok k _ _ yx1) ?_ (by first | rfl | simp [AV.refsL, AV.refs, AV.scal, AV.leaf]) ?_
 try simp only [go_sem]
 try simp only [go_sem]
 refine AKev_bif h0 ?_ ?_ <;> intro c2 h0
 have c2 := bnot_t c2
 try simp only [c2, go_sem]
 obtain rfl := Option.some.inj h0
 refine AKev_ret rfl ?_
 try simp only [F59.rs, c2, go_sem]
 have c2 := bnot_f c2
 try simp only [c2, go_sem]
 obtain ⟨x3, yx3, h0⟩ := bs h0
 try simp only [aa yx3, c2, go_sem]
 obtain ⟨x4, yx4, h0⟩ := bs h0
 refine zc0 (R01_In_ok k _ _ _ _ yx4) ?_ (by first | rfl | simp [AV.refsL, AV.refs, AV.scal, AV.leaf]) ?_
 try simp only [c2, aa yx3, go_sem]
 try simp only [c2, aa yx3, go_sem]
 refine AKev_bif h0 ?_ ?_ <;> intro c5 h0
 have c5 := bnot_t c5
 try simp only [c5, c2, aa yx3, go_sem]
 obtain rfl := Option.some.inj h0
 refine AKev_ret rfl ?_
 try simp only [F59.rs, c2, aa yx3, c5, go_sem]
 have c5 := bnot_f c5
 try simp only [c5, c2, aa yx3, go_sem]
 obtain rfl := Option.some.inj h0
 refine AKev_ret rfl ?_
 try simp only [F59.rs, c2, aa yx3, c5, go_sem]
def F77.s2 : SC :=
 (.seq
 (.seq
 (.reg [mv 88 12 3 [],
 mv 89 7 22 [],
 ln 90 89 22 3 [89],
 b2 91 .lss 3 88 90 3 4 [88, 90]])
 (.cond (.tmp 91)
 .skip
 (.exit 4)))
 (.seq
 (.block 5
 (.seq
 (.dreg [ld 94 27 2 [],
 mv 95 6 37 [],
 mv 96 12 3 [],
 mv 97 10 3 [],
 mv 98 5 89 [],
 mv 99 10 3 [],
 ia 100 89 98 99 [],
 fa 101 30 100 0 [],
 ld 102 3 101 [],
 oq 103 (.call ⟨.value (.func 112), #[.tmp 94, .tmp 95, .tmp 96, .tmp 97, .tmp 102], #[27, 37, 3, 3, 3]⟩) 4 []] [[], [], [], [], [], [], [4, 5], [4, 5, 6], [4, 5, 6, 7], [0, 1, 2, 3, 4, 5, 6, 7, 8]] [94, 95, 96, 97, 98, 99, 100, 101, 102])
 (.cond (.tmp 103)
 (.dreg [mv 104 11 3 [],
 mv 105 5 89 [],
 mv 106 10 3 [],
 ia 107 89 105 106 [],
 fa 108 30 107 0 [],
 ld 109 3 108 [],
 mv 110 7 22 [],
 mv 111 12 3 [],
 ia 112 22 110 111 [],
 ld 113 89 112 [],
 mv 114 10 3 [],
 ia 115 89 113 114 [],
 fa 116 30 115 0 [],
 ld 117 3 116 [],
 b2 118 .add 3 109 117 3 3 [],
 mv 119 7 22 [],
 mv 120 12 3 [],
 ia 121 22 119 120 [],
 ld 122 89 121 [],
 mv 123 1 3 [],
 ia 124 89 122 123 [],
 fa 125 30 124 1 [],
 ld 126 3 125 [],
 b2 127 .sub 3 118 126 3 3 [],
 oq 128 (.call ⟨.builtin .min, #[.tmp 104, .tmp 127], #[3, 3]⟩) 3 [],
 sg 11 128 3 []] [[], [], [], [1, 2], [1, 2, 3], [1, 2, 3, 4], [], [], [6, 7], [6, 7, 8], [], [6, 7, 8, 9, 10], [6, 7, 8, 9, 10, 11], [6, 7, 8, 9, 10, 11, 12], [1, 2, 3, 4, 5, 6, 7, 8, 9, 10, 11, 12, 13], [], [], [15, 16], [15, 16, 17], [], [15, 16, 17, 18, 19], [15, 16, 17, 18, 19, 20], [15, 16, 17, 18, 19, 20, 21], [1, 2, 3, 4, 5, 6, 7, 8, 9, 10, 11, 12, 13, 14, 15, 16, 17, 18, 19, 20, 21, 22], [0, 1, 2, 3, 4, 5, 6, 7, 8, 9, 10, 11, 12, 13, 14, 15, 16, 17, 18, 19, 20, 21, 22, 23], [0, 1, 2, 3, 4, 5, 6, 7, 8, 9, 10, 11, 12, 13, 14, 15, 16, 17, 18, 19, 20, 21, 22, 23, 24]] [104, 105, 106, 107, 108, 109, 110, 111, 112, 113, 114, 115, 116, 117, 118, 119, 120, 121, 122, 123, 124, 125, 126, 127, 128])
 .skip)))
 (.reg [mv 92 12 3 [12],
 bn 93 .add 3 92 1 3 3 [92],
 sg 12 93 3 [93]])))
def F77.s1 : SC :=
 (.seq
 (.seq
 (.reg [mv 71 10 3 [],
 mv 72 5 89 [],
 ln 73 72 89 3 [72],
 b2 74 .lss 3 71 73 3 4 [71, 73]])
 (.cond (.tmp 74)
 .skip
 (.exit 2)))
 (.seq
 (.block 3
 (.seq
 (.seq
 (.reg [mv 77 10 3 [],
 mv 78 1 3 [],
 b2 79 .eql 3 77 78 3 4 [77, 78],
 mv 80 79 4 [79],
 og 81 (.move (.tmp 5)) 89 80 false [],
 og 82 (.move (.tmp 10)) 3 80 false [],
 og 83 (.indexAddr 89 (.tmp 81) (.tmp 82)) 0 80 false [81, 82],
 og 84 (.fieldAddr 30 (.tmp 83) 0) 0 80 false [83],
 og 85 (.load 3 (.tmp 84)) 3 80 false [84],
 og 86 (.binOp .eql 3 (.tmp 85) (.const (.int .i64 (-1000000))) 3) 4 80 false [85],
 oq 87 (.pick (.tmp 80) (.const (.bool true)) (.tmp 86)) 4 [80, 86]])
 (.cond (.tmp 87)
 (.exit 3)
 .skip))
 (.seq
 (.reg [sn 11 1000000 3 []])
 (.seq
 (.seq
 (.reg [sn 12 0 3 []])
 (.block 4
 (.loop F77.s2)))
 (.reg [fa 129 30 8 0 [],
 ld 130 3 129 [129],
 mv 131 11 3 [11],
 oq 132 (.call ⟨.builtin .max, #[.tmp 130, .tmp 131], #[3, 3]⟩) 3 [130, 131],
 fa 133 30 8 0 [],
 ⟨none, .store 3 (.tmp 133) (.tmp 132), 0, none, [132, 133]⟩])))))
 (.reg [mv 75 10 3 [10],
 bn 76 .add 3 75 1 3 3 [75],
 sg 10 76 3 [76]])))
def F77.s0 : SC :=
 (.seq
 (.seq
 (.reg [mv 26 9 3 [],
 mv 27 7 22 [],
 ln 28 27 22 3 [27],
 b2 29 .lss 3 26 28 3 4 [26, 28]])
 (.cond (.tmp 29)
 .skip
 (.exit 0)))
 (.seq
 (.block 1
 (.seq
 (.dreg [fa 32 30 8 0 [],
 ld 33 3 32 [],
 mv 34 7 22 [],
 mv 35 9 3 [],
 ia 36 22 34 35 [],
 ld 37 89 36 [],
 mv 38 1 3 [],
 ia 39 89 37 38 [],
 fa 40 30 39 1 [],
 ld 41 3 40 [],
 oq 42 (.unOp .neg 3 (.tmp 41)) 3 [],
 oq 43 (.call ⟨.builtin .max, #[.tmp 33, .tmp 42], #[3, 3]⟩) 3 [],
 fa 44 30 8 0 [],
 ⟨none, .store 3 (.tmp 44) (.tmp 43), 0, none, []⟩] [[], [0], [], [], [2, 3], [2, 3, 4], [], [2, 3, 4, 5, 6], [2, 3, 4, 5, 6, 7], [2, 3, 4, 5, 6, 7, 8], [2, 3, 4, 5, 6, 7, 8, 9], [0, 1, 2, 3, 4, 5, 6, 7, 8, 9, 10], [0, 1, 2, 3, 4, 5, 6, 7, 8, 9, 10, 11], [0, 1, 2, 3, 4, 5, 6, 7, 8, 9, 10, 11, 12]] [32, 33, 34, 35, 36, 37, 38, 39, 40, 41, 42, 43, 44])
 (.dreg [fa 45 30 8 1 [],
 ld 46 3 45 [],
 mv 47 6 37 [],
 mv 48 9 3 [],
 ia 49 37 47 48 [],
 ld 50 3 49 [],
 mv 51 7 22 [],
 mv 52 9 3 [],
 ia 53 22 51 52 [],
 ld 54 89 53 [],
 mv 55 1 3 [],
 ia 56 89 54 55 [],
 fa 57 30 56 0 [],
 ld 58 3 57 [],
 b2 59 .sub 3 50 58 3 3 [],
 oq 60 (.call ⟨.builtin .max, #[.tmp 46, .tmp 59], #[3, 3]⟩) 3 [],
 fa 61 30 8 1 [],
 ⟨none, .store 3 (.tmp 61) (.tmp 60), 0, none, []⟩] [[], [0], [], [], [2, 3], [2, 3, 4], [], [], [6, 7], [6, 7, 8], [], [6, 7, 8, 9, 10], [6, 7, 8, 9, 10, 11], [6, 7, 8, 9, 10, 11, 12], [2, 3, 4, 5, 6, 7, 8, 9, 10, 11, 12, 13], [0, 1, 2, 3, 4, 5, 6, 7, 8, 9, 10, 11, 12, 13, 14], [0, 1, 2, 3, 4, 5, 6, 7, 8, 9, 10, 11, 12, 13, 14, 15], [0, 1, 2, 3, 4, 5, 6, 7, 8, 9, 10, 11, 12, 13, 14, 15, 16]] [45, 46, 47, 48, 49, 50, 51, 52, 53, 54, 55, 56, 57, 58, 59, 60, 61])))
 (.reg [mv 30 9 3 [9],
 bn 31 .add 3 30 1 3 3 [30],
 sg 9 31 3 [31]])))
def F77.c : SC :=
 (.seq
 (.reg [oq 2 (.box 27 (.tmp 0)) 0 [0],
 oq 4 (.alloc 30) 0 []])
 (.seq
 (.reg [ld 13 27 2 [],
 cf1 14 111 13 27 89 [13],
 sg 5 14 89 [14]])
 (.seq
 (.reg [ld 15 27 2 [],
 cf1 16 101 15 27 37 [15],
 sg 6 16 37 [16]])
 (.seq
 (.reg [fa 17 27 2 0 [],
 fa 18 24 17 0 [17],
 ld 19 22 18 [18],
 sg 7 19 22 [19]])
 (.seq
 (.reg [mv 20 5 89 [],
 mv 21 1 3 [],
 ia 22 89 20 21 [20, 21],
 fa 23 30 22 0 [22],
 ld 24 3 23 [23],
 oq 25 (.build 30 #[(0, .tmp 24), (1, .const (.int .i64 (-1000000)))]) 30 [24],
 oq 8 (.alloc 30) 0 [],
 ⟨none, .store 30 (.tmp 8) (.tmp 25), 0, none, [25]⟩])
 (.seq
 (.seq
 (.reg [sn 9 0 3 []])
 (.block 0
 (.loop F77.s0)))
 (.seq
 (.dreg [fa 62 30 8 1 [],
 ld 63 3 62 [],
 mv 64 5 89 [],
 mv 65 1 3 [],
 ia 66 89 64 65 [],
 fa 67 30 66 1 [],
 ld 68 3 67 [],
 oq 69 (.call ⟨.builtin .min, #[.tmp 63, .tmp 68], #[3, 3]⟩) 3 [],
 fa 70 30 8 1 [],
 ⟨none, .store 3 (.tmp 70) (.tmp 69), 0, none, []⟩] [[], [0], [], [], [2, 3], [2, 3, 4], [2, 3, 4, 5], [0, 1, 2, 3, 4, 5, 6], [0, 1, 2, 3, 4, 5, 6, 7], [0, 1, 2, 3, 4, 5, 6, 7, 8]] [62, 63, 64, 65, 66, 67, 68, 69, 70])
 (.seq
 (.seq
 (.reg [sn 10 0 3 []])
 (.block 2
 (.loop F77.s1)))
 (.seq
 (.reg [ld 134 30 8 [8],
 ⟨none, .store 30 (.tmp 4) (.tmp 134), 0, none, [134]⟩])
 .ret)))))))))
theorem F77.rs : Tryz.f77.results.toList = [.cell 4 30] := rfl
def R04_bound.b0 (k : Nat) (f0 : Firing) (q1 : Int) (x2 : (List Int)) : (Range × Int) → Option (Stp (Range × Int) (Range) (Range)) := fun (s : Range × Int) => match s with
 | (s4, i5) =>
   bif decide (i5 < (f0.Kiln.Falls.length : Int)) then
    (at? f0.Kiln.Falls i5).bind fun x8 =>
    (at? x8 q1).bind fun x9 =>
    (at? x2 i5).bind fun x10 =>
    some (.next ((⟨max s4.Lo (w64 (0 - x9.Hi)), max s4.Hi (w64 (x10 - x9.Lo))⟩ : Range), w64 (i5 + 1)))
   else
    some (.brk s4)
def R04_bound.b2 (k : Nat) (f0 : Firing) (q1 : Int) (x2 : (List Int)) (i13 : Int) (x17 : Range) : (Int × Int) → Option (Stp (Int × Int) (Int) (Range)) := fun (s : Int × Int) => match s with
 | (i19, i20) =>
   bif decide (i20 < (f0.Kiln.Falls.length : Int)) then
    (R04_reaches k f0 x2 i20 i13 x17.Lo).bind fun x23 =>
    bif x23 then
     (at? f0.Kiln.Falls i20).bind fun x25 =>
     (at? x25 i13).bind fun x26 =>
     (at? x25 q1).bind fun x27 =>
     some (.next (min i19 (w64 ((w64 (x17.Lo + x26.Lo)) - x27.Hi)), w64 (i20 + 1)))
    else
     some (.next (i19, w64 (i20 + 1)))
   else
    some (.brk i19)
def R04_bound.b1 (k : Nat) (f0 : Firing) (q1 : Int) (x1 : (List Range)) (x2 : (List Int)) : (Range × Int) → Option (Stp (Range × Int) (Range) (Range)) := fun (s : Range × Int) => match s with
 | (s12, i13) =>
   bif decide (i13 < (x1.length : Int)) then
    bif (!decide (i13 = q1)) then
     (at? x1 i13).bind fun x17 =>
     bif decide (x17.Lo = (-1000000 : Int)) then
      some (.next (s12, w64 (i13 + 1)))
     else
      (whl (R04_bound.b2 k f0 q1 x2 i13 x17) k (1000000, 0)).bind fun r28 => match r28 with
      | .next _ => none
      | .ret v_ => some (.ret v_)
      | .brk i21 =>
       some (.next ((⟨max s12.Lo i21, s12.Hi⟩ : Range), w64 (i13 + 1)))
    else
     some (.next (s12, w64 (i13 + 1)))
   else
    some (.brk s12)
noncomputable def R04_bound.h0 (f0 : Firing) (q1 : Int) (x1 : (List Range)) (x2 : (List Int)) : (Range × Int) → St := fun (s : Range × Int) => match s with
 | (s4, i5) => ⟨[(1, .int .i64 q1), (2, .ptr 0 0 0), (4, .ptr 0 1 0), (5, .sl 2 (List.map Range.c x1)), (6, .sl 1 (List.map eI x2)), (7, .sl 1 (List.map (eL 2 Range.c) f0.Kiln.Falls)), (8, .ptr 0 2 0), (9, .int .i64 i5)], [(0, .box [.sl 1 (List.map (eL 2 Range.c) f0.Kiln.Falls), .sl 6 (List.map Reading.c f0.Readings)]), (1, .box [.int .i64 0, .int .i64 0]), (2, .box [.int .i64 s4.Lo, .int .i64 s4.Hi])], [], 3, Tryz.f77.ntmps⟩
noncomputable def R04_bound.x0 (f0 : Firing) (q1 : Int) (x1 : (List Range)) (x2 : (List Int)) : Range → St := fun (s6 : Range) => ⟨[(1, .int .i64 q1), (2, .ptr 0 0 0), (4, .ptr 0 1 0), (5, .sl 2 (List.map Range.c x1)), (6, .sl 1 (List.map eI x2)), (7, .sl 1 (List.map (eL 2 Range.c) f0.Kiln.Falls)), (8, .ptr 0 2 0)], [(0, .box [.sl 1 (List.map (eL 2 Range.c) f0.Kiln.Falls), .sl 6 (List.map Reading.c f0.Readings)]), (1, .box [.int .i64 0, .int .i64 0]), (2, .box [.int .i64 s6.Lo, .int .i64 s6.Hi])], [], 3, Tryz.f77.ntmps⟩
noncomputable def R04_bound.h2 (f0 : Firing) (q1 : Int) (x1 : (List Range)) (x2 : (List Int)) (s12 : Range) (i13 : Int) : (Int × Int) → St := fun (s : Int × Int) => match s with
 | (i19, i20) => ⟨[(1, .int .i64 q1), (2, .ptr 0 0 0), (4, .ptr 0 1 0), (5, .sl 2 (List.map Range.c x1)), (6, .sl 1 (List.map eI x2)), (7, .sl 1 (List.map (eL 2 Range.c) f0.Kiln.Falls)), (8, .ptr 0 2 0), (10, .int .i64 i13), (11, .int .i64 i19), (12, .int .i64 i20)], [(0, .box [.sl 1 (List.map (eL 2 Range.c) f0.Kiln.Falls), .sl 6 (List.map Reading.c f0.Readings)]), (1, .box [.int .i64 0, .int .i64 0]), (2, .box [.int .i64 s12.Lo, .int .i64 s12.Hi])], [], 3, Tryz.f77.ntmps⟩
noncomputable def R04_bound.x2 (f0 : Firing) (q1 : Int) (x1 : (List Range)) (x2 : (List Int)) (s12 : Range) (i13 : Int) : Int → St := fun (i21 : Int) => ⟨[(1, .int .i64 q1), (2, .ptr 0 0 0), (4, .ptr 0 1 0), (5, .sl 2 (List.map Range.c x1)), (6, .sl 1 (List.map eI x2)), (7, .sl 1 (List.map (eL 2 Range.c) f0.Kiln.Falls)), (8, .ptr 0 2 0), (10, .int .i64 i13), (11, .int .i64 i21)], [(0, .box [.sl 1 (List.map (eL 2 Range.c) f0.Kiln.Falls), .sl 6 (List.map Reading.c f0.Readings)]), (1, .box [.int .i64 0, .int .i64 0]), (2, .box [.int .i64 s12.Lo, .int .i64 s12.Hi])], [], 3, Tryz.f77.ntmps⟩
noncomputable def R04_bound.h1 (f0 : Firing) (q1 : Int) (x1 : (List Range)) (x2 : (List Int)) : (Range × Int) → St := fun (s : Range × Int) => match s with
 | (s12, i13) => ⟨[(1, .int .i64 q1), (2, .ptr 0 0 0), (4, .ptr 0 1 0), (5, .sl 2 (List.map Range.c x1)), (6, .sl 1 (List.map eI x2)), (7, .sl 1 (List.map (eL 2 Range.c) f0.Kiln.Falls)), (8, .ptr 0 2 0), (10, .int .i64 i13)], [(0, .box [.sl 1 (List.map (eL 2 Range.c) f0.Kiln.Falls), .sl 6 (List.map Reading.c f0.Readings)]), (1, .box [.int .i64 0, .int .i64 0]), (2, .box [.int .i64 s12.Lo, .int .i64 s12.Hi])], [], 3, Tryz.f77.ntmps⟩
noncomputable def R04_bound.x1 : Range → St := fun (s14 : Range) => ⟨[(4, .ptr 0 0 0), (8, .ptr 0 1 0)], [(0, .box [.int .i64 0, .int .i64 0]), (1, .box [.int .i64 s14.Lo, .int .i64 s14.Hi])], [], 2, Tryz.f77.ntmps⟩
def R04_bound (k : Nat) (f0 : Firing) (q1 : Int) : Option (Range) :=
 (R04_limits k f0).bind fun x1 =>
 (R04_hottest k f0).bind fun x2 =>
 (at? x1 q1).bind fun x3 =>
 (whl (R04_bound.b0 k f0 q1 x2) k ((⟨x3.Lo, -1000000⟩ : Range), 0)).bind fun r11 => match r11 with
 | .next _ => none
 | .ret v_ => some v_
 | .brk s6 =>
  (whl (R04_bound.b1 k f0 q1 x1 x2) k ((⟨s6.Lo, min s6.Hi x3.Hi⟩ : Range), 0)).bind fun r29 => match r29 with
  | .next _ => none
  | .ret v_ => some v_
  | .brk s14 =>
   some s14
theorem R04_bound_ok (k : Nat) (f0 : Firing) (q1 : Int) (r : Range) (h0 : R04_bound k f0 q1 = some r) : PCall Tryz.prog 77 [.agg (Firing.c f0), .int .i64 q1] (fun y => y = .agg (Range.c r)) := by
 refine PB (fn := Tryz.f77) (sc := F77.c) ?_
 refine rS ?_
 simp only [R04_bound] at h0
 try simp only [F77.c, go_sem]
 obtain ⟨x1, yx1, h0⟩ := bs h0
 refine zc0 (R04_limits_ok k _ _ yx1) ?_ (by first | rfl | simp [AV.refsL, AV.refs, AV.scal, AV.leaf]) ?_
 try simp only [go_sem]
 try simp only [go_sem]
 obtain ⟨x2, yx2, h0⟩ := bs h0
 refine zc0 (R04_hottest_ok k _ _ yx2) ?_ (by first | rfl | simp [AV.refsL, AV.refs, AV.scal, AV.leaf]) ?_
 try simp only [go_sem]
 try simp only [go_sem]
 obtain ⟨x3, yx3, h0⟩ := bs h0
 try simp only [aa yx3, go_sem]
 obtain ⟨r11, yr11, h0⟩ := bs h0
 refine AKev_loopS yr11 (R04_bound.h0 f0 q1 x1 x2) (R04_bound.x0 f0 q1 x1 x2) ?_ ?_ ?_
 refine Weak.go [1, 2, 4, 5, 6, 7, 8, 9] [0, 16, 288] rfl ?_
 try simp only [R04_bound.h0, aa yx3, go_sem]
 rintro ⟨s4, i5⟩ x_1 Bk1 Br1 h1 hnext1 hbrk1 hret1
 refine rS ?_
 simp only [R04_bound.b0] at h1
 try simp only [F77.s0, R04_bound.h0, aa yx3, go_sem]
 refine AKev_bif h1 ?_ ?_ <;> intro c7 h1
 try simp only [c7, aa yx3, go_sem]
 refine AKev_region T_ok follows_ok 1000 ?_
 try simp only [aa yx3, c7, go_sem]
 obtain ⟨x8, yx8, h1⟩ := bs h1
 try simp only [aa yx8, aa yx3, c7, go_sem]
 obtain ⟨x9, yx9, h1⟩ := bs h1
 try simp only [aa yx9, aa yx3, c7, aa yx8, go_sem]
 refine DG_done ⟨rfl, run_sound T_ok 1000 _ _ ?_⟩
 try simp only [aa yx3, c7, aa yx8, aa yx9, go_sem]
 refine AKev_region T_ok follows_ok 1000 ?_
 try simp only [aa yx3, c7, aa yx8, aa yx9, go_sem]
 obtain ⟨x10, yx10, h1⟩ := bs h1
 try simp only [aa yx10, aa yx8, aa yx9, aa yx3, c7, go_sem]
 refine DG_done ⟨rfl, run_sound T_ok 1000 _ _ ?_⟩
 try simp only [aa yx3, c7, aa yx8, aa yx9, aa yx10, go_sem]
 refine AKev_backB (hnext1 _ _ (Option.some.inj h1).symm ?_)
 refine Weak.go [1, 2, 4, 5, 6, 7, 8, 9] [0, 1, 2] rfl ?_
 try simp only [R04_bound.h0, aa yx3, c7, aa yx8, aa yx9, aa yx10, go_sem]
 try simp only [c7, aa yx3, go_sem]
 refine AKev_backB (hbrk1 _ _ (Option.some.inj h1).symm ?_)
 refine Weak.go [1, 2, 4, 5, 6, 7, 8] [0, 1, 2] rfl ?_
 try simp only [R04_bound.x0, aa yx3, c7, go_sem]
 rintro s6 hr_
 subst hr_
 simp only at h0
 refine rS ?_
 try simp only [R04_bound.x0, aa yx3, go_sem]
 refine AKev_region T_ok follows_ok 1000 ?_
 try simp only [aa yx3, go_sem]
 refine DG_done ⟨rfl, run_sound T_ok 1000 _ _ ?_⟩
 try simp only [aa yx3, go_sem]
 obtain ⟨r29, yr29, h0⟩ := bs h0
 refine AKev_loopS yr29 (R04_bound.h1 f0 q1 x1 x2) (R04_bound.x1) ?_ ?_ ?_
 refine Weak.go [1, 2, 4, 5, 6, 7, 8, 10] [0, 1, 2] rfl ?_
 try simp only [R04_bound.h1, aa yx3, go_sem]
 rintro ⟨s12, i13⟩ x_1 Bk1 Br1 h1 hnext1 hbrk1 hret1
 refine rS ?_
 simp only [R04_bound.b1] at h1
 try simp only [F77.s1, R04_bound.h1, aa yx3, go_sem]
 refine AKev_bif h1 ?_ ?_ <;> intro c15 h1
 try simp only [c15, aa yx3, go_sem]
 refine AKev_bif h1 ?_ ?_ <;> intro c16 h1
 have c16 := bnot_t c16
 try simp only [c16, aa yx3, c15, go_sem]
 obtain ⟨x17, yx17, h1⟩ := bs h1
 try simp only [aa yx17, aa yx3, c15, c16, go_sem]
 refine AKev_bif h1 ?_ ?_ <;> intro c18 h1
 try simp only [c18, aa yx3, c15, c16, aa yx17, go_sem]
 refine AKev_backB (hnext1 _ _ (Option.some.inj h1).symm ?_)
 refine Weak.go [1, 2, 4, 5, 6, 7, 8, 10] [0, 1, 2] rfl ?_
 try simp only [R04_bound.h1, aa yx3, c15, c16, aa yx17, c18, go_sem]
 try simp only [c18, aa yx3, c15, c16, aa yx17, go_sem]
 obtain ⟨r28, yr28, h1⟩ := bs h1
 refine AKev_loopS yr28 (R04_bound.h2 f0 q1 x1 x2 s12 i13) (R04_bound.x2 f0 q1 x1 x2 s12 i13) ?_ ?_ ?_
 refine Weak.go [1, 2, 4, 5, 6, 7, 8, 10, 11, 12] [0, 1, 2] rfl ?_
 try simp only [R04_bound.h2, aa yx3, c15, c16, aa yx17, c18, go_sem]
 rintro ⟨i19, i20⟩ x_2 Bk2 Br2 h2 hnext2 hbrk2 hret2
 refine rS ?_
 simp only [R04_bound.b2] at h2
 try simp only [F77.s2, R04_bound.h2, aa yx3, c15, c16, aa yx17, c18, go_sem]
 refine AKev_bif h2 ?_ ?_ <;> intro c22 h2
 try simp only [c22, aa yx3, c15, c16, aa yx17, c18, go_sem]
 refine AKev_region T_ok follows_ok 1000 ?_
 try simp only [aa yx17, aa yx3, c15, c16, c18, c22, go_sem]
 obtain ⟨x23, yx23, h2⟩ := bs h2
 refine DG_call0 1000 (R04_reaches_ok k _ _ _ _ _ _ yx23) ?_ (by first | rfl | simp [AV.refsL, AV.refs, AV.scal, AV.leaf]) ?_
 try simp only [aa yx3, c15, c16, aa yx17, c18, c22, go_sem]
 try simp only [aa yx3, c15, c16, aa yx17, c18, c22, go_sem]
 refine DG_done ⟨rfl, run_sound T_ok 1000 _ _ ?_⟩
 try simp only [aa yx3, c15, c16, aa yx17, c18, c22, go_sem]
 refine AKev_bif h2 ?_ ?_ <;> intro c24 h2
 try simp only [c24, aa yx3, c15, c16, aa yx17, c18, c22, go_sem]
 refine AKev_region T_ok follows_ok 1000 ?_
 try simp only [aa yx17, aa yx3, c15, c16, c18, c22, c24, go_sem]
 obtain ⟨x25, yx25, h2⟩ := bs h2
 try simp only [aa yx25, aa yx3, c15, c16, aa yx17, c18, c22, c24, go_sem]
 obtain ⟨x26, yx26, h2⟩ := bs h2
 try simp only [aa yx26, aa yx25, aa yx3, c15, c16, aa yx17, c18, c22, c24, go_sem]
 obtain ⟨x27, yx27, h2⟩ := bs h2
 try simp only [aa yx27, aa yx3, c15, c16, aa yx17, c18, c22, c24, aa yx25, aa yx26, go_sem]
 refine DG_done ⟨rfl, run_sound T_ok 1000 _ _ ?_⟩
 try simp only [aa yx3, c15, c16, aa yx17, c18, c22, c24, aa yx25, aa yx26, aa yx27, go_sem]
 refine AKev_backB (hnext2 _ _ (Option.some.inj h2).symm ?_)
 refine Weak.go [1, 2, 4, 5, 6, 7, 8, 10, 11, 12] [0, 1, 2] rfl ?_
 try simp only [R04_bound.h2, aa yx3, c15, c16, aa yx17, c18, c22, c24, aa yx25, aa yx26, aa yx27, go_sem]
 try simp only [c24, aa yx3, c15, c16, aa yx17, c18, c22, go_sem]
 refine AKev_backB (hnext2 _ _ (Option.some.inj h2).symm ?_)
 refine Weak.go [1, 2, 4, 5, 6, 7, 8, 10, 11, 12] [0, 1, 2] rfl ?_
 try simp only [R04_bound.h2, aa yx3, c15, c16, aa yx17, c18, c22, c24, go_sem]
 try simp only [c22, aa yx3, c15, c16, aa yx17, c18, go_sem]
 refine AKev_backB (hbrk2 _ _ (Option.some.inj h2).symm ?_)
 refine Weak.go [1, 2, 4, 5, 6, 7, 8, 10, 11] [0, 1, 2] rfl ?_
 try simp only [R04_bound.x2, aa yx3, c15, c16, aa yx17, c18, c22, go_sem]
 rintro i21 hr_
 subst hr_
 simp only at h1
 refine rS ?_
 try simp only [R04_bound.x2, aa yx3, c15, c16, aa yx17, c18, go_sem]
 refine AKev_backB (hnext1 _ _ (Option.some.inj h1).symm ?_)
 refine Weak.go [1, 2, 4, 5, 6, 7, 8, 10] [0, 1, 2] rfl ?_
 try simp only [R04_bound.h1, aa yx3, c15, c16, aa yx17, c18, go_sem]
 have c16 := bnot_f c16
 try simp only [c16, aa yx3, c15, go_sem]
 refine AKev_backB (hnext1 _ _ (Option.some.inj h1).symm ?_)
 refine Weak.go [1, 2, 4, 5, 6, 7, 8, 10] [0, 1, 2] rfl ?_
 try simp only [R04_bound.h1, aa yx3, c15, c16, go_sem]
 try simp only [c15, aa yx3, go_sem]
 refine AKev_backB (hbrk1 _ _ (Option.some.inj h1).symm ?_)
 refine Weak.go [4, 8] [1, 2] rfl ?_
 try simp only [R04_bound.x1, aa yx3, c15, go_sem]
 rintro s14 hr_
 subst hr_
 simp only at h0
 refine rS ?_
 try simp only [R04_bound.x1, aa yx3, go_sem]
 obtain rfl := Option.some.inj h0
 refine AKev_ret rfl ?_
 try simp only [F77.rs, aa yx3, go_sem]
def F22.c : SC :=
 (.seq
 (.reg [oq 2 (.box 27 (.tmp 0)) 0 [0],
 oq 4 (.alloc 30) 0 [],
 sn 5 0 33 [5]])
 (.seq
 (.reg [ld 7 27 2 [],
 mv 8 1 3 [],
 cf2 9 59 7 8 27 3 33 [7, 8],
 sg 6 9 33 [9]])
 (.seq
 (.seq
 (.reg [mv 10 6 33 [],
 bn 11 .neq 33 10 0 33 4 [10]])
 (.cond (.tmp 11)
 (.seq
 (.reg [oq 12 (.build 30 #[]) 30 [],
 mv 13 6 33 [6],
 ⟨none, .store 30 (.tmp 4) (.tmp 12), 0, none, [12]⟩,
 sg 5 13 33 [13]])
 .ret)
 .skip))
 (.seq
 (.seq
 (.reg [ld 14 27 2 [],
 cf1 15 56 14 27 4 [14],
 oq 16 (.unOp .not 4 (.tmp 15)) 4 [15]])
 (.cond (.tmp 16)
 (.seq
 (.reg [oq 17 (.build 30 #[]) 30 [],
 ⟨none, .store 30 (.tmp 4) (.tmp 17), 0, none, [17]⟩,
 sn 5 44 33 []])
 .ret)
 .skip))
 (.seq
 (.reg [ld 18 27 2 [2],
 mv 19 1 3 [1],
 cf2 20 77 18 19 27 3 30 [18, 19],
 ⟨none, .store 30 (.tmp 4) (.tmp 20), 0, none, [20]⟩,
 sn 5 0 33 []])
 .ret)))))
theorem F22.rs : Tryz.f22.results.toList = [.cell 4 30, .tmp 5] := rfl
def R04_Bound (k : Nat) (f0 : Firing) (place1 : Int) : Option (Range × Int) :=
 (R04_asked k f0 place1).bind fun x1 =>
 bif (!decide (x1 = (0 : Int))) then
  some ((⟨0, 0⟩ : Range), x1)
 else
  (R04_IsSound k f0).bind fun x3 =>
  bif (!x3) then
   some ((⟨0, 0⟩ : Range), 44)
  else
   (R04_bound k f0 place1).bind fun x5 =>
   some (x5, 0)
theorem R04_Bound_ok (k : Nat) (f0 : Firing) (place1 : Int) (r : Range × Int) (h0 : R04_Bound k f0 place1 = some r) : PCall Tryz.prog 22 [.agg (Firing.c f0), .int .i64 place1] (fun y => y = .tup [.agg (Range.c r.1), .int .i64 r.2]) := by
 refine PB (fn := Tryz.f22) (sc := F22.c) ?_
 refine rS ?_
 simp only [R04_Bound] at h0
 try simp only [F22.c, go_sem]
 obtain ⟨x1, yx1, h0⟩ := bs h0
 refine zc0 (R04_asked_ok k _ _ _ yx1) ?_ (by first | rfl | simp [AV.refsL, AV.refs, AV.scal, AV.leaf]) ?_
 try simp only [go_sem]
 try simp only [go_sem]
 refine AKev_bif h0 ?_ ?_ <;> intro c2 h0
 have c2 := bnot_t c2
 try simp only [c2, go_sem]
 obtain rfl := Option.some.inj h0
 refine AKev_ret rfl ?_
 try simp only [F22.rs, c2, go_sem]
 have c2 := bnot_f c2
 try simp only [c2, go_sem]
 obtain ⟨x3, yx3, h0⟩ := bs h0
 refine zc0 (R04_IsSound_ok k _ _ yx3) ?_ (by first | rfl | simp [AV.refsL, AV.refs, AV.scal, AV.leaf]) ?_
 try simp only [c2, go_sem]
 try simp only [c2, go_sem]
 refine AKev_bif h0 ?_ ?_ <;> intro c4 h0
 have c4 := bnot_t c4
 try simp only [c4, c2, go_sem]
 obtain rfl := Option.some.inj h0
 refine AKev_ret rfl ?_
 try simp only [F22.rs, c2, c4, go_sem]
 have c4 := bnot_f c4
 try simp only [c4, c2, go_sem]
 obtain ⟨x5, yx5, h0⟩ := bs h0
 refine zc0 (R04_bound_ok k _ _ _ yx5) ?_ (by first | rfl | simp [AV.refsL, AV.refs, AV.scal, AV.leaf]) ?_
 try simp only [c2, c4, go_sem]
 try simp only [c2, c4, go_sem]
 obtain rfl := Option.some.inj h0
 refine AKev_ret rfl ?_
 try simp only [F22.rs, c2, c4, go_sem]
def F121.s0 : SC :=
 (.seq
 (.reg [b2 9 .lss 3 8 7 3 0 []])
 (.seq
 (.cond (.tmp 9)
 .skip
 (.exit 0))
 (.seq
 (.block 1
 (.seq
 (.reg [mv 10 8 3 [],
 sg 5 10 3 [10]])
 (.seq
 (.reg [mv 11 1 109 [],
 mv 12 0 37 [],
 mv 13 5 3 [],
 ia 14 37 12 13 [12, 13],
 ld 15 3 14 [14],
 oq 16 (.call ⟨.value (.tmp 11), #[.tmp 15], #[3]⟩) 4 [11, 15]])
 (.cond (.tmp 16)
 (.seq
 (.reg [mv 17 5 3 [5],
 sg 4 17 3 [17]])
 .ret)
 .skip))))
 (.reg [bn 18 .add 3 8 1 3 3 [8],
 mv 8 18 3 [18]]))))
def F121.c : SC :=
 (.seq
 (.reg [sn 4 0 3 [4]])
 (.seq
 (.seq
 (.reg [mv 6 0 37 [],
 ln 7 6 37 3 [6],
 oq 8 (.move (.const (.int .i64 0))) 3 []])
 (.block 0
 (.loop F121.s0)))
 (.seq
 (.reg [sn 4 (-1) 3 []])
 .ret)))
theorem F121.rs : Tryz.f121.results.toList = [.tmp 4] := rfl
def slices_IndexFunc_int.b0 (k : Nat) (f1 : Int → Option (Bool)) (s0 : (List Int)) : Int → Option (Stp (Int) (Unit) (Int)) := fun (i1 : Int) =>
 bif decide (i1 < (s0.length : Int)) then
  (at? s0 i1).bind fun x3 =>
  (f1 x3).bind fun x4 =>
  bif x4 then
   some (.ret i1)
  else
   some (.next (w64 (i1 + 1)))
 else
  some (.brk ())
noncomputable def slices_IndexFunc_int.h0 (f1_f : Nat) (f1_c : List AV) (s0 : (List Int)) : Int → St := fun (i1 : Int) => ⟨[(0, .sl 1 (List.map eI s0)), (1, .fn (.func f1_f) [] f1_c), (7, .int .i64 (s0.length : Int)), (8, .int .i64 i1)], [], [], 1, Tryz.f121.ntmps⟩
noncomputable def slices_IndexFunc_int.x0 : Unit → St := fun (_ : Unit) => ⟨[], [], [], 1, Tryz.f121.ntmps⟩
def slices_IndexFunc_int (k : Nat) (s0 : (List Int)) (f1 : Int → Option (Bool)) : Option (Int) :=
 (whl (slices_IndexFunc_int.b0 k f1 s0) k 0).bind fun r6 => match r6 with
 | .next _ => none
 | .ret v_ => some v_
 | .brk _ =>
  some (-1)
theorem slices_IndexFunc_int_ok (k : Nat) (s0 : (List Int)) (f1_f : Nat) (f1_c : List AV) (f1_i : Ice f1_c) (f1 : Int → Option (Bool)) (f1_h : ∀ q0 qr, f1 q0 = some qr → PCall Tryz.prog f1_f (.int .i64 q0 :: f1_c) (fun y => y = .bool qr)) (r : Int) (h0 : slices_IndexFunc_int k s0 f1 = some r) : PCall Tryz.prog 121 [.sl 1 (List.map eI s0), .fn (.func f1_f) [] f1_c] (fun y => y = .int .i64 r) := by
 refine PB (fn := Tryz.f121) (sc := F121.c) ?_
 refine rS ?_
 simp only [slices_IndexFunc_int] at h0
 try simp only [F121.c, f1_i.sh, f1_i.frz, f1_i.br, f1_i.refs, f1_i.imp, f1_i.ren, f1_i.un, go_sem]
 obtain ⟨r6, yr6, h0⟩ := bs h0
 refine AKev_loopS yr6 (slices_IndexFunc_int.h0 f1_f f1_c s0) (slices_IndexFunc_int.x0) ?_ ?_ ?_
 refine Weak.go [0, 1, 7, 8] [] rfl ?_
 try simp only [slices_IndexFunc_int.h0, f1_i.sh, f1_i.frz, f1_i.br, f1_i.refs, f1_i.imp, f1_i.ren, f1_i.un, go_sem]
 rintro i1 x_1 Bk1 Br1 h1 hnext1 hbrk1 hret1
 refine rS ?_
 simp only [slices_IndexFunc_int.b0] at h1
 try simp only [F121.s0, slices_IndexFunc_int.h0, f1_i.sh, f1_i.frz, f1_i.br, f1_i.refs, f1_i.imp, f1_i.ren, f1_i.un, go_sem]
 refine AKev_bif h1 ?_ ?_ <;> intro c2 h1
 try simp only [c2, f1_i.sh, f1_i.frz, f1_i.br, f1_i.refs, f1_i.imp, f1_i.ren, f1_i.un, go_sem]
 obtain ⟨x3, yx3, h1⟩ := bs h1
 try simp only [aa yx3, f1_i.sh, f1_i.frz, f1_i.br, f1_i.refs, f1_i.imp, f1_i.ren, f1_i.un, c2, go_sem]
 obtain ⟨x4, yx4, h1⟩ := bs h1
 refine zc0 (f1_h _ _ yx4) ?_ (by first | rfl | simp [AV.refsL, AV.refs, AV.scal, AV.leaf, f1_i.refs]) ?_
 try simp only [f1_i.sh, f1_i.frz, f1_i.br, f1_i.refs, f1_i.imp, f1_i.ren, f1_i.un, c2, aa yx3, go_sem]
 try simp only [f1_i.sh, f1_i.frz, f1_i.br, f1_i.refs, f1_i.imp, f1_i.ren, f1_i.un, c2, aa yx3, go_sem]
 refine AKev_bif h1 ?_ ?_ <;> intro c5 h1
 try simp only [c5, f1_i.sh, f1_i.frz, f1_i.br, f1_i.refs, f1_i.imp, f1_i.ren, f1_i.un, c2, aa yx3, go_sem]
 obtain rfl := hret1 _ (Option.some.inj h1).symm
 simp only at h0
 obtain rfl := Option.some.inj h0
 refine AKev_ret rfl ?_
 try simp only [F121.rs, f1_i.sh, f1_i.frz, f1_i.br, f1_i.refs, f1_i.imp, f1_i.ren, f1_i.un, c2, aa yx3, c5, go_sem]
 try simp only [c5, f1_i.sh, f1_i.frz, f1_i.br, f1_i.refs, f1_i.imp, f1_i.ren, f1_i.un, c2, aa yx3, go_sem]
 refine AKev_backB (hnext1 _ _ (Option.some.inj h1).symm ?_)
 refine Weak.go [0, 1, 7, 8] [] rfl ?_
 try simp only [slices_IndexFunc_int.h0, f1_i.sh, f1_i.frz, f1_i.br, f1_i.refs, f1_i.imp, f1_i.ren, f1_i.un, c2, aa yx3, c5, go_sem]
 try simp only [c2, f1_i.sh, f1_i.frz, f1_i.br, f1_i.refs, f1_i.imp, f1_i.ren, f1_i.un, go_sem]
 refine AKev_backB (hbrk1 _ _ (Option.some.inj h1).symm ?_)
 refine Weak.go [] [] rfl ?_
 try simp only [slices_IndexFunc_int.x0, f1_i.sh, f1_i.frz, f1_i.br, f1_i.refs, f1_i.imp, f1_i.ren, f1_i.un, c2, go_sem]
 rintro _ hr_
 subst hr_
 simp only at h0
 refine rS ?_
 try simp only [slices_IndexFunc_int.x0, f1_i.sh, f1_i.frz, f1_i.br, f1_i.refs, f1_i.imp, f1_i.ren, f1_i.un, go_sem]
 obtain rfl := Option.some.inj h0
 refine AKev_ret rfl ?_
 try simp only [F121.rs, f1_i.sh, f1_i.frz, f1_i.br, f1_i.refs, f1_i.imp, f1_i.ren, f1_i.un, go_sem]
def F78.s0 : SC :=
 (.seq
 (.seq
 (.reg [mv 16 6 3 [],
 mv 17 0 37 [],
 ln 18 17 37 3 [17],
 b2 19 .lss 3 16 18 3 4 [16, 18]])
 (.cond (.tmp 19)
 .skip
 (.exit 0)))
 (.seq
 (.block 1
 (.seq
 (.reg [mv 22 0 37 [],
 mv 23 6 3 [],
 ia 24 37 22 23 [22, 23],
 ld 25 3 24 [24],
 sg 7 25 3 [25]])
 (.seq
 (.reg [mv 26 1 109 [],
 mv 27 7 3 [],
 oq 28 (.call ⟨.value (.tmp 26), #[.tmp 27], #[3]⟩) 4 [26, 27],
 oq 29 (.unOp .not 4 (.tmp 28)) 4 [28]])
 (.cond (.tmp 29)
 (.seq
 (.reg [mv 30 0 37 [],
 mv 31 5 3 [],
 mv 32 7 3 [7],
 ia 33 37 30 31 [30, 31],
 ⟨none, .store 3 (.tmp 33) (.tmp 32), 0, none, [32, 33]⟩])
 (.reg [mv 34 5 3 [5],
 bn 35 .add 3 34 1 3 3 [34],
 sg 5 35 3 [35]]))
 .skip))))
 (.reg [mv 20 6 3 [6],
 bn 21 .add 3 20 1 3 3 [20],
 sg 6 21 3 [21]])))
def F78.c : SC :=
 (.seq
 (.reg [oq 4 (.assign (.const (.slice none 0 0))) 37 [4]])
 (.seq
 (.reg [mv 8 0 37 [],
 mv 9 1 109 [],
 cf2 10 121 8 9 37 109 3 [8, 9],
 sg 5 10 3 [10]])
 (.seq
 (.seq
 (.reg [mv 11 5 3 [],
 bn 12 .eql 3 11 (-1) 3 4 [11]])
 (.cond (.tmp 12)
 (.seq
 (.reg [mv 13 0 37 [0],
 sg 4 13 37 [13]])
 .ret)
 .skip))
 (.seq
 (.seq
 (.reg [mv 14 5 3 [],
 bn 15 .add 3 14 1 3 3 [14],
 sg 6 15 3 [15]])
 (.block 0
 (.loop F78.s0)))
 (.seq
 (.reg [mv 36 0 37 [],
 mv 37 5 3 [],
 oq 38 (.slice 37 (.tmp 36) (some (.tmp 37)) none none) 37 [36, 37],
 ⟨none, .call ⟨.builtin .clear, #[.tmp 38], #[37]⟩, 0, none, [38]⟩])
 (.seq
 (.reg [mv 39 0 37 [0],
 mv 40 5 3 [5],
 oq 41 (.slice 37 (.tmp 39) none (some (.tmp 40)) none) 37 [39, 40],
 sg 4 41 37 [41]])
 .ret))))))
theorem F78.rs : Tryz.f78.results.toList = [.tmp 4] := rfl
def slices_DeleteFunc_int.b0 (k : Nat) (del1 : Int → Option (Bool)) : (Int × Int × (List Int)) → Option (Stp (Int × Int × (List Int)) (Int × (List Int)) ((List Int))) := fun (s : Int × Int × (List Int)) => match s with
 | (i3, i4, l5) =>
   bif decide (i4 < ((l5.length : Nat) : Int)) then
    (at? l5 i4).bind fun x9 =>
    (del1 x9).bind fun x10 =>
    bif (!x10) then
     (at? l5 i3).bind fun x12 =>
     (set? l5 i3 x9).bind fun l13 =>
     some (.next (w64 (i3 + 1), w64 (i4 + 1), l13))
    else
     some (.next (i3, w64 (i4 + 1), l5))
   else
    some (.brk (i3, l5))
noncomputable def slices_DeleteFunc_int.h0 (H : Heap) (del1_f : Nat) (del1_c : List AV) : (Int × Int × (List Int)) → St := fun (s : Int × Int × (List Int)) => match s with
 | (i3, i4, l5) => ⟨[(0, .loc 0 0 1 0 l5.length l5.length), (1, .fn (.func del1_f) [] del1_c), (5, .int .i64 i3), (6, .int .i64 i4)], [(0, .arr 3 1 (List.map eI l5))], H, 1, Tryz.f78.ntmps⟩
noncomputable def slices_DeleteFunc_int.x0 (H : Heap) : (Int × (List Int)) → St := fun (s : Int × (List Int)) => match s with
 | (i6, l7) => ⟨[(0, .loc 0 0 1 0 l7.length l7.length), (5, .int .i64 i6)], [(0, .arr 3 1 (List.map eI l7))], H, 1, Tryz.f78.ntmps⟩
def slices_DeleteFunc_int (k : Nat) (s0 : (List Int)) (del1 : Int → Option (Bool)) : Option ((List Int)) :=
 (slices_IndexFunc_int k s0 del1).bind fun x1 =>
 bif decide (x1 = (-1 : Int)) then
  some s0
 else
  (whl (slices_DeleteFunc_int.b0 k del1) k (x1, w64 (x1 + 1), s0)).bind fun r14 => match r14 with
  | .next _ => none
  | .ret v_ => some v_
  | .brk (i6, l7) =>
   (ls? l7.length i6).bind fun _ =>
   (hs? l7.length i6).bind fun _ =>
   some ((clr l7 i6.toNat (l7.length - i6.toNat) 0).take i6.toNat)
theorem slices_DeleteFunc_int_ok (k : Nat) (s0 : (List Int)) (del1_f : Nat) (del1_c : List AV) (del1_i : Ice del1_c) (del1 : Int → Option (Bool)) (del1_h : ∀ q0 qr, del1 q0 = some qr → PCall Tryz.prog del1_f (.int .i64 q0 :: del1_c) (fun y => y = .bool qr)) (r : (List Int)) (h0 : slices_DeleteFunc_int k s0 del1 = some r) : GCall Tryz.prog 78 [.loc 0 0 1 0 s0.length s0.length, .fn (.func del1_f) [] del1_c] [(0, .arr 3 1 (List.map eI s0))] (fun y fr => y = .loc 0 0 1 0 r.length r.length ∧ fr = [(0, .arr 3 1 (List.map eI r))]) := by
 have hr := GCall.own (et := 3) (sz := 1) (ls := List.map eI r) (GCall.of_body T_ok (f := 78) (fn := Tryz.f78) (sc := F78.c) (args := [.loc 0 0 1 0 s0.length s0.length, .fn (.func del1_f) [] del1_c]) (fr0 := [(0, .arr 3 1 (List.map eI s0))]) (by rfl) (by rfl) (by decide +kernel) (by rfl) (by decide +kernel) (Nat.le_of_ble_eq_true rfl) (fun H => ?_))
 simpa only [List.length_map] using hr
 refine rS ?_
 simp only [slices_DeleteFunc_int] at h0
 try simp only [F78.c, del1_i.sh, del1_i.frz, del1_i.br, del1_i.refs, del1_i.imp, del1_i.ren, del1_i.un, go_sem]
 obtain ⟨x1, yx1, h0⟩ := bs h0
 refine zc0 (slices_IndexFunc_int_ok k _ del1_f del1_c del1_i del1 del1_h _ yx1) ?_ (by first | rfl | simp [AV.refsL, AV.refs, AV.scal, AV.leaf, del1_i.refs]) ?_
 try simp only [del1_i.sh, del1_i.frz, del1_i.br, del1_i.refs, del1_i.imp, del1_i.ren, del1_i.un, go_sem]
 try simp only [del1_i.sh, del1_i.frz, del1_i.br, del1_i.refs, del1_i.imp, del1_i.ren, del1_i.un, go_sem]
 refine AKev_bif h0 ?_ ?_ <;> intro c2 h0
 try simp only [c2, del1_i.sh, del1_i.frz, del1_i.br, del1_i.refs, del1_i.imp, del1_i.ren, del1_i.un, go_sem]
 obtain rfl := Option.some.inj h0
 refine AKev_gret rfl ?_
 try simp only [F78.rs, oOK, Option.map_some, tupOf, cut0_map, cut_map, Nat.le_refl, List.take_length, del1_i.sh, del1_i.frz, del1_i.br, del1_i.refs, del1_i.imp, del1_i.ren, del1_i.un, c2, go_sem]
 try simp only [c2, del1_i.sh, del1_i.frz, del1_i.br, del1_i.refs, del1_i.imp, del1_i.ren, del1_i.un, go_sem]
 obtain ⟨r14, yr14, h0⟩ := bs h0
 refine AKev_loopS yr14 (slices_DeleteFunc_int.h0 H del1_f del1_c) (slices_DeleteFunc_int.x0 H) ?_ ?_ ?_
 refine Weak.go [0, 1, 5, 6] [0] rfl ?_
 try simp only [slices_DeleteFunc_int.h0, del1_i.sh, del1_i.frz, del1_i.br, del1_i.refs, del1_i.imp, del1_i.ren, del1_i.un, c2, go_sem]
 rintro ⟨i3, i4, l5⟩ x_1 Bk1 Br1 h1 hnext1 hbrk1 hret1
 refine rS ?_
 simp only [slices_DeleteFunc_int.b0] at h1
 try simp only [F78.s0, slices_DeleteFunc_int.h0, del1_i.sh, del1_i.frz, del1_i.br, del1_i.refs, del1_i.imp, del1_i.ren, del1_i.un, c2, go_sem]
 refine AKev_bif h1 ?_ ?_ <;> intro c8 h1
 try simp only [c8, del1_i.sh, del1_i.frz, del1_i.br, del1_i.refs, del1_i.imp, del1_i.ren, del1_i.un, c2, go_sem]
 obtain ⟨x9, yx9, h1⟩ := bs h1
 try simp only [aa yx9, del1_i.sh, del1_i.frz, del1_i.br, del1_i.refs, del1_i.imp, del1_i.ren, del1_i.un, c2, c8, go_sem]
 obtain ⟨x10, yx10, h1⟩ := bs h1
 refine zc0 (del1_h _ _ yx10) ?_ (by first | rfl | simp [AV.refsL, AV.refs, AV.scal, AV.leaf, del1_i.refs]) ?_
 try simp only [del1_i.sh, del1_i.frz, del1_i.br, del1_i.refs, del1_i.imp, del1_i.ren, del1_i.un, c2, c8, aa yx9, go_sem]
 try simp only [del1_i.sh, del1_i.frz, del1_i.br, del1_i.refs, del1_i.imp, del1_i.ren, del1_i.un, c2, c8, aa yx9, go_sem]
 refine AKev_bif h1 ?_ ?_ <;> intro c11 h1
 have c11 := bnot_t c11
 try simp only [c11, del1_i.sh, del1_i.frz, del1_i.br, del1_i.refs, del1_i.imp, del1_i.ren, del1_i.un, c2, c8, aa yx9, go_sem]
 obtain ⟨x12, yx12, h1⟩ := bs h1
 try simp only [aa yx12, del1_i.sh, del1_i.frz, del1_i.br, del1_i.refs, del1_i.imp, del1_i.ren, del1_i.un, c2, c8, aa yx9, c11, go_sem]
 obtain ⟨l13, yl13, h1⟩ := bs h1
 have eyl13 := set_map eI yl13
 simp only [go_sem] at eyl13
 try simp only [eyl13, del1_i.sh, del1_i.frz, del1_i.br, del1_i.refs, del1_i.imp, del1_i.ren, del1_i.un, c2, c8, aa yx9, c11, aa yx12, set_len yl13, set_take eI yl13, go_sem]
 refine AKev_backB (hnext1 _ _ (Option.some.inj h1).symm ?_)
 refine Weak.go [0, 1, 5, 6] [0] rfl ?_
 try simp only [slices_DeleteFunc_int.h0, del1_i.sh, del1_i.frz, del1_i.br, del1_i.refs, del1_i.imp, del1_i.ren, del1_i.un, c2, c8, aa yx9, c11, aa yx12, eyl13, set_len yl13, set_take eI yl13, go_sem]
 have c11 := bnot_f c11
 try simp only [c11, del1_i.sh, del1_i.frz, del1_i.br, del1_i.refs, del1_i.imp, del1_i.ren, del1_i.un, c2, c8, aa yx9, go_sem]
 refine AKev_backB (hnext1 _ _ (Option.some.inj h1).symm ?_)
 refine Weak.go [0, 1, 5, 6] [0] rfl ?_
 try simp only [slices_DeleteFunc_int.h0, del1_i.sh, del1_i.frz, del1_i.br, del1_i.refs, del1_i.imp, del1_i.ren, del1_i.un, c2, c8, aa yx9, c11, go_sem]
 try simp only [c8, del1_i.sh, del1_i.frz, del1_i.br, del1_i.refs, del1_i.imp, del1_i.ren, del1_i.un, c2, go_sem]
 refine AKev_backB (hbrk1 _ _ (Option.some.inj h1).symm ?_)
 refine Weak.go [0, 5] [0] rfl ?_
 try simp only [slices_DeleteFunc_int.x0, del1_i.sh, del1_i.frz, del1_i.br, del1_i.refs, del1_i.imp, del1_i.ren, del1_i.un, c2, c8, go_sem]
 rintro ⟨i6, l7⟩ hr_
 subst hr_
 simp only at h0
 refine rS ?_
 try simp only [slices_DeleteFunc_int.x0, del1_i.sh, del1_i.frz, del1_i.br, del1_i.refs, del1_i.imp, del1_i.ren, del1_i.un, c2, go_sem]
 obtain ⟨u15, yu15, h0⟩ := bs h0
 have lyu15 := ls_le yu15
 have eq16 := clr_map eI l7 i6.toNat (l7.length - i6.toNat) 0
 have lq16 : (clr l7 i6.toNat (l7.length - i6.toNat) 0).length = l7.length := by rw [clr_len] <;> simp only [del1_i.sh, del1_i.frz, del1_i.br, del1_i.refs, del1_i.imp, del1_i.ren, del1_i.un, c2, lyu15, go_sem]
 try simp only [go_sem] at eq16
 try simp only [ls_bounds yu15, lyu15, eq16, del1_i.sh, del1_i.frz, del1_i.br, del1_i.refs, del1_i.imp, del1_i.ren, del1_i.un, c2, lq16, go_sem]
 obtain ⟨u17, yu17, h0⟩ := bs h0
 have lyu17 := hs_le yu17
 try simp only [hs_bounds yu17, lyu17, del1_i.sh, del1_i.frz, del1_i.br, del1_i.refs, del1_i.imp, del1_i.ren, del1_i.un, c2, lyu15, lq16, go_sem]
 obtain rfl := Option.some.inj h0
 refine AKev_gret rfl ?_
 try simp only [F78.rs, oOK, Option.map_some, tupOf, cut0_map, cut_map, Nat.le_refl, List.take_length, del1_i.sh, del1_i.frz, del1_i.br, del1_i.refs, del1_i.imp, del1_i.ren, del1_i.un, c2, lyu15, lq16, lyu17, go_sem]
def F81.c : SC :=
 (.seq
 (.reg [sb 3 false 4 [3]])
 (.seq
 (.reg [mv 4 0 3 [0],
 ld 5 3 1 [1],
 b2 6 .eql 3 4 5 3 4 [4, 5],
 sg 3 6 4 [6]])
 .ret))
theorem F81.rs : Tryz.f81.results.toList = [.tmp 3] := rfl
def heat_Moves_1_1 (k : Nat) (n0 : Int) (c1 : Int) : Option (Bool) :=
 some (decide (n0 = c1))
theorem heat_Moves_1_1_ok (k : Nat) (n0 : Int) (c1 : Int) (r : Bool) (h0 : heat_Moves_1_1 k n0 c1 = some r) : PCall Tryz.prog 81 [.int .i64 n0, .rptr 1 [eI c1] 0 0] (fun y => y = .bool r) := by
 refine PB (fn := Tryz.f81) (sc := F81.c) ?_
 refine rS ?_
 simp only [heat_Moves_1_1] at h0
 try simp only [F81.c, go_sem]
 obtain rfl := Option.some.inj h0
 refine AKev_ret rfl ?_
 try simp only [F81.rs, go_sem]
def F79.c : SC :=
 (.seq
 (.reg [oq 4 (.box 3 (.tmp 0)) 0 [0],
 sb 5 false 4 [5]])
 (.seq
 (.dreg [ld 6 27 1 [],
 oq 7 (.makeFunc (.func 81) #[] #[.tmp 4]) 109 [],
 cf2 8 80 6 7 27 109 27 [],
 cf1 9 66 8 27 81 [],
 ld 10 3 2 [],
 cf2 11 54 9 10 81 3 30 [],
 ld 12 30 3 [],
 b2 13 .eql 30 11 12 30 4 [],
 sg 5 13 4 []] [[], [], [0, 1], [0, 1, 2], [], [0, 1, 2, 3, 4], [], [0, 1, 2, 3, 4, 5, 6], [0, 1, 2, 3, 4, 5, 6, 7]] [1, 2, 3, 4, 6, 7, 8, 9, 10, 11, 12, 13])
 .ret))
theorem F79.rs : Tryz.f79.results.toList = [.tmp 5] := rfl
def heat_Moves_1 (k : Nat) (s0 : Int) (c1 : Firing) (c2 : Int) (c3 : Range) : Option (Bool) :=
 (heat_without k c1 (fun q0 => heat_Moves_1_1 k q0 s0)).bind fun x1 =>
 (heat_newFurnace k x1).bind fun x2 =>
 (heat_furnace_bound k x2 c2).bind fun x3 =>
 some (decide (x3.Lo = c3.Lo) && decide (x3.Hi = c3.Hi))
theorem heat_Moves_1_ok (k : Nat) (s0 : Int) (c1 : Firing) (c2 : Int) (c3 : Range) (r : Bool) (h0 : heat_Moves_1 k s0 c1 c2 c3 = some r) : PCall Tryz.prog 79 [.int .i64 s0, .rptr 2 [Firing.c c1] 0 0, .rptr 1 [eI c2] 0 0, .rptr 2 [Range.c c3] 0 0] (fun y => y = .bool r) := by
 refine PB (fn := Tryz.f79) (sc := F79.c) ?_
 refine rS ?_
 simp only [heat_Moves_1] at h0
 try simp only [F79.c, go_sem]
 refine AKev_region T_ok follows_ok 1000 ?_
 try simp only [go_sem]
 obtain ⟨x1, yx1, h0⟩ := bs h0
 refine DG_give 1000 [0] [] (GCall.of_pcall (heat_without_ok k _ 81 [.rptr 1 [eI s0] 0 0] ⟨fun _ => rfl, fun _ => rfl, fun _ _ => rfl, rfl, fun _ => rfl, fun _ => rfl, fun _ => rfl⟩ (fun q0 => heat_Moves_1_1 k q0 s0) (fun q0 qr qh => heat_Moves_1_1_ok k q0 _ qr qh) _ yx1) ?_) ?_ rfl ?_
 simp only [AV.frz, AV.frzL, go_sem]
 try simp only [go_sem]
 try simp only [go_sem]
 obtain ⟨x2, yx2, h0⟩ := bs h0
 refine DG_call0 1000 (heat_newFurnace_ok k _ _ yx2) ?_ (by first | rfl | simp [AV.refsL, AV.refs, AV.scal, AV.leaf]) ?_
 try simp only [go_sem]
 try simp only [go_sem]
 obtain ⟨x3, yx3, h0⟩ := bs h0
 refine DG_call0 1000 (heat_furnace_bound_ok k _ _ _ yx3) ?_ (by first | rfl | simp [AV.refsL, AV.refs, AV.scal, AV.leaf]) ?_
 try simp only [go_sem]
 try simp only [go_sem]
 refine DG_done ⟨rfl, run_sound T_ok 1000 _ _ ?_⟩
 try simp only [go_sem]
 obtain rfl := Option.some.inj h0
 refine AKev_ret rfl ?_
 try simp only [F79.rs, go_sem]
def F23.c : SC :=
 (.seq
 (.reg [oq 2 (.box 27 (.tmp 0)) 0 [0],
 oq 3 (.box 3 (.tmp 1)) 0 [1],
 oq 4 (.assign (.const (.slice none 0 0))) 37 [4],
 sn 5 0 33 [5]])
 (.seq
 (.reg [ld 10 27 2 [],
 ld 11 3 3 [],
 cf2 12 76 10 11 27 3 104 [10, 11],
 mv 9 12 104 [12],
 xt 13 9 0 81 [],
 xt 14 9 1 33 [9],
 oq 6 (.alloc 81) 0 [],
 ⟨none, .store 81 (.tmp 6) (.tmp 13), 0, none, [13]⟩,
 sg 7 14 33 [14]])
 (.seq
 (.seq
 (.reg [mv 15 7 33 [],
 bn 16 .neq 33 15 0 33 4 [15]])
 (.cond (.tmp 16)
 (.seq
 (.reg [mv 17 7 33 [7],
 oq 4 (.assign (.const (.slice none 0 0))) 37 [],
 sg 5 17 33 [17]])
 .ret)
 .skip))
 (.seq
 (.reg [ld 18 81 6 [6],
 ld 19 3 3 [],
 cf2 20 54 18 19 81 3 30 [18, 19],
 oq 8 (.alloc 30) 0 [],
 ⟨none, .store 30 (.tmp 8) (.tmp 20), 0, none, [20]⟩])
 (.seq
 (.reg [fa 21 27 2 1 [],
 ld 22 25 21 [21],
 cf1 23 67 22 25 37 [22],
 oq 24 (.makeFunc (.func 79) #[] #[.tmp 2, .tmp 3, .tmp 8]) 109 [2, 3, 8],
 cf2 25 78 23 24 37 109 37 [23, 24],
 sg 4 25 37 [25],
 sn 5 0 33 []])
 .ret)))))
theorem F23.rs : Tryz.f23.results.toList = [.tmp 4, .tmp 5] := rfl
def heat_Moves (k : Nat) (f0 : Firing) (place1 : Int) : Option ((List Int) × Int) :=
 (heat_asks k f0 place1).bind fun x1 =>
 bif (!decide (x1.2 = (0 : Int))) then
  some ([], x1.2)
 else
  (heat_furnace_bound k x1.1 place1).bind fun x3 =>
  (heat_sources_o k f0.Readings).bind fun x5 =>
  (slices_DeleteFunc_int k x5 (fun q0 => heat_Moves_1 k q0 f0 place1 x3)).bind fun x7 =>
  some (x7, 0)
theorem heat_Moves_ok (k : Nat) (f0 : Firing) (place1 : Int) (r : (List Int) × Int) (h0 : heat_Moves k f0 place1 = some r) : PCall Tryz.prog 23 [.agg (Firing.c f0), .int .i64 place1] (fun y => y = .tup [.sl 1 (List.map eI r.1), .int .i64 r.2]) := by
 refine PB (fn := Tryz.f23) (sc := F23.c) ?_
 refine rS ?_
 simp only [heat_Moves] at h0
 try simp only [F23.c, go_sem]
 obtain ⟨x1, yx1, h0⟩ := bs h0
 refine zc0 (heat_asks_ok k _ _ _ yx1) ?_ (by first | rfl | simp [AV.refsL, AV.refs, AV.scal, AV.leaf]) ?_
 try simp only [go_sem]
 try simp only [go_sem]
 refine AKev_bif h0 ?_ ?_ <;> intro c2 h0
 have c2 := bnot_t c2
 try simp only [c2, go_sem]
 obtain rfl := Option.some.inj h0
 refine AKev_ret rfl ?_
 try simp only [F23.rs, c2, go_sem]
 have c2 := bnot_f c2
 try simp only [c2, go_sem]
 obtain ⟨x3, yx3, h0⟩ := bs h0
 refine zc0 (heat_furnace_bound_ok k _ _ _ yx3) ?_ (by first | rfl | simp [AV.refsL, AV.refs, AV.scal, AV.leaf]) ?_
 try simp only [c2, go_sem]
 try simp only [c2, go_sem]
 obtain ⟨x5, yx5, h0⟩ := bs h0
 refine AKev_give T_ok 1000 [] [] (heat_sources_o_ok k _ _ yx5) ?_ rfl ?_
 try simp only [gOK, List.length_map, c2, go_sem]
 try simp only [c2, go_sem]
 obtain ⟨x7, yx7, h0⟩ := bs h0
 refine AKev_give T_ok 1000 [0, 16, 288] [352] (slices_DeleteFunc_int_ok k _ 79 [.rptr 2 [Firing.c f0] 0 0, .rptr 1 [eI place1] 0 0, .rptr 2 [Range.c x3] 0 0] ⟨fun _ => rfl, fun _ => rfl, fun _ _ => rfl, rfl, fun _ => rfl, fun _ => rfl, fun _ => rfl⟩ (fun q0 => heat_Moves_1 k q0 f0 place1 x3) (fun q0 qr qh => heat_Moves_1_ok k q0 _ _ _ qr qh) _ yx7) ?_ rfl ?_
 try simp only [gOK, List.length_map, c2, go_sem]
 try simp only [c2, go_sem]
 obtain rfl := Option.some.inj h0
 refine AKev_ret rfl ?_
 try simp only [F23.rs, c2, go_sem]
def F137.s0 : SC :=
 (.seq
 (.seq
 (.reg [mv 8 7 3 [],
 mv 9 0 37 [],
 ln 10 9 37 3 [9],
 b2 11 .lss 3 8 10 3 4 [8, 10]])
 (.cond (.tmp 11)
 .skip
 (.exit 0)))
 (.seq
 (.block 1
 (.seq
 (.seq
 (.reg [mv 14 0 37 [],
 mv 15 7 3 [],
 ia 16 37 14 15 [14, 15],
 ld 17 3 16 [16],
 mv 18 1 3 [],
 b2 19 .eql 3 17 18 3 4 [17, 18]])
 (.cond (.tmp 19)
 (.seq
 (.reg [mv 20 0 37 [0],
 sg 4 20 37 [20]])
 .ret)
 .skip))
 (.seq
 (.seq
 (.reg [mv 21 6 4 [],
 oq 22 (.unOp .not 4 (.tmp 21)) 4 [21],
 mv 23 22 4 [22],
 og 24 (.move (.tmp 0)) 37 23 true [],
 og 25 (.move (.tmp 7)) 3 23 true [],
 og 26 (.indexAddr 37 (.tmp 24) (.tmp 25)) 0 23 true [24, 25],
 og 27 (.load 3 (.tmp 26)) 3 23 true [26],
 og 28 (.move (.tmp 1)) 3 23 true [],
 og 29 (.binOp .gtr 3 (.tmp 27) (.tmp 28) 3) 4 23 true [27, 28],
 oq 30 (.pick (.tmp 23) (.tmp 29) (.const (.bool false))) 4 [23, 29]])
 (.cond (.tmp 30)
 (.seq
 (.reg [mv 31 5 37 [5],
 mv 32 1 3 [],
 oq 33 (.buildSlice 37 1 #[(0, .tmp 32)]) 37 [32],
 oq 34 (.call ⟨.builtin .append, #[.tmp 31, .tmp 33], #[37, 37]⟩) 37 [31, 33],
 sg 5 34 37 [34]])
 (.reg [sb 6 true 4 []]))
 .skip))
 (.reg [mv 35 5 37 [5],
 mv 36 0 37 [],
 mv 37 7 3 [],
 ia 38 37 36 37 [36, 37],
 ld 39 3 38 [38],
 oq 40 (.buildSlice 37 1 #[(0, .tmp 39)]) 37 [39],
 oq 41 (.call ⟨.builtin .append, #[.tmp 35, .tmp 40], #[37, 37]⟩) 37 [35, 40],
 sg 5 41 37 [41]]))))
 (.reg [mv 12 7 3 [7],
 bn 13 .add 3 12 1 3 3 [12],
 sg 7 13 3 [13]])))
def F137.c : SC :=
 (.seq
 (.reg [oq 4 (.assign (.const (.slice none 0 0))) 37 [4]])
 (.seq
 (.reg [oq 5 (.assign (.const (.slice none 0 0))) 37 []])
 (.seq
 (.reg [sb 6 false 4 []])
 (.seq
 (.seq
 (.reg [sn 7 0 3 []])
 (.block 0
 (.loop F137.s0)))
 (.seq
 (.seq
 (.reg [mv 42 6 4 [6],
 oq 43 (.unOp .not 4 (.tmp 42)) 4 [42]])
 (.cond (.tmp 43)
 (.reg [mv 44 5 37 [5],
 mv 45 1 3 [1],
 oq 46 (.buildSlice 37 1 #[(0, .tmp 45)]) 37 [45],
 oq 47 (.call ⟨.builtin .append, #[.tmp 44, .tmp 46], #[37, 37]⟩) 37 [44, 46],
 sg 5 47 37 [47]])
 .skip))
 (.seq
 (.reg [mv 48 5 37 [5],
 sg 4 48 37 [48]])
 .ret))))))
theorem F137.rs : Tryz.f137.results.toList = [.tmp 4] := rfl
def R01_add.b0 (k : Nat) (l0 : (List Int)) (n1 : Int) : (Bool × Int × (List Int)) → Option (Stp (Bool × Int × (List Int)) (Bool × (List Int)) ((List Int))) := fun (s : Bool × Int × (List Int)) => match s with
 | (b1, i2, l3) =>
   bif decide (i2 < (l0.length : Int)) then
    (at? l0 i2).bind fun x7 =>
    bif decide (x7 = n1) then
     some (.ret l0)
    else
     bif (!b1) then
      bif decide (n1 < x7) then
       (push? 8 l3 n1).bind fun l11 =>
       (push? 8 l11 x7).bind fun l12 =>
       some (.next (true, w64 (i2 + 1), l12))
      else
       (push? 8 l3 x7).bind fun l13 =>
       some (.next (b1, w64 (i2 + 1), l13))
     else
      (push? 8 l3 x7).bind fun l14 =>
      some (.next (b1, w64 (i2 + 1), l14))
   else
    some (.brk (b1, l3))
noncomputable def R01_add.h0 (l0 : (List Int)) (n1 : Int) : (Bool × Int × (List Int)) → St := fun (s : Bool × Int × (List Int)) => match s with
 | (b1, i2, l3) => ⟨[(0, .sl 1 (List.map eI l0)), (1, .int .i64 n1), (5, .loc 0 0 1 0 l3.length l3.length), (6, .bool b1), (7, .int .i64 i2)], [(0, .arr 3 1 (List.map eI l3))], [], 1, Tryz.f137.ntmps⟩
noncomputable def R01_add.x0 (n1 : Int) : (Bool × (List Int)) → St := fun (s : Bool × (List Int)) => match s with
 | (b4, l5) => ⟨[(1, .int .i64 n1), (5, .loc 0 0 1 0 l5.length l5.length), (6, .bool b4)], [(0, .arr 3 1 (List.map eI l5))], [], 1, Tryz.f137.ntmps⟩
def R01_add (k : Nat) (l0 : (List Int)) (n1 : Int) : Option ((List Int)) :=
 (whl (R01_add.b0 k l0 n1) k (false, 0, [])).bind fun r15 => match r15 with
 | .next _ => none
 | .ret v_ => some v_
 | .brk (b4, l5) =>
  bif (!b4) then
   (push? 8 l5 n1).bind fun l17 =>
   some l17
  else
   some l5
theorem R01_add_ok (k : Nat) (l0 : (List Int)) (n1 : Int) (r : (List Int)) (h0 : R01_add k l0 n1 = some r) : PCall Tryz.prog 137 [.sl 1 (List.map eI l0), .int .i64 n1] (fun y => y = .sl 1 (List.map eI r)) := by
 refine PB (fn := Tryz.f137) (sc := F137.c) ?_
 refine rS ?_
 simp only [R01_add] at h0
 try simp only [F137.c, go_sem]
 obtain ⟨r15, yr15, h0⟩ := bs h0
 refine AKev_loopS yr15 (R01_add.h0 l0 n1) (R01_add.x0 n1) ?_ ?_ ?_
 refine Weak.go [0, 1, 5, 6, 7] [16] rfl ?_
 try simp only [R01_add.h0, go_sem]
 rintro ⟨b1, i2, l3⟩ x_1 Bk1 Br1 h1 hnext1 hbrk1 hret1
 refine rS ?_
 simp only [R01_add.b0] at h1
 try simp only [F137.s0, R01_add.h0, go_sem]
 refine AKev_bif h1 ?_ ?_ <;> intro c6 h1
 try simp only [c6, go_sem]
 obtain ⟨x7, yx7, h1⟩ := bs h1
 try simp only [aa yx7, c6, go_sem]
 refine AKev_bif h1 ?_ ?_ <;> intro c8 h1
 try simp only [c8, c6, aa yx7, go_sem]
 obtain rfl := hret1 _ (Option.some.inj h1).symm
 simp only at h0
 obtain rfl := Option.some.inj h0
 refine AKev_ret rfl ?_
 try simp only [F137.rs, c6, aa yx7, c8, go_sem]
 try simp only [c8, c6, aa yx7, go_sem]
 refine AKev_bif h1 ?_ ?_ <;> intro c9 h1
 have c9 := bnot_t c9
 try simp only [c9, aa yx7, c6, c8, go_sem]
 refine AKev_bif h1 ?_ ?_ <;> intro c10 h1
 try simp only [c10, c6, aa yx7, c8, c9, go_sem]
 obtain ⟨l11, yl11, h1⟩ := bs h1
 have eyl11 := push_map eI yl11
 have tyl11 := push_take eI yl11
 have nyl11 := push_len yl11
 have myl11 := push_room yl11
 try simp only [c6, aa yx7, c8, c9, c10, go_sem] at eyl11 tyl11 nyl11 myl11
 try simp only [myl11, eyl11, aa yx7, c6, c8, c9, c10, nyl11, tyl11, go_sem]
 obtain ⟨l12, yl12, h1⟩ := bs h1
 have eyl12 := push_map eI yl12
 have tyl12 := push_take eI yl12
 have nyl12 := push_len yl12
 have myl12 := push_room yl12
 try simp only [c6, aa yx7, c8, c9, c10, eyl11, nyl11, tyl11, go_sem] at eyl12 tyl12 nyl12 myl12
 try simp only [myl12, eyl12, c6, aa yx7, c8, c9, c10, eyl11, nyl11, tyl11, nyl12, tyl12, go_sem]
 refine AKev_backB (hnext1 _ _ (Option.some.inj h1).symm ?_)
 refine Weak.go [0, 1, 5, 6, 7] [0] rfl ?_
 try simp only [R01_add.h0, c6, aa yx7, c8, c9, c10, eyl11, nyl11, tyl11, eyl12, nyl12, tyl12, go_sem]
 try simp only [c10, aa yx7, c6, c8, c9, go_sem]
 obtain ⟨l13, yl13, h1⟩ := bs h1
 have eyl13 := push_map eI yl13
 have tyl13 := push_take eI yl13
 have nyl13 := push_len yl13
 have myl13 := push_room yl13
 try simp only [c6, aa yx7, c8, c9, c10, go_sem] at eyl13 tyl13 nyl13 myl13
 try simp only [myl13, eyl13, c6, aa yx7, c8, c9, c10, nyl13, tyl13, go_sem]
 refine AKev_backB (hnext1 _ _ (Option.some.inj h1).symm ?_)
 refine Weak.go [0, 1, 5, 6, 7] [0] rfl ?_
 try simp only [R01_add.h0, c6, aa yx7, c8, c9, c10, eyl13, nyl13, tyl13, go_sem]
 have c9 := bnot_f c9
 try simp only [c9, aa yx7, c6, c8, go_sem]
 obtain ⟨l14, yl14, h1⟩ := bs h1
 have eyl14 := push_map eI yl14
 have tyl14 := push_take eI yl14
 have nyl14 := push_len yl14
 have myl14 := push_room yl14
 try simp only [c6, aa yx7, c8, c9, go_sem] at eyl14 tyl14 nyl14 myl14
 try simp only [myl14, eyl14, c6, aa yx7, c8, c9, nyl14, tyl14, go_sem]
 refine AKev_backB (hnext1 _ _ (Option.some.inj h1).symm ?_)
 refine Weak.go [0, 1, 5, 6, 7] [0] rfl ?_
 try simp only [R01_add.h0, c6, aa yx7, c8, c9, eyl14, nyl14, tyl14, go_sem]
 try simp only [c6, go_sem]
 refine AKev_backB (hbrk1 _ _ (Option.some.inj h1).symm ?_)
 refine Weak.go [1, 5, 6] [0] rfl ?_
 try simp only [R01_add.x0, c6, go_sem]
 rintro ⟨b4, l5⟩ hr_
 subst hr_
 simp only at h0
 refine rS ?_
 try simp only [R01_add.x0, go_sem]
 refine AKev_bif h0 ?_ ?_ <;> intro c16 h0
 have c16 := bnot_t c16
 try simp only [c16, go_sem]
 obtain ⟨l17, yl17, h0⟩ := bs h0
 have eyl17 := push_map eI yl17
 have tyl17 := push_take eI yl17
 have nyl17 := push_len yl17
 have myl17 := push_room yl17
 try simp only [c16, go_sem] at eyl17 tyl17 nyl17 myl17
 try simp only [myl17, eyl17, c16, nyl17, tyl17, go_sem]
 obtain rfl := Option.some.inj h0
 refine AKev_ret rfl ?_
 try simp only [F137.rs, c16, eyl17, nyl17, tyl17, go_sem]
 have c16 := bnot_f c16
 try simp only [c16, go_sem]
 obtain rfl := Option.some.inj h0
 refine AKev_ret rfl ?_
 try simp only [F137.rs, c16, go_sem]
def F119.s0 : SC :=
 (.seq
 (.seq
 (.reg [mv 5 4 3 [],
 mv 6 0 37 [],
 ln 7 6 37 3 [6],
 b2 8 .lss 3 5 7 3 4 [5, 7]])
 (.cond (.tmp 8)
 .skip
 (.exit 0)))
 (.seq
 (.block 1
 (.reg [mv 11 3 37 [3],
 mv 12 0 37 [],
 mv 13 4 3 [],
 ia 14 37 12 13 [12, 13],
 ld 15 3 14 [14],
 cf2 16 137 11 15 37 3 37 [11, 15],
 sg 3 16 37 [16]]))
 (.reg [mv 9 4 3 [4],
 bn 10 .add 3 9 1 3 3 [9],
 sg 4 10 3 [10]])))
def F119.c : SC :=
 (.seq
 (.reg [oq 2 (.assign (.const (.slice none 0 0))) 37 [2]])
 (.seq
 (.reg [oq 3 (.assign (.const (.slice none 0 0))) 37 []])
 (.seq
 (.seq
 (.reg [sn 4 0 3 []])
 (.block 0
 (.loop F119.s0)))
 (.seq
 (.reg [mv 17 3 37 [3],
 sg 2 17 37 [17]])
 .ret))))
theorem F119.rs : Tryz.f119.results.toList = [.tmp 2] := rfl
def R01_Sorted.b0 (k : Nat) (l0 : (List Int)) : ((List Int) × Int) → Option (Stp ((List Int) × Int) ((List Int)) ((List Int))) := fun (s : (List Int) × Int) => match s with
 | (l1, i2) =>
   bif decide (i2 < (l0.length : Int)) then
    (at? l0 i2).bind fun x5 =>
    (R01_add k l1 x5).bind fun x6 =>
    some (.next (x6, w64 (i2 + 1)))
   else
    some (.brk l1)
noncomputable def R01_Sorted.h0 (l0 : (List Int)) : ((List Int) × Int) → St := fun (s : (List Int) × Int) => match s with
 | (l1, i2) => ⟨[(0, .sl 1 (List.map eI l0)), (3, .sl 1 (List.map eI l1)), (4, .int .i64 i2)], [], [], 1, Tryz.f119.ntmps⟩
noncomputable def R01_Sorted.x0 : (List Int) → St := fun (l3 : (List Int)) => ⟨[(3, .sl 1 (List.map eI l3))], [], [], 1, Tryz.f119.ntmps⟩
def R01_Sorted (k : Nat) (l0 : (List Int)) : Option ((List Int)) :=
 (whl (R01_Sorted.b0 k l0) k ([], 0)).bind fun r7 => match r7 with
 | .next _ => none
 | .ret v_ => some v_
 | .brk l3 =>
  some l3
theorem R01_Sorted_ok (k : Nat) (l0 : (List Int)) (r : (List Int)) (h0 : R01_Sorted k l0 = some r) : PCall Tryz.prog 119 [.sl 1 (List.map eI l0)] (fun y => y = .sl 1 (List.map eI r)) := by
 refine PB (fn := Tryz.f119) (sc := F119.c) ?_
 refine rS ?_
 simp only [R01_Sorted] at h0
 try simp only [F119.c, go_sem]
 obtain ⟨r7, yr7, h0⟩ := bs h0
 refine AKev_loopS yr7 (R01_Sorted.h0 l0) (R01_Sorted.x0) ?_ ?_ ?_
 refine Weak.trans (Weak.fz 16 rfl (fun _ h => by cases h)) ?_
 refine Weak.go [0, 3, 4] [] rfl ?_
 try simp only [R01_Sorted.h0, go_sem]
 rintro ⟨l1, i2⟩ x_1 Bk1 Br1 h1 hnext1 hbrk1 hret1
 refine rS ?_
 simp only [R01_Sorted.b0] at h1
 try simp only [F119.s0, R01_Sorted.h0, go_sem]
 refine AKev_bif h1 ?_ ?_ <;> intro c4 h1
 try simp only [c4, go_sem]
 obtain ⟨x5, yx5, h1⟩ := bs h1
 try simp only [aa yx5, c4, go_sem]
 obtain ⟨x6, yx6, h1⟩ := bs h1
 refine zc0 (R01_add_ok k _ _ _ yx6) ?_ (by first | rfl | simp [AV.refsL, AV.refs, AV.scal, AV.leaf]) ?_
 try simp only [c4, aa yx5, go_sem]
 try simp only [c4, aa yx5, go_sem]
 refine AKev_backB (hnext1 _ _ (Option.some.inj h1).symm ?_)
 refine Weak.go [0, 3, 4] [] rfl ?_
 try simp only [R01_Sorted.h0, c4, aa yx5, go_sem]
 try simp only [c4, go_sem]
 refine AKev_backB (hbrk1 _ _ (Option.some.inj h1).symm ?_)
 refine Weak.go [3] [] rfl ?_
 try simp only [R01_Sorted.x0, c4, go_sem]
 rintro l3 hr_
 subst hr_
 simp only at h0
 refine rS ?_
 try simp only [R01_Sorted.x0, go_sem]
 obtain rfl := Option.some.inj h0
 refine AKev_ret rfl ?_
 try simp only [F119.rs, go_sem]
def F71.s0 : SC :=
 (.seq
 (.seq
 (.reg [mv 5 4 3 [],
 mv 6 0 25 [],
 ln 7 6 25 3 [6],
 b2 8 .lss 3 5 7 3 4 [5, 7]])
 (.cond (.tmp 8)
 .skip
 (.exit 0)))
 (.seq
 (.block 1
 (.reg [mv 11 3 37 [3],
 mv 12 0 25 [],
 mv 13 4 3 [],
 ia 14 25 12 13 [12, 13],
 fa 15 64 14 0 [14],
 ld 16 3 15 [15],
 oq 17 (.buildSlice 37 1 #[(0, .tmp 16)]) 37 [16],
 oq 18 (.call ⟨.builtin .append, #[.tmp 11, .tmp 17], #[37, 37]⟩) 37 [11, 17],
 sg 3 18 37 [18]]))
 (.reg [mv 9 4 3 [4],
 bn 10 .add 3 9 1 3 3 [9],
 sg 4 10 3 [10]])))
def F71.c : SC :=
 (.seq
 (.reg [oq 2 (.assign (.const (.slice none 0 0))) 37 [2]])
 (.seq
 (.reg [oq 3 (.assign (.const (.slice none 0 0))) 37 []])
 (.seq
 (.seq
 (.reg [sn 4 0 3 []])
 (.block 0
 (.loop F71.s0)))
 (.seq
 (.reg [mv 19 3 37 [3],
 cf1 20 119 19 37 37 [19],
 sg 2 20 37 [20]])
 .ret))))
theorem F71.rs : Tryz.f71.results.toList = [.tmp 2] := rfl
def R04_sources.b0 (k : Nat) (l0 : (List Reading)) : (Int × (List Int)) → Option (Stp (Int × (List Int)) ((List Int)) ((List Int))) := fun (s : Int × (List Int)) => match s with
 | (i1, l2) =>
   bif decide (i1 < (l0.length : Int)) then
    (at? l0 i1).bind fun x5 =>
    (push? 8 l2 x5.Source).bind fun l6 =>
    some (.next (w64 (i1 + 1), l6))
   else
    some (.brk l2)
noncomputable def R04_sources.h0 (l0 : (List Reading)) : (Int × (List Int)) → St := fun (s : Int × (List Int)) => match s with
 | (i1, l2) => ⟨[(0, .sl 6 (List.map Reading.c l0)), (3, .loc 0 0 1 0 l2.length l2.length), (4, .int .i64 i1)], [(0, .arr 3 1 (List.map eI l2))], [], 1, Tryz.f71.ntmps⟩
noncomputable def R04_sources.x0 : (List Int) → St := fun (l3 : (List Int)) => ⟨[(3, .loc 0 0 1 0 l3.length l3.length)], [(0, .arr 3 1 (List.map eI l3))], [], 1, Tryz.f71.ntmps⟩
def R04_sources (k : Nat) (l0 : (List Reading)) : Option ((List Int)) :=
 (whl (R04_sources.b0 k l0) k (0, [])).bind fun r7 => match r7 with
 | .next _ => none
 | .ret v_ => some v_
 | .brk l3 =>
  (R01_Sorted k l3).bind fun x8 =>
  some x8
theorem R04_sources_ok (k : Nat) (l0 : (List Reading)) (r : (List Int)) (h0 : R04_sources k l0 = some r) : PCall Tryz.prog 71 [.sl 6 (List.map Reading.c l0)] (fun y => y = .sl 1 (List.map eI r)) := by
 refine PB (fn := Tryz.f71) (sc := F71.c) ?_
 refine rS ?_
 simp only [R04_sources] at h0
 try simp only [F71.c, go_sem]
 obtain ⟨r7, yr7, h0⟩ := bs h0
 refine AKev_loopS yr7 (R04_sources.h0 l0) (R04_sources.x0) ?_ ?_ ?_
 refine Weak.go [0, 3, 4] [16] rfl ?_
 try simp only [R04_sources.h0, go_sem]
 rintro ⟨i1, l2⟩ x_1 Bk1 Br1 h1 hnext1 hbrk1 hret1
 refine rS ?_
 simp only [R04_sources.b0] at h1
 try simp only [F71.s0, R04_sources.h0, go_sem]
 refine AKev_bif h1 ?_ ?_ <;> intro c4 h1
 try simp only [c4, go_sem]
 obtain ⟨x5, yx5, h1⟩ := bs h1
 try simp only [aa yx5, c4, go_sem]
 obtain ⟨l6, yl6, h1⟩ := bs h1
 have eyl6 := push_map eI yl6
 have tyl6 := push_take eI yl6
 have nyl6 := push_len yl6
 have myl6 := push_room yl6
 try simp only [c4, aa yx5, go_sem] at eyl6 tyl6 nyl6 myl6
 try simp only [myl6, eyl6, c4, aa yx5, nyl6, tyl6, go_sem]
 refine AKev_backB (hnext1 _ _ (Option.some.inj h1).symm ?_)
 refine Weak.go [0, 3, 4] [0] rfl ?_
 try simp only [R04_sources.h0, c4, aa yx5, eyl6, nyl6, tyl6, go_sem]
 try simp only [c4, go_sem]
 refine AKev_backB (hbrk1 _ _ (Option.some.inj h1).symm ?_)
 refine Weak.go [3] [0] rfl ?_
 try simp only [R04_sources.x0, c4, go_sem]
 rintro l3 hr_
 subst hr_
 simp only at h0
 refine rS ?_
 try simp only [R04_sources.x0, go_sem]
 obtain ⟨x8, yx8, h0⟩ := bs h0
 refine zcT [0] (R01_Sorted_ok k _ _ yx8) ?_ ?_
 try simp only [go_sem]
 try simp only [go_sem]
 obtain rfl := Option.some.inj h0
 refine AKev_ret rfl ?_
 try simp only [F71.rs, go_sem]
def F72.s0 : SC :=
 (.seq
 (.seq
 (.reg [mv 7 6 3 [],
 mv 8 0 37 [],
 ln 9 8 37 3 [8],
 b2 10 .lss 3 7 9 3 4 [7, 9]])
 (.cond (.tmp 10)
 .skip
 (.exit 0)))
 (.seq
 (.block 1
 (.seq
 (.reg [mv 13 0 37 [],
 mv 14 6 3 [],
 ia 15 37 13 14 [13, 14],
 ld 16 3 15 [15],
 mv 17 1 3 [],
 b2 18 .neq 3 16 17 3 4 [16, 17]])
 (.cond (.tmp 18)
 (.reg [mv 19 5 37 [5],
 mv 20 0 37 [],
 mv 21 6 3 [],
 ia 22 37 20 21 [20, 21],
 ld 23 3 22 [22],
 oq 24 (.buildSlice 37 1 #[(0, .tmp 23)]) 37 [23],
 oq 25 (.call ⟨.builtin .append, #[.tmp 19, .tmp 24], #[37, 37]⟩) 37 [19, 24],
 sg 5 25 37 [25]])
 .skip)))
 (.reg [mv 11 6 3 [6],
 bn 12 .add 3 11 1 3 3 [11],
 sg 6 12 3 [12]])))
def F72.c : SC :=
 (.seq
 (.reg [oq 4 (.assign (.const (.slice none 0 0))) 37 [4]])
 (.seq
 (.reg [oq 5 (.assign (.const (.slice none 0 0))) 37 []])
 (.seq
 (.seq
 (.reg [sn 6 0 3 []])
 (.block 0
 (.loop F72.s0)))
 (.seq
 (.reg [mv 26 5 37 [5],
 sg 4 26 37 [26]])
 .ret))))
theorem F72.rs : Tryz.f72.results.toList = [.tmp 4] := rfl
def R01_Less.b0 (k : Nat) (l0 : (List Int)) (n1 : Int) : (Int × (List Int)) → Option (Stp (Int × (List Int)) ((List Int)) ((List Int))) := fun (s : Int × (List Int)) => match s with
 | (i1, l2) =>
   bif decide (i1 < (l0.length : Int)) then
    (at? l0 i1).bind fun x5 =>
    bif (!decide (x5 = n1)) then
     (push? 8 l2 x5).bind fun l7 =>
     some (.next (w64 (i1 + 1), l7))
    else
     some (.next (w64 (i1 + 1), l2))
   else
    some (.brk l2)
noncomputable def R01_Less.h0 (l0 : (List Int)) (n1 : Int) : (Int × (List Int)) → St := fun (s : Int × (List Int)) => match s with
 | (i1, l2) => ⟨[(0, .sl 1 (List.map eI l0)), (1, .int .i64 n1), (5, .loc 0 0 1 0 l2.length l2.length), (6, .int .i64 i1)], [(0, .arr 3 1 (List.map eI l2))], [], 1, Tryz.f72.ntmps⟩
noncomputable def R01_Less.x0 : (List Int) → St := fun (l3 : (List Int)) => ⟨[(5, .loc 0 0 1 0 l3.length l3.length)], [(0, .arr 3 1 (List.map eI l3))], [], 1, Tryz.f72.ntmps⟩
def R01_Less (k : Nat) (l0 : (List Int)) (n1 : Int) : Option ((List Int)) :=
 (whl (R01_Less.b0 k l0 n1) k (0, [])).bind fun r8 => match r8 with
 | .next _ => none
 | .ret v_ => some v_
 | .brk l3 =>
  some l3
theorem R01_Less_ok (k : Nat) (l0 : (List Int)) (n1 : Int) (r : (List Int)) (h0 : R01_Less k l0 n1 = some r) : PCall Tryz.prog 72 [.sl 1 (List.map eI l0), .int .i64 n1] (fun y => y = .sl 1 (List.map eI r)) := by
 refine PB (fn := Tryz.f72) (sc := F72.c) ?_
 refine rS ?_
 simp only [R01_Less] at h0
 try simp only [F72.c, go_sem]
 obtain ⟨r8, yr8, h0⟩ := bs h0
 refine AKev_loopS yr8 (R01_Less.h0 l0 n1) (R01_Less.x0) ?_ ?_ ?_
 refine Weak.go [0, 1, 5, 6] [16] rfl ?_
 try simp only [R01_Less.h0, go_sem]
 rintro ⟨i1, l2⟩ x_1 Bk1 Br1 h1 hnext1 hbrk1 hret1
 refine rS ?_
 simp only [R01_Less.b0] at h1
 try simp only [F72.s0, R01_Less.h0, go_sem]
 refine AKev_bif h1 ?_ ?_ <;> intro c4 h1
 try simp only [c4, go_sem]
 obtain ⟨x5, yx5, h1⟩ := bs h1
 try simp only [aa yx5, c4, go_sem]
 refine AKev_bif h1 ?_ ?_ <;> intro c6 h1
 have c6 := bnot_t c6
 try simp only [c6, aa yx5, c4, go_sem]
 obtain ⟨l7, yl7, h1⟩ := bs h1
 have eyl7 := push_map eI yl7
 have tyl7 := push_take eI yl7
 have nyl7 := push_len yl7
 have myl7 := push_room yl7
 try simp only [c4, aa yx5, c6, go_sem] at eyl7 tyl7 nyl7 myl7
 try simp only [myl7, eyl7, c4, aa yx5, c6, nyl7, tyl7, go_sem]
 refine AKev_backB (hnext1 _ _ (Option.some.inj h1).symm ?_)
 refine Weak.go [0, 1, 5, 6] [0] rfl ?_
 try simp only [R01_Less.h0, c4, aa yx5, c6, eyl7, nyl7, tyl7, go_sem]
 have c6 := bnot_f c6
 try simp only [c6, c4, aa yx5, go_sem]
 refine AKev_backB (hnext1 _ _ (Option.some.inj h1).symm ?_)
 refine Weak.go [0, 1, 5, 6] [0] rfl ?_
 try simp only [R01_Less.h0, c4, aa yx5, c6, go_sem]
 try simp only [c4, go_sem]
 refine AKev_backB (hbrk1 _ _ (Option.some.inj h1).symm ?_)
 refine Weak.go [5] [0] rfl ?_
 try simp only [R01_Less.x0, c4, go_sem]
 rintro l3 hr_
 subst hr_
 simp only at h0
 refine rS ?_
 try simp only [R01_Less.x0, go_sem]
 obtain rfl := Option.some.inj h0
 refine AKev_ret rfl ?_
 try simp only [F72.rs, go_sem]
def F91.s0 : SC :=
 (.seq
 (.seq
 (.reg [mv 5 4 3 [],
 fa 6 24 1 0 [],
 ld 7 22 6 [6],
 ln 8 7 22 3 [7],
 b2 9 .lss 3 5 8 3 4 [5, 8]])
 (.cond (.tmp 9)
 .skip
 (.exit 0)))
 (.seq
 (.block 1
 (.dreg [fa 12 24 3 0 [],
 ld 13 22 12 [],
 oq 14 (.buildSlice 89 0 #[]) 89 [],
 fa 15 24 1 0 [],
 ld 16 22 15 [],
 mv 17 4 3 [],
 ia 18 22 16 17 [],
 ld 19 89 18 [],
 oq 20 (.call ⟨.builtin .append, #[.tmp 14, .tmp 19], #[89, 89]⟩) 89 [],
 oq 21 (.buildSlice 22 1 #[(0, .tmp 20)]) 22 [],
 oq 22 (.call ⟨.builtin .append, #[.tmp 13, .tmp 21], #[22, 22]⟩) 22 [],
 fa 23 24 3 0 [],
 ⟨none, .store 22 (.tmp 23) (.tmp 22), 0, none, []⟩] [[], [0], [], [], [3], [], [3, 4, 5], [3, 4, 5, 6], [2, 3, 4, 5, 6, 7], [2, 3, 4, 5, 6, 7, 8], [0, 1, 2, 3, 4, 5, 6, 7, 8, 9], [0, 1, 2, 3, 4, 5, 6, 7, 8, 9, 10], [0, 1, 2, 3, 4, 5, 6, 7, 8, 9, 10, 11]] [12, 13, 14, 15, 16, 17, 18, 19, 20, 21, 22, 23]))
 (.reg [mv 10 4 3 [4],
 bn 11 .add 3 10 1 3 3 [10],
 sg 4 11 3 [11]])))
def F91.c : SC :=
 (.seq
 (.reg [oq 1 (.box 24 (.tmp 0)) 0 [0],
 oq 2 (.alloc 24) 0 []])
 (.seq
 (.reg [oq 3 (.alloc 24) 0 []])
 (.seq
 (.seq
 (.reg [sn 4 0 3 []])
 (.block 0
 (.loop F91.s0)))
 (.seq
 (.reg [ld 24 24 3 [3],
 ⟨none, .store 24 (.tmp 2) (.tmp 24), 0, none, [24]⟩])
 .ret))))
theorem F91.rs : Tryz.f91.results.toList = [.cell 2 24] := rfl
def R04_kiln.b0 (k : Nat) (k0 : Kiln) : (Int × (List (List Range))) → Option (Stp (Int × (List (List Range))) ((List (List Range))) (Kiln)) := fun (s : Int × (List (List Range))) => match s with
 | (i1, l2) =>
   bif decide (i1 < (k0.Falls.length : Int)) then
    (at? k0.Falls i1).bind fun x5 =>
    (room? x5.length 16).bind fun _ =>
    (push? 24 l2 x5).bind fun l7 =>
    some (.next (w64 (i1 + 1), l7))
   else
    some (.brk l2)
noncomputable def R04_kiln.h0 (k0 : Kiln) : (Int × (List (List Range))) → St := fun (s : Int × (List (List Range))) => match s with
 | (i1, l2) => ⟨[(1, .ptr 0 0 0), (2, .ptr 0 1 0), (3, .ptr 0 3 0), (4, .int .i64 i1)], [(0, .box [.sl 1 (List.map (eL 2 Range.c) k0.Falls)]), (1, .box [.loc 0 2 1 0 0 0]), (2, .arr 89 1 (List.map (eL 2 Range.c) [])), (3, .box [.loc 0 4 1 0 l2.length l2.length]), (4, .arr 89 1 (List.map (eL 2 Range.c) l2))], [], 5, Tryz.f91.ntmps⟩
noncomputable def R04_kiln.x0 : (List (List Range)) → St := fun (l3 : (List (List Range))) => ⟨[(2, .ptr 0 0 0), (3, .ptr 0 2 0)], [(0, .box [.loc 0 1 1 0 0 0]), (1, .arr 89 1 (List.map (eL 2 Range.c) [])), (2, .box [.loc 0 3 1 0 l3.length l3.length]), (3, .arr 89 1 (List.map (eL 2 Range.c) l3))], [], 4, Tryz.f91.ntmps⟩
def R04_kiln (k : Nat) (k0 : Kiln) : Option (Kiln) :=
 (whl (R04_kiln.b0 k k0) k (0, [])).bind fun r8 => match r8 with
 | .next _ => none
 | .ret v_ => some v_
 | .brk l3 =>
  some (⟨l3⟩ : Kiln)
theorem R04_kiln_ok (k : Nat) (k0 : Kiln) (r : Kiln) (h0 : R04_kiln k k0 = some r) : PCall Tryz.prog 91 [.agg (Kiln.c k0)] (fun y => y = .agg (Kiln.c r)) := by
 refine PB (fn := Tryz.f91) (sc := F91.c) ?_
 refine rS ?_
 simp only [R04_kiln] at h0
 try simp only [F91.c, go_sem]
 obtain ⟨r8, yr8, h0⟩ := bs h0
 refine AKev_loopS yr8 (R04_kiln.h0 k0) (R04_kiln.x0) ?_ ?_ ?_
 refine Weak.go [1, 2, 3, 4] [0, 16, 17, 32, 33] rfl ?_
 try simp only [R04_kiln.h0, go_sem]
 rintro ⟨i1, l2⟩ x_1 Bk1 Br1 h1 hnext1 hbrk1 hret1
 refine rS ?_
 simp only [R04_kiln.b0] at h1
 try simp only [F91.s0, R04_kiln.h0, go_sem]
 refine AKev_bif h1 ?_ ?_ <;> intro c4 h1
 try simp only [c4, go_sem]
 refine AKev_region T_ok follows_ok 1000 ?_
 try simp only [c4, go_sem]
 obtain ⟨x5, yx5, h1⟩ := bs h1
 try simp only [aa yx5, c4, go_sem]
 obtain ⟨u6, yu6, h1⟩ := bs h1
 try simp only [room_some yu6, c4, aa yx5, go_sem]
 obtain ⟨l7, yl7, h1⟩ := bs h1
 have eyl7 := push_map (eL 2 Range.c) yl7
 have tyl7 := push_take (eL 2 Range.c) yl7
 have nyl7 := push_len yl7
 have myl7 := push_room yl7
 try simp only [c4, aa yx5, go_sem] at eyl7 tyl7 nyl7 myl7
 try simp only [myl7, eyl7, c4, aa yx5, nyl7, tyl7, go_sem]
 refine DG_done ⟨rfl, run_sound T_ok 1000 _ _ ?_⟩
 try simp only [c4, aa yx5, eyl7, nyl7, tyl7, go_sem]
 refine AKev_backB (hnext1 _ _ (Option.some.inj h1).symm ?_)
 refine Weak.go [1, 2, 3, 4] [0, 1, 2, 3, 4] rfl ?_
 try simp only [R04_kiln.h0, c4, aa yx5, eyl7, nyl7, tyl7, go_sem]
 try simp only [c4, go_sem]
 refine AKev_backB (hbrk1 _ _ (Option.some.inj h1).symm ?_)
 refine Weak.go [2, 3] [1, 2, 3, 4] rfl ?_
 try simp only [R04_kiln.x0, c4, go_sem]
 rintro l3 hr_
 subst hr_
 simp only at h0
 refine rS ?_
 try simp only [R04_kiln.x0, go_sem]
 obtain rfl := Option.some.inj h0
 refine AKev_ret rfl ?_
 try simp only [F91.rs, go_sem]
def F93.s0 : SC :=
 (.seq
 (.seq
 (.reg [mv 6 5 3 [],
 mv 7 0 37 [],
 ln 8 7 37 3 [7],
 b2 9 .lss 3 6 8 3 4 [6, 8]])
 (.cond (.tmp 9)
 .skip
 (.exit 0)))
 (.seq
 (.block 1
 (.seq
 (.reg [mv 12 0 37 [],
 mv 13 5 3 [],
 ia 14 37 12 13 [12, 13],
 ld 15 3 14 [14],
 mv 16 1 3 [],
 b2 17 .eql 3 15 16 3 4 [15, 16]])
 (.cond (.tmp 17)
 (.seq
 (.reg [sb 4 true 4 []])
 .ret)
 .skip)))
 (.reg [mv 10 5 3 [5],
 bn 11 .add 3 10 1 3 3 [10],
 sg 5 11 3 [11]])))
def F93.c : SC :=
 (.seq
 (.reg [sb 4 false 4 [4]])
 (.seq
 (.seq
 (.reg [sn 5 0 3 []])
 (.block 0
 (.loop F93.s0)))
 (.seq
 (.reg [sb 4 false 4 []])
 .ret)))
theorem F93.rs : Tryz.f93.results.toList = [.tmp 4] := rfl
def R01_Has.b0 (k : Nat) (l0 : (List Int)) (n1 : Int) : Int → Option (Stp (Int) (Unit) (Bool)) := fun (i1 : Int) =>
 bif decide (i1 < (l0.length : Int)) then
  (at? l0 i1).bind fun x3 =>
  bif decide (x3 = n1) then
   some (.ret true)
  else
   some (.next (w64 (i1 + 1)))
 else
  some (.brk ())
noncomputable def R01_Has.h0 (l0 : (List Int)) (n1 : Int) : Int → St := fun (i1 : Int) => ⟨[(0, .sl 1 (List.map eI l0)), (1, .int .i64 n1), (5, .int .i64 i1)], [], [], 1, Tryz.f93.ntmps⟩
noncomputable def R01_Has.x0 : Unit → St := fun (_ : Unit) => ⟨[], [], [], 1, Tryz.f93.ntmps⟩
def R01_Has (k : Nat) (l0 : (List Int)) (n1 : Int) : Option (Bool) :=
 (whl (R01_Has.b0 k l0 n1) k 0).bind fun r5 => match r5 with
 | .next _ => none
 | .ret v_ => some v_
 | .brk _ =>
  some false
theorem R01_Has_ok (k : Nat) (l0 : (List Int)) (n1 : Int) (r : Bool) (h0 : R01_Has k l0 n1 = some r) : PCall Tryz.prog 93 [.sl 1 (List.map eI l0), .int .i64 n1] (fun y => y = .bool r) := by
 refine PB (fn := Tryz.f93) (sc := F93.c) ?_
 refine rS ?_
 simp only [R01_Has] at h0
 try simp only [F93.c, go_sem]
 obtain ⟨r5, yr5, h0⟩ := bs h0
 refine AKev_loopS yr5 (R01_Has.h0 l0 n1) (R01_Has.x0) ?_ ?_ ?_
 refine Weak.go [0, 1, 5] [] rfl ?_
 try simp only [R01_Has.h0, go_sem]
 rintro i1 x_1 Bk1 Br1 h1 hnext1 hbrk1 hret1
 refine rS ?_
 simp only [R01_Has.b0] at h1
 try simp only [F93.s0, R01_Has.h0, go_sem]
 refine AKev_bif h1 ?_ ?_ <;> intro c2 h1
 try simp only [c2, go_sem]
 obtain ⟨x3, yx3, h1⟩ := bs h1
 try simp only [aa yx3, c2, go_sem]
 refine AKev_bif h1 ?_ ?_ <;> intro c4 h1
 try simp only [c4, c2, aa yx3, go_sem]
 obtain rfl := hret1 _ (Option.some.inj h1).symm
 simp only at h0
 obtain rfl := Option.some.inj h0
 refine AKev_ret rfl ?_
 try simp only [F93.rs, c2, aa yx3, c4, go_sem]
 try simp only [c4, c2, aa yx3, go_sem]
 refine AKev_backB (hnext1 _ _ (Option.some.inj h1).symm ?_)
 refine Weak.go [0, 1, 5] [] rfl ?_
 try simp only [R01_Has.h0, c2, aa yx3, c4, go_sem]
 try simp only [c2, go_sem]
 refine AKev_backB (hbrk1 _ _ (Option.some.inj h1).symm ?_)
 refine Weak.go [] [] rfl ?_
 try simp only [R01_Has.x0, c2, go_sem]
 rintro _ hr_
 subst hr_
 simp only at h0
 refine rS ?_
 try simp only [R01_Has.x0, go_sem]
 obtain rfl := Option.some.inj h0
 refine AKev_ret rfl ?_
 try simp only [F93.rs, go_sem]
def F73.s0 : SC :=
 (.seq
 (.seq
 (.reg [mv 11 6 3 [],
 fa 12 27 2 1 [],
 ld 13 25 12 [12],
 ln 14 13 25 3 [13],
 b2 15 .lss 3 11 14 3 4 [11, 14]])
 (.cond (.tmp 15)
 .skip
 (.exit 0)))
 (.seq
 (.block 1
 (.seq
 (.reg [mv 18 1 37 [],
 fa 19 27 2 1 [],
 ld 20 25 19 [19],
 mv 21 6 3 [],
 ia 22 25 20 21 [20, 21],
 fa 23 64 22 0 [22],
 ld 24 3 23 [23],
 cf2 25 93 18 24 37 3 4 [18, 24]])
 (.cond (.tmp 25)
 (.dreg [fa 26 27 5 1 [],
 ld 27 25 26 [],
 fa 28 27 2 1 [],
 ld 29 25 28 [],
 mv 30 6 3 [],
 ia 31 25 29 30 [],
 ld 32 64 31 [],
 oq 33 (.buildSlice 25 1 #[(0, .tmp 32)]) 25 [],
 oq 34 (.call ⟨.builtin .append, #[.tmp 27, .tmp 33], #[25, 25]⟩) 25 [],
 fa 35 27 5 1 [],
 ⟨none, .store 25 (.tmp 35) (.tmp 34), 0, none, []⟩] [[], [0], [], [2], [], [2, 3, 4], [2, 3, 4, 5], [2, 3, 4, 5, 6], [0, 1, 2, 3, 4, 5, 6, 7], [0, 1, 2, 3, 4, 5, 6, 7, 8], [0, 1, 2, 3, 4, 5, 6, 7, 8, 9]] [26, 27, 28, 29, 30, 31, 32, 33, 34, 35])
 .skip)))
 (.reg [mv 16 6 3 [6],
 bn 17 .add 3 16 1 3 3 [16],
 sg 6 17 3 [17]])))
def F73.c : SC :=
 (.seq
 (.reg [oq 2 (.box 27 (.tmp 0)) 0 [0],
 oq 4 (.alloc 27) 0 []])
 (.seq
 (.reg [fa 7 27 2 0 [],
 ld 8 24 7 [7],
 cf1 9 91 8 24 24 [8],
 oq 10 (.build 27 #[(0, .tmp 9)]) 27 [9],
 oq 5 (.alloc 27) 0 [],
 ⟨none, .store 27 (.tmp 5) (.tmp 10), 0, none, [10]⟩])
 (.seq
 (.seq
 (.reg [sn 6 0 3 []])
 (.block 0
 (.loop F73.s0)))
 (.seq
 (.reg [ld 36 27 5 [5],
 ⟨none, .store 27 (.tmp 4) (.tmp 36), 0, none, [36]⟩])
 .ret))))
theorem F73.rs : Tryz.f73.results.toList = [.cell 4 27] := rfl
def R04_only.b0 (k : Nat) (f0 : Firing) (by1 : (List Int)) : (Int × (List Reading)) → Option (Stp (Int × (List Reading)) ((List Reading)) (Firing)) := fun (s : Int × (List Reading)) => match s with
 | (i2, l3) =>
   bif decide (i2 < (f0.Readings.length : Int)) then
    (at? f0.Readings i2).bind fun x6 =>
    (R01_Has k by1 x6.Source).bind fun x7 =>
    bif x7 then
     (push? 48 l3 x6).bind fun l9 =>
     some (.next (w64 (i2 + 1), l9))
    else
     some (.next (w64 (i2 + 1), l3))
   else
    some (.brk l3)
noncomputable def R04_only.h0 (f0 : Firing) (by1 : (List Int)) (x1 : Kiln) : (Int × (List Reading)) → St := fun (s : Int × (List Reading)) => match s with
 | (i2, l3) => ⟨[(1, .sl 1 (List.map eI by1)), (2, .ptr 0 0 0), (4, .ptr 0 1 0), (5, .ptr 0 4 0), (6, .int .i64 i2)], [(0, .box [.sl 1 (List.map (eL 2 Range.c) f0.Kiln.Falls), .sl 6 (List.map Reading.c f0.Readings)]), (1, .box [.loc 0 2 1 0 0 0, .loc 0 3 6 0 0 0]), (2, .arr 89 1 (List.map (eL 2 Range.c) [])), (3, .arr 64 6 (List.map Reading.c [])), (4, .box [.sl 1 (List.map (eL 2 Range.c) x1.Falls), .loc 0 5 6 0 l3.length l3.length]), (5, .arr 64 6 (List.map Reading.c l3))], [], 6, Tryz.f73.ntmps⟩
noncomputable def R04_only.x0 (x1 : Kiln) : (List Reading) → St := fun (l4 : (List Reading)) => ⟨[(4, .ptr 0 0 0), (5, .ptr 0 3 0)], [(0, .box [.loc 0 1 1 0 0 0, .loc 0 2 6 0 0 0]), (1, .arr 89 1 (List.map (eL 2 Range.c) [])), (2, .arr 64 6 (List.map Reading.c [])), (3, .box [.sl 1 (List.map (eL 2 Range.c) x1.Falls), .loc 0 4 6 0 l4.length l4.length]), (4, .arr 64 6 (List.map Reading.c l4))], [], 5, Tryz.f73.ntmps⟩
def R04_only (k : Nat) (f0 : Firing) (by1 : (List Int)) : Option (Firing) :=
 (R04_kiln k f0.Kiln).bind fun x1 =>
 (whl (R04_only.b0 k f0 by1) k (0, [])).bind fun r10 => match r10 with
 | .next _ => none
 | .ret v_ => some v_
 | .brk l4 =>
  some (⟨x1, l4⟩ : Firing)
theorem R04_only_ok (k : Nat) (f0 : Firing) (by1 : (List Int)) (r : Firing) (h0 : R04_only k f0 by1 = some r) : PCall Tryz.prog 73 [.agg (Firing.c f0), .sl 1 (List.map eI by1)] (fun y => y = .agg (Firing.c r)) := by
 refine PB (fn := Tryz.f73) (sc := F73.c) ?_
 refine rS ?_
 simp only [R04_only] at h0
 try simp only [F73.c, go_sem]
 obtain ⟨x1, yx1, h0⟩ := bs h0
 refine zc0 (R04_kiln_ok k _ _ yx1) ?_ (by first | rfl | simp [AV.refsL, AV.refs, AV.scal, AV.leaf]) ?_
 try simp only [go_sem]
 try simp only [go_sem]
 obtain ⟨r10, yr10, h0⟩ := bs h0
 refine AKev_loopS yr10 (R04_only.h0 f0 by1 x1) (R04_only.x0 x1) ?_ ?_ ?_
 refine Weak.go [1, 2, 4, 5, 6] [0, 16, 17, 18, 96, 112] rfl ?_
 try simp only [R04_only.h0, go_sem]
 rintro ⟨i2, l3⟩ x_1 Bk1 Br1 h1 hnext1 hbrk1 hret1
 refine rS ?_
 simp only [R04_only.b0] at h1
 try simp only [F73.s0, R04_only.h0, go_sem]
 refine AKev_bif h1 ?_ ?_ <;> intro c5 h1
 try simp only [c5, go_sem]
 obtain ⟨x6, yx6, h1⟩ := bs h1
 try simp only [aa yx6, c5, go_sem]
 obtain ⟨x7, yx7, h1⟩ := bs h1
 refine zc0 (R01_Has_ok k _ _ _ yx7) ?_ (by first | rfl | simp [AV.refsL, AV.refs, AV.scal, AV.leaf]) ?_
 try simp only [c5, aa yx6, go_sem]
 try simp only [c5, aa yx6, go_sem]
 refine AKev_bif h1 ?_ ?_ <;> intro c8 h1
 try simp only [c8, c5, aa yx6, go_sem]
 refine AKev_region T_ok follows_ok 1000 ?_
 try simp only [aa yx6, c5, c8, go_sem]
 obtain ⟨l9, yl9, h1⟩ := bs h1
 have eyl9 := push_map Reading.c yl9
 have tyl9 := push_take Reading.c yl9
 have nyl9 := push_len yl9
 have myl9 := push_room yl9
 try simp only [c5, aa yx6, c8, go_sem] at eyl9 tyl9 nyl9 myl9
 try simp only [myl9, eyl9, c5, aa yx6, c8, nyl9, tyl9, go_sem]
 refine DG_done ⟨rfl, run_sound T_ok 1000 _ _ ?_⟩
 try simp only [c5, aa yx6, c8, eyl9, nyl9, tyl9, go_sem]
 refine AKev_backB (hnext1 _ _ (Option.some.inj h1).symm ?_)
 refine Weak.go [1, 2, 4, 5, 6] [0, 1, 2, 3, 4, 5] rfl ?_
 try simp only [R04_only.h0, c5, aa yx6, c8, eyl9, nyl9, tyl9, go_sem]
 try simp only [c8, c5, aa yx6, go_sem]
 refine AKev_backB (hnext1 _ _ (Option.some.inj h1).symm ?_)
 refine Weak.go [1, 2, 4, 5, 6] [0, 1, 2, 3, 4, 5] rfl ?_
 try simp only [R04_only.h0, c5, aa yx6, c8, go_sem]
 try simp only [c5, go_sem]
 refine AKev_backB (hbrk1 _ _ (Option.some.inj h1).symm ?_)
 refine Weak.go [4, 5] [1, 2, 3, 4, 5] rfl ?_
 try simp only [R04_only.x0, c5, go_sem]
 rintro l4 hr_
 subst hr_
 simp only at h0
 refine rS ?_
 try simp only [R04_only.x0, go_sem]
 obtain rfl := Option.some.inj h0
 refine AKev_ret rfl ?_
 try simp only [F73.rs, go_sem]
def F24.s0 : SC :=
 (.seq
 (.seq
 (.reg [mv 23 10 3 [],
 mv 24 8 37 [],
 ln 25 24 37 3 [24],
 b2 26 .lss 3 23 25 3 4 [23, 25]])
 (.cond (.tmp 26)
 .skip
 (.exit 0)))
 (.seq
 (.block 1
 (.seq
 (.dreg [ld 29 27 2 [],
 mv 30 8 37 [],
 mv 31 8 37 [],
 mv 32 10 3 [],
 ia 33 37 31 32 [],
 ld 34 3 33 [],
 cf2 35 72 30 34 37 3 37 [],
 cf2 36 73 29 35 27 37 27 [],
 mv 37 1 3 [],
 cf2 38 77 36 37 27 3 30 [],
 ld 39 30 6 [],
 b2 40 .neq 30 38 39 30 4 []] [[], [], [], [], [2, 3], [2, 3, 4], [1, 2, 3, 4, 5], [0, 1, 2, 3, 4, 5, 6], [], [0, 1, 2, 3, 4, 5, 6, 7, 8], [], [0, 1, 2, 3, 4, 5, 6, 7, 8, 9, 10]] [29, 30, 31, 32, 33, 34, 35, 36, 37, 38, 39])
 (.cond (.tmp 40)
 (.reg [mv 41 9 37 [9],
 mv 42 8 37 [],
 mv 43 10 3 [],
 ia 44 37 42 43 [42, 43],
 ld 45 3 44 [44],
 oq 46 (.buildSlice 37 1 #[(0, .tmp 45)]) 37 [45],
 oq 47 (.call ⟨.builtin .append, #[.tmp 41, .tmp 46], #[37, 37]⟩) 37 [41, 46],
 sg 9 47 37 [47]])
 .skip)))
 (.reg [mv 27 10 3 [10],
 bn 28 .add 3 27 1 3 3 [27],
 sg 10 28 3 [28]])))
def F24.c : SC :=
 (.seq
 (.reg [oq 2 (.box 27 (.tmp 0)) 0 [0],
 oq 4 (.assign (.const (.slice none 0 0))) 37 [4],
 sn 5 0 33 [5]])
 (.seq
 (.reg [ld 12 27 2 [],
 mv 13 1 3 [],
 cf2 14 22 12 13 27 3 52 [12, 13],
 mv 11 14 52 [14],
 xt 15 11 0 30 [],
 xt 16 11 1 33 [11],
 oq 6 (.alloc 30) 0 [],
 ⟨none, .store 30 (.tmp 6) (.tmp 15), 0, none, [15]⟩,
 sg 7 16 33 [16]])
 (.seq
 (.seq
 (.reg [mv 17 7 33 [],
 bn 18 .neq 33 17 0 33 4 [17]])
 (.cond (.tmp 18)
 (.seq
 (.reg [mv 19 7 33 [7],
 oq 4 (.assign (.const (.slice none 0 0))) 37 [],
 sg 5 19 33 [19]])
 .ret)
 .skip))
 (.seq
 (.reg [fa 20 27 2 1 [],
 ld 21 25 20 [20],
 cf1 22 71 21 25 37 [21],
 sg 8 22 37 [22]])
 (.seq
 (.reg [oq 9 (.assign (.const (.slice none 0 0))) 37 []])
 (.seq
 (.seq
 (.reg [sn 10 0 3 []])
 (.block 0
 (.loop F24.s0)))
 (.seq
 (.reg [mv 48 9 37 [9],
 sg 4 48 37 [48],
 sn 5 0 33 []])
 .ret)))))))
theorem F24.rs : Tryz.f24.results.toList = [.tmp 4, .tmp 5] := rfl
def R04_Moves.b0 (k : Nat) (f0 : Firing) (place1 : Int) (x1 : Range × Int) (x3 : (List Int)) : (Int × (List Int)) → Option (Stp (Int × (List Int)) ((List Int)) ((List Int) × Int)) := fun (s : Int × (List Int)) => match s with
 | (i4, l5) =>
   bif decide (i4 < (x3.length : Int)) then
    (at? x3 i4).bind fun x8 =>
    (R01_Less k x3 x8).bind fun x9 =>
    (R04_only k f0 x9).bind fun x10 =>
    (R04_bound k x10 place1).bind fun x11 =>
    bif (!(decide (x11.Lo = x1.1.Lo) && decide (x11.Hi = x1.1.Hi))) then
     (push? 8 l5 x8).bind fun l13 =>
     some (.next (w64 (i4 + 1), l13))
    else
     some (.next (w64 (i4 + 1), l5))
   else
    some (.brk l5)
noncomputable def R04_Moves.h0 (f0 : Firing) (place1 : Int) (x1 : Range × Int) (x3 : (List Int)) : (Int × (List Int)) → St := fun (s : Int × (List Int)) => match s with
 | (i4, l5) => ⟨[(1, .int .i64 place1), (2, .ptr 0 0 0), (6, .ptr 0 1 0), (8, .sl 1 (List.map eI x3)), (9, .loc 0 2 1 0 l5.length l5.length), (10, .int .i64 i4)], [(0, .box [.sl 1 (List.map (eL 2 Range.c) f0.Kiln.Falls), .sl 6 (List.map Reading.c f0.Readings)]), (1, .box [.int .i64 x1.1.Lo, .int .i64 x1.1.Hi]), (2, .arr 3 1 (List.map eI l5))], [], 3, Tryz.f24.ntmps⟩
noncomputable def R04_Moves.x0 : (List Int) → St := fun (l6 : (List Int)) => ⟨[(9, .loc 0 0 1 0 l6.length l6.length)], [(0, .arr 3 1 (List.map eI l6))], [], 1, Tryz.f24.ntmps⟩
def R04_Moves (k : Nat) (f0 : Firing) (place1 : Int) : Option ((List Int) × Int) :=
 (R04_Bound k f0 place1).bind fun x1 =>
 bif (!decide (x1.2 = (0 : Int))) then
  some ([], x1.2)
 else
  (R04_sources k f0.Readings).bind fun x3 =>
  (whl (R04_Moves.b0 k f0 place1 x1 x3) k (0, [])).bind fun r14 => match r14 with
  | .next _ => none
  | .ret v_ => some v_
  | .brk l6 =>
   some (l6, 0)
theorem R04_Moves_ok (k : Nat) (f0 : Firing) (place1 : Int) (r : (List Int) × Int) (h0 : R04_Moves k f0 place1 = some r) : PCall Tryz.prog 24 [.agg (Firing.c f0), .int .i64 place1] (fun y => y = .tup [.sl 1 (List.map eI r.1), .int .i64 r.2]) := by
 refine PB (fn := Tryz.f24) (sc := F24.c) ?_
 refine rS ?_
 simp only [R04_Moves] at h0
 try simp only [F24.c, go_sem]
 obtain ⟨x1, yx1, h0⟩ := bs h0
 refine zc0 (R04_Bound_ok k _ _ _ yx1) ?_ (by first | rfl | simp [AV.refsL, AV.refs, AV.scal, AV.leaf]) ?_
 try simp only [go_sem]
 try simp only [go_sem]
 refine AKev_bif h0 ?_ ?_ <;> intro c2 h0
 have c2 := bnot_t c2
 try simp only [c2, go_sem]
 obtain rfl := Option.some.inj h0
 refine AKev_ret rfl ?_
 try simp only [F24.rs, c2, go_sem]
 have c2 := bnot_f c2
 try simp only [c2, go_sem]
 obtain ⟨x3, yx3, h0⟩ := bs h0
 refine zc0 (R04_sources_ok k _ _ yx3) ?_ (by first | rfl | simp [AV.refsL, AV.refs, AV.scal, AV.leaf]) ?_
 try simp only [c2, go_sem]
 try simp only [c2, go_sem]
 obtain ⟨r14, yr14, h0⟩ := bs h0
 refine AKev_loopS yr14 (R04_Moves.h0 f0 place1 x1 x3) (R04_Moves.x0) ?_ ?_ ?_
 refine Weak.go [1, 2, 6, 8, 9, 10] [0, 144, 288] rfl ?_
 try simp only [R04_Moves.h0, c2, go_sem]
 rintro ⟨i4, l5⟩ x_1 Bk1 Br1 h1 hnext1 hbrk1 hret1
 refine rS ?_
 simp only [R04_Moves.b0] at h1
 try simp only [F24.s0, R04_Moves.h0, c2, go_sem]
 refine AKev_bif h1 ?_ ?_ <;> intro c7 h1
 try simp only [c7, c2, go_sem]
 refine AKev_region T_ok follows_ok 1000 ?_
 try simp only [c2, c7, go_sem]
 obtain ⟨x8, yx8, h1⟩ := bs h1
 try simp only [aa yx8, c2, c7, go_sem]
 obtain ⟨x9, yx9, h1⟩ := bs h1
 refine DG_call0 1000 (R01_Less_ok k _ _ _ yx9) ?_ (by first | rfl | simp [AV.refsL, AV.refs, AV.scal, AV.leaf]) ?_
 try simp only [c2, c7, aa yx8, go_sem]
 try simp only [c2, c7, aa yx8, go_sem]
 obtain ⟨x10, yx10, h1⟩ := bs h1
 refine DG_call0 1000 (R04_only_ok k _ _ _ yx10) ?_ (by first | rfl | simp [AV.refsL, AV.refs, AV.scal, AV.leaf]) ?_
 try simp only [c2, c7, aa yx8, go_sem]
 try simp only [c2, c7, aa yx8, go_sem]
 obtain ⟨x11, yx11, h1⟩ := bs h1
 refine DG_call0 1000 (R04_bound_ok k _ _ _ yx11) ?_ (by first | rfl | simp [AV.refsL, AV.refs, AV.scal, AV.leaf]) ?_
 try simp only [c2, c7, aa yx8, go_sem]
 try simp only [c2, c7, aa yx8, go_sem]
 refine DG_done ⟨rfl, run_sound T_ok 1000 _ _ ?_⟩
 try simp only [c2, c7, aa yx8, go_sem]
 refine AKev_bif h1 ?_ ?_ <;> intro c12 h1
 have c12 := bnot_t c12
 try simp only [c12, aa yx8, c2, c7, go_sem]
 obtain ⟨l13, yl13, h1⟩ := bs h1
 have eyl13 := push_map eI yl13
 have tyl13 := push_take eI yl13
 have nyl13 := push_len yl13
 have myl13 := push_room yl13
 try simp only [c2, c7, aa yx8, c12, go_sem] at eyl13 tyl13 nyl13 myl13
 try simp only [myl13, eyl13, c2, c7, aa yx8, c12, nyl13, tyl13, go_sem]
 refine AKev_backB (hnext1 _ _ (Option.some.inj h1).symm ?_)
 refine Weak.go [1, 2, 6, 8, 9, 10] [0, 1, 2] rfl ?_
 try simp only [R04_Moves.h0, c2, c7, aa yx8, c12, eyl13, nyl13, tyl13, go_sem]
 have c12 := bnot_f c12
 try simp only [c12, c2, c7, aa yx8, go_sem]
 refine AKev_backB (hnext1 _ _ (Option.some.inj h1).symm ?_)
 refine Weak.go [1, 2, 6, 8, 9, 10] [0, 1, 2] rfl ?_
 try simp only [R04_Moves.h0, c2, c7, aa yx8, c12, go_sem]
 try simp only [c7, c2, go_sem]
 refine AKev_backB (hbrk1 _ _ (Option.some.inj h1).symm ?_)
 refine Weak.go [9] [2] rfl ?_
 try simp only [R04_Moves.x0, c2, c7, go_sem]
 rintro l6 hr_
 subst hr_
 simp only at h0
 refine rS ?_
 try simp only [R04_Moves.x0, c2, go_sem]
 obtain rfl := Option.some.inj h0
 refine AKev_ret rfl ?_
 try simp only [F24.rs, c2, go_sem]
def F25.c : SC :=
 (.seq
 (.reg [oq 3 (.box 27 (.tmp 0)) 0 [0],
 oq 6 (.alloc 40) 0 [],
 sn 7 0 33 [7]])
 (.seq
 (.reg [ld 13 27 3 [3],
 mv 14 1 3 [],
 cf2 15 76 13 14 27 3 104 [13, 14],
 mv 12 15 104 [15],
 xt 16 12 0 81 [],
 xt 17 12 1 33 [12],
 oq 8 (.alloc 81) 0 [],
 ⟨none, .store 81 (.tmp 8) (.tmp 16), 0, none, [16]⟩,
 sg 9 17 33 [17]])
 (.seq
 (.seq
 (.reg [mv 18 9 33 [],
 bn 19 .neq 33 18 0 33 4 [18]])
 (.cond (.tmp 19)
 (.seq
 (.reg [oq 20 (.build 40 #[]) 40 [],
 mv 21 9 33 [9],
 ⟨none, .store 40 (.tmp 6) (.tmp 20), 0, none, [20]⟩,
 sg 7 21 33 [21]])
 .ret)
 .skip))
 (.seq
 (.seq
 (.reg [mv 22 2 4 [2],
 oq 23 (.unOp .not 4 (.tmp 22)) 4 [22]])
 (.cond (.tmp 23)
 (.seq
 (.reg [ld 25 81 8 [],
 mv 26 1 3 [],
 cf2 27 82 25 26 81 3 110 [25, 26],
 mv 24 27 110 [27],
 xt 28 24 0 3 [],
 xt 29 24 1 57 [24],
 oq 11 (.alloc 57) 0 [],
 sg 10 28 3 [28],
 ⟨none, .store 57 (.tmp 11) (.tmp 29), 0, none, [11, 29]⟩])
 (.reg [ld 30 81 8 [],
 mv 31 1 3 [1],
 mv 32 10 3 [],
 mv 33 10 3 [10],
 oq 34 (.build 30 #[(0, .tmp 32), (1, .tmp 33)]) 30 [32, 33],
 oq 35 (.call ⟨.value (.func 83), #[.tmp 30, .tmp 31, .tmp 34], #[81, 3, 30]⟩) 81 [30, 31, 34],
 ⟨none, .store 81 (.tmp 8) (.tmp 35), 0, none, [35]⟩]))
 .skip))
 (.seq
 (.reg [ld 36 81 8 [8],
 cf1 37 60 36 81 40 [36],
 ⟨none, .store 40 (.tmp 6) (.tmp 37), 0, none, [37]⟩,
 sn 7 0 33 []])
 .ret)))))
theorem F25.rs : Tryz.f25.results.toList = [.cell 6 40, .tmp 7] := rfl
def heat_Attain (k : Nat) (f0 : Firing) (place1 : Int) (high2 : Bool) : Option (Field × Int) :=
 (heat_asks k f0 place1).bind fun x1 =>
 bif (!decide (x1.2 = (0 : Int))) then
  some ((⟨[], []⟩ : Field), x1.2)
 else
  bif (!high2) then
   (heat_furnace_lowest k x1.1 place1).bind fun x4 =>
   (heat_furnace_asked k x1.1 place1 (⟨x4.1, x4.1⟩ : Range)).bind fun x5 =>
   (heat_furnace_greatest k x5).bind fun x6 =>
   some (x6, 0)
  else
   (heat_furnace_greatest k x1.1).bind fun x7 =>
   some (x7, 0)
theorem heat_Attain_ok (k : Nat) (f0 : Firing) (place1 : Int) (high2 : Bool) (r : Field × Int) (h0 : heat_Attain k f0 place1 high2 = some r) : PCall Tryz.prog 25 [.agg (Firing.c f0), .int .i64 place1, .bool high2] (fun y => y = .tup [.agg (Field.c r.1), .int .i64 r.2]) := by
 refine PB (fn := Tryz.f25) (sc := F25.c) ?_
 refine rS ?_
 simp only [heat_Attain] at h0
 try simp only [F25.c, go_sem]
 obtain ⟨x1, yx1, h0⟩ := bs h0
 refine zc0 (heat_asks_ok k _ _ _ yx1) ?_ (by first | rfl | simp [AV.refsL, AV.refs, AV.scal, AV.leaf]) ?_
 try simp only [go_sem]
 try simp only [go_sem]
 refine AKev_bif h0 ?_ ?_ <;> intro c2 h0
 have c2 := bnot_t c2
 try simp only [c2, go_sem]
 obtain rfl := Option.some.inj h0
 refine AKev_ret rfl ?_
 try simp only [F25.rs, c2, go_sem]
 have c2 := bnot_f c2
 try simp only [c2, go_sem]
 refine AKev_bif h0 ?_ ?_ <;> intro c3 h0
 have c3 := bnot_t c3
 try simp only [c3, c2, go_sem]
 obtain ⟨x4, yx4, h0⟩ := bs h0
 refine zc0 (heat_furnace_lowest_ok k _ _ _ yx4) ?_ (by first | rfl | simp [AV.refsL, AV.refs, AV.scal, AV.leaf]) ?_
 try simp only [c2, c3, go_sem]
 try simp only [c2, c3, go_sem]
 obtain ⟨x5, yx5, h0⟩ := bs h0
 refine zc0 (heat_furnace_asked_ok k _ _ _ _ yx5) ?_ (by first | rfl | simp [AV.refsL, AV.refs, AV.scal, AV.leaf]) ?_
 try simp only [c2, c3, go_sem]
 try simp only [c2, c3, go_sem]
 obtain ⟨x6, yx6, h0⟩ := bs h0
 refine zc0 (heat_furnace_greatest_ok k _ _ yx6) ?_ (by first | rfl | simp [AV.refsL, AV.refs, AV.scal, AV.leaf]) ?_
 try simp only [c2, c3, go_sem]
 try simp only [c2, c3, go_sem]
 obtain rfl := Option.some.inj h0
 refine AKev_ret rfl ?_
 try simp only [F25.rs, c2, c3, go_sem]
 have c3 := bnot_f c3
 try simp only [c3, c2, go_sem]
 obtain ⟨x7, yx7, h0⟩ := bs h0
 refine zc0 (heat_furnace_greatest_ok k _ _ yx7) ?_ (by first | rfl | simp [AV.refsL, AV.refs, AV.scal, AV.leaf]) ?_
 try simp only [c2, c3, go_sem]
 try simp only [c2, c3, go_sem]
 obtain rfl := Option.some.inj h0
 refine AKev_ret rfl ?_
 try simp only [F25.rs, c2, c3, go_sem]
def F26.c : SC :=
 (.seq
 (.reg [oq 3 (.box 27 (.tmp 0)) 0 [0],
 oq 6 (.alloc 57) 0 [],
 sn 7 0 33 [7]])
 (.seq
 (.reg [ld 14 27 3 [3],
 mv 15 1 3 [],
 cf2 16 76 14 15 27 3 104 [14, 15],
 mv 13 16 104 [16],
 xt 17 13 0 81 [],
 xt 18 13 1 33 [13],
 oq 8 (.alloc 81) 0 [],
 ⟨none, .store 81 (.tmp 8) (.tmp 17), 0, none, [17]⟩,
 sg 9 18 33 [18]])
 (.seq
 (.seq
 (.reg [mv 19 9 33 [],
 bn 20 .neq 33 19 0 33 4 [19]])
 (.cond (.tmp 20)
 (.seq
 (.reg [oq 21 (.build 57 #[]) 57 [],
 mv 22 9 33 [9],
 ⟨none, .store 57 (.tmp 6) (.tmp 21), 0, none, [21]⟩,
 sg 7 22 33 [22]])
 .ret)
 .skip))
 (.seq
 (.reg [ld 23 81 8 [],
 oq 24 (.makeFunc (.func 82) #[.tmp 23] #[]) 111 [23],
 sg 10 24 111 [24]])
 (.seq
 (.seq
 (.reg [mv 25 2 4 [2]])
 (.cond (.tmp 25)
 (.reg [ld 26 81 8 [8],
 oq 27 (.makeFunc (.func 84) #[.tmp 26] #[]) 111 [26],
 sg 10 27 111 [27]])
 .skip))
 (.seq
 (.reg [mv 29 10 111 [10],
 mv 30 1 3 [1],
 oq 31 (.call ⟨.value (.tmp 29), #[.tmp 30], #[3]⟩) 110 [29, 30],
 mv 28 31 110 [31],
 xt 32 28 0 3 [],
 xt 33 28 1 57 [28],
 oq 12 (.alloc 57) 0 [],
 sg 11 32 3 [11, 32],
 ⟨none, .store 57 (.tmp 12) (.tmp 33), 0, none, [33]⟩])
 (.seq
 (.reg [ld 34 57 12 [12],
 ⟨none, .store 57 (.tmp 6) (.tmp 34), 0, none, [34]⟩,
 sn 7 0 33 []])
 .ret)))))))
theorem F26.rs : Tryz.f26.results.toList = [.cell 6 57, .tmp 7] := rfl
def heat_Prove (k : Nat) (f0 : Firing) (place1 : Int) (high2 : Bool) : Option (HeatProof × Int) :=
 (heat_asks k f0 place1).bind fun x1 =>
 bif (!decide (x1.2 = (0 : Int))) then
  some ((⟨0, []⟩ : HeatProof), x1.2)
 else
  bif high2 then
   (heat_furnace_highest k x1.1 place1).bind fun x4 =>
   some (x4.2, 0)
  else
   (heat_furnace_lowest k x1.1 place1).bind fun x5 =>
   some (x5.2, 0)
theorem heat_Prove_ok (k : Nat) (f0 : Firing) (place1 : Int) (high2 : Bool) (r : HeatProof × Int) (h0 : heat_Prove k f0 place1 high2 = some r) : PCall Tryz.prog 26 [.agg (Firing.c f0), .int .i64 place1, .bool high2] (fun y => y = .tup [.agg (HeatProof.c r.1), .int .i64 r.2]) := by
 refine PB (fn := Tryz.f26) (sc := F26.c) ?_
 refine rS ?_
 simp only [heat_Prove] at h0
 try simp only [F26.c, go_sem]
 obtain ⟨x1, yx1, h0⟩ := bs h0
 refine zc0 (heat_asks_ok k _ _ _ yx1) ?_ (by first | rfl | simp [AV.refsL, AV.refs, AV.scal, AV.leaf]) ?_
 try simp only [go_sem]
 try simp only [go_sem]
 refine AKev_bif h0 ?_ ?_ <;> intro c2 h0
 have c2 := bnot_t c2
 try simp only [c2, go_sem]
 obtain rfl := Option.some.inj h0
 refine AKev_ret rfl ?_
 try simp only [F26.rs, c2, go_sem]
 have c2 := bnot_f c2
 try simp only [c2, go_sem]
 refine AKev_bif h0 ?_ ?_ <;> intro c3 h0
 try simp only [c3, c2, go_sem]
 obtain ⟨x4, yx4, h0⟩ := bs h0
 refine zc0 (heat_furnace_highest_ok k _ _ _ yx4) ?_ (by first | rfl | simp [AV.refsL, AV.refs, AV.scal, AV.leaf]) ?_
 try simp only [c2, c3, go_sem]
 try simp only [c2, c3, go_sem]
 obtain rfl := Option.some.inj h0
 refine AKev_ret rfl ?_
 try simp only [F26.rs, c2, c3, go_sem]
 try simp only [c3, c2, go_sem]
 obtain ⟨x5, yx5, h0⟩ := bs h0
 refine zc0 (heat_furnace_lowest_ok k _ _ _ yx5) ?_ (by first | rfl | simp [AV.refsL, AV.refs, AV.scal, AV.leaf]) ?_
 try simp only [c2, c3, go_sem]
 try simp only [c2, c3, go_sem]
 obtain rfl := Option.some.inj h0
 refine AKev_ret rfl ?_
 try simp only [F26.rs, c2, c3, go_sem]
def F85.s0 : SC :=
 (.seq
 (.seq
 (.reg [mv 19 6 3 [],
 fa 20 40 2 0 [],
 ld 21 37 20 [20],
 ln 22 21 37 3 [21],
 b2 23 .lss 3 19 22 3 4 [19, 22]])
 (.cond (.tmp 23)
 .skip
 (.exit 0)))
 (.seq
 (.block 1
 (.dreg [mv 26 5 3 [],
 fa 27 40 2 0 [],
 ld 28 37 27 [],
 mv 29 6 3 [],
 ia 30 37 28 29 [],
 ld 31 3 30 [],
 fa 32 40 2 1 [],
 ld 33 38 32 [],
 mv 34 6 3 [],
 ia 35 38 33 34 [],
 ld 36 37 35 [],
 mv 37 1 3 [],
 ia 38 37 36 37 [],
 ld 39 3 38 [],
 b2 40 .sub 3 31 39 3 3 [],
 oq 41 (.call ⟨.builtin .max, #[.tmp 26, .tmp 40], #[3, 3]⟩) 3 [],
 sg 5 41 3 []] [[], [], [1], [], [1, 2, 3], [1, 2, 3, 4], [], [6], [], [6, 7, 8], [6, 7, 8, 9], [], [6, 7, 8, 9, 10, 11], [6, 7, 8, 9, 10, 11, 12], [1, 2, 3, 4, 5, 6, 7, 8, 9, 10, 11, 12, 13], [0, 1, 2, 3, 4, 5, 6, 7, 8, 9, 10, 11, 12, 13, 14], [0, 1, 2, 3, 4, 5, 6, 7, 8, 9, 10, 11, 12, 13, 14, 15]] [26, 27, 28, 29, 30, 31, 32, 33, 34, 35, 36, 37, 38, 39, 40, 41]))
 (.reg [mv 24 6 3 [6],
 bn 25 .add 3 24 1 3 3 [24],
 sg 6 25 3 [25]])))
def F85.c : SC :=
 (.seq
 (.reg [oq 2 (.box 40 (.tmp 0)) 0 [0],
 sn 4 0 3 [4]])
 (.seq
 (.dreg [fa 7 40 2 0 [],
 ld 8 37 7 [],
 oq 9 (.indexAddr 37 (.tmp 8) (.const (.int .i64 0))) 0 [],
 ld 10 3 9 [],
 fa 11 40 2 1 [],
 ld 12 38 11 [],
 oq 13 (.indexAddr 38 (.tmp 12) (.const (.int .i64 0))) 0 [],
 ld 14 37 13 [],
 mv 15 1 3 [],
 ia 16 37 14 15 [],
 ld 17 3 16 [],
 b2 18 .sub 3 10 17 3 3 [],
 sg 5 18 3 []] [[], [0], [0, 1], [0, 1, 2], [], [4], [4, 5], [4, 5, 6], [], [4, 5, 6, 7, 8], [4, 5, 6, 7, 8, 9], [0, 1, 2, 3, 4, 5, 6, 7, 8, 9, 10], [0, 1, 2, 3, 4, 5, 6, 7, 8, 9, 10, 11]] [7, 8, 9, 10, 11, 12, 13, 14, 15, 16, 17, 18])
 (.seq
 (.seq
 (.reg [sn 6 1 3 []])
 (.block 0
 (.loop F85.s0)))
 (.seq
 (.reg [mv 42 5 3 [5],
 sg 4 42 3 [42]])
 .ret))))
theorem F85.rs : Tryz.f85.results.toList = [.tmp 4] := rfl
def R04_heat.b0 (k : Nat) (x0 : Field) (p1 : Int) : (Int × Int) → Option (Stp (Int × Int) (Int) (Int)) := fun (s : Int × Int) => match s with
 | (i4, i5) =>
   bif decide (i5 < (x0.Mouths.length : Int)) then
    (at? x0.Mouths i5).bind fun x8 =>
    (at? x0.Falls i5).bind fun x9 =>
    (at? x9 p1).bind fun x10 =>
    some (.next (max i4 (w64 (x8 - x10)), w64 (i5 + 1)))
   else
    some (.brk i4)
noncomputable def R04_heat.h0 (x0 : Field) (p1 : Int) : (Int × Int) → St := fun (s : Int × Int) => match s with
 | (i4, i5) => ⟨[(1, .int .i64 p1), (2, .ptr 0 0 0), (5, .int .i64 i4), (6, .int .i64 i5)], [(0, .box [.sl 1 (List.map eI x0.Mouths), .sl 1 (List.map (eL 1 eI) x0.Falls)])], [], 1, Tryz.f85.ntmps⟩
noncomputable def R04_heat.x0 : Int → St := fun (i6 : Int) => ⟨[(5, .int .i64 i6)], [], [], 1, Tryz.f85.ntmps⟩
def R04_heat (k : Nat) (x0 : Field) (p1 : Int) : Option (Int) :=
 (at? x0.Mouths 0).bind fun x1 =>
 (at? x0.Falls 0).bind fun x2 =>
 (at? x2 p1).bind fun x3 =>
 (whl (R04_heat.b0 k x0 p1) k (w64 (x1 - x3), 1)).bind fun r11 => match r11 with
 | .next _ => none
 | .ret v_ => some v_
 | .brk i6 =>
  some i6
theorem R04_heat_ok (k : Nat) (x0 : Field) (p1 : Int) (r : Int) (h0 : R04_heat k x0 p1 = some r) : PCall Tryz.prog 85 [.agg (Field.c x0), .int .i64 p1] (fun y => y = .int .i64 r) := by
 refine PB (fn := Tryz.f85) (sc := F85.c) ?_
 refine rS ?_
 simp only [R04_heat] at h0
 try simp only [F85.c, go_sem]
 refine AKev_region T_ok follows_ok 1000 ?_
 try simp only [go_sem]
 obtain ⟨x1, yx1, h0⟩ := bs h0
 try simp only [aa yx1, go_sem]
 obtain ⟨x2, yx2, h0⟩ := bs h0
 try simp only [aa yx2, aa yx1, go_sem]
 obtain ⟨x3, yx3, h0⟩ := bs h0
 try simp only [aa yx3, aa yx1, aa yx2, go_sem]
 refine DG_done ⟨rfl, run_sound T_ok 1000 _ _ ?_⟩
 try simp only [aa yx1, aa yx2, aa yx3, go_sem]
 obtain ⟨r11, yr11, h0⟩ := bs h0
 refine AKev_loopS yr11 (R04_heat.h0 x0 p1) (R04_heat.x0) ?_ ?_ ?_
 refine Weak.go [1, 2, 5, 6] [0] rfl ?_
 try simp only [R04_heat.h0, aa yx1, aa yx2, aa yx3, go_sem]
 rintro ⟨i4, i5⟩ x_1 Bk1 Br1 h1 hnext1 hbrk1 hret1
 refine rS ?_
 simp only [R04_heat.b0] at h1
 try simp only [F85.s0, R04_heat.h0, aa yx1, aa yx2, aa yx3, go_sem]
 refine AKev_bif h1 ?_ ?_ <;> intro c7 h1
 try simp only [c7, aa yx1, aa yx2, aa yx3, go_sem]
 refine AKev_region T_ok follows_ok 1000 ?_
 try simp only [aa yx1, aa yx2, aa yx3, c7, go_sem]
 obtain ⟨x8, yx8, h1⟩ := bs h1
 try simp only [aa yx8, aa yx1, aa yx2, aa yx3, c7, go_sem]
 obtain ⟨x9, yx9, h1⟩ := bs h1
 try simp only [aa yx9, aa yx1, aa yx2, aa yx3, c7, aa yx8, go_sem]
 obtain ⟨x10, yx10, h1⟩ := bs h1
 try simp only [aa yx10, aa yx1, aa yx2, aa yx3, c7, aa yx8, aa yx9, go_sem]
 refine DG_done ⟨rfl, run_sound T_ok 1000 _ _ ?_⟩
 try simp only [aa yx1, aa yx2, aa yx3, c7, aa yx8, aa yx9, aa yx10, go_sem]
 refine AKev_backB (hnext1 _ _ (Option.some.inj h1).symm ?_)
 refine Weak.go [1, 2, 5, 6] [0] rfl ?_
 try simp only [R04_heat.h0, aa yx1, aa yx2, aa yx3, c7, aa yx8, aa yx9, aa yx10, go_sem]
 try simp only [c7, aa yx1, aa yx2, aa yx3, go_sem]
 refine AKev_backB (hbrk1 _ _ (Option.some.inj h1).symm ?_)
 refine Weak.go [5] [] rfl ?_
 try simp only [R04_heat.x0, aa yx1, aa yx2, aa yx3, c7, go_sem]
 rintro i6 hr_
 subst hr_
 simp only at h0
 refine rS ?_
 try simp only [R04_heat.x0, aa yx1, aa yx2, aa yx3, go_sem]
 obtain rfl := Option.some.inj h0
 refine AKev_ret rfl ?_
 try simp only [F85.rs, aa yx1, aa yx2, aa yx3, go_sem]
def F61.s0 : SC :=
 (.seq
 (.seq
 (.reg [mv 9 5 3 [],
 fa 10 27 2 1 [],
 ld 11 25 10 [10],
 ln 12 11 25 3 [11],
 b2 13 .lss 3 9 12 3 4 [9, 12]])
 (.cond (.tmp 13)
 .skip
 (.exit 0)))
 (.seq
 (.block 1
 (.seq
 (.reg [fa 17 27 2 1 [],
 ld 18 25 17 [17],
 mv 19 5 3 [],
 ia 20 25 18 19 [18, 19],
 ld 21 64 20 [20],
 cf1 22 113 21 64 132 [21],
 mv 16 22 132 [22],
 xt 23 16 0 3 [],
 xt 24 16 1 3 [16],
 sg 6 23 3 [23],
 sg 7 24 3 [24]])
 (.seq
 (.dreg [ld 25 40 3 [],
 fa 26 27 2 1 [],
 ld 27 25 26 [],
 mv 28 5 3 [],
 ia 29 25 27 28 [],
 fa 30 64 29 1 [],
 ld 31 3 30 [],
 cf2 32 85 25 31 40 3 3 [],
 sg 8 32 3 []] [[], [], [1], [], [1, 2, 3], [1, 2, 3, 4], [1, 2, 3, 4, 5], [0, 1, 2, 3, 4, 5, 6], [0, 1, 2, 3, 4, 5, 6, 7]] [25, 26, 27, 28, 29, 30, 31, 32])
 (.seq
 (.reg [mv 33 8 3 [],
 mv 34 6 3 [6],
 b2 35 .lss 3 33 34 3 4 [33, 34],
 mv 36 35 4 [35],
 og 37 (.move (.tmp 8)) 3 36 false [8],
 og 38 (.move (.tmp 7)) 3 36 false [7],
 og 39 (.binOp .gtr 3 (.tmp 37) (.tmp 38) 3) 4 36 false [37, 38],
 oq 40 (.pick (.tmp 36) (.const (.bool true)) (.tmp 39)) 4 [36, 39]])
 (.cond (.tmp 40)
 (.seq
 (.reg [sb 4 false 4 []])
 .ret)
 .skip)))))
 (.reg [mv 14 5 3 [5],
 bn 15 .add 3 14 1 3 3 [14],
 sg 5 15 3 [15]])))
def F61.c : SC :=
 (.seq
 (.reg [oq 2 (.box 27 (.tmp 0)) 0 [0],
 oq 3 (.box 40 (.tmp 1)) 0 [1],
 sb 4 false 4 [4]])
 (.seq
 (.seq
 (.reg [sn 5 0 3 []])
 (.block 0
 (.loop F61.s0)))
 (.seq
 (.reg [sb 4 true 4 []])
 .ret)))
theorem F61.rs : Tryz.f61.results.toList = [.tmp 4] := rfl
def R04_agrees.b0 (k : Nat) (f0 : Firing) (x1 : Field) : Int → Option (Stp (Int) (Unit) (Bool)) := fun (i1 : Int) =>
 bif decide (i1 < (f0.Readings.length : Int)) then
  (at? f0.Readings i1).bind fun x3 =>
  (R04_Least k x3).bind fun x4 =>
  (R04_heat k x1 x3.Place).bind fun x5 =>
  bif (!decide (x5 < x4.1)) then
   bif decide (x4.2 < x5) then
    some (.ret false)
   else
    some (.next (w64 (i1 + 1)))
  else
   some (.ret false)
 else
  some (.brk ())
noncomputable def R04_agrees.h0 (f0 : Firing) (x1 : Field) : Int → St := fun (i1 : Int) => ⟨[(2, .ptr 0 0 0), (3, .ptr 0 1 0), (5, .int .i64 i1)], [(0, .box [.sl 1 (List.map (eL 2 Range.c) f0.Kiln.Falls), .sl 6 (List.map Reading.c f0.Readings)]), (1, .box [.sl 1 (List.map eI x1.Mouths), .sl 1 (List.map (eL 1 eI) x1.Falls)])], [], 2, Tryz.f61.ntmps⟩
noncomputable def R04_agrees.x0 : Unit → St := fun (_ : Unit) => ⟨[], [], [], 1, Tryz.f61.ntmps⟩
def R04_agrees (k : Nat) (f0 : Firing) (x1 : Field) : Option (Bool) :=
 (whl (R04_agrees.b0 k f0 x1) k 0).bind fun r8 => match r8 with
 | .next _ => none
 | .ret v_ => some v_
 | .brk _ =>
  some true
theorem R04_agrees_ok (k : Nat) (f0 : Firing) (x1 : Field) (r : Bool) (h0 : R04_agrees k f0 x1 = some r) : PCall Tryz.prog 61 [.agg (Firing.c f0), .agg (Field.c x1)] (fun y => y = .bool r) := by
 refine PB (fn := Tryz.f61) (sc := F61.c) ?_
 refine rS ?_
 simp only [R04_agrees] at h0
 try simp only [F61.c, go_sem]
 obtain ⟨r8, yr8, h0⟩ := bs h0
 refine AKev_loopS yr8 (R04_agrees.h0 f0 x1) (R04_agrees.x0) ?_ ?_ ?_
 refine Weak.go [2, 3, 5] [0, 16] rfl ?_
 try simp only [R04_agrees.h0, go_sem]
 rintro i1 x_1 Bk1 Br1 h1 hnext1 hbrk1 hret1
 refine rS ?_
 simp only [R04_agrees.b0] at h1
 try simp only [F61.s0, R04_agrees.h0, go_sem]
 refine AKev_bif h1 ?_ ?_ <;> intro c2 h1
 try simp only [c2, go_sem]
 obtain ⟨x3, yx3, h1⟩ := bs h1
 try simp only [aa yx3, c2, go_sem]
 obtain ⟨x4, yx4, h1⟩ := bs h1
 refine zc0 (R04_Least_ok k _ _ yx4) ?_ (by first | rfl | simp [AV.refsL, AV.refs, AV.scal, AV.leaf]) ?_
 try simp only [c2, aa yx3, go_sem]
 try simp only [c2, aa yx3, go_sem]
 refine AKev_region T_ok follows_ok 1000 ?_
 try simp only [aa yx3, c2, go_sem]
 obtain ⟨x5, yx5, h1⟩ := bs h1
 refine DG_call0 1000 (R04_heat_ok k _ _ _ yx5) ?_ (by first | rfl | simp [AV.refsL, AV.refs, AV.scal, AV.leaf]) ?_
 try simp only [c2, aa yx3, go_sem]
 try simp only [c2, aa yx3, go_sem]
 refine DG_done ⟨rfl, run_sound T_ok 1000 _ _ ?_⟩
 try simp only [c2, aa yx3, go_sem]
 refine AKev_bif h1 ?_ ?_ <;> intro c6 h1
 have c6 := bnot_t c6
 try simp only [c6, c2, aa yx3, go_sem]
 refine AKev_bif h1 ?_ ?_ <;> intro c7 h1
 try simp only [c7, c2, aa yx3, c6, go_sem]
 obtain rfl := hret1 _ (Option.some.inj h1).symm
 simp only at h0
 obtain rfl := Option.some.inj h0
 refine AKev_ret rfl ?_
 try simp only [F61.rs, c2, aa yx3, c6, c7, go_sem]
 try simp only [c7, c2, aa yx3, c6, go_sem]
 refine AKev_backB (hnext1 _ _ (Option.some.inj h1).symm ?_)
 refine Weak.go [2, 3, 5] [0, 1] rfl ?_
 try simp only [R04_agrees.h0, c2, aa yx3, c6, c7, go_sem]
 have c6 := bnot_f c6
 try simp only [c6, c2, aa yx3, go_sem]
 obtain rfl := hret1 _ (Option.some.inj h1).symm
 simp only at h0
 obtain rfl := Option.some.inj h0
 refine AKev_ret rfl ?_
 try simp only [F61.rs, c2, aa yx3, c6, go_sem]
 try simp only [c2, go_sem]
 refine AKev_backB (hbrk1 _ _ (Option.some.inj h1).symm ?_)
 refine Weak.go [] [] rfl ?_
 try simp only [R04_agrees.x0, c2, go_sem]
 rintro _ hr_
 subst hr_
 simp only at h0
 refine rS ?_
 try simp only [R04_agrees.x0, go_sem]
 obtain rfl := Option.some.inj h0
 refine AKev_ret rfl ?_
 try simp only [F61.rs, go_sem]
def F100.s1 : SC :=
 (.seq
 (.seq
 (.reg [mv 52 6 3 [],
 fa 53 24 2 0 [],
 ld 54 22 53 [53],
 mv 55 5 3 [],
 ia 56 22 54 55 [54, 55],
 ld 57 89 56 [56],
 ln 58 57 89 3 [57],
 b2 59 .lss 3 52 58 3 4 [52, 58]])
 (.cond (.tmp 59)
 .skip
 (.exit 2)))
 (.seq
 (.block 3
 (.seq
 (.dreg [fa 62 40 3 1 [],
 ld 63 38 62 [],
 mv 64 5 3 [],
 ia 65 38 63 64 [],
 ld 66 37 65 [],
 mv 67 6 3 [],
 ia 68 37 66 67 [],
 ld 69 3 68 [],
 fa 70 24 2 0 [],
 ld 71 22 70 [],
 mv 72 5 3 [],
 ia 73 22 71 72 [],
 ld 74 89 73 [],
 mv 75 6 3 [],
 ia 76 89 74 75 [],
 fa 77 30 76 0 [],
 ld 78 3 77 [],
 fa 79 24 2 0 [],
 ld 80 22 79 [],
 mv 81 5 3 [],
 ia 82 22 80 81 [],
 ld 83 89 82 [],
 mv 84 6 3 [],
 ia 85 89 83 84 [],
 fa 86 30 85 1 [],
 ld 87 3 86 [],
 oq 88 (.call ⟨.value (.func 96), #[.tmp 69, .tmp 78, .tmp 87], #[3, 3, 3]⟩) 4 [],
 oq 89 (.unOp .not 4 (.tmp 88)) 4 []] [[], [0], [], [0, 1, 2], [0, 1, 2, 3], [], [0, 1, 2, 3, 4, 5], [0, 1, 2, 3, 4, 5, 6], [], [8], [], [8, 9, 10], [8, 9, 10, 11], [], [8, 9, 10, 11, 12, 13], [8, 9, 10, 11, 12, 13, 14], [8, 9, 10, 11, 12, 13, 14, 15], [], [17], [], [17, 18, 19], [17, 18, 19, 20], [], [17, 18, 19, 20, 21, 22], [17, 18, 19, 20, 21, 22, 23], [17, 18, 19, 20, 21, 22, 23, 24], [0, 1, 2, 3, 4, 5, 6, 7, 8, 9, 10, 11, 12, 13, 14, 15, 16, 17, 18, 19, 20, 21, 22, 23, 24, 25], [0, 1, 2, 3, 4, 5, 6, 7, 8, 9, 10, 11, 12, 13, 14, 15, 16, 17, 18, 19, 20, 21, 22, 23, 24, 25, 26]] [62, 63, 64, 65, 66, 67, 68, 69, 70, 71, 72, 73, 74, 75, 76, 77, 78, 79, 80, 81, 82, 83, 84, 85, 86, 87, 88])
 (.cond (.tmp 89)
 (.seq
 (.reg [sb 4 false 4 []])
 .ret)
 .skip)))
 (.reg [mv 60 6 3 [6],
 bn 61 .add 3 60 1 3 3 [60],
 sg 6 61 3 [61]])))
def F100.s0 : SC :=
 (.seq
 (.seq
 (.reg [mv 23 5 3 [],
 fa 24 24 2 0 [],
 ld 25 22 24 [24],
 ln 26 25 22 3 [25],
 b2 27 .lss 3 23 26 3 4 [23, 26]])
 (.cond (.tmp 27)
 .skip
 (.exit 0)))
 (.seq
 (.block 1
 (.seq
 (.seq
 (.dreg [fa 30 40 3 0 [],
 ld 31 37 30 [],
 mv 32 5 3 [],
 ia 33 37 31 32 [],
 ld 34 3 33 [],
 oq 35 (.call ⟨.value (.func 96), #[.tmp 34, .const (.int .i64 0), .const (.int .i64 3000)], #[3, 3, 3]⟩) 4 [],
 oq 36 (.unOp .not 4 (.tmp 35)) 4 [],
 mv 37 36 4 [],
 og 38 (.fieldAddr 40 (.tmp 3) 1) 0 37 false [],
 og 39 (.load 38 (.tmp 38)) 38 37 false [],
 og 40 (.move (.tmp 5)) 3 37 false [],
 og 41 (.indexAddr 38 (.tmp 39) (.tmp 40)) 0 37 false [],
 og 42 (.load 37 (.tmp 41)) 37 37 false [],
 og 43 (.call ⟨.builtin .len, #[.tmp 42], #[37]⟩) 3 37 false [],
 og 44 (.fieldAddr 24 (.tmp 2) 0) 0 37 false [],
 og 45 (.load 22 (.tmp 44)) 22 37 false [],
 og 46 (.move (.tmp 5)) 3 37 false [],
 og 47 (.indexAddr 22 (.tmp 45) (.tmp 46)) 0 37 false [],
 og 48 (.load 89 (.tmp 47)) 89 37 false [],
 og 49 (.call ⟨.builtin .len, #[.tmp 48], #[89]⟩) 3 37 false [],
 og 50 (.binOp .neq 3 (.tmp 43) (.tmp 49) 3) 4 37 false [],
 oq 51 (.pick (.tmp 37) (.const (.bool true)) (.tmp 50)) 4 []] [[], [0], [], [0, 1, 2], [0, 1, 2, 3], [0, 1, 2, 3, 4], [0, 1, 2, 3, 4, 5], [0, 1, 2, 3, 4, 5, 6], [0, 1, 2, 3, 4, 5, 6, 7], [0, 1, 2, 3, 4, 5, 6, 7, 8], [0, 1, 2, 3, 4, 5, 6, 7], [0, 1, 2, 3, 4, 5, 6, 7, 8, 9, 10], [0, 1, 2, 3, 4, 5, 6, 7, 8, 9, 10, 11], [0, 1, 2, 3, 4, 5, 6, 7, 8, 9, 10, 11, 12], [0, 1, 2, 3, 4, 5, 6, 7], [0, 1, 2, 3, 4, 5, 6, 7, 14], [0, 1, 2, 3, 4, 5, 6, 7], [0, 1, 2, 3, 4, 5, 6, 7, 14, 15, 16], [0, 1, 2, 3, 4, 5, 6, 7, 14, 15, 16, 17], [0, 1, 2, 3, 4, 5, 6, 7, 14, 15, 16, 17, 18], [0, 1, 2, 3, 4, 5, 6, 7, 8, 9, 10, 11, 12, 13, 14, 15, 16, 17, 18, 19], [0, 1, 2, 3, 4, 5, 6, 7, 8, 9, 10, 11, 12, 13, 14, 15, 16, 17, 18, 19, 20]] [30, 31, 32, 33, 34, 35, 36, 37, 38, 39, 40, 41, 42, 43, 44, 45, 46, 47, 48, 49, 50])
 (.cond (.tmp 51)
 (.seq
 (.reg [sb 4 false 4 []])
 .ret)
 .skip))
 (.seq
 (.reg [sn 6 0 3 []])
 (.block 2
 (.loop F100.s1)))))
 (.reg [mv 28 5 3 [5],
 bn 29 .add 3 28 1 3 3 [28],
 sg 5 29 3 [29]])))
def F100.c : SC :=
 (.seq
 (.reg [oq 2 (.box 24 (.tmp 0)) 0 [0],
 oq 3 (.box 40 (.tmp 1)) 0 [1],
 sb 4 false 4 [4]])
 (.seq
 (.seq
 (.reg [fa 7 40 3 0 [],
 ld 8 37 7 [7],
 ln 9 8 37 3 [8],
 fa 10 24 2 0 [],
 ld 11 22 10 [10],
 ln 12 11 22 3 [11],
 b2 13 .neq 3 9 12 3 4 [9, 12],
 mv 14 13 4 [13],
 og 15 (.fieldAddr 40 (.tmp 3) 1) 0 14 false [],
 og 16 (.load 38 (.tmp 15)) 38 14 false [15],
 og 17 (.call ⟨.builtin .len, #[.tmp 16], #[38]⟩) 3 14 false [16],
 og 18 (.fieldAddr 24 (.tmp 2) 0) 0 14 false [],
 og 19 (.load 22 (.tmp 18)) 22 14 false [18],
 og 20 (.call ⟨.builtin .len, #[.tmp 19], #[22]⟩) 3 14 false [19],
 og 21 (.binOp .neq 3 (.tmp 17) (.tmp 20) 3) 4 14 false [17, 20],
 oq 22 (.pick (.tmp 14) (.const (.bool true)) (.tmp 21)) 4 [14, 21]])
 (.cond (.tmp 22)
 (.seq
 (.reg [sb 4 false 4 []])
 .ret)
 .skip))
 (.seq
 (.seq
 (.reg [sn 5 0 3 []])
 (.block 0
 (.loop F100.s0)))
 (.seq
 (.reg [sb 4 true 4 []])
 .ret))))
theorem F100.rs : Tryz.f100.results.toList = [.tmp 4] := rfl
def R04_isField.b1 (k : Nat) (x8 : (List Int)) (x9 : (List Range)) : Int → Option (Stp (Int) (Unit) (Bool)) := fun (i11 : Int) =>
 bif decide (i11 < (x9.length : Int)) then
  (at? x8 i11).bind fun x13 =>
  (at? x9 i11).bind fun x14 =>
  (R01_In k x13 x14.Lo x14.Hi).bind fun x15 =>
  bif (!x15) then
   some (.ret false)
  else
   some (.next (w64 (i11 + 1)))
 else
  some (.brk ())
def R04_isField.b0 (k : Nat) (k0 : Kiln) (x1 : Field) : Int → Option (Stp (Int) (Unit) (Bool)) := fun (i3 : Int) =>
 bif decide (i3 < (k0.Falls.length : Int)) then
  (at? x1.Mouths i3).bind fun x5 =>
  (R01_In k x5 0 3000).bind fun x6 =>
  bif x6 then
   (at? x1.Falls i3).bind fun x8 =>
   (at? k0.Falls i3).bind fun x9 =>
   bif (!decide ((x8.length : Int) = (x9.length : Int))) then
    some (.ret false)
   else
    (whl (R04_isField.b1 k x8 x9) k 0).bind fun r17 => match r17 with
    | .next _ => none
    | .ret v_ => some (.ret v_)
    | .brk _ =>
     some (.next (w64 (i3 + 1)))
  else
   some (.ret false)
 else
  some (.brk ())
noncomputable def R04_isField.h1 (k0 : Kiln) (x1 : Field) (i3 : Int) : Int → St := fun (i11 : Int) => ⟨[(2, .ptr 0 0 0), (3, .ptr 0 1 0), (5, .int .i64 i3), (6, .int .i64 i11)], [(0, .box [.sl 1 (List.map (eL 2 Range.c) k0.Falls)]), (1, .box [.sl 1 (List.map eI x1.Mouths), .sl 1 (List.map (eL 1 eI) x1.Falls)])], [], 2, Tryz.f100.ntmps⟩
noncomputable def R04_isField.x1 (k0 : Kiln) (x1 : Field) (i3 : Int) : Unit → St := fun (_ : Unit) => ⟨[(2, .ptr 0 0 0), (3, .ptr 0 1 0), (5, .int .i64 i3)], [(0, .box [.sl 1 (List.map (eL 2 Range.c) k0.Falls)]), (1, .box [.sl 1 (List.map eI x1.Mouths), .sl 1 (List.map (eL 1 eI) x1.Falls)])], [], 2, Tryz.f100.ntmps⟩
noncomputable def R04_isField.h0 (k0 : Kiln) (x1 : Field) : Int → St := fun (i3 : Int) => ⟨[(2, .ptr 0 0 0), (3, .ptr 0 1 0), (5, .int .i64 i3)], [(0, .box [.sl 1 (List.map (eL 2 Range.c) k0.Falls)]), (1, .box [.sl 1 (List.map eI x1.Mouths), .sl 1 (List.map (eL 1 eI) x1.Falls)])], [], 2, Tryz.f100.ntmps⟩
noncomputable def R04_isField.x0 : Unit → St := fun (_ : Unit) => ⟨[], [], [], 1, Tryz.f100.ntmps⟩
def R04_isField (k : Nat) (k0 : Kiln) (x1 : Field) : Option (Bool) :=
 bif decide ((x1.Mouths.length : Int) = (k0.Falls.length : Int)) then
  bif (!decide ((x1.Falls.length : Int) = (k0.Falls.length : Int))) then
   some false
  else
   (whl (R04_isField.b0 k k0 x1) k 0).bind fun r18 => match r18 with
   | .next _ => none
   | .ret v_ => some v_
   | .brk _ =>
    some true
 else
  some false
theorem R04_isField_ok (k : Nat) (k0 : Kiln) (x1 : Field) (r : Bool) (h0 : R04_isField k k0 x1 = some r) : PCall Tryz.prog 100 [.agg (Kiln.c k0), .agg (Field.c x1)] (fun y => y = .bool r) := by
 refine PB (fn := Tryz.f100) (sc := F100.c) ?_
 refine rS ?_
 simp only [R04_isField] at h0
 try simp only [F100.c, go_sem]
 refine AKev_bif h0 ?_ ?_ <;> intro c1 h0
 try simp only [c1, go_sem]
 refine AKev_bif h0 ?_ ?_ <;> intro c2 h0
 have c2 := bnot_t c2
 try simp only [c2, c1, go_sem]
 obtain rfl := Option.some.inj h0
 refine AKev_ret rfl ?_
 try simp only [F100.rs, c1, c2, go_sem]
 have c2 := bnot_f c2
 try simp only [c2, c1, go_sem]
 obtain ⟨r18, yr18, h0⟩ := bs h0
 refine AKev_loopS yr18 (R04_isField.h0 k0 x1) (R04_isField.x0) ?_ ?_ ?_
 refine Weak.go [2, 3, 5] [0, 16] rfl ?_
 try simp only [R04_isField.h0, c1, c2, go_sem]
 rintro i3 x_1 Bk1 Br1 h1 hnext1 hbrk1 hret1
 refine rS ?_
 simp only [R04_isField.b0] at h1
 try simp only [F100.s0, R04_isField.h0, c1, c2, go_sem]
 refine AKev_bif h1 ?_ ?_ <;> intro c4 h1
 try simp only [c4, c1, c2, go_sem]
 refine AKev_region T_ok follows_ok 1000 ?_
 try simp only [c1, c2, c4, go_sem]
 obtain ⟨x5, yx5, h1⟩ := bs h1
 try simp only [aa yx5, c1, c2, c4, go_sem]
 obtain ⟨x6, yx6, h1⟩ := bs h1
 refine DG_call0 1000 (R01_In_ok k _ _ _ _ yx6) ?_ (by first | rfl | simp [AV.refsL, AV.refs, AV.scal, AV.leaf]) ?_
 try simp only [c1, c2, c4, aa yx5, go_sem]
 try simp only [c1, c2, c4, aa yx5, go_sem]
 refine DG_bif h1 ?_ ?_ <;> intro c7 h1
 try simp only [c7, c1, c2, c4, aa yx5, go_sem]
 obtain ⟨x8, yx8, h1⟩ := bs h1
 try simp only [aa yx8, c1, c2, c4, aa yx5, c7, go_sem]
 obtain ⟨x9, yx9, h1⟩ := bs h1
 try simp only [aa yx9, c1, c2, c4, aa yx5, c7, aa yx8, go_sem]
 refine DG_done ⟨rfl, run_sound T_ok 1000 _ _ ?_⟩
 try simp only [c1, c2, c4, aa yx5, c7, aa yx8, aa yx9, go_sem]
 refine AKev_bif h1 ?_ ?_ <;> intro c10 h1
 have c10 := bnot_t c10
 try simp only [c10, c1, c2, c4, aa yx5, c7, aa yx8, aa yx9, go_sem]
 obtain rfl := hret1 _ (Option.some.inj h1).symm
 simp only at h0
 obtain rfl := Option.some.inj h0
 refine AKev_ret rfl ?_
 try simp only [F100.rs, c1, c2, c4, aa yx5, c7, aa yx8, aa yx9, c10, go_sem]
 have c10 := bnot_f c10
 try simp only [c10, c1, c2, c4, aa yx5, c7, aa yx8, aa yx9, go_sem]
 obtain ⟨r17, yr17, h1⟩ := bs h1
 refine AKev_loopS yr17 (R04_isField.h1 k0 x1 i3) (R04_isField.x1 k0 x1 i3) ?_ ?_ ?_
 refine Weak.go [2, 3, 5, 6] [0, 1] rfl ?_
 try simp only [R04_isField.h1, c1, c2, c4, aa yx5, c7, aa yx8, aa yx9, c10, go_sem]
 rintro i11 x_2 Bk2 Br2 h2 hnext2 hbrk2 hret2
 refine rS ?_
 simp only [R04_isField.b1] at h2
 try simp only [F100.s1, R04_isField.h1, aa yx9, c1, c2, c4, aa yx5, c7, aa yx8, c10, go_sem]
 refine AKev_bif h2 ?_ ?_ <;> intro c12 h2
 try simp only [c12, c1, c2, c4, aa yx5, c7, aa yx8, aa yx9, c10, go_sem]
 refine AKev_region T_ok follows_ok 1000 ?_
 try simp only [aa yx8, c1, c2, c4, aa yx5, c7, aa yx9, c10, c12, go_sem]
 obtain ⟨x13, yx13, h2⟩ := bs h2
 try simp only [aa yx13, aa yx9, c1, c2, c4, aa yx5, c7, aa yx8, c10, c12, go_sem]
 obtain ⟨x14, yx14, h2⟩ := bs h2
 try simp only [aa yx14, aa yx9, c1, c2, c4, aa yx5, c7, aa yx8, c10, c12, aa yx13, go_sem]
 obtain ⟨x15, yx15, h2⟩ := bs h2
 refine DG_call0 1000 (R01_In_ok k _ _ _ _ yx15) ?_ (by first | rfl | simp [AV.refsL, AV.refs, AV.scal, AV.leaf]) ?_
 try simp only [c1, c2, c4, aa yx5, c7, aa yx8, aa yx9, c10, c12, aa yx13, aa yx14, go_sem]
 try simp only [c1, c2, c4, aa yx5, c7, aa yx8, aa yx9, c10, c12, aa yx13, aa yx14, go_sem]
 refine DG_done ⟨rfl, run_sound T_ok 1000 _ _ ?_⟩
 try simp only [c1, c2, c4, aa yx5, c7, aa yx8, aa yx9, c10, c12, aa yx13, aa yx14, go_sem]
 refine AKev_bif h2 ?_ ?_ <;> intro c16 h2
 have c16 := bnot_t c16
 try simp only [c16, c1, c2, c4, aa yx5, c7, aa yx8, aa yx9, c10, c12, aa yx13, aa yx14, go_sem]
 obtain rfl := hret2 _ (Option.some.inj h2).symm
 simp only at h1
 obtain rfl := hret1 _ (Option.some.inj h1).symm
 simp only at h0
 obtain rfl := Option.some.inj h0
 refine AKev_ret rfl ?_
 try simp only [F100.rs, c1, c2, c4, aa yx5, c7, aa yx8, aa yx9, c10, c12, aa yx13, aa yx14, c16, go_sem]
 have c16 := bnot_f c16
 try simp only [c16, c1, c2, c4, aa yx5, c7, aa yx8, aa yx9, c10, c12, aa yx13, aa yx14, go_sem]
 refine AKev_backB (hnext2 _ _ (Option.some.inj h2).symm ?_)
 refine Weak.go [2, 3, 5, 6] [0, 1] rfl ?_
 try simp only [R04_isField.h1, c1, c2, c4, aa yx5, c7, aa yx8, aa yx9, c10, c12, aa yx13, aa yx14, c16, go_sem]
 try simp only [c12, c1, c2, c4, aa yx5, c7, aa yx8, aa yx9, c10, go_sem]
 refine AKev_backB (hbrk2 _ _ (Option.some.inj h2).symm ?_)
 refine Weak.go [2, 3, 5] [0, 1] rfl ?_
 try simp only [R04_isField.x1, c1, c2, c4, aa yx5, c7, aa yx8, aa yx9, c10, c12, go_sem]
 rintro _ hr_
 subst hr_
 simp only at h1
 refine rS ?_
 try simp only [R04_isField.x1, c1, c2, c4, aa yx5, c7, aa yx8, aa yx9, c10, go_sem]
 refine AKev_backB (hnext1 _ _ (Option.some.inj h1).symm ?_)
 refine Weak.go [2, 3, 5] [0, 1] rfl ?_
 try simp only [R04_isField.h0, c1, c2, c4, aa yx5, c7, aa yx8, aa yx9, c10, go_sem]
 try simp only [c7, c1, c2, c4, aa yx5, go_sem]
 refine DG_done ⟨rfl, run_sound T_ok 1000 _ _ ?_⟩
 try simp only [c1, c2, c4, aa yx5, c7, go_sem]
 obtain rfl := hret1 _ (Option.some.inj h1).symm
 simp only at h0
 obtain rfl := Option.some.inj h0
 refine AKev_ret rfl ?_
 try simp only [F100.rs, c1, c2, c4, aa yx5, c7, go_sem]
 try simp only [c4, c1, c2, go_sem]
 refine AKev_backB (hbrk1 _ _ (Option.some.inj h1).symm ?_)
 refine Weak.go [] [] rfl ?_
 try simp only [R04_isField.x0, c1, c2, c4, go_sem]
 rintro _ hr_
 subst hr_
 simp only at h0
 refine rS ?_
 try simp only [R04_isField.x0, c1, c2, go_sem]
 obtain rfl := Option.some.inj h0
 refine AKev_ret rfl ?_
 try simp only [F100.rs, c1, c2, go_sem]
 try simp only [c1, go_sem]
 obtain rfl := Option.some.inj h0
 refine AKev_ret rfl ?_
 try simp only [F100.rs, c1, go_sem]
def F51.c : SC :=
 (.seq
 (.reg [oq 2 (.box 27 (.tmp 0)) 0 [0],
 oq 3 (.box 40 (.tmp 1)) 0 [1],
 sn 4 0 33 [4]])
 (.seq
 (.seq
 (.reg [ld 5 27 2 [],
 cf1 6 43 5 27 33 [5],
 bn 7 .neq 33 6 0 33 4 [6]])
 (.cond (.tmp 7)
 (.seq
 (.reg [sn 4 42 33 []])
 .ret)
 .skip))
 (.seq
 (.seq
 (.reg [fa 8 27 2 0 [],
 ld 9 24 8 [8],
 ld 10 40 3 [],
 cf2 11 100 9 10 24 40 4 [9, 10],
 oq 12 (.unOp .not 4 (.tmp 11)) 4 [11],
 mv 13 12 4 [12],
 og 14 (.load 27 (.tmp 2)) 27 13 false [2],
 og 15 (.load 40 (.tmp 3)) 40 13 false [3],
 og 16 (.call ⟨.value (.func 61), #[.tmp 14, .tmp 15], #[27, 40]⟩) 4 13 false [14, 15],
 og 17 (.unOp .not 4 (.tmp 16)) 4 13 false [16],
 oq 18 (.pick (.tmp 13) (.const (.bool true)) (.tmp 17)) 4 [13, 17]])
 (.cond (.tmp 18)
 (.seq
 (.reg [sn 4 45 33 []])
 .ret)
 .skip))
 (.seq
 (.reg [sn 4 0 33 []])
 .ret))))
theorem F51.rs : Tryz.f51.results.toList = [.tmp 4] := rfl
def R04_CheckField (k : Nat) (f0 : Firing) (x1 : Field) : Option (Int) :=
 (R04_Check k f0).bind fun x2 =>
 bif (!decide (x2 = (0 : Int))) then
  some 42
 else
  (R04_isField k f0.Kiln x1).bind fun x4 =>
  bif x4 then
   (R04_agrees k f0 x1).bind fun x6 =>
   bif (!x6) then
    some 45
   else
    some 0
  else
   some 45
theorem R04_CheckField_ok (k : Nat) (f0 : Firing) (x1 : Field) (r : Int) (h0 : R04_CheckField k f0 x1 = some r) : PCall Tryz.prog 51 [.agg (Firing.c f0), .agg (Field.c x1)] (fun y => y = .int .i64 r) := by
 refine PB (fn := Tryz.f51) (sc := F51.c) ?_
 refine rS ?_
 simp only [R04_CheckField] at h0
 try simp only [F51.c, go_sem]
 obtain ⟨x2, yx2, h0⟩ := bs h0
 refine zc0 (R04_Check_ok k _ _ yx2) ?_ (by first | rfl | simp [AV.refsL, AV.refs, AV.scal, AV.leaf]) ?_
 try simp only [go_sem]
 try simp only [go_sem]
 refine AKev_bif h0 ?_ ?_ <;> intro c3 h0
 have c3 := bnot_t c3
 try simp only [c3, go_sem]
 obtain rfl := Option.some.inj h0
 refine AKev_ret rfl ?_
 try simp only [F51.rs, c3, go_sem]
 have c3 := bnot_f c3
 try simp only [c3, go_sem]
 obtain ⟨x4, yx4, h0⟩ := bs h0
 refine zc0 (R04_isField_ok k _ _ _ yx4) ?_ (by first | rfl | simp [AV.refsL, AV.refs, AV.scal, AV.leaf]) ?_
 try simp only [c3, go_sem]
 try simp only [c3, go_sem]
 refine AKev_bif h0 ?_ ?_ <;> intro c5 h0
 try simp only [c5, c3, go_sem]
 obtain ⟨x6, yx6, h0⟩ := bs h0
 refine zc0 (R04_agrees_ok k _ _ _ yx6) ?_ (by first | rfl | simp [AV.refsL, AV.refs, AV.scal, AV.leaf]) ?_
 try simp only [c3, c5, go_sem]
 try simp only [c3, c5, go_sem]
 refine AKev_bif h0 ?_ ?_ <;> intro c7 h0
 have c7 := bnot_t c7
 try simp only [c7, c3, c5, go_sem]
 obtain rfl := Option.some.inj h0
 refine AKev_ret rfl ?_
 try simp only [F51.rs, c3, c5, c7, go_sem]
 have c7 := bnot_f c7
 try simp only [c7, c3, c5, go_sem]
 obtain rfl := Option.some.inj h0
 refine AKev_ret rfl ?_
 try simp only [F51.rs, c3, c5, c7, go_sem]
 try simp only [c5, c3, go_sem]
 obtain rfl := Option.some.inj h0
 refine AKev_ret rfl ?_
 try simp only [F51.rs, c3, c5, go_sem]
def F27.c : SC :=
 (.seq
 (.reg [oq 4 (.box 27 (.tmp 0)) 0 [0],
 oq 7 (.box 40 (.tmp 3)) 0 [3],
 sn 8 0 33 [8]])
 (.seq
 (.reg [ld 13 27 4 [],
 mv 14 1 3 [],
 cf2 15 22 13 14 27 3 52 [13, 14],
 mv 12 15 52 [15],
 xt 16 12 0 30 [],
 xt 17 12 1 33 [12],
 oq 9 (.alloc 30) 0 [],
 ⟨none, .store 30 (.tmp 9) (.tmp 16), 0, none, [16]⟩,
 sg 10 17 33 [17]])
 (.seq
 (.seq
 (.reg [mv 18 10 33 [],
 bn 19 .neq 33 18 0 33 4 [18]])
 (.cond (.tmp 19)
 (.seq
 (.reg [mv 20 10 33 [10],
 sg 8 20 33 [20]])
 .ret)
 .skip))
 (.seq
 (.reg [fa 21 30 9 0 [],
 ld 22 3 21 [21],
 sg 11 22 3 [22]])
 (.seq
 (.seq
 (.reg [mv 23 2 4 [2]])
 (.cond (.tmp 23)
 (.reg [fa 24 30 9 1 [9],
 ld 25 3 24 [24],
 sg 11 25 3 [25]])
 .skip))
 (.seq
 (.seq
 (.reg [ld 26 27 4 [4],
 ld 27 40 7 [],
 cf2 28 51 26 27 27 40 33 [26, 27],
 bn 29 .neq 33 28 0 33 4 [28],
 mv 30 29 4 [29],
 og 31 (.load 40 (.tmp 7)) 40 30 false [7],
 og 32 (.move (.tmp 1)) 3 30 false [1],
 og 33 (.call ⟨.value (.func 85), #[.tmp 31, .tmp 32], #[40, 3]⟩) 3 30 false [31, 32],
 og 34 (.move (.tmp 11)) 3 30 false [11],
 og 35 (.binOp .neq 3 (.tmp 33) (.tmp 34) 3) 4 30 false [33, 34],
 oq 36 (.pick (.tmp 30) (.const (.bool true)) (.tmp 35)) 4 [30, 35]])
 (.cond (.tmp 36)
 (.seq
 (.reg [sn 8 45 33 []])
 .ret)
 .skip))
 (.seq
 (.reg [sn 8 0 33 []])
 .ret)))))))
theorem F27.rs : Tryz.f27.results.toList = [.tmp 8] := rfl
def R04_Attains (k : Nat) (f0 : Firing) (place1 : Int) (high2 : Bool) (x3 : Field) : Option (Int) :=
 (R04_Bound k f0 place1).bind fun x1 =>
 bif (!decide (x1.2 = (0 : Int))) then
  some x1.2
 else
  bif high2 then
   (R04_CheckField k f0 x3).bind fun x4 =>
   bif decide (x4 = (0 : Int)) then
    (R04_heat k x3 place1).bind fun x6 =>
    bif (!decide (x6 = x1.1.Hi)) then
     some 45
    else
     some 0
   else
    some 45
  else
   (R04_CheckField k f0 x3).bind fun x8 =>
   bif decide (x8 = (0 : Int)) then
    (R04_heat k x3 place1).bind fun x10 =>
    bif (!decide (x10 = x1.1.Lo)) then
     some 45
    else
     some 0
   else
    some 45
theorem R04_Attains_ok (k : Nat) (f0 : Firing) (place1 : Int) (high2 : Bool) (x3 : Field) (r : Int) (h0 : R04_Attains k f0 place1 high2 x3 = some r) : PCall Tryz.prog 27 [.agg (Firing.c f0), .int .i64 place1, .bool high2, .agg (Field.c x3)] (fun y => y = .int .i64 r) := by
 refine PB (fn := Tryz.f27) (sc := F27.c) ?_
 refine rS ?_
 simp only [R04_Attains] at h0
 try simp only [F27.c, go_sem]
 obtain ⟨x1, yx1, h0⟩ := bs h0
 refine zc0 (R04_Bound_ok k _ _ _ yx1) ?_ (by first | rfl | simp [AV.refsL, AV.refs, AV.scal, AV.leaf]) ?_
 try simp only [go_sem]
 try simp only [go_sem]
 refine AKev_bif h0 ?_ ?_ <;> intro c2 h0
 have c2 := bnot_t c2
 try simp only [c2, go_sem]
 obtain rfl := Option.some.inj h0
 refine AKev_ret rfl ?_
 try simp only [F27.rs, c2, go_sem]
 have c2 := bnot_f c2
 try simp only [c2, go_sem]
 refine AKev_bif h0 ?_ ?_ <;> intro c3 h0
 try simp only [c3, c2, go_sem]
 obtain ⟨x4, yx4, h0⟩ := bs h0
 refine zc0 (R04_CheckField_ok k _ _ _ yx4) ?_ (by first | rfl | simp [AV.refsL, AV.refs, AV.scal, AV.leaf]) ?_
 try simp only [c2, c3, go_sem]
 try simp only [c2, c3, go_sem]
 refine AKev_bif h0 ?_ ?_ <;> intro c5 h0
 try simp only [c5, c2, c3, go_sem]
 obtain ⟨x6, yx6, h0⟩ := bs h0
 refine zc0 (R04_heat_ok k _ _ _ yx6) ?_ (by first | rfl | simp [AV.refsL, AV.refs, AV.scal, AV.leaf]) ?_
 try simp only [c2, c3, c5, go_sem]
 try simp only [c2, c3, c5, go_sem]
 refine AKev_bif h0 ?_ ?_ <;> intro c7 h0
 have c7 := bnot_t c7
 try simp only [c7, c2, c3, c5, go_sem]
 obtain rfl := Option.some.inj h0
 refine AKev_ret rfl ?_
 try simp only [F27.rs, c2, c3, c5, c7, go_sem]
 have c7 := bnot_f c7
 try simp only [c7, c2, c3, c5, go_sem]
 obtain rfl := Option.some.inj h0
 refine AKev_ret rfl ?_
 try simp only [F27.rs, c2, c3, c5, c7, go_sem]
 try simp only [c5, c2, c3, go_sem]
 obtain rfl := Option.some.inj h0
 refine AKev_ret rfl ?_
 try simp only [F27.rs, c2, c3, c5, go_sem]
 try simp only [c3, c2, go_sem]
 obtain ⟨x8, yx8, h0⟩ := bs h0
 refine zc0 (R04_CheckField_ok k _ _ _ yx8) ?_ (by first | rfl | simp [AV.refsL, AV.refs, AV.scal, AV.leaf]) ?_
 try simp only [c2, c3, go_sem]
 try simp only [c2, c3, go_sem]
 refine AKev_bif h0 ?_ ?_ <;> intro c9 h0
 try simp only [c9, c2, c3, go_sem]
 obtain ⟨x10, yx10, h0⟩ := bs h0
 refine zc0 (R04_heat_ok k _ _ _ yx10) ?_ (by first | rfl | simp [AV.refsL, AV.refs, AV.scal, AV.leaf]) ?_
 try simp only [c2, c3, c9, go_sem]
 try simp only [c2, c3, c9, go_sem]
 refine AKev_bif h0 ?_ ?_ <;> intro c11 h0
 have c11 := bnot_t c11
 try simp only [c11, c2, c3, c9, go_sem]
 obtain rfl := Option.some.inj h0
 refine AKev_ret rfl ?_
 try simp only [F27.rs, c2, c3, c9, c11, go_sem]
 have c11 := bnot_f c11
 try simp only [c11, c2, c3, c9, go_sem]
 obtain rfl := Option.some.inj h0
 refine AKev_ret rfl ?_
 try simp only [F27.rs, c2, c3, c9, c11, go_sem]
 try simp only [c9, c2, c3, go_sem]
 obtain rfl := Option.some.inj h0
 refine AKev_ret rfl ?_
 try simp only [F27.rs, c2, c3, c9, go_sem]
def F139.c : SC :=
 (.seq
 (.reg [oq 2 (.box 27 (.tmp 0)) 0 [0],
 sb 4 false 4 [4]])
 (.seq
 (.reg [mv 5 1 3 [],
 bn 6 .geq 3 5 0 3 4 [5],
 mv 7 6 4 [6],
 og 8 (.move (.tmp 1)) 3 7 true [1],
 og 9 (.fieldAddr 27 (.tmp 2) 1) 0 7 true [2],
 og 10 (.load 25 (.tmp 9)) 25 7 true [9],
 og 11 (.call ⟨.builtin .len, #[.tmp 10], #[25]⟩) 3 7 true [10],
 og 12 (.binOp .lss 3 (.tmp 8) (.tmp 11) 3) 4 7 true [8, 11],
 oq 13 (.pick (.tmp 7) (.tmp 12) (.const (.bool false))) 4 [7, 12],
 sg 4 13 4 [13]])
 .ret))
theorem F139.rs : Tryz.f139.results.toList = [.tmp 4] := rfl
def R04_index (k : Nat) (f0 : Firing) (n1 : Int) : Option (Bool) :=
 bif decide ((0 : Int) ≤ n1) then
  some (decide (n1 < (f0.Readings.length : Int)))
 else
  some false
theorem R04_index_ok (k : Nat) (f0 : Firing) (n1 : Int) (r : Bool) (h0 : R04_index k f0 n1 = some r) : PCall Tryz.prog 139 [.agg (Firing.c f0), .int .i64 n1] (fun y => y = .bool r) := by
 refine PB (fn := Tryz.f139) (sc := F139.c) ?_
 refine rS ?_
 simp only [R04_index] at h0
 try simp only [F139.c, go_sem]
 refine AKev_bif h0 ?_ ?_ <;> intro c1 h0
 try simp only [c1, go_sem]
 obtain rfl := Option.some.inj h0
 refine AKev_ret rfl ?_
 try simp only [F139.rs, c1, go_sem]
 try simp only [c1, go_sem]
 obtain rfl := Option.some.inj h0
 refine AKev_ret rfl ?_
 try simp only [F139.rs, c1, go_sem]
def F127.s0 : SC :=
 (.seq
 (.seq
 (.reg [mv 64 12 3 [],
 mv 65 8 22 [],
 ln 66 65 22 3 [65],
 b2 67 .lss 3 64 66 3 4 [64, 66]])
 (.cond (.tmp 67)
 .skip
 (.exit 0)))
 (.seq
 (.block 1
 (.seq
 (.reg [sn 13 3000 3 []])
 (.seq
 (.seq
 (.reg [fa 70 57 5 1 [],
 ld 71 37 70 [70],
 mv 72 12 3 [],
 ia 73 37 71 72 [71, 72],
 ld 74 3 73 [73],
 bn 75 .neq 3 74 (-1) 3 4 [74]])
 (.cond (.tmp 75)
 (.seq
 (.seq
 (.dreg [ld 76 27 3 [],
 fa 77 57 5 1 [],
 ld 78 37 77 [],
 mv 79 12 3 [],
 ia 80 37 78 79 [],
 ld 81 3 80 [],
 cf2 82 139 76 81 27 3 4 [],
 oq 83 (.unOp .not 4 (.tmp 82)) 4 []] [[], [], [1], [], [1, 2, 3], [1, 2, 3, 4], [0, 1, 2, 3, 4, 5], [0, 1, 2, 3, 4, 5, 6]] [76, 77, 78, 79, 80, 81, 82])
 (.cond (.tmp 83)
 (.seq
 (.reg [sn 6 0 3 [],
 sb 7 false 4 []])
 .ret)
 .skip))
 (.seq
 (.dreg [fa 84 27 3 1 [],
 ld 85 25 84 [],
 fa 86 57 5 1 [],
 ld 87 37 86 [],
 mv 88 12 3 [],
 ia 89 37 87 88 [],
 ld 90 3 89 [],
 ia 91 25 85 90 [],
 ld 92 64 91 [],
 oq 14 (.alloc 64) 0 [],
 ⟨none, .store 64 (.tmp 14) (.tmp 92), 0, none, []⟩] [[], [0], [], [2], [], [2, 3, 4], [2, 3, 4, 5], [0, 1, 2, 3, 4, 5, 6], [0, 1, 2, 3, 4, 5, 6, 7], [], [9, 0, 1, 2, 3, 4, 5, 6, 7, 8]] [84, 85, 86, 87, 88, 89, 90, 91, 92])
 (.seq
 (.reg [ld 94 64 14 [],
 cf1 95 113 94 64 132 [94],
 mv 93 95 132 [95],
 xt 96 93 0 3 [],
 xt 97 93 1 3 [93],
 sg 15 96 3 [15, 96],
 sg 16 97 3 [97]])
 (.seq
 (.seq
 (.reg [mv 98 16 3 [],
 bn 99 .eql 3 98 1000000 3 4 [98]])
 (.cond (.tmp 99)
 (.seq
 (.reg [sn 6 0 3 [],
 sb 7 false 4 []])
 .ret)
 .skip))
 (.dreg [mv 100 16 3 [],
 mv 101 8 22 [],
 mv 102 12 3 [],
 ia 103 22 101 102 [],
 ld 104 89 103 [],
 fa 105 64 14 1 [],
 ld 106 3 105 [],
 ia 107 89 104 106 [],
 fa 108 30 107 1 [],
 ld 109 3 108 [],
 b2 110 .add 3 100 109 3 3 [],
 sg 13 110 3 []] [[], [], [], [1, 2], [1, 2, 3], [], [5], [1, 2, 3, 4, 5, 6], [1, 2, 3, 4, 5, 6, 7], [1, 2, 3, 4, 5, 6, 7, 8], [0, 1, 2, 3, 4, 5, 6, 7, 8, 9], [0, 1, 2, 3, 4, 5, 6, 7, 8, 9, 10]] [14, 16, 100, 101, 102, 103, 104, 105, 106, 107, 108, 109, 110])))))
 .skip))
 (.reg [mv 111 11 3 [11],
 mv 112 13 3 [13],
 mv 113 8 22 [],
 mv 114 12 3 [],
 ia 115 22 113 114 [113, 114],
 ld 116 89 115 [115],
 mv 117 1 3 [],
 ia 118 89 116 117 [116, 117],
 fa 119 30 118 0 [118],
 ld 120 3 119 [119],
 b2 121 .sub 3 112 120 3 3 [112, 120],
 oq 122 (.call ⟨.builtin .max, #[.tmp 111, .tmp 121], #[3, 3]⟩) 3 [111, 121],
 sg 11 122 3 [122]]))))
 (.reg [mv 68 12 3 [12],
 bn 69 .add 3 68 1 3 3 [68],
 sg 12 69 3 [69]])))
def F127.c : SC :=
 (.seq
 (.reg [oq 3 (.box 27 (.tmp 0)) 0 [0],
 oq 5 (.box 57 (.tmp 2)) 0 [2],
 sn 6 0 3 [6],
 sb 7 false 4 [7]])
 (.seq
 (.reg [fa 17 27 3 0 [],
 fa 18 24 17 0 [17],
 ld 19 22 18 [18],
 sg 8 19 22 [19]])
 (.seq
 (.seq
 (.reg [fa 20 57 5 1 [],
 ld 21 37 20 [20],
 ln 22 21 37 3 [21],
 bn 23 .eql 3 22 0 3 4 [22]])
 (.cond (.tmp 23)
 (.seq
 (.seq
 (.reg [ld 24 27 3 [],
 fa 25 57 5 0 [],
 ld 26 3 25 [25],
 cf2 27 139 24 26 27 3 4 [24, 26],
 oq 28 (.unOp .not 4 (.tmp 27)) 4 [27],
 mv 29 28 4 [28],
 og 30 (.fieldAddr 27 (.tmp 3) 1) 0 29 false [],
 og 31 (.load 25 (.tmp 30)) 25 29 false [30],
 og 32 (.fieldAddr 57 (.tmp 5) 0) 0 29 false [],
 og 33 (.load 3 (.tmp 32)) 3 29 false [32],
 og 34 (.indexAddr 25 (.tmp 31) (.tmp 33)) 0 29 false [31, 33],
 og 35 (.fieldAddr 64 (.tmp 34) 1) 0 29 false [34],
 og 36 (.load 3 (.tmp 35)) 3 29 false [35],
 og 37 (.move (.tmp 1)) 3 29 false [1],
 og 38 (.binOp .neq 3 (.tmp 36) (.tmp 37) 3) 4 29 false [36, 37],
 oq 39 (.pick (.tmp 29) (.const (.bool true)) (.tmp 38)) 4 [29, 38]])
 (.cond (.tmp 39)
 (.seq
 (.reg [sn 6 0 3 [],
 sb 7 false 4 []])
 .ret)
 .skip))
 (.seq
 (.reg [fa 41 27 3 1 [3],
 ld 42 25 41 [41],
 fa 43 57 5 0 [5],
 ld 44 3 43 [43],
 ia 45 25 42 44 [42, 44],
 ld 46 64 45 [45],
 cf1 47 113 46 64 132 [46],
 mv 40 47 132 [47],
 xt 48 40 0 3 [],
 xt 49 40 1 3 [40],
 sg 9 48 3 [9, 48],
 sg 10 49 3 [49]])
 (.seq
 (.reg [mv 50 10 3 [],
 mv 51 10 3 [10],
 bn 52 .lss 3 51 1000000 3 4 [51],
 sg 6 50 3 [50],
 sg 7 52 4 [52]])
 .ret)))
 .skip))
 (.seq
 (.seq
 (.reg [fa 53 57 5 0 [],
 ld 54 3 53 [53],
 bn 55 .neq 3 54 (-1) 3 4 [54],
 mv 56 55 4 [55],
 og 57 (.fieldAddr 57 (.tmp 5) 1) 0 56 false [],
 og 58 (.load 37 (.tmp 57)) 37 56 false [57],
 og 59 (.call ⟨.builtin .len, #[.tmp 58], #[37]⟩) 3 56 false [58],
 og 60 (.move (.tmp 8)) 22 56 false [],
 og 61 (.call ⟨.builtin .len, #[.tmp 60], #[22]⟩) 3 56 false [60],
 og 62 (.binOp .neq 3 (.tmp 59) (.tmp 61) 3) 4 56 false [59, 61],
 oq 63 (.pick (.tmp 56) (.const (.bool true)) (.tmp 62)) 4 [56, 62]])
 (.cond (.tmp 63)
 (.seq
 (.reg [sn 6 0 3 [],
 sb 7 false 4 []])
 .ret)
 .skip))
 (.seq
 (.reg [sn 11 (-1000000) 3 []])
 (.seq
 (.seq
 (.reg [sn 12 0 3 []])
 (.block 0
 (.loop F127.s0)))
 (.seq
 (.reg [mv 123 11 3 [11],
 sg 6 123 3 [123],
 sb 7 true 4 []])
 .ret)))))))
theorem F127.rs : Tryz.f127.results.toList = [.tmp 6, .tmp 7] := rfl
def R04_shownHigh.b0 (k : Nat) (f0 : Firing) (q1 : Int) (p2 : HeatProof) : (Int × Int) → Option (Stp (Int × Int) (Int) (Int × Bool)) := fun (s : Int × Int) => match s with
 | (i9, i10) =>
   bif decide (i10 < (f0.Kiln.Falls.length : Int)) then
    (at? p2.By i10).bind fun x13 =>
    bif (!decide (x13 = (-1 : Int))) then
     (R04_index k f0 x13).bind fun x15 =>
     bif (!x15) then
      some (.ret (0, false))
     else
      (at? f0.Readings x13).bind fun x17 =>
      (R04_Least k x17).bind fun x18 =>
      bif decide (x18.2 = (1000000 : Int)) then
       some (.ret (0, false))
      else
       (at? f0.Kiln.Falls i10).bind fun x20 =>
       (at? x20 x17.Place).bind fun x21 =>
       (at? x20 q1).bind fun x22 =>
       some (.next (max i9 (w64 ((w64 (x18.2 + x21.Hi)) - x22.Lo)), w64 (i10 + 1)))
    else
     (at? f0.Kiln.Falls i10).bind fun x23 =>
     (at? x23 q1).bind fun x24 =>
     some (.next (max i9 (w64 (3000 - x24.Lo)), w64 (i10 + 1)))
   else
    some (.brk i9)
noncomputable def R04_shownHigh.h0 (f0 : Firing) (q1 : Int) (p2 : HeatProof) : (Int × Int) → St := fun (s : Int × Int) => match s with
 | (i9, i10) => ⟨[(1, .int .i64 q1), (3, .ptr 0 0 0), (5, .ptr 0 1 0), (8, .sl 1 (List.map (eL 2 Range.c) f0.Kiln.Falls)), (11, .int .i64 i9), (12, .int .i64 i10)], [(0, .box [.sl 1 (List.map (eL 2 Range.c) f0.Kiln.Falls), .sl 6 (List.map Reading.c f0.Readings)]), (1, .box [.int .i64 p2.Reading, .sl 1 (List.map eI p2.By)])], [], 2, Tryz.f127.ntmps⟩
noncomputable def R04_shownHigh.x0 : Int → St := fun (i11 : Int) => ⟨[(11, .int .i64 i11)], [], [], 1, Tryz.f127.ntmps⟩
def R04_shownHigh (k : Nat) (f0 : Firing) (q1 : Int) (p2 : HeatProof) : Option (Int × Bool) :=
 bif decide ((p2.By.length : Int) = (0 : Int)) then
  (R04_index k f0 p2.Reading).bind fun x2 =>
  bif x2 then
   (at? f0.Readings p2.Reading).bind fun x4 =>
   bif (!decide (x4.Place = q1)) then
    some (0, false)
   else
    (R04_Least k x4).bind fun x6 =>
    some (x6.2, decide (x6.2 < (1000000 : Int)))
  else
   some (0, false)
 else
  bif decide (p2.Reading = (-1 : Int)) then
   bif (!decide ((p2.By.length : Int) = (f0.Kiln.Falls.length : Int))) then
    some (0, false)
   else
    (whl (R04_shownHigh.b0 k f0 q1 p2) k (-1000000, 0)).bind fun r25 => match r25 with
    | .next _ => none
    | .ret v_ => some v_
    | .brk i11 =>
     some (i11, true)
  else
   some (0, false)
theorem R04_shownHigh_ok (k : Nat) (f0 : Firing) (q1 : Int) (p2 : HeatProof) (r : Int × Bool) (h0 : R04_shownHigh k f0 q1 p2 = some r) : PCall Tryz.prog 127 [.agg (Firing.c f0), .int .i64 q1, .agg (HeatProof.c p2)] (fun y => y = .tup [.int .i64 r.1, .bool r.2]) := by
 refine PB (fn := Tryz.f127) (sc := F127.c) ?_
 refine rS ?_
 simp only [R04_shownHigh] at h0
 try simp only [F127.c, go_sem]
 refine AKev_bif h0 ?_ ?_ <;> intro c1 h0
 try simp only [c1, go_sem]
 obtain ⟨x2, yx2, h0⟩ := bs h0
 refine zc0 (R04_index_ok k _ _ _ yx2) ?_ (by first | rfl | simp [AV.refsL, AV.refs, AV.scal, AV.leaf]) ?_
 try simp only [c1, go_sem]
 try simp only [c1, go_sem]
 refine AKev_bif h0 ?_ ?_ <;> intro c3 h0
 try simp only [c3, c1, go_sem]
 obtain ⟨x4, yx4, h0⟩ := bs h0
 try simp only [aa yx4, c1, c3, go_sem]
 refine AKev_bif h0 ?_ ?_ <;> intro c5 h0
 have c5 := bnot_t c5
 try simp only [c5, c1, c3, aa yx4, go_sem]
 obtain rfl := Option.some.inj h0
 refine AKev_ret rfl ?_
 try simp only [F127.rs, c1, c3, aa yx4, c5, go_sem]
 have c5 := bnot_f c5
 try simp only [c5, aa yx4, c1, c3, go_sem]
 obtain ⟨x6, yx6, h0⟩ := bs h0
 refine zc0 (R04_Least_ok k _ _ yx6) ?_ (by first | rfl | simp [AV.refsL, AV.refs, AV.scal, AV.leaf]) ?_
 try simp only [c1, c3, aa yx4, c5, go_sem]
 try simp only [c1, c3, aa yx4, c5, go_sem]
 obtain rfl := Option.some.inj h0
 refine AKev_ret rfl ?_
 try simp only [F127.rs, c1, c3, aa yx4, c5, go_sem]
 try simp only [c3, c1, go_sem]
 obtain rfl := Option.some.inj h0
 refine AKev_ret rfl ?_
 try simp only [F127.rs, c1, c3, go_sem]
 try simp only [c1, go_sem]
 refine AKev_bif h0 ?_ ?_ <;> intro c7 h0
 try simp only [c7, c1, go_sem]
 refine AKev_bif h0 ?_ ?_ <;> intro c8 h0
 have c8 := bnot_t c8
 try simp only [c8, c1, c7, go_sem]
 obtain rfl := Option.some.inj h0
 refine AKev_ret rfl ?_
 try simp only [F127.rs, c1, c7, c8, go_sem]
 have c8 := bnot_f c8
 try simp only [c8, c1, c7, go_sem]
 obtain ⟨r25, yr25, h0⟩ := bs h0
 refine AKev_loopS yr25 (R04_shownHigh.h0 f0 q1 p2) (R04_shownHigh.x0) ?_ ?_ ?_
 refine Weak.go [1, 3, 5, 8, 11, 12] [0, 16] rfl ?_
 try simp only [R04_shownHigh.h0, c1, c7, c8, go_sem]
 rintro ⟨i9, i10⟩ x_1 Bk1 Br1 h1 hnext1 hbrk1 hret1
 refine rS ?_
 simp only [R04_shownHigh.b0] at h1
 try simp only [F127.s0, R04_shownHigh.h0, c1, c7, c8, go_sem]
 refine AKev_bif h1 ?_ ?_ <;> intro c12 h1
 try simp only [c12, c1, c7, c8, go_sem]
 obtain ⟨x13, yx13, h1⟩ := bs h1
 try simp only [aa yx13, c1, c7, c8, c12, go_sem]
 refine AKev_bif h1 ?_ ?_ <;> intro c14 h1
 have c14 := bnot_t c14
 try simp only [c14, c1, c7, c8, c12, aa yx13, go_sem]
 refine AKev_region T_ok follows_ok 1000 ?_
 try simp only [aa yx13, c1, c7, c8, c12, c14, go_sem]
 obtain ⟨x15, yx15, h1⟩ := bs h1
 refine DG_call0 1000 (R04_index_ok k _ _ _ yx15) ?_ (by first | rfl | simp [AV.refsL, AV.refs, AV.scal, AV.leaf]) ?_
 try simp only [c1, c7, c8, c12, aa yx13, c14, go_sem]
 try simp only [c1, c7, c8, c12, aa yx13, c14, go_sem]
 refine DG_done ⟨rfl, run_sound T_ok 1000 _ _ ?_⟩
 try simp only [c1, c7, c8, c12, aa yx13, c14, go_sem]
 refine AKev_bif h1 ?_ ?_ <;> intro c16 h1
 have c16 := bnot_t c16
 try simp only [c16, c1, c7, c8, c12, aa yx13, c14, go_sem]
 obtain rfl := hret1 _ (Option.some.inj h1).symm
 simp only at h0
 obtain rfl := Option.some.inj h0
 refine AKev_ret rfl ?_
 try simp only [F127.rs, c1, c7, c8, c12, aa yx13, c14, c16, go_sem]
 have c16 := bnot_f c16
 try simp only [c16, c1, c7, c8, c12, aa yx13, c14, go_sem]
 refine AKev_region T_ok follows_ok 1000 ?_
 try simp only [aa yx13, c1, c7, c8, c12, c14, c16, go_sem]
 obtain ⟨x17, yx17, h1⟩ := bs h1
 try simp only [aa yx17, c1, c7, c8, c12, aa yx13, c14, c16, go_sem]
 refine DG_done ⟨rfl, run_sound T_ok 1000 _ _ ?_⟩
 try simp only [c1, c7, c8, c12, aa yx13, c14, c16, aa yx17, go_sem]
 obtain ⟨x18, yx18, h1⟩ := bs h1
 refine zc0 (R04_Least_ok k _ _ yx18) ?_ (by first | rfl | simp [AV.refsL, AV.refs, AV.scal, AV.leaf]) ?_
 try simp only [c1, c7, c8, c12, aa yx13, c14, c16, aa yx17, go_sem]
 try simp only [c1, c7, c8, c12, aa yx13, c14, c16, aa yx17, go_sem]
 refine AKev_bif h1 ?_ ?_ <;> intro c19 h1
 try simp only [c19, c1, c7, c8, c12, aa yx13, c14, c16, aa yx17, go_sem]
 obtain rfl := hret1 _ (Option.some.inj h1).symm
 simp only at h0
 obtain rfl := Option.some.inj h0
 refine AKev_ret rfl ?_
 try simp only [F127.rs, c1, c7, c8, c12, aa yx13, c14, c16, aa yx17, c19, go_sem]
 try simp only [c19, c1, c7, c8, c12, aa yx13, c14, c16, aa yx17, go_sem]
 refine AKev_region T_ok follows_ok 1000 ?_
 try simp only [c1, c7, c8, c12, aa yx13, c14, c16, aa yx17, c19, go_sem]
 obtain ⟨x20, yx20, h1⟩ := bs h1
 try simp only [aa yx20, c1, c7, c8, c12, aa yx13, c14, c16, aa yx17, c19, go_sem]
 obtain ⟨x21, yx21, h1⟩ := bs h1
 try simp only [aa yx21, c1, c7, c8, c12, aa yx13, c14, c16, aa yx17, c19, aa yx20, go_sem]
 refine DG_done ⟨rfl, run_sound T_ok 1000 _ _ ?_⟩
 try simp only [aa yx20, c1, c7, c8, c12, aa yx13, c14, c16, aa yx17, c19, aa yx21, go_sem]
 obtain ⟨x22, yx22, h1⟩ := bs h1
 try simp only [aa yx22, c1, c7, c8, c12, aa yx13, c14, c16, aa yx17, c19, aa yx20, aa yx21, go_sem]
 refine AKev_backB (hnext1 _ _ (Option.some.inj h1).symm ?_)
 refine Weak.go [1, 3, 5, 8, 11, 12] [0, 1] rfl ?_
 try simp only [R04_shownHigh.h0, c1, c7, c8, c12, aa yx13, c14, c16, aa yx17, c19, aa yx20, aa yx21, aa yx22, go_sem]
 have c14 := bnot_f c14
 try simp only [c14, c1, c7, c8, c12, aa yx13, go_sem]
 obtain ⟨x23, yx23, h1⟩ := bs h1
 try simp only [aa yx23, c1, c7, c8, c12, aa yx13, c14, go_sem]
 obtain ⟨x24, yx24, h1⟩ := bs h1
 try simp only [aa yx24, c1, c7, c8, c12, aa yx13, c14, aa yx23, go_sem]
 refine AKev_backB (hnext1 _ _ (Option.some.inj h1).symm ?_)
 refine Weak.go [1, 3, 5, 8, 11, 12] [0, 1] rfl ?_
 try simp only [R04_shownHigh.h0, c1, c7, c8, c12, aa yx13, c14, aa yx23, aa yx24, go_sem]
 try simp only [c12, c1, c7, c8, go_sem]
 refine AKev_backB (hbrk1 _ _ (Option.some.inj h1).symm ?_)
 refine Weak.go [11] [] rfl ?_
 try simp only [R04_shownHigh.x0, c1, c7, c8, c12, go_sem]
 rintro i11 hr_
 subst hr_
 simp only at h0
 refine rS ?_
 try simp only [R04_shownHigh.x0, c1, c7, c8, go_sem]
 obtain rfl := Option.some.inj h0
 refine AKev_ret rfl ?_
 try simp only [F127.rs, c1, c7, c8, go_sem]
 try simp only [c7, c1, go_sem]
 obtain rfl := Option.some.inj h0
 refine AKev_ret rfl ?_
 try simp only [F127.rs, c1, c7, go_sem]
def F140.c : SC :=
 (.seq
 (.reg [oq 4 (.box 27 (.tmp 0)) 0 [0],
 sb 8 false 4 [8]])
 (.seq
 (.seq
 (.reg [mv 12 3 3 [],
 bn 13 .eql 3 12 (-2) 3 4 [12]])
 (.cond (.tmp 13)
 (.seq
 (.reg [mv 14 2 3 [2],
 bn 15 .gtr 3 14 3000 3 4 [14],
 sg 8 15 4 [15]])
 .ret)
 .skip))
 (.seq
 (.seq
 (.reg [ld 16 27 4 [],
 mv 17 3 3 [],
 cf2 18 139 16 17 27 3 4 [16, 17],
 oq 19 (.unOp .not 4 (.tmp 18)) 4 [18]])
 (.cond (.tmp 19)
 (.seq
 (.reg [sb 8 false 4 []])
 .ret)
 .skip))
 (.seq
 (.reg [fa 20 27 4 1 [],
 ld 21 25 20 [20],
 mv 22 3 3 [3],
 ia 23 25 21 22 [21, 22],
 ld 24 64 23 [23],
 oq 9 (.alloc 64) 0 [],
 ⟨none, .store 64 (.tmp 9) (.tmp 24), 0, none, [24]⟩])
 (.seq
 (.reg [ld 26 64 9 [],
 cf1 27 113 26 64 132 [26],
 mv 25 27 132 [27],
 xt 28 25 0 3 [],
 xt 29 25 1 3 [25],
 sg 10 28 3 [10, 28],
 sg 11 29 3 [29]])
 (.seq
 (.dreg [mv 30 11 3 [],
 bn 31 .lss 3 30 1000000 3 4 [],
 mv 32 31 4 [],
 og 33 (.move (.tmp 2)) 3 32 true [],
 og 34 (.move (.tmp 11)) 3 32 true [],
 og 35 (.fieldAddr 27 (.tmp 4) 0) 0 32 true [],
 og 36 (.fieldAddr 24 (.tmp 35) 0) 0 32 true [],
 og 37 (.load 22 (.tmp 36)) 22 32 true [],
 og 38 (.move (.tmp 1)) 3 32 true [],
 og 39 (.indexAddr 22 (.tmp 37) (.tmp 38)) 0 32 true [],
 og 40 (.load 89 (.tmp 39)) 89 32 true [],
 og 41 (.fieldAddr 64 (.tmp 9) 1) 0 32 true [],
 og 42 (.load 3 (.tmp 41)) 3 32 true [],
 og 43 (.indexAddr 89 (.tmp 40) (.tmp 42)) 0 32 true [],
 og 44 (.fieldAddr 30 (.tmp 43) 1) 0 32 true [],
 og 45 (.load 3 (.tmp 44)) 3 32 true [],
 og 46 (.binOp .add 3 (.tmp 34) (.tmp 45) 3) 3 32 true [],
 og 47 (.binOp .gtr 3 (.tmp 33) (.tmp 46) 3) 4 32 true [],
 oq 48 (.pick (.tmp 32) (.tmp 47) (.const (.bool false))) 4 [],
 sg 8 48 4 []] [[], [0], [0, 1], [0, 1, 2], [0, 1, 2], [0, 1, 2], [0, 1, 2, 5], [0, 1, 2, 5, 6], [0, 1, 2], [0, 1, 2, 5, 6, 7, 8], [0, 1, 2, 5, 6, 7, 8, 9], [0, 1, 2], [0, 1, 2, 11], [0, 1, 2, 5, 6, 7, 8, 9, 10, 11, 12], [0, 1, 2, 5, 6, 7, 8, 9, 10, 11, 12, 13], [0, 1, 2, 5, 6, 7, 8, 9, 10, 11, 12, 13, 14], [0, 1, 2, 4, 5, 6, 7, 8, 9, 10, 11, 12, 13, 14, 15], [0, 1, 2, 3, 4, 5, 6, 7, 8, 9, 10, 11, 12, 13, 14, 15, 16], [0, 1, 2, 3, 4, 5, 6, 7, 8, 9, 10, 11, 12, 13, 14, 15, 16, 17], [0, 1, 2, 3, 4, 5, 6, 7, 8, 9, 10, 11, 12, 13, 14, 15, 16, 17, 18]] [1, 2, 4, 9, 11, 30, 31, 32, 33, 34, 35, 36, 37, 38, 39, 40, 41, 42, 43, 44, 45, 46, 47, 48])
 .ret))))))
theorem F140.rs : Tryz.f140.results.toList = [.tmp 8] := rfl
def R04_cannot (k : Nat) (f0 : Firing) (j1 : Int) (c2 : Int) (by3 : Int) : Option (Bool) :=
 bif decide (by3 = (-2 : Int)) then
  some (decide ((3000 : Int) < c2))
 else
  (R04_index k f0 by3).bind fun x2 =>
  bif (!x2) then
   some false
  else
   (at? f0.Readings by3).bind fun x4 =>
   (R04_Least k x4).bind fun x5 =>
   bif decide (x5.2 < (1000000 : Int)) then
    (at? f0.Kiln.Falls j1).bind fun x7 =>
    (at? x7 x4.Place).bind fun x8 =>
    some (decide (w64 (x5.2 + x8.Hi) < c2))
   else
    some false
theorem R04_cannot_ok (k : Nat) (f0 : Firing) (j1 : Int) (c2 : Int) (by3 : Int) (r : Bool) (h0 : R04_cannot k f0 j1 c2 by3 = some r) : PCall Tryz.prog 140 [.agg (Firing.c f0), .int .i64 j1, .int .i64 c2, .int .i64 by3] (fun y => y = .bool r) := by
 refine PB (fn := Tryz.f140) (sc := F140.c) ?_
 refine rS ?_
 simp only [R04_cannot] at h0
 try simp only [F140.c, go_sem]
 refine AKev_bif h0 ?_ ?_ <;> intro c1 h0
 try simp only [c1, go_sem]
 obtain rfl := Option.some.inj h0
 refine AKev_ret rfl ?_
 try simp only [F140.rs, c1, go_sem]
 try simp only [c1, go_sem]
 obtain ⟨x2, yx2, h0⟩ := bs h0
 refine zc0 (R04_index_ok k _ _ _ yx2) ?_ (by first | rfl | simp [AV.refsL, AV.refs, AV.scal, AV.leaf]) ?_
 try simp only [c1, go_sem]
 try simp only [c1, go_sem]
 refine AKev_bif h0 ?_ ?_ <;> intro c3 h0
 have c3 := bnot_t c3
 try simp only [c3, c1, go_sem]
 obtain rfl := Option.some.inj h0
 refine AKev_ret rfl ?_
 try simp only [F140.rs, c1, c3, go_sem]
 have c3 := bnot_f c3
 try simp only [c3, c1, go_sem]
 obtain ⟨x4, yx4, h0⟩ := bs h0
 try simp only [aa yx4, c1, c3, go_sem]
 obtain ⟨x5, yx5, h0⟩ := bs h0
 refine zc0 (R04_Least_ok k _ _ yx5) ?_ (by first | rfl | simp [AV.refsL, AV.refs, AV.scal, AV.leaf]) ?_
 try simp only [c1, c3, aa yx4, go_sem]
 try simp only [c1, c3, aa yx4, go_sem]
 refine AKev_region T_ok follows_ok 1000 ?_
 try simp only [c1, c3, aa yx4, go_sem]
 refine DG_bif h0 ?_ ?_ <;> intro c6 h0
 try simp only [c6, c1, c3, aa yx4, go_sem]
 obtain ⟨x7, yx7, h0⟩ := bs h0
 try simp only [aa yx7, c1, c3, aa yx4, c6, go_sem]
 obtain ⟨x8, yx8, h0⟩ := bs h0
 try simp only [aa yx8, c1, c3, aa yx4, c6, aa yx7, go_sem]
 refine DG_done ⟨rfl, run_sound T_ok 1000 _ _ ?_⟩
 try simp only [c1, c3, aa yx4, c6, aa yx7, aa yx8, go_sem]
 obtain rfl := Option.some.inj h0
 refine AKev_ret rfl ?_
 try simp only [F140.rs, c1, c3, aa yx4, c6, aa yx7, aa yx8, go_sem]
 try simp only [c6, c1, c3, aa yx4, go_sem]
 refine DG_done ⟨rfl, run_sound T_ok 1000 _ _ ?_⟩
 try simp only [c1, c3, aa yx4, c6, go_sem]
 obtain rfl := Option.some.inj h0
 refine AKev_ret rfl ?_
 try simp only [F140.rs, c1, c3, aa yx4, c6, go_sem]
def F128.s0 : SC :=
 (.seq
 (.seq
 (.reg [mv 92 13 3 [],
 mv 93 8 22 [],
 ln 94 93 22 3 [93],
 b2 95 .lss 3 92 94 3 4 [92, 94]])
 (.cond (.tmp 95)
 .skip
 (.exit 0)))
 (.seq
 (.block 1
 (.seq
 (.dreg [mv 98 10 3 [],
 mv 99 8 22 [],
 mv 100 13 3 [],
 ia 101 22 99 100 [],
 ld 102 89 101 [],
 fa 103 64 9 1 [],
 ld 104 3 103 [],
 ia 105 89 102 104 [],
 fa 106 30 105 0 [],
 ld 107 3 106 [],
 b2 108 .add 3 98 107 3 3 [],
 sg 14 108 3 []] [[], [], [], [1, 2], [1, 2, 3], [], [5], [1, 2, 3, 4, 5, 6], [1, 2, 3, 4, 5, 6, 7], [1, 2, 3, 4, 5, 6, 7, 8], [0, 1, 2, 3, 4, 5, 6, 7, 8, 9], [0, 1, 2, 3, 4, 5, 6, 7, 8, 9, 10]] [98, 99, 100, 101, 102, 103, 104, 105, 106, 107, 108])
 (.seq
 (.seq
 (.reg [fa 109 57 5 1 [],
 ld 110 37 109 [109],
 mv 111 13 3 [],
 ia 112 37 110 111 [110, 111],
 ld 113 3 112 [112],
 bn 114 .eql 3 113 (-1) 3 4 [113]])
 (.cond (.tmp 114)
 (.seq
 (.reg [mv 115 12 3 [12],
 mv 116 14 3 [14],
 mv 117 8 22 [],
 mv 118 13 3 [],
 ia 119 22 117 118 [117, 118],
 ld 120 89 119 [119],
 mv 121 1 3 [],
 ia 122 89 120 121 [120, 121],
 fa 123 30 122 1 [122],
 ld 124 3 123 [123],
 b2 125 .sub 3 116 124 3 3 [116, 124],
 oq 126 (.call ⟨.builtin .min, #[.tmp 115, .tmp 125], #[3, 3]⟩) 3 [115, 125],
 sg 12 126 3 [126]])
 (.exit 1))
 .skip))
 (.seq
 (.dreg [ld 127 27 3 [],
 mv 128 13 3 [],
 mv 129 14 3 [],
 fa 130 57 5 1 [],
 ld 131 37 130 [],
 mv 132 13 3 [],
 ia 133 37 131 132 [],
 ld 134 3 133 [],
 oq 135 (.call ⟨.value (.func 140), #[.tmp 127, .tmp 128, .tmp 129, .tmp 134], #[27, 3, 3, 3]⟩) 4 [],
 oq 136 (.unOp .not 4 (.tmp 135)) 4 []] [[], [], [], [], [3], [], [3, 4, 5], [3, 4, 5, 6], [0, 1, 2, 3, 4, 5, 6, 7], [0, 1, 2, 3, 4, 5, 6, 7, 8]] [14, 127, 128, 129, 130, 131, 132, 133, 134, 135])
 (.cond (.tmp 136)
 (.seq
 (.reg [sn 6 0 3 [],
 sb 7 false 4 []])
 .ret)
 .skip)))))
 (.reg [mv 96 13 3 [13],
 bn 97 .add 3 96 1 3 3 [96],
 sg 13 97 3 [97]])))
def F128.c : SC :=
 (.seq
 (.reg [oq 3 (.box 27 (.tmp 0)) 0 [0],
 oq 5 (.box 57 (.tmp 2)) 0 [2],
 sn 6 0 3 [6],
 sb 7 false 4 [7]])
 (.seq
 (.reg [fa 15 27 3 0 [],
 fa 16 24 15 0 [15],
 ld 17 22 16 [16],
 sg 8 17 22 [17]])
 (.seq
 (.seq
 (.reg [fa 18 57 5 0 [],
 ld 19 3 18 [18],
 bn 20 .eql 3 19 (-2) 3 4 [19]])
 (.cond (.tmp 20)
 (.seq
 (.seq
 (.reg [fa 21 57 5 1 [],
 ld 22 37 21 [21],
 ln 23 22 37 3 [22],
 bn 24 .neq 3 23 1 3 4 [23],
 mv 25 24 4 [24],
 og 26 (.fieldAddr 57 (.tmp 5) 1) 0 25 false [],
 og 27 (.load 37 (.tmp 26)) 37 25 false [26],
 og 28 (.indexAddr 37 (.tmp 27) (.const (.int .i64 0))) 0 25 false [27],
 og 29 (.load 3 (.tmp 28)) 3 25 false [28],
 og 30 (.binOp .lss 3 (.tmp 29) (.const (.int .i64 0)) 3) 4 25 false [29],
 oq 31 (.pick (.tmp 25) (.const (.bool true)) (.tmp 30)) 4 [25, 30],
 mv 32 31 4 [31],
 og 33 (.fieldAddr 57 (.tmp 5) 1) 0 32 false [],
 og 34 (.load 37 (.tmp 33)) 37 32 false [33],
 og 35 (.indexAddr 37 (.tmp 34) (.const (.int .i64 0))) 0 32 false [34],
 og 36 (.load 3 (.tmp 35)) 3 32 false [35],
 og 37 (.move (.tmp 8)) 22 32 false [],
 og 38 (.call ⟨.builtin .len, #[.tmp 37], #[22]⟩) 3 32 false [37],
 og 39 (.binOp .geq 3 (.tmp 36) (.tmp 38) 3) 4 32 false [36, 38],
 oq 40 (.pick (.tmp 32) (.const (.bool true)) (.tmp 39)) 4 [32, 39]])
 (.cond (.tmp 40)
 (.seq
 (.reg [sn 6 0 3 [],
 sb 7 false 4 []])
 .ret)
 .skip))
 (.seq
 (.reg [mv 41 8 22 [8],
 fa 42 57 5 1 [5],
 ld 43 37 42 [42],
 oq 44 (.indexAddr 37 (.tmp 43) (.const (.int .i64 0))) 0 [43],
 ld 45 3 44 [44],
 ia 46 22 41 45 [41, 45],
 ld 47 89 46 [46],
 mv 48 1 3 [1],
 ia 49 89 47 48 [47, 48],
 fa 50 30 49 1 [49],
 ld 51 3 50 [50],
 oq 52 (.unOp .neg 3 (.tmp 51)) 3 [51],
 sg 6 52 3 [52],
 sb 7 true 4 []])
 .ret))
 .skip))
 (.seq
 (.seq
 (.reg [ld 53 27 3 [],
 fa 54 57 5 0 [],
 ld 55 3 54 [54],
 cf2 56 139 53 55 27 3 4 [53, 55],
 oq 57 (.unOp .not 4 (.tmp 56)) 4 [56]])
 (.cond (.tmp 57)
 (.seq
 (.reg [sn 6 0 3 [],
 sb 7 false 4 []])
 .ret)
 .skip))
 (.seq
 (.reg [fa 58 27 3 1 [],
 ld 59 25 58 [58],
 fa 60 57 5 0 [],
 ld 61 3 60 [60],
 ia 62 25 59 61 [59, 61],
 ld 63 64 62 [62],
 oq 9 (.alloc 64) 0 [],
 ⟨none, .store 64 (.tmp 9) (.tmp 63), 0, none, [63]⟩])
 (.seq
 (.reg [ld 65 64 9 [],
 cf1 66 113 65 64 132 [65],
 mv 64 66 132 [66],
 xt 67 64 0 3 [],
 xt 68 64 1 3 [64],
 sg 10 67 3 [67],
 sg 11 68 3 [11, 68]])
 (.seq
 (.seq
 (.reg [mv 69 10 3 [],
 bn 70 .eql 3 69 (-1000000) 3 4 [69]])
 (.cond (.tmp 70)
 (.seq
 (.reg [sn 6 0 3 [],
 sb 7 false 4 []])
 .ret)
 .skip))
 (.seq
 (.seq
 (.reg [fa 71 57 5 1 [],
 ld 72 37 71 [71],
 ln 73 72 37 3 [72],
 bn 74 .eql 3 73 0 3 4 [73]])
 (.cond (.tmp 74)
 (.seq
 (.dreg [mv 75 10 3 [],
 fa 76 64 9 1 [],
 ld 77 3 76 [],
 mv 78 1 3 [],
 b2 79 .eql 3 77 78 3 4 [],
 sg 6 75 3 [],
 sg 7 79 4 []] [[], [], [1], [], [1, 2, 3], [0], [1, 2, 3, 4, 0, 5]] [1, 9, 10, 75, 76, 77, 78, 79])
 .ret)
 .skip))
 (.seq
 (.seq
 (.reg [fa 80 64 9 1 [],
 ld 81 3 80 [80],
 mv 82 1 3 [],
 b2 83 .eql 3 81 82 3 4 [81, 82],
 mv 84 83 4 [83],
 og 85 (.fieldAddr 57 (.tmp 5) 1) 0 84 false [],
 og 86 (.load 37 (.tmp 85)) 37 84 false [85],
 og 87 (.call ⟨.builtin .len, #[.tmp 86], #[37]⟩) 3 84 false [86],
 og 88 (.move (.tmp 8)) 22 84 false [],
 og 89 (.call ⟨.builtin .len, #[.tmp 88], #[22]⟩) 3 84 false [88],
 og 90 (.binOp .neq 3 (.tmp 87) (.tmp 89) 3) 4 84 false [87, 89],
 oq 91 (.pick (.tmp 84) (.const (.bool true)) (.tmp 90)) 4 [84, 90]])
 (.cond (.tmp 91)
 (.seq
 (.reg [sn 6 0 3 [],
 sb 7 false 4 []])
 .ret)
 .skip))
 (.seq
 (.reg [sn 12 9223372036854775807 3 []])
 (.seq
 (.seq
 (.reg [sn 13 0 3 []])
 (.block 0
 (.loop F128.s0)))
 (.seq
 (.reg [mv 137 12 3 [12],
 sg 6 137 3 [137],
 sb 7 true 4 []])
 .ret))))))))))))
theorem F128.rs : Tryz.f128.results.toList = [.tmp 6, .tmp 7] := rfl
def R04_shownLow.b0 (k : Nat) (f0 : Firing) (q1 : Int) (p2 : HeatProof) (x10 : Reading) (x11 : Int × Int) : (Int × Int) → Option (Stp (Int × Int) (Int) (Int × Bool)) := fun (s : Int × Int) => match s with
 | (i16, i17) =>
   bif decide (i17 < (f0.Kiln.Falls.length : Int)) then
    (at? f0.Kiln.Falls i17).bind fun x20 =>
    (at? x20 x10.Place).bind fun x21 =>
    (at? p2.By i17).bind fun x22 =>
    bif decide (x22 = (-1 : Int)) then
     (at? x20 q1).bind fun x24 =>
     some (.next (min i16 (w64 ((w64 (x11.1 + x21.Lo)) - x24.Hi)), w64 (i17 + 1)))
    else
     (R04_cannot k f0 i17 (w64 (x11.1 + x21.Lo)) x22).bind fun x25 =>
     bif (!x25) then
      some (.ret (0, false))
     else
      some (.next (i16, w64 (i17 + 1)))
   else
    some (.brk i16)
noncomputable def R04_shownLow.h0 (f0 : Firing) (q1 : Int) (p2 : HeatProof) (x10 : Reading) (x11 : Int × Int) : (Int × Int) → St := fun (s : Int × Int) => match s with
 | (i16, i17) => ⟨[(1, .int .i64 q1), (3, .ptr 0 0 0), (5, .ptr 0 1 0), (8, .sl 1 (List.map (eL 2 Range.c) f0.Kiln.Falls)), (9, .ptr 0 2 0), (10, .int .i64 x11.1), (12, .int .i64 i16), (13, .int .i64 i17)], [(0, .box [.sl 1 (List.map (eL 2 Range.c) f0.Kiln.Falls), .sl 6 (List.map Reading.c f0.Readings)]), (1, .box [.int .i64 p2.Reading, .sl 1 (List.map eI p2.By)]), (2, .box [.int .i64 x10.Source, .int .i64 x10.Place, .int .i64 x10.Kind, .int .i64 x10.Mark, .int .i64 x10.Heat.Lo, .int .i64 x10.Heat.Hi])], [], 3, Tryz.f128.ntmps⟩
noncomputable def R04_shownLow.x0 : Int → St := fun (i18 : Int) => ⟨[(12, .int .i64 i18)], [], [], 1, Tryz.f128.ntmps⟩
def R04_shownLow (k : Nat) (f0 : Firing) (q1 : Int) (p2 : HeatProof) : Option (Int × Bool) :=
 bif decide (p2.Reading = (-2 : Int)) then
  bif decide ((p2.By.length : Int) = (1 : Int)) then
   (at? p2.By 0).bind fun x3 =>
   bif (!decide (x3 < (0 : Int))) then
    bif decide ((f0.Kiln.Falls.length : Int) ≤ x3) then
     some (0, false)
    else
     (at? f0.Kiln.Falls x3).bind fun x6 =>
     (at? x6 q1).bind fun x7 =>
     some (w64 (0 - x7.Hi), true)
   else
    some (0, false)
  else
   some (0, false)
 else
  (R04_index k f0 p2.Reading).bind fun x8 =>
  bif (!x8) then
   some (0, false)
  else
   (at? f0.Readings p2.Reading).bind fun x10 =>
   (R04_Least k x10).bind fun x11 =>
   bif decide (x11.1 = (-1000000 : Int)) then
    some (0, false)
   else
    bif decide ((p2.By.length : Int) = (0 : Int)) then
     some (x11.1, decide (x10.Place = q1))
    else
     bif (!decide (x10.Place = q1)) then
      bif (!decide ((p2.By.length : Int) = (f0.Kiln.Falls.length : Int))) then
       some (0, false)
      else
       (whl (R04_shownLow.b0 k f0 q1 p2 x10 x11) k (9223372036854775807, 0)).bind fun r27 => match r27 with
       | .next _ => none
       | .ret v_ => some v_
       | .brk i18 =>
        some (i18, true)
     else
      some (0, false)
theorem R04_shownLow_ok (k : Nat) (f0 : Firing) (q1 : Int) (p2 : HeatProof) (r : Int × Bool) (h0 : R04_shownLow k f0 q1 p2 = some r) : PCall Tryz.prog 128 [.agg (Firing.c f0), .int .i64 q1, .agg (HeatProof.c p2)] (fun y => y = .tup [.int .i64 r.1, .bool r.2]) := by
 refine PB (fn := Tryz.f128) (sc := F128.c) ?_
 refine rS ?_
 simp only [R04_shownLow] at h0
 try simp only [F128.c, go_sem]
 refine AKev_bif h0 ?_ ?_ <;> intro c1 h0
 try simp only [c1, go_sem]
 refine AKev_bif h0 ?_ ?_ <;> intro c2 h0
 try simp only [c2, c1, go_sem]
 obtain ⟨x3, yx3, h0⟩ := bs h0
 try simp only [aa yx3, c1, c2, go_sem]
 refine AKev_bif h0 ?_ ?_ <;> intro c4 h0
 have c4 := bnot_t c4
 try simp only [c4, aa yx3, c1, c2, go_sem]
 refine AKev_bif h0 ?_ ?_ <;> intro c5 h0
 try simp only [c5, c1, c2, aa yx3, c4, go_sem]
 obtain rfl := Option.some.inj h0
 refine AKev_ret rfl ?_
 try simp only [F128.rs, c1, c2, aa yx3, c4, c5, go_sem]
 try simp only [c5, aa yx3, c1, c2, c4, go_sem]
 obtain ⟨x6, yx6, h0⟩ := bs h0
 try simp only [aa yx6, c1, c2, aa yx3, c4, c5, go_sem]
 obtain ⟨x7, yx7, h0⟩ := bs h0
 try simp only [aa yx7, c1, c2, aa yx3, c4, c5, aa yx6, go_sem]
 obtain rfl := Option.some.inj h0
 refine AKev_ret rfl ?_
 try simp only [F128.rs, c1, c2, aa yx3, c4, c5, aa yx6, aa yx7, go_sem]
 have c4 := bnot_f c4
 try simp only [c4, c1, c2, aa yx3, go_sem]
 obtain rfl := Option.some.inj h0
 refine AKev_ret rfl ?_
 try simp only [F128.rs, c1, c2, aa yx3, c4, go_sem]
 try simp only [c2, c1, go_sem]
 obtain rfl := Option.some.inj h0
 refine AKev_ret rfl ?_
 try simp only [F128.rs, c1, c2, go_sem]
 try simp only [c1, go_sem]
 obtain ⟨x8, yx8, h0⟩ := bs h0
 refine zc0 (R04_index_ok k _ _ _ yx8) ?_ (by first | rfl | simp [AV.refsL, AV.refs, AV.scal, AV.leaf]) ?_
 try simp only [c1, go_sem]
 try simp only [c1, go_sem]
 refine AKev_bif h0 ?_ ?_ <;> intro c9 h0
 have c9 := bnot_t c9
 try simp only [c9, c1, go_sem]
 obtain rfl := Option.some.inj h0
 refine AKev_ret rfl ?_
 try simp only [F128.rs, c1, c9, go_sem]
 have c9 := bnot_f c9
 try simp only [c9, c1, go_sem]
 obtain ⟨x10, yx10, h0⟩ := bs h0
 try simp only [aa yx10, c1, c9, go_sem]
 obtain ⟨x11, yx11, h0⟩ := bs h0
 refine zc0 (R04_Least_ok k _ _ yx11) ?_ (by first | rfl | simp [AV.refsL, AV.refs, AV.scal, AV.leaf]) ?_
 try simp only [c1, c9, aa yx10, go_sem]
 try simp only [c1, c9, aa yx10, go_sem]
 refine AKev_bif h0 ?_ ?_ <;> intro c12 h0
 try simp only [c12, c1, c9, aa yx10, go_sem]
 obtain rfl := Option.some.inj h0
 refine AKev_ret rfl ?_
 try simp only [F128.rs, c1, c9, aa yx10, c12, go_sem]
 try simp only [c12, c1, c9, aa yx10, go_sem]
 refine AKev_bif h0 ?_ ?_ <;> intro c13 h0
 try simp only [c13, c1, c9, aa yx10, c12, go_sem]
 refine AKev_region T_ok follows_ok 1000 ?_
 try simp only [c1, c9, aa yx10, c12, c13, go_sem]
 refine DG_done ⟨rfl, run_sound T_ok 1000 _ _ ?_⟩
 try simp only [c1, c9, aa yx10, c12, c13, go_sem]
 obtain rfl := Option.some.inj h0
 refine AKev_ret rfl ?_
 try simp only [F128.rs, c1, c9, aa yx10, c12, c13, go_sem]
 try simp only [c13, c1, c9, aa yx10, c12, go_sem]
 refine AKev_bif h0 ?_ ?_ <;> intro c14 h0
 have c14 := bnot_t c14
 try simp only [c14, c1, c9, aa yx10, c12, c13, go_sem]
 refine AKev_bif h0 ?_ ?_ <;> intro c15 h0
 have c15 := bnot_t c15
 try simp only [c15, c1, c9, aa yx10, c12, c13, c14, go_sem]
 obtain rfl := Option.some.inj h0
 refine AKev_ret rfl ?_
 try simp only [F128.rs, c1, c9, aa yx10, c12, c13, c14, c15, go_sem]
 have c15 := bnot_f c15
 try simp only [c15, c1, c9, aa yx10, c12, c13, c14, go_sem]
 obtain ⟨r27, yr27, h0⟩ := bs h0
 refine AKev_loopS yr27 (R04_shownLow.h0 f0 q1 p2 x10 x11) (R04_shownLow.x0) ?_ ?_ ?_
 refine Weak.go [1, 3, 5, 8, 9, 10, 12, 13] [0, 16, 352] rfl ?_
 try simp only [R04_shownLow.h0, c1, c9, aa yx10, c12, c13, c14, c15, go_sem]
 rintro ⟨i16, i17⟩ x_1 Bk1 Br1 h1 hnext1 hbrk1 hret1
 refine rS ?_
 simp only [R04_shownLow.b0] at h1
 try simp only [F128.s0, R04_shownLow.h0, c1, c9, aa yx10, c12, c13, c14, c15, go_sem]
 refine AKev_bif h1 ?_ ?_ <;> intro c19 h1
 try simp only [c19, c1, c9, aa yx10, c12, c13, c14, c15, go_sem]
 refine AKev_region T_ok follows_ok 1000 ?_
 try simp only [c1, c9, aa yx10, c12, c13, c14, c15, c19, go_sem]
 obtain ⟨x20, yx20, h1⟩ := bs h1
 try simp only [aa yx20, c1, c9, aa yx10, c12, c13, c14, c15, c19, go_sem]
 obtain ⟨x21, yx21, h1⟩ := bs h1
 try simp only [aa yx21, c1, c9, aa yx10, c12, c13, c14, c15, c19, aa yx20, go_sem]
 refine DG_done ⟨rfl, run_sound T_ok 1000 _ _ ?_⟩
 try simp only [c1, c9, aa yx10, c12, c13, c14, c15, c19, aa yx20, aa yx21, go_sem]
 obtain ⟨x22, yx22, h1⟩ := bs h1
 try simp only [aa yx22, c1, c9, aa yx10, c12, c13, c14, c15, c19, aa yx20, aa yx21, go_sem]
 refine AKev_bif h1 ?_ ?_ <;> intro c23 h1
 try simp only [c23, aa yx20, c1, c9, aa yx10, c12, c13, c14, c15, c19, aa yx21, aa yx22, go_sem]
 obtain ⟨x24, yx24, h1⟩ := bs h1
 try simp only [aa yx24, c1, c9, aa yx10, c12, c13, c14, c15, c19, aa yx20, aa yx21, aa yx22, c23, go_sem]
 refine AKev_backB (hnext1 _ _ (Option.some.inj h1).symm ?_)
 refine Weak.go [1, 3, 5, 8, 9, 10, 12, 13] [0, 1, 2] rfl ?_
 try simp only [R04_shownLow.h0, c1, c9, aa yx10, c12, c13, c14, c15, c19, aa yx20, aa yx21, aa yx22, c23, aa yx24, go_sem]
 try simp only [c23, c1, c9, aa yx10, c12, c13, c14, c15, c19, aa yx20, aa yx21, aa yx22, go_sem]
 refine AKev_region T_ok follows_ok 1000 ?_
 try simp only [aa yx22, c1, c9, aa yx10, c12, c13, c14, c15, c19, aa yx20, aa yx21, c23, go_sem]
 obtain ⟨x25, yx25, h1⟩ := bs h1
 refine DG_call0 1000 (R04_cannot_ok k _ _ _ _ _ yx25) ?_ (by first | rfl | simp [AV.refsL, AV.refs, AV.scal, AV.leaf]) ?_
 try simp only [c1, c9, aa yx10, c12, c13, c14, c15, c19, aa yx20, aa yx21, aa yx22, c23, go_sem]
 try simp only [c1, c9, aa yx10, c12, c13, c14, c15, c19, aa yx20, aa yx21, aa yx22, c23, go_sem]
 refine DG_done ⟨rfl, run_sound T_ok 1000 _ _ ?_⟩
 try simp only [c1, c9, aa yx10, c12, c13, c14, c15, c19, aa yx20, aa yx21, aa yx22, c23, go_sem]
 refine AKev_bif h1 ?_ ?_ <;> intro c26 h1
 have c26 := bnot_t c26
 try simp only [c26, c1, c9, aa yx10, c12, c13, c14, c15, c19, aa yx20, aa yx21, aa yx22, c23, go_sem]
 obtain rfl := hret1 _ (Option.some.inj h1).symm
 simp only at h0
 obtain rfl := Option.some.inj h0
 refine AKev_ret rfl ?_
 try simp only [F128.rs, c1, c9, aa yx10, c12, c13, c14, c15, c19, aa yx20, aa yx21, aa yx22, c23, c26, go_sem]
 have c26 := bnot_f c26
 try simp only [c26, c1, c9, aa yx10, c12, c13, c14, c15, c19, aa yx20, aa yx21, aa yx22, c23, go_sem]
 refine AKev_backB (hnext1 _ _ (Option.some.inj h1).symm ?_)
 refine Weak.go [1, 3, 5, 8, 9, 10, 12, 13] [0, 1, 2] rfl ?_
 try simp only [R04_shownLow.h0, c1, c9, aa yx10, c12, c13, c14, c15, c19, aa yx20, aa yx21, aa yx22, c23, c26, go_sem]
 try simp only [c19, c1, c9, aa yx10, c12, c13, c14, c15, go_sem]
 refine AKev_backB (hbrk1 _ _ (Option.some.inj h1).symm ?_)
 refine Weak.go [12] [] rfl ?_
 try simp only [R04_shownLow.x0, c1, c9, aa yx10, c12, c13, c14, c15, c19, go_sem]
 rintro i18 hr_
 subst hr_
 simp only at h0
 refine rS ?_
 try simp only [R04_shownLow.x0, c1, c9, aa yx10, c12, c13, c14, c15, go_sem]
 obtain rfl := Option.some.inj h0
 refine AKev_ret rfl ?_
 try simp only [F128.rs, c1, c9, aa yx10, c12, c13, c14, c15, go_sem]
 have c14 := bnot_f c14
 try simp only [c14, c1, c9, aa yx10, c12, c13, go_sem]
 obtain rfl := Option.some.inj h0
 refine AKev_ret rfl ?_
 try simp only [F128.rs, c1, c9, aa yx10, c12, c13, c14, go_sem]
def F86.c : SC :=
 (.seq
 (.reg [oq 4 (.box 27 (.tmp 0)) 0 [0],
 oq 6 (.box 114 (.tmp 2)) 0 [2],
 oq 7 (.box 57 (.tmp 3)) 0 [3],
 sn 8 0 33 [8]])
 (.seq
 (.reg [ld 14 27 4 [],
 mv 15 1 3 [],
 cf2 16 59 14 15 27 3 33 [14, 15],
 sg 9 16 33 [16]])
 (.seq
 (.seq
 (.reg [mv 17 9 33 [],
 bn 18 .neq 33 17 0 33 4 [17]])
 (.cond (.tmp 18)
 (.seq
 (.reg [mv 19 9 33 [9],
 sg 8 19 33 [19]])
 .ret)
 .skip))
 (.seq
 (.seq
 (.reg [oq 20 (.indexAddr 114 (.tmp 6) (.const (.int .i64 0))) 0 [],
 ld 21 3 20 [20],
 bn 22 .eql 3 21 1 3 4 [21]])
 (.cond (.tmp 22)
 (.seq
 (.reg [ld 24 27 4 [4],
 mv 25 1 3 [1],
 ld 26 57 7 [7],
 oq 27 (.call ⟨.value (.func 127), #[.tmp 24, .tmp 25, .tmp 26], #[27, 3, 57]⟩) 126 [24, 25, 26],
 mv 23 27 126 [27],
 xt 28 23 0 3 [],
 xt 29 23 1 4 [23],
 sg 10 28 3 [28],
 sg 11 29 4 [29]])
 (.seq
 (.seq
 (.reg [mv 30 11 4 [11],
 oq 31 (.unOp .not 4 (.tmp 30)) 4 [30]])
 (.cond (.tmp 31)
 (.seq
 (.reg [sn 8 46 33 []])
 .ret)
 .skip))
 (.seq
 (.seq
 (.reg [mv 32 10 3 [10],
 oq 33 (.indexAddr 114 (.tmp 6) (.const (.int .i64 1))) 0 [6],
 ld 34 3 33 [33],
 b2 35 .gtr 3 32 34 3 4 [32, 34]])
 (.cond (.tmp 35)
 (.seq
 (.reg [sn 8 47 33 []])
 .ret)
 .skip))
 (.seq
 (.reg [sn 8 0 33 []])
 .ret))))
 .skip))
 (.seq
 (.reg [ld 37 27 4 [4],
 mv 38 1 3 [1],
 ld 39 57 7 [7],
 oq 40 (.call ⟨.value (.func 128), #[.tmp 37, .tmp 38, .tmp 39], #[27, 3, 57]⟩) 126 [37, 38, 39],
 mv 36 40 126 [40],
 xt 41 36 0 3 [],
 xt 42 36 1 4 [36],
 sg 12 41 3 [41],
 sg 13 42 4 [42]])
 (.seq
 (.seq
 (.reg [mv 43 13 4 [13],
 oq 44 (.unOp .not 4 (.tmp 43)) 4 [43]])
 (.cond (.tmp 44)
 (.seq
 (.reg [sn 8 46 33 []])
 .ret)
 .skip))
 (.seq
 (.seq
 (.reg [mv 45 12 3 [12],
 oq 46 (.indexAddr 114 (.tmp 6) (.const (.int .i64 1))) 0 [6],
 ld 47 3 46 [46],
 b2 48 .lss 3 45 47 3 4 [45, 47]])
 (.cond (.tmp 48)
 (.seq
 (.reg [sn 8 47 33 []])
 .ret)
 .skip))
 (.seq
 (.reg [sn 8 0 33 []])
 .ret))))))))
theorem F86.rs : Tryz.f86.results.toList = [.tmp 8] := rfl
def R04_CheckProof (k : Nat) (f0 : Firing) (place1 : Int) (n2 : (A2 Int)) (p3 : HeatProof) : Option (Int) :=
 (R04_asked k f0 place1).bind fun x1 =>
 bif (!decide (x1 = (0 : Int))) then
  some x1
 else
  bif decide (n2.x0 = (1 : Int)) then
   (R04_shownHigh k f0 place1 p3).bind fun x4 =>
   bif (!x4.2) then
    some 46
   else
    bif decide (n2.x1 < x4.1) then
     some 47
    else
     some 0
  else
   (R04_shownLow k f0 place1 p3).bind fun x7 =>
   bif (!x7.2) then
    some 46
   else
    bif decide (x7.1 < n2.x1) then
     some 47
    else
     some 0
theorem R04_CheckProof_ok (k : Nat) (f0 : Firing) (place1 : Int) (n2 : (A2 Int)) (p3 : HeatProof) (r : Int) (h0 : R04_CheckProof k f0 place1 n2 p3 = some r) : PCall Tryz.prog 86 [.agg (Firing.c f0), .int .i64 place1, .agg ((A2.c eI) n2), .agg (HeatProof.c p3)] (fun y => y = .int .i64 r) := by
 refine PB (fn := Tryz.f86) (sc := F86.c) ?_
 refine rS ?_
 simp only [R04_CheckProof] at h0
 try simp only [F86.c, go_sem]
 obtain ⟨x1, yx1, h0⟩ := bs h0
 refine zc0 (R04_asked_ok k _ _ _ yx1) ?_ (by first | rfl | simp [AV.refsL, AV.refs, AV.scal, AV.leaf]) ?_
 try simp only [go_sem]
 try simp only [go_sem]
 refine AKev_bif h0 ?_ ?_ <;> intro c2 h0
 have c2 := bnot_t c2
 try simp only [c2, go_sem]
 obtain rfl := Option.some.inj h0
 refine AKev_ret rfl ?_
 try simp only [F86.rs, c2, go_sem]
 have c2 := bnot_f c2
 try simp only [c2, (by decide : inRange (0 : Int) 2 = some 0), go_sem]
 refine AKev_bif h0 ?_ ?_ <;> intro c3 h0
 try simp only [c3, c2, go_sem]
 obtain ⟨x4, yx4, h0⟩ := bs h0
 refine zc0 (R04_shownHigh_ok k _ _ _ _ yx4) ?_ (by first | rfl | simp [AV.refsL, AV.refs, AV.scal, AV.leaf]) ?_
 try simp only [c2, c3, go_sem]
 try simp only [c2, c3, go_sem]
 refine AKev_bif h0 ?_ ?_ <;> intro c5 h0
 have c5 := bnot_t c5
 try simp only [c5, c2, c3, go_sem]
 obtain rfl := Option.some.inj h0
 refine AKev_ret rfl ?_
 try simp only [F86.rs, c2, c3, c5, go_sem]
 have c5 := bnot_f c5
 try simp only [c5, (by decide : inRange (1 : Int) 2 = some 1), c2, c3, go_sem]
 refine AKev_bif h0 ?_ ?_ <;> intro c6 h0
 try simp only [c6, c2, c3, c5, go_sem]
 obtain rfl := Option.some.inj h0
 refine AKev_ret rfl ?_
 try simp only [F86.rs, c2, c3, c5, c6, go_sem]
 try simp only [c6, c2, c3, c5, go_sem]
 obtain rfl := Option.some.inj h0
 refine AKev_ret rfl ?_
 try simp only [F86.rs, c2, c3, c5, c6, go_sem]
 try simp only [c3, c2, go_sem]
 obtain ⟨x7, yx7, h0⟩ := bs h0
 refine zc0 (R04_shownLow_ok k _ _ _ _ yx7) ?_ (by first | rfl | simp [AV.refsL, AV.refs, AV.scal, AV.leaf]) ?_
 try simp only [c2, c3, go_sem]
 try simp only [c2, c3, go_sem]
 refine AKev_bif h0 ?_ ?_ <;> intro c8 h0
 have c8 := bnot_t c8
 try simp only [c8, c2, c3, go_sem]
 obtain rfl := Option.some.inj h0
 refine AKev_ret rfl ?_
 try simp only [F86.rs, c2, c3, c8, go_sem]
 have c8 := bnot_f c8
 try simp only [c8, (by decide : inRange (1 : Int) 2 = some 1), c2, c3, go_sem]
 refine AKev_bif h0 ?_ ?_ <;> intro c9 h0
 try simp only [c9, c2, c3, c8, go_sem]
 obtain rfl := Option.some.inj h0
 refine AKev_ret rfl ?_
 try simp only [F86.rs, c2, c3, c8, c9, go_sem]
 try simp only [c9, c2, c3, c8, go_sem]
 obtain rfl := Option.some.inj h0
 refine AKev_ret rfl ?_
 try simp only [F86.rs, c2, c3, c8, c9, go_sem]
end Go.Abs
