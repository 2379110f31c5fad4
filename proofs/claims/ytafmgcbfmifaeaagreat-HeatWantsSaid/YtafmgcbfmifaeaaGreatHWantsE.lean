/-
  Part 5 of the proof: a machine over named blocks, what each function computes, and what follows. No condition.
-/
import Derived.Test.YtafmgcbfmifaeaaGreatHWantsD
set_option linter.unusedVariables false
set_option linter.unusedSimpArgs false
set_option linter.all false
set_option maxRecDepth 20000
set_option maxHeartbeats 8000000
namespace Go.Abs
open Go.Proofs
def F59.c : SC :=
 (.seq
 (.reg [oq 2 (.box 27 (.tmp 0)) 0 [0],
 sn 4 0 33 [4]])
 (.seq
 (.seq
 (.reg [ld 5 27 2 [],
 cf1 6 43 5 27 33 [5],
 bn 7 .neq 33 6 0 33 4 [6]])
 (.cond (.tmp 7)
 (.seq
 (.reg [sn 4 42 33 []])
 .ret)
 .skip))
 (.seq
 (.seq
 (.reg [mv 8 1 3 [1],
 fa 9 27 2 0 [2],
 fa 10 24 9 0 [9],
 ld 11 22 10 [10],
 oq 12 (.indexAddr 22 (.tmp 11) (.const (.int .i64 0))) 0 [11],
 ld 13 89 12 [12],
 ln 14 13 89 3 [13],
 bn 15 .sub 3 14 1 3 3 [14],
 oq 16 (.call ⟨.value (.func 96), #[.tmp 8, .const (.int .i64 0), .tmp 15], #[3, 3, 3]⟩) 4 [8, 15],
 oq 17 (.unOp .not 4 (.tmp 16)) 4 [16]])
 (.cond (.tmp 17)
 (.seq
 (.reg [sn 4 43 33 []])
 .ret)
 .skip))
 (.seq
 (.reg [sn 4 0 33 []])
 .ret))))
theorem F59.rs : Tryz.f59.results.toList = [.tmp 4] := rfl
def R04_asked (k : Nat) (f0 : Firing) (place1 : Int) : Option (Int) :=
 (R04_Check k f0).bind fun x1 =>
 bif (!decide (x1 = (0 : Int))) then
  some 42
 else
  (at? f0.Kiln.Falls 0).bind fun x3 =>
  (R01_In k place1 0 (w64 ((x3.length : Int) - 1))).bind fun x4 =>
  bif (!x4) then
   some 43
  else
   some 0
theorem R04_asked_ok (k : Nat) (f0 : Firing) (place1 : Int) (r : Int) (h0 : R04_asked k f0 place1 = some r) : PCall Tryz.prog 59 [.agg (Firing.c f0), .int .i64 place1] (fun y => y = .int .i64 r) := by
 refine PB (fn := Tryz.f59) (sc := F59.c) ?_
 refine rS ?_
 simp only [R04_asked] at h0
 try simp only [F59.c, go_sem]
 obtain ⟨x1, yx1, h0⟩ := bs h0
 refine zc0 (R04_Check_ok k _ _ yx1) ?_ (by first | rfl | simp [AV.refsL, AV.refs, AV.scal, AV.leaf]) ?_
 try simp only [go_sem]
 try simp only [go_sem]
 refine AKev_bif h0 ?_ ?_ <;> intro c2 h0
 have c2 := bnot_t c2
 try simp only [c2, go_sem]
 obtain rfl := Option.some.inj h0
 refine AKev_ret rfl ?_
 try simp only [F59.rs, c2, go_sem]
 have c2 := bnot_f c2
 try simp only [c2, go_sem]
 obtain ⟨x3, yx3, h0⟩ := bs h0
 try simp only [aa yx3, c2, go_sem]
 obtain ⟨x4, yx4, h0⟩ := bs h0
 refine zc0 (R01_In_ok k _ _ _ _ yx4) ?_ (by first | rfl | simp [AV.refsL, AV.refs, AV.scal, AV.leaf]) ?_
 try simp only [c2, aa yx3, go_sem]
 try simp only [c2, aa yx3, go_sem]
 refine AKev_bif h0 ?_ ?_ <;> intro c5 h0
 have c5 := bnot_t c5
 try simp only [c5, c2, aa yx3, go_sem]
 obtain rfl := Option.some.inj h0
 refine AKev_ret rfl ?_
 try simp only [F59.rs, c2, aa yx3, c5, go_sem]
 have c5 := bnot_f c5
 try simp only [c5, c2, aa yx3, go_sem]
 obtain rfl := Option.some.inj h0
 refine AKev_ret rfl ?_
 try simp only [F59.rs, c2, aa yx3, c5, go_sem]
def F11.c : SC :=
 (.seq
 (.reg [oq 3 (.box 27 (.tmp 0)) 0 [0],
 oq 5 (.box 30 (.tmp 2)) 0 [2],
 sn 6 0 3 [6],
 sn 7 0 33 [7]])
 (.seq
 (.reg [ld 11 27 3 [],
 mv 12 1 3 [],
 cf2 13 59 11 12 27 3 33 [11, 12],
 sg 8 13 33 [13]])
 (.seq
 (.seq
 (.reg [mv 14 8 33 [],
 bn 15 .neq 33 14 0 33 4 [14]])
 (.cond (.tmp 15)
 (.seq
 (.reg [mv 16 8 33 [8],
 sn 6 0 3 [],
 sg 7 16 33 [16]])
 .ret)
 .skip))
 (.seq
 (.reg [ld 18 27 3 [3],
 mv 19 1 3 [1],
 ld 20 30 5 [5],
 oq 21 (.build 32 #[(0, .tmp 19), (1, .tmp 20)]) 32 [19, 20],
 oq 22 (.buildSlice 28 1 #[(0, .tmp 21)]) 28 [21],
 cf2 23 9 18 22 27 28 34 [18, 22],
 mv 17 23 34 [23],
 xt 24 17 0 3 [],
 xt 25 17 1 33 [17],
 sg 9 24 3 [24],
 sg 10 25 33 [25]])
 (.seq
 (.reg [mv 26 9 3 [9],
 mv 27 10 33 [10],
 sg 6 26 3 [26],
 sg 7 27 33 [27]])
 .ret)))))
theorem F11.rs : Tryz.f11.results.toList = [.tmp 6, .tmp 7] := rfl
def R04_Verdict (k : Nat) (f0 : Firing) (place1 : Int) (want2 : Range) : Option (Int × Int) :=
 (R04_asked k f0 place1).bind fun x1 =>
 bif (!decide (x1 = (0 : Int))) then
  some (0, x1)
 else
  (R04_Together k f0 [(⟨place1, want2⟩ : Want)]).bind fun x3 =>
  some (x3.1, x3.2)
theorem R04_Verdict_ok (k : Nat) (f0 : Firing) (place1 : Int) (want2 : Range) (r : Int × Int) (h0 : R04_Verdict k f0 place1 want2 = some r) : PCall Tryz.prog 11 [.agg (Firing.c f0), .int .i64 place1, .agg (Range.c want2)] (fun y => y = .tup [.int .i64 r.1, .int .i64 r.2]) := by
 refine PB (fn := Tryz.f11) (sc := F11.c) ?_
 refine rS ?_
 simp only [R04_Verdict] at h0
 try simp only [F11.c, go_sem]
 obtain ⟨x1, yx1, h0⟩ := bs h0
 refine zc0 (R04_asked_ok k _ _ _ yx1) ?_ (by first | rfl | simp [AV.refsL, AV.refs, AV.scal, AV.leaf]) ?_
 try simp only [go_sem]
 try simp only [go_sem]
 refine AKev_bif h0 ?_ ?_ <;> intro c2 h0
 have c2 := bnot_t c2
 try simp only [c2, go_sem]
 obtain rfl := Option.some.inj h0
 refine AKev_ret rfl ?_
 try simp only [F11.rs, c2, go_sem]
 have c2 := bnot_f c2
 try simp only [c2, go_sem]
 obtain ⟨x3, yx3, h0⟩ := bs h0
 refine zc0 (R04_Together_ok k _ _ _ yx3) ?_ (by first | rfl | simp [AV.refsL, AV.refs, AV.scal, AV.leaf]) ?_
 try simp only [c2, go_sem]
 try simp only [c2, go_sem]
 obtain rfl := Option.some.inj h0
 refine AKev_ret rfl ?_
 try simp only [F11.rs, c2, go_sem]
def F60.s1 : SC :=
 (.seq
 (.reg [b2 39 .lss 3 38 37 3 0 []])
 (.seq
 (.cond (.tmp 39)
 .skip
 (.exit 2))
 (.seq
 (.block 3
 (.seq
 (.reg [mv 40 38 3 [],
 ia 41 89 36 38 [],
 ld 42 30 41 [41],
 oq 10 (.alloc 30) 0 [],
 sg 9 40 3 [40],
 ⟨none, .store 30 (.tmp 10) (.tmp 42), 0, none, [42]⟩])
 (.seq
 (.reg [fa 43 30 10 0 [10],
 ld 44 3 43 [43],
 sg 11 44 3 [44]])
 (.seq
 (.seq
 (.reg [fa 46 81 1 2 [],
 ld 47 79 46 [46],
 mv 48 9 3 [9],
 oq 49 (.call ⟨.value (.func 108), #[.tmp 47, .tmp 48, .func 109], #[79, 3, 138]⟩) 136 [47, 48],
 mv 45 49 136 [49],
 xt 50 45 0 135 [],
 xt 51 45 1 4 [45],
 oq 12 (.alloc 135) 0 [],
 ⟨none, .store 135 (.tmp 12) (.tmp 50), 0, none, [50]⟩,
 sg 13 51 4 [51]])
 (.seq
 (.reg [mv 52 13 4 [13]])
 (.cond (.tmp 52)
 (.reg [mv 53 11 3 [11],
 mv 54 6 3 [],
 fa 55 135 12 1 [12],
 ld 56 3 55 [55],
 b2 57 .sub 3 54 56 3 3 [54, 56],
 oq 58 (.call ⟨.builtin .max, #[.tmp 53, .tmp 57], #[3, 3]⟩) 3 [53, 57],
 sg 11 58 3 [58]])
 .skip)))
 (.reg [mv 59 8 37 [8],
 mv 60 11 3 [11],
 oq 61 (.buildSlice 37 1 #[(0, .tmp 60)]) 37 [60],
 oq 62 (.call ⟨.builtin .append, #[.tmp 59, .tmp 61], #[37, 37]⟩) 37 [59, 61],
 sg 8 62 37 [62]])))))
 (.reg [bn 63 .add 3 38 1 3 3 [38],
 mv 38 63 3 [63]]))))
def F60.s0 : SC :=
 (.seq
 (.reg [b2 20 .lss 3 19 18 3 0 []])
 (.seq
 (.cond (.tmp 20)
 .skip
 (.exit 0))
 (.seq
 (.block 1
 (.seq
 (.reg [mv 21 19 3 [],
 ia 22 22 17 19 [],
 ld 23 89 22 [22],
 sg 4 21 3 [21],
 sg 5 23 89 [23]])
 (.seq
 (.reg [ld 25 81 1 [],
 mv 26 4 3 [4],
 cf2 27 107 25 26 81 3 132 [25, 26],
 mv 24 27 132 [27],
 xt 28 24 0 3 [],
 xt 29 24 1 3 [24],
 sg 6 28 3 [28],
 sg 7 29 3 [7, 29]])
 (.seq
 (.reg [fa 30 40 3 0 [],
 ld 31 37 30 [30],
 mv 32 6 3 [],
 oq 33 (.buildSlice 37 1 #[(0, .tmp 32)]) 37 [32],
 oq 34 (.call ⟨.builtin .append, #[.tmp 31, .tmp 33], #[37, 37]⟩) 37 [31, 33],
 fa 35 40 3 0 [],
 ⟨none, .store 37 (.tmp 35) (.tmp 34), 0, none, [34, 35]⟩])
 (.seq
 (.reg [oq 8 (.assign (.const (.slice none 0 0))) 37 []])
 (.seq
 (.seq
 (.reg [mv 36 5 89 [5],
 ln 37 36 89 3 [],
 oq 38 (.move (.const (.int .i64 0))) 3 []])
 (.block 2
 (.loop F60.s1)))
 (.reg [fa 64 40 3 1 [],
 ld 65 38 64 [64],
 mv 66 8 37 [8],
 oq 67 (.buildSlice 38 1 #[(0, .tmp 66)]) 38 [66],
 oq 68 (.call ⟨.builtin .append, #[.tmp 65, .tmp 67], #[38, 38]⟩) 38 [65, 67],
 fa 69 40 3 1 [],
 ⟨none, .store 38 (.tmp 69) (.tmp 68), 0, none, [68, 69]⟩])))))))
 (.reg [bn 70 .add 3 19 1 3 3 [19],
 mv 19 70 3 [70]]))))
def F60.c : SC :=
 (.seq
 (.reg [oq 1 (.box 81 (.tmp 0)) 0 [0],
 oq 2 (.alloc 40) 0 []])
 (.seq
 (.reg [oq 3 (.alloc 40) 0 []])
 (.seq
 (.seq
 (.reg [fa 14 81 1 0 [],
 fa 15 27 14 0 [14],
 fa 16 24 15 0 [15],
 ld 17 22 16 [16],
 ln 18 17 22 3 [],
 oq 19 (.move (.const (.int .i64 0))) 3 []])
 (.block 0
 (.loop F60.s0)))
 (.seq
 (.reg [ld 71 40 3 [3],
 ⟨none, .store 40 (.tmp 2) (.tmp 71), 0, none, [71]⟩])
 .ret))))
theorem F60.rs : Tryz.f60.results.toList = [.cell 2 40] := rfl
def heat_furnace_greatest.b1 (k : Nat) (f0 : heat_furnace) (x7 : (List Range)) (x8 : Int × Int) : (Int × (List Int)) → Option (Stp (Int × (List Int)) ((List Int)) (Field)) := fun (s : Int × (List Int)) => match s with
 | (i10, l11) =>
   bif decide (i10 < (x7.length : Int)) then
    (at? x7 i10).bind fun x14 =>
    (heat_best k f0.most i10 (fun q0 q1 => heat_less k q0 q1)).bind fun x15 =>
    bif x15.2 then
     (push? 8 l11 (max x14.Lo (w64 (x8.1 - x15.1.heat)))).bind fun l17 =>
     some (.next (w64 (i10 + 1), l17))
    else
     (push? 8 l11 x14.Lo).bind fun l18 =>
     some (.next (w64 (i10 + 1), l18))
   else
    some (.brk l11)
def heat_furnace_greatest.b0 (k : Nat) (f0 : heat_furnace) : (Int × (List Int) × (List (List Int))) → Option (Stp (Int × (List Int) × (List (List Int))) ((List Int) × (List (List Int))) (Field)) := fun (s : Int × (List Int) × (List (List Int))) => match s with
 | (i1, l2, l3) =>
   bif decide (i1 < (f0.Firing.Kiln.Falls.length : Int)) then
    (at? f0.Firing.Kiln.Falls i1).bind fun x7 =>
    (heat_furnace_hottest k f0 i1).bind fun x8 =>
    (push? 8 l2 x8.1).bind fun l9 =>
    (whl (heat_furnace_greatest.b1 k f0 x7 x8) k (0, [])).bind fun r19 => match r19 with
    | .next _ => none
    | .ret v_ => some (.ret v_)
    | .brk l12 =>
     (push? 24 l3 l12).bind fun l20 =>
     some (.next (w64 (i1 + 1), l9, l20))
   else
    some (.brk (l2, l3))
noncomputable def heat_furnace_greatest.h1 (f0 : heat_furnace) (i1 : Int) (l2 : (List Int)) (l3 : (List (List Int))) (x7 : (List Range)) (x8 : Int × Int) (l9 : List Int) : (Int × (List Int)) → St := fun (s : Int × (List Int)) => match s with
 | (i10, l11) => ⟨[(1, .ptr 0 0 0), (2, .ptr 0 1 0), (3, .ptr 0 4 0), (6, .int .i64 x8.1), (8, .loc 0 7 1 0 l11.length l11.length), (17, .sl 1 (List.map (eL 2 Range.c) f0.Firing.Kiln.Falls)), (18, .int .i64 (f0.Firing.Kiln.Falls.length : Int)), (19, .int .i64 i1), (36, .sl 2 (List.map Range.c x7)), (37, .int .i64 (x7.length : Int)), (38, .int .i64 i10)], [(0, .box [.sl 1 (List.map (eL 2 Range.c) f0.Firing.Kiln.Falls), .sl 6 (List.map Reading.c f0.Firing.Readings), .sl 3 (List.map heat_limit.c f0.least), .sl 3 (List.map heat_limit.c f0.most)]), (1, .box [.loc 0 2 1 0 0 0, .loc 0 3 1 0 0 0]), (2, .arr 3 1 (List.map eI [])), (3, .arr 37 1 (List.map (eL 1 eI) [])), (4, .box [.loc 0 5 1 0 (l2.length + 1) (l2.length + 1), .loc 0 6 1 0 l3.length l3.length]), (5, .arr 3 1 (List.map eI l9)), (6, .arr 37 1 (List.map (eL 1 eI) l3)), (7, .arr 3 1 (List.map eI l11))], [], 8, Tryz.f60.ntmps⟩
noncomputable def heat_furnace_greatest.x1 (f0 : heat_furnace) (i1 : Int) (l2 : (List Int)) (l3 : (List (List Int))) (l9 : List Int) : (List Int) → St := fun (l12 : (List Int)) => ⟨[(1, .ptr 0 0 0), (2, .ptr 0 1 0), (3, .ptr 0 4 0), (8, .loc 0 7 1 0 l12.length l12.length), (17, .sl 1 (List.map (eL 2 Range.c) f0.Firing.Kiln.Falls)), (18, .int .i64 (f0.Firing.Kiln.Falls.length : Int)), (19, .int .i64 i1)], [(0, .box [.sl 1 (List.map (eL 2 Range.c) f0.Firing.Kiln.Falls), .sl 6 (List.map Reading.c f0.Firing.Readings), .sl 3 (List.map heat_limit.c f0.least), .sl 3 (List.map heat_limit.c f0.most)]), (1, .box [.loc 0 2 1 0 0 0, .loc 0 3 1 0 0 0]), (2, .arr 3 1 (List.map eI [])), (3, .arr 37 1 (List.map (eL 1 eI) [])), (4, .box [.loc 0 5 1 0 (l2.length + 1) (l2.length + 1), .loc 0 6 1 0 l3.length l3.length]), (5, .arr 3 1 (List.map eI l9)), (6, .arr 37 1 (List.map (eL 1 eI) l3)), (7, .arr 3 1 (List.map eI l12))], [], 8, Tryz.f60.ntmps⟩
noncomputable def heat_furnace_greatest.h0 (f0 : heat_furnace) : (Int × (List Int) × (List (List Int))) → St := fun (s : Int × (List Int) × (List (List Int))) => match s with
 | (i1, l2, l3) => ⟨[(1, .ptr 0 0 0), (2, .ptr 0 1 0), (3, .ptr 0 4 0), (17, .sl 1 (List.map (eL 2 Range.c) f0.Firing.Kiln.Falls)), (18, .int .i64 (f0.Firing.Kiln.Falls.length : Int)), (19, .int .i64 i1)], [(0, .box [.sl 1 (List.map (eL 2 Range.c) f0.Firing.Kiln.Falls), .sl 6 (List.map Reading.c f0.Firing.Readings), .sl 3 (List.map heat_limit.c f0.least), .sl 3 (List.map heat_limit.c f0.most)]), (1, .box [.loc 0 2 1 0 0 0, .loc 0 3 1 0 0 0]), (2, .arr 3 1 (List.map eI [])), (3, .arr 37 1 (List.map (eL 1 eI) [])), (4, .box [.loc 0 5 1 0 l2.length l2.length, .loc 0 6 1 0 l3.length l3.length]), (5, .arr 3 1 (List.map eI l2)), (6, .arr 37 1 (List.map (eL 1 eI) l3))], [], 7, Tryz.f60.ntmps⟩
noncomputable def heat_furnace_greatest.x0 : ((List Int) × (List (List Int))) → St := fun (s : (List Int) × (List (List Int))) => match s with
 | (l4, l5) => ⟨[(2, .ptr 0 0 0), (3, .ptr 0 3 0)], [(0, .box [.loc 0 1 1 0 0 0, .loc 0 2 1 0 0 0]), (1, .arr 3 1 (List.map eI [])), (2, .arr 37 1 (List.map (eL 1 eI) [])), (3, .box [.loc 0 4 1 0 l4.length l4.length, .loc 0 5 1 0 l5.length l5.length]), (4, .arr 3 1 (List.map eI l4)), (5, .arr 37 1 (List.map (eL 1 eI) l5))], [], 6, Tryz.f60.ntmps⟩
def heat_furnace_greatest (k : Nat) (f0 : heat_furnace) : Option (Field) :=
 (whl (heat_furnace_greatest.b0 k f0) k (0, [], [])).bind fun r21 => match r21 with
 | .next _ => none
 | .ret v_ => some v_
 | .brk (l4, l5) =>
  some (⟨l4, l5⟩ : Field)
theorem heat_furnace_greatest_ok (k : Nat) (f0 : heat_furnace) (r : Field) (h0 : heat_furnace_greatest k f0 = some r) : PCall Tryz.prog 60 [.agg (heat_furnace.c f0)] (fun y => y = .agg (Field.c r)) := by
 refine PB (fn := Tryz.f60) (sc := F60.c) ?_
 refine rS ?_
 simp only [heat_furnace_greatest] at h0
 try simp only [F60.c, go_sem]
 obtain ⟨r21, yr21, h0⟩ := bs h0
 refine AKev_loopS yr21 (heat_furnace_greatest.h0 f0) (heat_furnace_greatest.x0) ?_ ?_ ?_
 refine Weak.go [1, 2, 3, 17, 18, 19] [0, 16, 17, 18, 32, 33, 34] rfl ?_
 try simp only [heat_furnace_greatest.h0, go_sem]
 rintro ⟨i1, l2, l3⟩ x_1 Bk1 Br1 h1 hnext1 hbrk1 hret1
 refine rS ?_
 simp only [heat_furnace_greatest.b0] at h1
 try simp only [F60.s0, heat_furnace_greatest.h0, go_sem]
 refine AKev_bif h1 ?_ ?_ <;> intro c6 h1
 try simp only [c6, go_sem]
 obtain ⟨x7, yx7, h1⟩ := bs h1
 try simp only [aa yx7, c6, go_sem]
 obtain ⟨x8, yx8, h1⟩ := bs h1
 refine zc0 (heat_furnace_hottest_ok k _ _ _ yx8) ?_ (by first | rfl | simp [AV.refsL, AV.refs, AV.scal, AV.leaf]) ?_
 try simp only [c6, aa yx7, go_sem]
 try simp only [c6, aa yx7, go_sem]
 obtain ⟨l9, yl9, h1⟩ := bs h1
 have eyl9 := push_map eI yl9
 have tyl9 := push_take eI yl9
 have nyl9 := push_len yl9
 have myl9 := push_room yl9
 try simp only [c6, aa yx7, go_sem] at eyl9 tyl9 nyl9 myl9
 try simp only [myl9, eyl9, c6, aa yx7, nyl9, tyl9, go_sem]
 obtain ⟨r19, yr19, h1⟩ := bs h1
 refine AKev_loopS yr19 (heat_furnace_greatest.h1 f0 i1 l2 l3 x7 x8 l9) (heat_furnace_greatest.x1 f0 i1 l2 l3 l9) ?_ ?_ ?_
 refine Weak.go [1, 2, 3, 6, 8, 17, 18, 19, 36, 37, 38] [0, 1, 2, 3, 4, 5, 6, 343] rfl ?_
 try simp only [heat_furnace_greatest.h1, c6, aa yx7, eyl9, nyl9, tyl9, go_sem]
 rintro ⟨i10, l11⟩ x_2 Bk2 Br2 h2 hnext2 hbrk2 hret2
 refine rS ?_
 simp only [heat_furnace_greatest.b1] at h2
 try simp only [F60.s1, heat_furnace_greatest.h1, c6, aa yx7, eyl9, nyl9, tyl9, go_sem]
 refine AKev_bif h2 ?_ ?_ <;> intro c13 h2
 try simp only [c13, c6, aa yx7, eyl9, nyl9, tyl9, go_sem]
 obtain ⟨x14, yx14, h2⟩ := bs h2
 try simp only [aa yx14, c6, aa yx7, eyl9, nyl9, tyl9, c13, go_sem]
 obtain ⟨x15, yx15, h2⟩ := bs h2
 refine zc0 (heat_best_ok k _ _ 109 [] ⟨fun _ => rfl, fun _ => rfl, fun _ _ => rfl, rfl, fun _ => rfl, fun _ => rfl, fun _ => rfl⟩ (fun q0 q1 => heat_less k q0 q1) (fun q0 q1 qr qh => heat_less_ok k q0 q1 qr qh) _ yx15) ?_ (by first | rfl | simp [AV.refsL, AV.refs, AV.scal, AV.leaf]) ?_
 try simp only [c6, aa yx7, eyl9, nyl9, tyl9, c13, aa yx14, go_sem]
 try simp only [c6, aa yx7, eyl9, nyl9, tyl9, c13, aa yx14, go_sem]
 refine AKev_bif h2 ?_ ?_ <;> intro c16 h2
 try simp only [c16, c6, aa yx7, eyl9, nyl9, tyl9, c13, aa yx14, go_sem]
 obtain ⟨l17, yl17, h2⟩ := bs h2
 have eyl17 := push_map eI yl17
 have tyl17 := push_take eI yl17
 have nyl17 := push_len yl17
 have myl17 := push_room yl17
 try simp only [c6, aa yx7, eyl9, nyl9, tyl9, c13, aa yx14, c16, go_sem] at eyl17 tyl17 nyl17 myl17
 try simp only [myl17, eyl17, c6, aa yx7, eyl9, nyl9, tyl9, c13, aa yx14, c16, nyl17, tyl17, go_sem]
 refine AKev_backB (hnext2 _ _ (Option.some.inj h2).symm ?_)
 refine Weak.go [1, 2, 3, 6, 8, 17, 18, 19, 36, 37, 38] [0, 1, 2, 3, 4, 5, 6, 7] rfl ?_
 try simp only [heat_furnace_greatest.h1, c6, aa yx7, eyl9, nyl9, tyl9, c13, aa yx14, c16, eyl17, nyl17, tyl17, go_sem]
 try simp only [c16, c6, aa yx7, eyl9, nyl9, tyl9, c13, aa yx14, go_sem]
 obtain ⟨l18, yl18, h2⟩ := bs h2
 have eyl18 := push_map eI yl18
 have tyl18 := push_take eI yl18
 have nyl18 := push_len yl18
 have myl18 := push_room yl18
 try simp only [c6, aa yx7, eyl9, nyl9, tyl9, c13, aa yx14, c16, go_sem] at eyl18 tyl18 nyl18 myl18
 try simp only [myl18, eyl18, c6, aa yx7, eyl9, nyl9, tyl9, c13, aa yx14, c16, nyl18, tyl18, go_sem]
 refine AKev_backB (hnext2 _ _ (Option.some.inj h2).symm ?_)
 refine Weak.go [1, 2, 3, 6, 8, 17, 18, 19, 36, 37, 38] [0, 1, 2, 3, 4, 5, 6, 7] rfl ?_
 try simp only [heat_furnace_greatest.h1, c6, aa yx7, eyl9, nyl9, tyl9, c13, aa yx14, c16, eyl18, nyl18, tyl18, go_sem]
 try simp only [c13, c6, aa yx7, eyl9, nyl9, tyl9, go_sem]
 refine AKev_backB (hbrk2 _ _ (Option.some.inj h2).symm ?_)
 refine Weak.go [1, 2, 3, 8, 17, 18, 19] [0, 1, 2, 3, 4, 5, 6, 7] rfl ?_
 try simp only [heat_furnace_greatest.x1, c6, aa yx7, eyl9, nyl9, tyl9, c13, go_sem]
 rintro l12 hr_
 subst hr_
 simp only at h1
 refine rS ?_
 try simp only [heat_furnace_greatest.x1, c6, aa yx7, eyl9, nyl9, tyl9, go_sem]
 obtain ⟨l20, yl20, h1⟩ := bs h1
 have eyl20 := push_map (eL 1 eI) yl20
 have tyl20 := push_take (eL 1 eI) yl20
 have nyl20 := push_len yl20
 have myl20 := push_room yl20
 try simp only [c6, aa yx7, eyl9, nyl9, tyl9, go_sem] at eyl20 tyl20 nyl20 myl20
 try simp only [myl20, eyl20, c6, aa yx7, eyl9, nyl9, tyl9, nyl20, tyl20, go_sem]
 refine AKev_backB (hnext1 _ _ (Option.some.inj h1).symm ?_)
 refine Weak.go [1, 2, 3, 17, 18, 19] [0, 1, 2, 3, 4, 5, 6] rfl ?_
 try simp only [heat_furnace_greatest.h0, c6, aa yx7, eyl9, nyl9, tyl9, eyl20, nyl20, tyl20, go_sem]
 try simp only [c6, go_sem]
 refine AKev_backB (hbrk1 _ _ (Option.some.inj h1).symm ?_)
 refine Weak.go [2, 3] [1, 2, 3, 4, 5, 6] rfl ?_
 try simp only [heat_furnace_greatest.x0, c6, go_sem]
 rintro ⟨l4, l5⟩ hr_
 subst hr_
 simp only at h0
 refine rS ?_
 try simp only [heat_furnace_greatest.x0, go_sem]
 obtain rfl := Option.some.inj h0
 refine AKev_ret rfl ?_
 try simp only [F60.rs, go_sem]
def F12.c : SC :=
 (.seq
 (.reg [oq 2 (.box 27 (.tmp 0)) 0 [0],
 oq 4 (.alloc 40) 0 [],
 sn 5 0 33 [5]])
 (.seq
 (.reg [ld 10 27 2 [2],
 mv 11 1 28 [1],
 cf2 12 52 10 11 27 28 82 [10, 11],
 mv 9 12 82 [12],
 xt 13 9 0 81 [],
 xt 14 9 1 81 [],
 xt 15 9 2 33 [9],
 oq 6 (.alloc 81) 0 [],
 oq 7 (.alloc 81) 0 [],
 ⟨none, .store 81 (.tmp 6) (.tmp 13), 0, none, [6, 13]⟩,
 ⟨none, .store 81 (.tmp 7) (.tmp 14), 0, none, [14]⟩,
 sg 8 15 33 [15]])
 (.seq
 (.seq
 (.reg [mv 16 8 33 [],
 bn 17 .neq 33 16 0 33 4 [16]])
 (.cond (.tmp 17)
 (.seq
 (.reg [oq 18 (.build 40 #[]) 40 [],
 mv 19 8 33 [8],
 ⟨none, .store 40 (.tmp 4) (.tmp 18), 0, none, [18]⟩,
 sg 5 19 33 [19]])
 .ret)
 .skip))
 (.seq
 (.seq
 (.reg [ld 20 81 7 [],
 cf1 21 53 20 81 4 [20],
 oq 22 (.unOp .not 4 (.tmp 21)) 4 [21]])
 (.cond (.tmp 22)
 (.seq
 (.reg [oq 23 (.build 40 #[]) 40 [],
 ⟨none, .store 40 (.tmp 4) (.tmp 23), 0, none, [23]⟩,
 sn 5 3 33 []])
 .ret)
 .skip))
 (.seq
 (.reg [ld 24 81 7 [7],
 cf1 25 60 24 81 40 [24],
 ⟨none, .store 40 (.tmp 4) (.tmp 25), 0, none, [25]⟩,
 sn 5 0 33 []])
 .ret)))))
theorem F12.rs : Tryz.f12.results.toList = [.cell 4 40, .tmp 5] := rfl
def heat_Show (k : Nat) (f0 : Firing) (l1 : (List Want)) : Option (Field × Int) :=
 (heat_wanted k f0 l1).bind fun x1 =>
 bif (!decide (x1.2.2 = (0 : Int))) then
  some ((⟨[], []⟩ : Field), x1.2.2)
 else
  (heat_furnace_sound k x1.2.1).bind fun x3 =>
  bif (!x3) then
   some ((⟨[], []⟩ : Field), 3)
  else
   (heat_furnace_greatest k x1.2.1).bind fun x5 =>
   some (x5, 0)
theorem heat_Show_ok (k : Nat) (f0 : Firing) (l1 : (List Want)) (r : Field × Int) (h0 : heat_Show k f0 l1 = some r) : PCall Tryz.prog 12 [.agg (Firing.c f0), .sl 3 (List.map Want.c l1)] (fun y => y = .tup [.agg (Field.c r.1), .int .i64 r.2]) := by
 refine PB (fn := Tryz.f12) (sc := F12.c) ?_
 refine rS ?_
 simp only [heat_Show] at h0
 try simp only [F12.c, go_sem]
 obtain ⟨x1, yx1, h0⟩ := bs h0
 refine zc0 (heat_wanted_ok k _ _ _ yx1) ?_ (by first | rfl | simp [AV.refsL, AV.refs, AV.scal, AV.leaf]) ?_
 try simp only [go_sem]
 try simp only [go_sem]
 refine AKev_bif h0 ?_ ?_ <;> intro c2 h0
 have c2 := bnot_t c2
 try simp only [c2, go_sem]
 obtain rfl := Option.some.inj h0
 refine AKev_ret rfl ?_
 try simp only [F12.rs, c2, go_sem]
 have c2 := bnot_f c2
 try simp only [c2, go_sem]
 obtain ⟨x3, yx3, h0⟩ := bs h0
 refine zc0 (heat_furnace_sound_ok k _ _ yx3) ?_ (by first | rfl | simp [AV.refsL, AV.refs, AV.scal, AV.leaf]) ?_
 try simp only [c2, go_sem]
 try simp only [c2, go_sem]
 refine AKev_bif h0 ?_ ?_ <;> intro c4 h0
 have c4 := bnot_t c4
 try simp only [c4, c2, go_sem]
 obtain rfl := Option.some.inj h0
 refine AKev_ret rfl ?_
 try simp only [F12.rs, c2, c4, go_sem]
 have c4 := bnot_f c4
 try simp only [c4, c2, go_sem]
 obtain ⟨x5, yx5, h0⟩ := bs h0
 refine zc0 (heat_furnace_greatest_ok k _ _ yx5) ?_ (by first | rfl | simp [AV.refsL, AV.refs, AV.scal, AV.leaf]) ?_
 try simp only [c2, c4, go_sem]
 try simp only [c2, c4, go_sem]
 obtain rfl := Option.some.inj h0
 refine AKev_ret rfl ?_
 try simp only [F12.rs, c2, c4, go_sem]
def F85.s0 : SC :=
 (.seq
 (.seq
 (.reg [mv 19 6 3 [],
 fa 20 40 2 0 [],
 ld 21 37 20 [20],
 ln 22 21 37 3 [21],
 b2 23 .lss 3 19 22 3 4 [19, 22]])
 (.cond (.tmp 23)
 .skip
 (.exit 0)))
 (.seq
 (.block 1
 (.dreg [mv 26 5 3 [],
 fa 27 40 2 0 [],
 ld 28 37 27 [],
 mv 29 6 3 [],
 ia 30 37 28 29 [],
 ld 31 3 30 [],
 fa 32 40 2 1 [],
 ld 33 38 32 [],
 mv 34 6 3 [],
 ia 35 38 33 34 [],
 ld 36 37 35 [],
 mv 37 1 3 [],
 ia 38 37 36 37 [],
 ld 39 3 38 [],
 b2 40 .sub 3 31 39 3 3 [],
 oq 41 (.call ⟨.builtin .max, #[.tmp 26, .tmp 40], #[3, 3]⟩) 3 [],
 sg 5 41 3 []] [[], [], [1], [], [1, 2, 3], [1, 2, 3, 4], [], [6], [], [6, 7, 8], [6, 7, 8, 9], [], [6, 7, 8, 9, 10, 11], [6, 7, 8, 9, 10, 11, 12], [1, 2, 3, 4, 5, 6, 7, 8, 9, 10, 11, 12, 13], [0, 1, 2, 3, 4, 5, 6, 7, 8, 9, 10, 11, 12, 13, 14], [0, 1, 2, 3, 4, 5, 6, 7, 8, 9, 10, 11, 12, 13, 14, 15]] [26, 27, 28, 29, 30, 31, 32, 33, 34, 35, 36, 37, 38, 39, 40, 41]))
 (.reg [mv 24 6 3 [6],
 bn 25 .add 3 24 1 3 3 [24],
 sg 6 25 3 [25]])))
def F85.c : SC :=
 (.seq
 (.reg [oq 2 (.box 40 (.tmp 0)) 0 [0],
 sn 4 0 3 [4]])
 (.seq
 (.dreg [fa 7 40 2 0 [],
 ld 8 37 7 [],
 oq 9 (.indexAddr 37 (.tmp 8) (.const (.int .i64 0))) 0 [],
 ld 10 3 9 [],
 fa 11 40 2 1 [],
 ld 12 38 11 [],
 oq 13 (.indexAddr 38 (.tmp 12) (.const (.int .i64 0))) 0 [],
 ld 14 37 13 [],
 mv 15 1 3 [],
 ia 16 37 14 15 [],
 ld 17 3 16 [],
 b2 18 .sub 3 10 17 3 3 [],
 sg 5 18 3 []] [[], [0], [0, 1], [0, 1, 2], [], [4], [4, 5], [4, 5, 6], [], [4, 5, 6, 7, 8], [4, 5, 6, 7, 8, 9], [0, 1, 2, 3, 4, 5, 6, 7, 8, 9, 10], [0, 1, 2, 3, 4, 5, 6, 7, 8, 9, 10, 11]] [7, 8, 9, 10, 11, 12, 13, 14, 15, 16, 17, 18])
 (.seq
 (.seq
 (.reg [sn 6 1 3 []])
 (.block 0
 (.loop F85.s0)))
 (.seq
 (.reg [mv 42 5 3 [5],
 sg 4 42 3 [42]])
 .ret))))
theorem F85.rs : Tryz.f85.results.toList = [.tmp 4] := rfl
def R04_heat.b0 (k : Nat) (x0 : Field) (p1 : Int) : (Int × Int) → Option (Stp (Int × Int) (Int) (Int)) := fun (s : Int × Int) => match s with
 | (i4, i5) =>
   bif decide (i5 < (x0.Mouths.length : Int)) then
    (at? x0.Mouths i5).bind fun x8 =>
    (at? x0.Falls i5).bind fun x9 =>
    (at? x9 p1).bind fun x10 =>
    some (.next (max i4 (w64 (x8 - x10)), w64 (i5 + 1)))
   else
    some (.brk i4)
noncomputable def R04_heat.h0 (x0 : Field) (p1 : Int) : (Int × Int) → St := fun (s : Int × Int) => match s with
 | (i4, i5) => ⟨[(1, .int .i64 p1), (2, .ptr 0 0 0), (5, .int .i64 i4), (6, .int .i64 i5)], [(0, .box [.sl 1 (List.map eI x0.Mouths), .sl 1 (List.map (eL 1 eI) x0.Falls)])], [], 1, Tryz.f85.ntmps⟩
noncomputable def R04_heat.x0 : Int → St := fun (i6 : Int) => ⟨[(5, .int .i64 i6)], [], [], 1, Tryz.f85.ntmps⟩
def R04_heat (k : Nat) (x0 : Field) (p1 : Int) : Option (Int) :=
 (at? x0.Mouths 0).bind fun x1 =>
 (at? x0.Falls 0).bind fun x2 =>
 (at? x2 p1).bind fun x3 =>
 (whl (R04_heat.b0 k x0 p1) k (w64 (x1 - x3), 1)).bind fun r11 => match r11 with
 | .next _ => none
 | .ret v_ => some v_
 | .brk i6 =>
  some i6
theorem R04_heat_ok (k : Nat) (x0 : Field) (p1 : Int) (r : Int) (h0 : R04_heat k x0 p1 = some r) : PCall Tryz.prog 85 [.agg (Field.c x0), .int .i64 p1] (fun y => y = .int .i64 r) := by
 refine PB (fn := Tryz.f85) (sc := F85.c) ?_
 refine rS ?_
 simp only [R04_heat] at h0
 try simp only [F85.c, go_sem]
 refine AKev_region T_ok follows_ok 1000 ?_
 try simp only [go_sem]
 obtain ⟨x1, yx1, h0⟩ := bs h0
 try simp only [aa yx1, go_sem]
 obtain ⟨x2, yx2, h0⟩ := bs h0
 try simp only [aa yx2, aa yx1, go_sem]
 obtain ⟨x3, yx3, h0⟩ := bs h0
 try simp only [aa yx3, aa yx1, aa yx2, go_sem]
 refine DG_done ⟨rfl, run_sound T_ok 1000 _ _ ?_⟩
 try simp only [aa yx1, aa yx2, aa yx3, go_sem]
 obtain ⟨r11, yr11, h0⟩ := bs h0
 refine AKev_loopS yr11 (R04_heat.h0 x0 p1) (R04_heat.x0) ?_ ?_ ?_
 refine Weak.go [1, 2, 5, 6] [0] rfl ?_
 try simp only [R04_heat.h0, aa yx1, aa yx2, aa yx3, go_sem]
 rintro ⟨i4, i5⟩ x_1 Bk1 Br1 h1 hnext1 hbrk1 hret1
 refine rS ?_
 simp only [R04_heat.b0] at h1
 try simp only [F85.s0, R04_heat.h0, aa yx1, aa yx2, aa yx3, go_sem]
 refine AKev_bif h1 ?_ ?_ <;> intro c7 h1
 try simp only [c7, aa yx1, aa yx2, aa yx3, go_sem]
 refine AKev_region T_ok follows_ok 1000 ?_
 try simp only [aa yx1, aa yx2, aa yx3, c7, go_sem]
 obtain ⟨x8, yx8, h1⟩ := bs h1
 try simp only [aa yx8, aa yx1, aa yx2, aa yx3, c7, go_sem]
 obtain ⟨x9, yx9, h1⟩ := bs h1
 try simp only [aa yx9, aa yx1, aa yx2, aa yx3, c7, aa yx8, go_sem]
 obtain ⟨x10, yx10, h1⟩ := bs h1
 try simp only [aa yx10, aa yx1, aa yx2, aa yx3, c7, aa yx8, aa yx9, go_sem]
 refine DG_done ⟨rfl, run_sound T_ok 1000 _ _ ?_⟩
 try simp only [aa yx1, aa yx2, aa yx3, c7, aa yx8, aa yx9, aa yx10, go_sem]
 refine AKev_backB (hnext1 _ _ (Option.some.inj h1).symm ?_)
 refine Weak.go [1, 2, 5, 6] [0] rfl ?_
 try simp only [R04_heat.h0, aa yx1, aa yx2, aa yx3, c7, aa yx8, aa yx9, aa yx10, go_sem]
 try simp only [c7, aa yx1, aa yx2, aa yx3, go_sem]
 refine AKev_backB (hbrk1 _ _ (Option.some.inj h1).symm ?_)
 refine Weak.go [5] [] rfl ?_
 try simp only [R04_heat.x0, aa yx1, aa yx2, aa yx3, c7, go_sem]
 rintro i6 hr_
 subst hr_
 simp only at h0
 refine rS ?_
 try simp only [R04_heat.x0, aa yx1, aa yx2, aa yx3, go_sem]
 obtain rfl := Option.some.inj h0
 refine AKev_ret rfl ?_
 try simp only [F85.rs, aa yx1, aa yx2, aa yx3, go_sem]
def F61.s0 : SC :=
 (.seq
 (.seq
 (.reg [mv 9 5 3 [],
 fa 10 27 2 1 [],
 ld 11 25 10 [10],
 ln 12 11 25 3 [11],
 b2 13 .lss 3 9 12 3 4 [9, 12]])
 (.cond (.tmp 13)
 .skip
 (.exit 0)))
 (.seq
 (.block 1
 (.seq
 (.reg [fa 17 27 2 1 [],
 ld 18 25 17 [17],
 mv 19 5 3 [],
 ia 20 25 18 19 [18, 19],
 ld 21 64 20 [20],
 cf1 22 113 21 64 132 [21],
 mv 16 22 132 [22],
 xt 23 16 0 3 [],
 xt 24 16 1 3 [16],
 sg 6 23 3 [23],
 sg 7 24 3 [24]])
 (.seq
 (.dreg [ld 25 40 3 [],
 fa 26 27 2 1 [],
 ld 27 25 26 [],
 mv 28 5 3 [],
 ia 29 25 27 28 [],
 fa 30 64 29 1 [],
 ld 31 3 30 [],
 cf2 32 85 25 31 40 3 3 [],
 sg 8 32 3 []] [[], [], [1], [], [1, 2, 3], [1, 2, 3, 4], [1, 2, 3, 4, 5], [0, 1, 2, 3, 4, 5, 6], [0, 1, 2, 3, 4, 5, 6, 7]] [25, 26, 27, 28, 29, 30, 31, 32])
 (.seq
 (.reg [mv 33 8 3 [],
 mv 34 6 3 [6],
 b2 35 .lss 3 33 34 3 4 [33, 34],
 mv 36 35 4 [35],
 og 37 (.move (.tmp 8)) 3 36 false [8],
 og 38 (.move (.tmp 7)) 3 36 false [7],
 og 39 (.binOp .gtr 3 (.tmp 37) (.tmp 38) 3) 4 36 false [37, 38],
 oq 40 (.pick (.tmp 36) (.const (.bool true)) (.tmp 39)) 4 [36, 39]])
 (.cond (.tmp 40)
 (.seq
 (.reg [sb 4 false 4 []])
 .ret)
 .skip)))))
 (.reg [mv 14 5 3 [5],
 bn 15 .add 3 14 1 3 3 [14],
 sg 5 15 3 [15]])))
def F61.c : SC :=
 (.seq
 (.reg [oq 2 (.box 27 (.tmp 0)) 0 [0],
 oq 3 (.box 40 (.tmp 1)) 0 [1],
 sb 4 false 4 [4]])
 (.seq
 (.seq
 (.reg [sn 5 0 3 []])
 (.block 0
 (.loop F61.s0)))
 (.seq
 (.reg [sb 4 true 4 []])
 .ret)))
theorem F61.rs : Tryz.f61.results.toList = [.tmp 4] := rfl
def R04_agrees.b0 (k : Nat) (f0 : Firing) (x1 : Field) : Int → Option (Stp (Int) (Unit) (Bool)) := fun (i1 : Int) =>
 bif decide (i1 < (f0.Readings.length : Int)) then
  (at? f0.Readings i1).bind fun x3 =>
  (R04_Least k x3).bind fun x4 =>
  (R04_heat k x1 x3.Place).bind fun x5 =>
  bif (!decide (x5 < x4.1)) then
   bif decide (x4.2 < x5) then
    some (.ret false)
   else
    some (.next (w64 (i1 + 1)))
  else
   some (.ret false)
 else
  some (.brk ())
noncomputable def R04_agrees.h0 (f0 : Firing) (x1 : Field) : Int → St := fun (i1 : Int) => ⟨[(2, .ptr 0 0 0), (3, .ptr 0 1 0), (5, .int .i64 i1)], [(0, .box [.sl 1 (List.map (eL 2 Range.c) f0.Kiln.Falls), .sl 6 (List.map Reading.c f0.Readings)]), (1, .box [.sl 1 (List.map eI x1.Mouths), .sl 1 (List.map (eL 1 eI) x1.Falls)])], [], 2, Tryz.f61.ntmps⟩
noncomputable def R04_agrees.x0 : Unit → St := fun (_ : Unit) => ⟨[], [], [], 1, Tryz.f61.ntmps⟩
def R04_agrees (k : Nat) (f0 : Firing) (x1 : Field) : Option (Bool) :=
 (whl (R04_agrees.b0 k f0 x1) k 0).bind fun r8 => match r8 with
 | .next _ => none
 | .ret v_ => some v_
 | .brk _ =>
  some true
theorem R04_agrees_ok (k : Nat) (f0 : Firing) (x1 : Field) (r : Bool) (h0 : R04_agrees k f0 x1 = some r) : PCall Tryz.prog 61 [.agg (Firing.c f0), .agg (Field.c x1)] (fun y => y = .bool r) := by
 refine PB (fn := Tryz.f61) (sc := F61.c) ?_
 refine rS ?_
 simp only [R04_agrees] at h0
 try simp only [F61.c, go_sem]
 obtain ⟨r8, yr8, h0⟩ := bs h0
 refine AKev_loopS yr8 (R04_agrees.h0 f0 x1) (R04_agrees.x0) ?_ ?_ ?_
 refine Weak.go [2, 3, 5] [0, 16] rfl ?_
 try simp only [R04_agrees.h0, go_sem]
 rintro i1 x_1 Bk1 Br1 h1 hnext1 hbrk1 hret1
 refine rS ?_
 simp only [R04_agrees.b0] at h1
 try simp only [F61.s0, R04_agrees.h0, go_sem]
 refine AKev_bif h1 ?_ ?_ <;> intro c2 h1
 try simp only [c2, go_sem]
 obtain ⟨x3, yx3, h1⟩ := bs h1
 try simp only [aa yx3, c2, go_sem]
 obtain ⟨x4, yx4, h1⟩ := bs h1
 refine zc0 (R04_Least_ok k _ _ yx4) ?_ (by first | rfl | simp [AV.refsL, AV.refs, AV.scal, AV.leaf]) ?_
 try simp only [c2, aa yx3, go_sem]
 try simp only [c2, aa yx3, go_sem]
 refine AKev_region T_ok follows_ok 1000 ?_
 try simp only [aa yx3, c2, go_sem]
 obtain ⟨x5, yx5, h1⟩ := bs h1
 refine DG_call0 1000 (R04_heat_ok k _ _ _ yx5) ?_ (by first | rfl | simp [AV.refsL, AV.refs, AV.scal, AV.leaf]) ?_
 try simp only [c2, aa yx3, go_sem]
 try simp only [c2, aa yx3, go_sem]
 refine DG_done ⟨rfl, run_sound T_ok 1000 _ _ ?_⟩
 try simp only [c2, aa yx3, go_sem]
 refine AKev_bif h1 ?_ ?_ <;> intro c6 h1
 have c6 := bnot_t c6
 try simp only [c6, c2, aa yx3, go_sem]
 refine AKev_bif h1 ?_ ?_ <;> intro c7 h1
 try simp only [c7, c2, aa yx3, c6, go_sem]
 obtain rfl := hret1 _ (Option.some.inj h1).symm
 simp only at h0
 obtain rfl := Option.some.inj h0
 refine AKev_ret rfl ?_
 try simp only [F61.rs, c2, aa yx3, c6, c7, go_sem]
 try simp only [c7, c2, aa yx3, c6, go_sem]
 refine AKev_backB (hnext1 _ _ (Option.some.inj h1).symm ?_)
 refine Weak.go [2, 3, 5] [0, 1] rfl ?_
 try simp only [R04_agrees.h0, c2, aa yx3, c6, c7, go_sem]
 have c6 := bnot_f c6
 try simp only [c6, c2, aa yx3, go_sem]
 obtain rfl := hret1 _ (Option.some.inj h1).symm
 simp only at h0
 obtain rfl := Option.some.inj h0
 refine AKev_ret rfl ?_
 try simp only [F61.rs, c2, aa yx3, c6, go_sem]
 try simp only [c2, go_sem]
 refine AKev_backB (hbrk1 _ _ (Option.some.inj h1).symm ?_)
 refine Weak.go [] [] rfl ?_
 try simp only [R04_agrees.x0, c2, go_sem]
 rintro _ hr_
 subst hr_
 simp only at h0
 refine rS ?_
 try simp only [R04_agrees.x0, go_sem]
 obtain rfl := Option.some.inj h0
 refine AKev_ret rfl ?_
 try simp only [F61.rs, go_sem]
def F100.s1 : SC :=
 (.seq
 (.seq
 (.reg [mv 52 6 3 [],
 fa 53 24 2 0 [],
 ld 54 22 53 [53],
 mv 55 5 3 [],
 ia 56 22 54 55 [54, 55],
 ld 57 89 56 [56],
 ln 58 57 89 3 [57],
 b2 59 .lss 3 52 58 3 4 [52, 58]])
 (.cond (.tmp 59)
 .skip
 (.exit 2)))
 (.seq
 (.block 3
 (.seq
 (.dreg [fa 62 40 3 1 [],
 ld 63 38 62 [],
 mv 64 5 3 [],
 ia 65 38 63 64 [],
 ld 66 37 65 [],
 mv 67 6 3 [],
 ia 68 37 66 67 [],
 ld 69 3 68 [],
 fa 70 24 2 0 [],
 ld 71 22 70 [],
 mv 72 5 3 [],
 ia 73 22 71 72 [],
 ld 74 89 73 [],
 mv 75 6 3 [],
 ia 76 89 74 75 [],
 fa 77 30 76 0 [],
 ld 78 3 77 [],
 fa 79 24 2 0 [],
 ld 80 22 79 [],
 mv 81 5 3 [],
 ia 82 22 80 81 [],
 ld 83 89 82 [],
 mv 84 6 3 [],
 ia 85 89 83 84 [],
 fa 86 30 85 1 [],
 ld 87 3 86 [],
 oq 88 (.call ⟨.value (.func 96), #[.tmp 69, .tmp 78, .tmp 87], #[3, 3, 3]⟩) 4 [],
 oq 89 (.unOp .not 4 (.tmp 88)) 4 []] [[], [0], [], [0, 1, 2], [0, 1, 2, 3], [], [0, 1, 2, 3, 4, 5], [0, 1, 2, 3, 4, 5, 6], [], [8], [], [8, 9, 10], [8, 9, 10, 11], [], [8, 9, 10, 11, 12, 13], [8, 9, 10, 11, 12, 13, 14], [8, 9, 10, 11, 12, 13, 14, 15], [], [17], [], [17, 18, 19], [17, 18, 19, 20], [], [17, 18, 19, 20, 21, 22], [17, 18, 19, 20, 21, 22, 23], [17, 18, 19, 20, 21, 22, 23, 24], [0, 1, 2, 3, 4, 5, 6, 7, 8, 9, 10, 11, 12, 13, 14, 15, 16, 17, 18, 19, 20, 21, 22, 23, 24, 25], [0, 1, 2, 3, 4, 5, 6, 7, 8, 9, 10, 11, 12, 13, 14, 15, 16, 17, 18, 19, 20, 21, 22, 23, 24, 25, 26]] [62, 63, 64, 65, 66, 67, 68, 69, 70, 71, 72, 73, 74, 75, 76, 77, 78, 79, 80, 81, 82, 83, 84, 85, 86, 87, 88])
 (.cond (.tmp 89)
 (.seq
 (.reg [sb 4 false 4 []])
 .ret)
 .skip)))
 (.reg [mv 60 6 3 [6],
 bn 61 .add 3 60 1 3 3 [60],
 sg 6 61 3 [61]])))
def F100.s0 : SC :=
 (.seq
 (.seq
 (.reg [mv 23 5 3 [],
 fa 24 24 2 0 [],
 ld 25 22 24 [24],
 ln 26 25 22 3 [25],
 b2 27 .lss 3 23 26 3 4 [23, 26]])
 (.cond (.tmp 27)
 .skip
 (.exit 0)))
 (.seq
 (.block 1
 (.seq
 (.seq
 (.dreg [fa 30 40 3 0 [],
 ld 31 37 30 [],
 mv 32 5 3 [],
 ia 33 37 31 32 [],
 ld 34 3 33 [],
 oq 35 (.call ⟨.value (.func 96), #[.tmp 34, .const (.int .i64 0), .const (.int .i64 3000)], #[3, 3, 3]⟩) 4 [],
 oq 36 (.unOp .not 4 (.tmp 35)) 4 [],
 mv 37 36 4 [],
 og 38 (.fieldAddr 40 (.tmp 3) 1) 0 37 false [],
 og 39 (.load 38 (.tmp 38)) 38 37 false [],
 og 40 (.move (.tmp 5)) 3 37 false [],
 og 41 (.indexAddr 38 (.tmp 39) (.tmp 40)) 0 37 false [],
 og 42 (.load 37 (.tmp 41)) 37 37 false [],
 og 43 (.call ⟨.builtin .len, #[.tmp 42], #[37]⟩) 3 37 false [],
 og 44 (.fieldAddr 24 (.tmp 2) 0) 0 37 false [],
 og 45 (.load 22 (.tmp 44)) 22 37 false [],
 og 46 (.move (.tmp 5)) 3 37 false [],
 og 47 (.indexAddr 22 (.tmp 45) (.tmp 46)) 0 37 false [],
 og 48 (.load 89 (.tmp 47)) 89 37 false [],
 og 49 (.call ⟨.builtin .len, #[.tmp 48], #[89]⟩) 3 37 false [],
 og 50 (.binOp .neq 3 (.tmp 43) (.tmp 49) 3) 4 37 false [],
 oq 51 (.pick (.tmp 37) (.const (.bool true)) (.tmp 50)) 4 []] [[], [0], [], [0, 1, 2], [0, 1, 2, 3], [0, 1, 2, 3, 4], [0, 1, 2, 3, 4, 5], [0, 1, 2, 3, 4, 5, 6], [0, 1, 2, 3, 4, 5, 6, 7], [0, 1, 2, 3, 4, 5, 6, 7, 8], [0, 1, 2, 3, 4, 5, 6, 7], [0, 1, 2, 3, 4, 5, 6, 7, 8, 9, 10], [0, 1, 2, 3, 4, 5, 6, 7, 8, 9, 10, 11], [0, 1, 2, 3, 4, 5, 6, 7, 8, 9, 10, 11, 12], [0, 1, 2, 3, 4, 5, 6, 7], [0, 1, 2, 3, 4, 5, 6, 7, 14], [0, 1, 2, 3, 4, 5, 6, 7], [0, 1, 2, 3, 4, 5, 6, 7, 14, 15, 16], [0, 1, 2, 3, 4, 5, 6, 7, 14, 15, 16, 17], [0, 1, 2, 3, 4, 5, 6, 7, 14, 15, 16, 17, 18], [0, 1, 2, 3, 4, 5, 6, 7, 8, 9, 10, 11, 12, 13, 14, 15, 16, 17, 18, 19], [0, 1, 2, 3, 4, 5, 6, 7, 8, 9, 10, 11, 12, 13, 14, 15, 16, 17, 18, 19, 20]] [30, 31, 32, 33, 34, 35, 36, 37, 38, 39, 40, 41, 42, 43, 44, 45, 46, 47, 48, 49, 50])
 (.cond (.tmp 51)
 (.seq
 (.reg [sb 4 false 4 []])
 .ret)
 .skip))
 (.seq
 (.reg [sn 6 0 3 []])
 (.block 2
 (.loop F100.s1)))))
 (.reg [mv 28 5 3 [5],
 bn 29 .add 3 28 1 3 3 [28],
 sg 5 29 3 [29]])))
def F100.c : SC :=
 (.seq
 (.reg [oq 2 (.box 24 (.tmp 0)) 0 [0],
 oq 3 (.box 40 (.tmp 1)) 0 [1],
 sb 4 false 4 [4]])
 (.seq
 (.seq
 (.reg [fa 7 40 3 0 [],
 ld 8 37 7 [7],
 ln 9 8 37 3 [8],
 fa 10 24 2 0 [],
 ld 11 22 10 [10],
 ln 12 11 22 3 [11],
 b2 13 .neq 3 9 12 3 4 [9, 12],
 mv 14 13 4 [13],
 og 15 (.fieldAddr 40 (.tmp 3) 1) 0 14 false [],
 og 16 (.load 38 (.tmp 15)) 38 14 false [15],
 og 17 (.call ⟨.builtin .len, #[.tmp 16], #[38]⟩) 3 14 false [16],
 og 18 (.fieldAddr 24 (.tmp 2) 0) 0 14 false [],
 og 19 (.load 22 (.tmp 18)) 22 14 false [18],
 og 20 (.call ⟨.builtin .len, #[.tmp 19], #[22]⟩) 3 14 false [19],
 og 21 (.binOp .neq 3 (.tmp 17) (.tmp 20) 3) 4 14 false [17, 20],
 oq 22 (.pick (.tmp 14) (.const (.bool true)) (.tmp 21)) 4 [14, 21]])
 (.cond (.tmp 22)
 (.seq
 (.reg [sb 4 false 4 []])
 .ret)
 .skip))
 (.seq
 (.seq
 (.reg [sn 5 0 3 []])
 (.block 0
 (.loop F100.s0)))
 (.seq
 (.reg [sb 4 true 4 []])
 .ret))))
theorem F100.rs : Tryz.f100.results.toList = [.tmp 4] := rfl
def R04_isField.b1 (k : Nat) (x8 : (List Int)) (x9 : (List Range)) : Int → Option (Stp (Int) (Unit) (Bool)) := fun (i11 : Int) =>
 bif decide (i11 < (x9.length : Int)) then
  (at? x8 i11).bind fun x13 =>
  (at? x9 i11).bind fun x14 =>
  (R01_In k x13 x14.Lo x14.Hi).bind fun x15 =>
  bif (!x15) then
   some (.ret false)
  else
   some (.next (w64 (i11 + 1)))
 else
  some (.brk ())
def R04_isField.b0 (k : Nat) (k0 : Kiln) (x1 : Field) : Int → Option (Stp (Int) (Unit) (Bool)) := fun (i3 : Int) =>
 bif decide (i3 < (k0.Falls.length : Int)) then
  (at? x1.Mouths i3).bind fun x5 =>
  (R01_In k x5 0 3000).bind fun x6 =>
  bif x6 then
   (at? x1.Falls i3).bind fun x8 =>
   (at? k0.Falls i3).bind fun x9 =>
   bif (!decide ((x8.length : Int) = (x9.length : Int))) then
    some (.ret false)
   else
    (whl (R04_isField.b1 k x8 x9) k 0).bind fun r17 => match r17 with
    | .next _ => none
    | .ret v_ => some (.ret v_)
    | .brk _ =>
     some (.next (w64 (i3 + 1)))
  else
   some (.ret false)
 else
  some (.brk ())
noncomputable def R04_isField.h1 (k0 : Kiln) (x1 : Field) (i3 : Int) : Int → St := fun (i11 : Int) => ⟨[(2, .ptr 0 0 0), (3, .ptr 0 1 0), (5, .int .i64 i3), (6, .int .i64 i11)], [(0, .box [.sl 1 (List.map (eL 2 Range.c) k0.Falls)]), (1, .box [.sl 1 (List.map eI x1.Mouths), .sl 1 (List.map (eL 1 eI) x1.Falls)])], [], 2, Tryz.f100.ntmps⟩
noncomputable def R04_isField.x1 (k0 : Kiln) (x1 : Field) (i3 : Int) : Unit → St := fun (_ : Unit) => ⟨[(2, .ptr 0 0 0), (3, .ptr 0 1 0), (5, .int .i64 i3)], [(0, .box [.sl 1 (List.map (eL 2 Range.c) k0.Falls)]), (1, .box [.sl 1 (List.map eI x1.Mouths), .sl 1 (List.map (eL 1 eI) x1.Falls)])], [], 2, Tryz.f100.ntmps⟩
noncomputable def R04_isField.h0 (k0 : Kiln) (x1 : Field) : Int → St := fun (i3 : Int) => ⟨[(2, .ptr 0 0 0), (3, .ptr 0 1 0), (5, .int .i64 i3)], [(0, .box [.sl 1 (List.map (eL 2 Range.c) k0.Falls)]), (1, .box [.sl 1 (List.map eI x1.Mouths), .sl 1 (List.map (eL 1 eI) x1.Falls)])], [], 2, Tryz.f100.ntmps⟩
noncomputable def R04_isField.x0 : Unit → St := fun (_ : Unit) => ⟨[], [], [], 1, Tryz.f100.ntmps⟩
def R04_isField (k : Nat) (k0 : Kiln) (x1 : Field) : Option (Bool) :=
 bif decide ((x1.Mouths.length : Int) = (k0.Falls.length : Int)) then
  bif (!decide ((x1.Falls.length : Int) = (k0.Falls.length : Int))) then
   some false
  else
   (whl (R04_isField.b0 k k0 x1) k 0).bind fun r18 => match r18 with
   | .next _ => none
   | .ret v_ => some v_
   | .brk _ =>
    some true
 else
  some false
theorem R04_isField_ok (k : Nat) (k0 : Kiln) (x1 : Field) (r : Bool) (h0 : R04_isField k k0 x1 = some r) : PCall Tryz.prog 100 [.agg (Kiln.c k0), .agg (Field.c x1)] (fun y => y = .bool r) := by
 refine PB (fn := Tryz.f100) (sc := F100.c) ?_
 refine rS ?_
 simp only [R04_isField] at h0
 try simp only [F100.c, go_sem]
 refine AKev_bif h0 ?_ ?_ <;> intro c1 h0
 try simp only [c1, go_sem]
 refine AKev_bif h0 ?_ ?_ <;> intro c2 h0
 have c2 := bnot_t c2
 try simp only [c2, c1, go_sem]
 obtain rfl := Option.some.inj h0
 refine AKev_ret rfl ?_
 try simp only [F100.rs, c1, c2, go_sem]
 have c2 := bnot_f c2
 try simp only [c2, c1, go_sem]
 obtain ⟨r18, yr18, h0⟩ := bs h0
 refine AKev_loopS yr18 (R04_isField.h0 k0 x1) (R04_isField.x0) ?_ ?_ ?_
 refine Weak.go [2, 3, 5] [0, 16] rfl ?_
 try simp only [R04_isField.h0, c1, c2, go_sem]
 rintro i3 x_1 Bk1 Br1 h1 hnext1 hbrk1 hret1
 refine rS ?_
 simp only [R04_isField.b0] at h1
 try simp only [F100.s0, R04_isField.h0, c1, c2, go_sem]
 refine AKev_bif h1 ?_ ?_ <;> intro c4 h1
 try simp only [c4, c1, c2, go_sem]
 refine AKev_region T_ok follows_ok 1000 ?_
 try simp only [c1, c2, c4, go_sem]
 obtain ⟨x5, yx5, h1⟩ := bs h1
 try simp only [aa yx5, c1, c2, c4, go_sem]
 obtain ⟨x6, yx6, h1⟩ := bs h1
 refine DG_call0 1000 (R01_In_ok k _ _ _ _ yx6) ?_ (by first | rfl | simp [AV.refsL, AV.refs, AV.scal, AV.leaf]) ?_
 try simp only [c1, c2, c4, aa yx5, go_sem]
 try simp only [c1, c2, c4, aa yx5, go_sem]
 refine DG_bif h1 ?_ ?_ <;> intro c7 h1
 try simp only [c7, c1, c2, c4, aa yx5, go_sem]
 obtain ⟨x8, yx8, h1⟩ := bs h1
 try simp only [aa yx8, c1, c2, c4, aa yx5, c7, go_sem]
 obtain ⟨x9, yx9, h1⟩ := bs h1
 try simp only [aa yx9, c1, c2, c4, aa yx5, c7, aa yx8, go_sem]
 refine DG_done ⟨rfl, run_sound T_ok 1000 _ _ ?_⟩
 try simp only [c1, c2, c4, aa yx5, c7, aa yx8, aa yx9, go_sem]
 refine AKev_bif h1 ?_ ?_ <;> intro c10 h1
 have c10 := bnot_t c10
 try simp only [c10, c1, c2, c4, aa yx5, c7, aa yx8, aa yx9, go_sem]
 obtain rfl := hret1 _ (Option.some.inj h1).symm
 simp only at h0
 obtain rfl := Option.some.inj h0
 refine AKev_ret rfl ?_
 try simp only [F100.rs, c1, c2, c4, aa yx5, c7, aa yx8, aa yx9, c10, go_sem]
 have c10 := bnot_f c10
 try simp only [c10, c1, c2, c4, aa yx5, c7, aa yx8, aa yx9, go_sem]
 obtain ⟨r17, yr17, h1⟩ := bs h1
 refine AKev_loopS yr17 (R04_isField.h1 k0 x1 i3) (R04_isField.x1 k0 x1 i3) ?_ ?_ ?_
 refine Weak.go [2, 3, 5, 6] [0, 1] rfl ?_
 try simp only [R04_isField.h1, c1, c2, c4, aa yx5, c7, aa yx8, aa yx9, c10, go_sem]
 rintro i11 x_2 Bk2 Br2 h2 hnext2 hbrk2 hret2
 refine rS ?_
 simp only [R04_isField.b1] at h2
 try simp only [F100.s1, R04_isField.h1, aa yx9, c1, c2, c4, aa yx5, c7, aa yx8, c10, go_sem]
 refine AKev_bif h2 ?_ ?_ <;> intro c12 h2
 try simp only [c12, c1, c2, c4, aa yx5, c7, aa yx8, aa yx9, c10, go_sem]
 refine AKev_region T_ok follows_ok 1000 ?_
 try simp only [aa yx8, c1, c2, c4, aa yx5, c7, aa yx9, c10, c12, go_sem]
 obtain ⟨x13, yx13, h2⟩ := bs h2
 try simp only [aa yx13, aa yx9, c1, c2, c4, aa yx5, c7, aa yx8, c10, c12, go_sem]
 obtain ⟨x14, yx14, h2⟩ := bs h2
 try simp only [aa yx14, aa yx9, c1, c2, c4, aa yx5, c7, aa yx8, c10, c12, aa yx13, go_sem]
 obtain ⟨x15, yx15, h2⟩ := bs h2
 refine DG_call0 1000 (R01_In_ok k _ _ _ _ yx15) ?_ (by first | rfl | simp [AV.refsL, AV.refs, AV.scal, AV.leaf]) ?_
 try simp only [c1, c2, c4, aa yx5, c7, aa yx8, aa yx9, c10, c12, aa yx13, aa yx14, go_sem]
 try simp only [c1, c2, c4, aa yx5, c7, aa yx8, aa yx9, c10, c12, aa yx13, aa yx14, go_sem]
 refine DG_done ⟨rfl, run_sound T_ok 1000 _ _ ?_⟩
 try simp only [c1, c2, c4, aa yx5, c7, aa yx8, aa yx9, c10, c12, aa yx13, aa yx14, go_sem]
 refine AKev_bif h2 ?_ ?_ <;> intro c16 h2
 have c16 := bnot_t c16
 try simp only [c16, c1, c2, c4, aa yx5, c7, aa yx8, aa yx9, c10, c12, aa yx13, aa yx14, go_sem]
 obtain rfl := hret2 _ (Option.some.inj h2).symm
 simp only at h1
 obtain rfl := hret1 _ (Option.some.inj h1).symm
 simp only at h0
 obtain rfl := Option.some.inj h0
 refine AKev_ret rfl ?_
 try simp only [F100.rs, c1, c2, c4, aa yx5, c7, aa yx8, aa yx9, c10, c12, aa yx13, aa yx14, c16, go_sem]
 have c16 := bnot_f c16
 try simp only [c16, c1, c2, c4, aa yx5, c7, aa yx8, aa yx9, c10, c12, aa yx13, aa yx14, go_sem]
 refine AKev_backB (hnext2 _ _ (Option.some.inj h2).symm ?_)
 refine Weak.go [2, 3, 5, 6] [0, 1] rfl ?_
 try simp only [R04_isField.h1, c1, c2, c4, aa yx5, c7, aa yx8, aa yx9, c10, c12, aa yx13, aa yx14, c16, go_sem]
 try simp only [c12, c1, c2, c4, aa yx5, c7, aa yx8, aa yx9, c10, go_sem]
 refine AKev_backB (hbrk2 _ _ (Option.some.inj h2).symm ?_)
 refine Weak.go [2, 3, 5] [0, 1] rfl ?_
 try simp only [R04_isField.x1, c1, c2, c4, aa yx5, c7, aa yx8, aa yx9, c10, c12, go_sem]
 rintro _ hr_
 subst hr_
 simp only at h1
 refine rS ?_
 try simp only [R04_isField.x1, c1, c2, c4, aa yx5, c7, aa yx8, aa yx9, c10, go_sem]
 refine AKev_backB (hnext1 _ _ (Option.some.inj h1).symm ?_)
 refine Weak.go [2, 3, 5] [0, 1] rfl ?_
 try simp only [R04_isField.h0, c1, c2, c4, aa yx5, c7, aa yx8, aa yx9, c10, go_sem]
 try simp only [c7, c1, c2, c4, aa yx5, go_sem]
 refine DG_done ⟨rfl, run_sound T_ok 1000 _ _ ?_⟩
 try simp only [c1, c2, c4, aa yx5, c7, go_sem]
 obtain rfl := hret1 _ (Option.some.inj h1).symm
 simp only at h0
 obtain rfl := Option.some.inj h0
 refine AKev_ret rfl ?_
 try simp only [F100.rs, c1, c2, c4, aa yx5, c7, go_sem]
 try simp only [c4, c1, c2, go_sem]
 refine AKev_backB (hbrk1 _ _ (Option.some.inj h1).symm ?_)
 refine Weak.go [] [] rfl ?_
 try simp only [R04_isField.x0, c1, c2, c4, go_sem]
 rintro _ hr_
 subst hr_
 simp only at h0
 refine rS ?_
 try simp only [R04_isField.x0, c1, c2, go_sem]
 obtain rfl := Option.some.inj h0
 refine AKev_ret rfl ?_
 try simp only [F100.rs, c1, c2, go_sem]
 try simp only [c1, go_sem]
 obtain rfl := Option.some.inj h0
 refine AKev_ret rfl ?_
 try simp only [F100.rs, c1, go_sem]
def F51.c : SC :=
 (.seq
 (.reg [oq 2 (.box 27 (.tmp 0)) 0 [0],
 oq 3 (.box 40 (.tmp 1)) 0 [1],
 sn 4 0 33 [4]])
 (.seq
 (.seq
 (.reg [ld 5 27 2 [],
 cf1 6 43 5 27 33 [5],
 bn 7 .neq 33 6 0 33 4 [6]])
 (.cond (.tmp 7)
 (.seq
 (.reg [sn 4 42 33 []])
 .ret)
 .skip))
 (.seq
 (.seq
 (.reg [fa 8 27 2 0 [],
 ld 9 24 8 [8],
 ld 10 40 3 [],
 cf2 11 100 9 10 24 40 4 [9, 10],
 oq 12 (.unOp .not 4 (.tmp 11)) 4 [11],
 mv 13 12 4 [12],
 og 14 (.load 27 (.tmp 2)) 27 13 false [2],
 og 15 (.load 40 (.tmp 3)) 40 13 false [3],
 og 16 (.call ⟨.value (.func 61), #[.tmp 14, .tmp 15], #[27, 40]⟩) 4 13 false [14, 15],
 og 17 (.unOp .not 4 (.tmp 16)) 4 13 false [16],
 oq 18 (.pick (.tmp 13) (.const (.bool true)) (.tmp 17)) 4 [13, 17]])
 (.cond (.tmp 18)
 (.seq
 (.reg [sn 4 45 33 []])
 .ret)
 .skip))
 (.seq
 (.reg [sn 4 0 33 []])
 .ret))))
theorem F51.rs : Tryz.f51.results.toList = [.tmp 4] := rfl
def R04_CheckField (k : Nat) (f0 : Firing) (x1 : Field) : Option (Int) :=
 (R04_Check k f0).bind fun x2 =>
 bif (!decide (x2 = (0 : Int))) then
  some 42
 else
  (R04_isField k f0.Kiln x1).bind fun x4 =>
  bif x4 then
   (R04_agrees k f0 x1).bind fun x6 =>
   bif (!x6) then
    some 45
   else
    some 0
  else
   some 45
theorem R04_CheckField_ok (k : Nat) (f0 : Firing) (x1 : Field) (r : Int) (h0 : R04_CheckField k f0 x1 = some r) : PCall Tryz.prog 51 [.agg (Firing.c f0), .agg (Field.c x1)] (fun y => y = .int .i64 r) := by
 refine PB (fn := Tryz.f51) (sc := F51.c) ?_
 refine rS ?_
 simp only [R04_CheckField] at h0
 try simp only [F51.c, go_sem]
 obtain ⟨x2, yx2, h0⟩ := bs h0
 refine zc0 (R04_Check_ok k _ _ yx2) ?_ (by first | rfl | simp [AV.refsL, AV.refs, AV.scal, AV.leaf]) ?_
 try simp only [go_sem]
 try simp only [go_sem]
 refine AKev_bif h0 ?_ ?_ <;> intro c3 h0
 have c3 := bnot_t c3
 try simp only [c3, go_sem]
 obtain rfl := Option.some.inj h0
 refine AKev_ret rfl ?_
 try simp only [F51.rs, c3, go_sem]
 have c3 := bnot_f c3
 try simp only [c3, go_sem]
 obtain ⟨x4, yx4, h0⟩ := bs h0
 refine zc0 (R04_isField_ok k _ _ _ yx4) ?_ (by first | rfl | simp [AV.refsL, AV.refs, AV.scal, AV.leaf]) ?_
 try simp only [c3, go_sem]
 try simp only [c3, go_sem]
 refine AKev_bif h0 ?_ ?_ <;> intro c5 h0
 try simp only [c5, c3, go_sem]
 obtain ⟨x6, yx6, h0⟩ := bs h0
 refine zc0 (R04_agrees_ok k _ _ _ yx6) ?_ (by first | rfl | simp [AV.refsL, AV.refs, AV.scal, AV.leaf]) ?_
 try simp only [c3, c5, go_sem]
 try simp only [c3, c5, go_sem]
 refine AKev_bif h0 ?_ ?_ <;> intro c7 h0
 have c7 := bnot_t c7
 try simp only [c7, c3, c5, go_sem]
 obtain rfl := Option.some.inj h0
 refine AKev_ret rfl ?_
 try simp only [F51.rs, c3, c5, c7, go_sem]
 have c7 := bnot_f c7
 try simp only [c7, c3, c5, go_sem]
 obtain rfl := Option.some.inj h0
 refine AKev_ret rfl ?_
 try simp only [F51.rs, c3, c5, c7, go_sem]
 try simp only [c5, c3, go_sem]
 obtain rfl := Option.some.inj h0
 refine AKev_ret rfl ?_
 try simp only [F51.rs, c3, c5, go_sem]
def F13.c : SC :=
 (.seq
 (.reg [oq 3 (.box 27 (.tmp 0)) 0 [0],
 oq 5 (.box 40 (.tmp 2)) 0 [2],
 sn 6 0 33 [6]])
 (.seq
 (.reg [ld 10 27 3 [],
 mv 11 1 28 [],
 cf2 12 9 10 11 27 28 34 [10, 11],
 mv 9 12 34 [12],
 xt 13 9 0 3 [],
 xt 14 9 1 33 [9],
 sg 7 13 3 [13],
 sg 8 14 33 [14]])
 (.seq
 (.seq
 (.reg [mv 15 8 33 [],
 bn 16 .neq 33 15 0 33 4 [15]])
 (.cond (.tmp 16)
 (.seq
 (.reg [mv 17 8 33 [8],
 sg 6 17 33 [17]])
 .ret)
 .skip))
 (.seq
 (.seq
 (.reg [mv 18 7 3 [7],
 bn 19 .eql 3 18 0 3 4 [18]])
 (.cond (.tmp 19)
 (.seq
 (.reg [sn 6 3 33 []])
 .ret)
 .skip))
 (.seq
 (.seq
 (.dreg [ld 20 27 3 [],
 ld 21 40 5 [],
 cf2 22 51 20 21 27 40 33 [],
 bn 23 .neq 33 22 0 33 4 [],
 mv 24 23 4 [],
 og 25 (.load 27 (.tmp 3)) 27 24 false [],
 og 26 (.move (.tmp 1)) 28 24 false [],
 og 27 (.call ⟨.value (.func 62), #[.tmp 25, .tmp 26], #[27, 28]⟩) 27 24 false [],
 og 28 (.load 40 (.tmp 5)) 40 24 false [],
 og 29 (.call ⟨.value (.func 61), #[.tmp 27, .tmp 28], #[27, 40]⟩) 4 24 false [],
 og 30 (.unOp .not 4 (.tmp 29)) 4 24 false [],
 oq 31 (.pick (.tmp 24) (.const (.bool true)) (.tmp 30)) 4 []] [[], [], [0, 1], [0, 1, 2], [0, 1, 2, 3], [0, 1, 2, 3, 4], [0, 1, 2, 3, 4], [0, 1, 2, 3, 4, 5, 6], [0, 1, 2, 3, 4], [0, 1, 2, 3, 4, 5, 6, 7, 8], [0, 1, 2, 3, 4, 5, 6, 7, 8, 9], [0, 1, 2, 3, 4, 5, 6, 7, 8, 9, 10]] [1, 3, 5, 20, 21, 22, 23, 24, 25, 26, 27, 28, 29, 30])
 (.cond (.tmp 31)
 (.seq
 (.reg [sn 6 45 33 []])
 .ret)
 .skip))
 (.seq
 (.reg [sn 6 0 33 []])
 .ret))))))
theorem F13.rs : Tryz.f13.results.toList = [.tmp 6] := rfl
def R04_Shows (k : Nat) (f0 : Firing) (l1 : (List Want)) (x2 : Field) : Option (Int) :=
 (R04_Together k f0 l1).bind fun x1 =>
 bif (!decide (x1.2 = (0 : Int))) then
  some x1.2
 else
  bif decide (x1.1 = (0 : Int)) then
   some 3
  else
   (R04_CheckField k f0 x2).bind fun x4 =>
   bif decide (x4 = (0 : Int)) then
    (R04_wanted k f0 l1).bind fun x6 =>
    (R04_agrees k x6 x2).bind fun x7 =>
    bif (!x7) then
     some 45
    else
     some 0
   else
    some 45
theorem R04_Shows_ok (k : Nat) (f0 : Firing) (l1 : (List Want)) (x2 : Field) (r : Int) (h0 : R04_Shows k f0 l1 x2 = some r) : PCall Tryz.prog 13 [.agg (Firing.c f0), .sl 3 (List.map Want.c l1), .agg (Field.c x2)] (fun y => y = .int .i64 r) := by
 refine PB (fn := Tryz.f13) (sc := F13.c) ?_
 refine rS ?_
 simp only [R04_Shows] at h0
 try simp only [F13.c, go_sem]
 obtain ⟨x1, yx1, h0⟩ := bs h0
 refine zc0 (R04_Together_ok k _ _ _ yx1) ?_ (by first | rfl | simp [AV.refsL, AV.refs, AV.scal, AV.leaf]) ?_
 try simp only [go_sem]
 try simp only [go_sem]
 refine AKev_bif h0 ?_ ?_ <;> intro c2 h0
 have c2 := bnot_t c2
 try simp only [c2, go_sem]
 obtain rfl := Option.some.inj h0
 refine AKev_ret rfl ?_
 try simp only [F13.rs, c2, go_sem]
 have c2 := bnot_f c2
 try simp only [c2, go_sem]
 refine AKev_bif h0 ?_ ?_ <;> intro c3 h0
 try simp only [c3, c2, go_sem]
 obtain rfl := Option.some.inj h0
 refine AKev_ret rfl ?_
 try simp only [F13.rs, c2, c3, go_sem]
 try simp only [c3, c2, go_sem]
 refine AKev_region T_ok follows_ok 1000 ?_
 try simp only [c2, c3, go_sem]
 obtain ⟨x4, yx4, h0⟩ := bs h0
 refine DG_call0 1000 (R04_CheckField_ok k _ _ _ yx4) ?_ (by first | rfl | simp [AV.refsL, AV.refs, AV.scal, AV.leaf]) ?_
 try simp only [c2, c3, go_sem]
 try simp only [c2, c3, go_sem]
 refine DG_bif h0 ?_ ?_ <;> intro c5 h0
 try simp only [c5, c2, c3, go_sem]
 obtain ⟨x6, yx6, h0⟩ := bs h0
 refine DG_call0 1000 (R04_wanted_ok k _ _ _ yx6) ?_ (by first | rfl | simp [AV.refsL, AV.refs, AV.scal, AV.leaf]) ?_
 try simp only [c2, c3, c5, go_sem]
 try simp only [c2, c3, c5, go_sem]
 obtain ⟨x7, yx7, h0⟩ := bs h0
 refine DG_call0 1000 (R04_agrees_ok k _ _ _ yx7) ?_ (by first | rfl | simp [AV.refsL, AV.refs, AV.scal, AV.leaf]) ?_
 try simp only [c2, c3, c5, go_sem]
 try simp only [c2, c3, c5, go_sem]
 refine DG_done ⟨rfl, run_sound T_ok 1000 _ _ ?_⟩
 try simp only [c2, c3, c5, go_sem]
 refine AKev_bif h0 ?_ ?_ <;> intro c8 h0
 have c8 := bnot_t c8
 try simp only [c8, c2, c3, c5, go_sem]
 obtain rfl := Option.some.inj h0
 refine AKev_ret rfl ?_
 try simp only [F13.rs, c2, c3, c5, c8, go_sem]
 have c8 := bnot_f c8
 try simp only [c8, c2, c3, c5, go_sem]
 obtain rfl := Option.some.inj h0
 refine AKev_ret rfl ?_
 try simp only [F13.rs, c2, c3, c5, c8, go_sem]
 try simp only [c5, c2, c3, go_sem]
 refine DG_done ⟨rfl, run_sound T_ok 1000 _ _ ?_⟩
 try simp only [c2, c3, c5, go_sem]
 obtain rfl := Option.some.inj h0
 refine AKev_ret rfl ?_
 try simp only [F13.rs, c2, c3, c5, go_sem]
def F14.c : SC :=
 (.seq
 (.reg [oq 1 (.box 40 (.tmp 0)) 0 [0],
 sb 2 false 4 [2]])
 (.seq
 (.reg [fa 3 40 1 0 [],
 ld 4 37 3 [3],
 ln 5 4 37 3 [4],
 bn 6 .eql 3 5 0 3 4 [5],
 mv 7 6 4 [6],
 og 8 (.fieldAddr 40 (.tmp 1) 1) 0 7 true [1],
 og 9 (.load 38 (.tmp 8)) 38 7 true [8],
 og 10 (.call ⟨.builtin .len, #[.tmp 9], #[38]⟩) 3 7 true [9],
 og 11 (.binOp .eql 3 (.tmp 10) (.const (.int .i64 0)) 3) 4 7 true [10],
 oq 12 (.pick (.tmp 7) (.tmp 11) (.const (.bool false))) 4 [7, 11],
 sg 2 12 4 [12]])
 .ret))
theorem F14.rs : Tryz.f14.results.toList = [.tmp 2] := rfl
def R04_Empty (k : Nat) (x0 : Field) : Option (Bool) :=
 bif decide ((x0.Mouths.length : Int) = (0 : Int)) then
  some (decide ((x0.Falls.length : Int) = (0 : Int)))
 else
  some false
theorem R04_Empty_ok (k : Nat) (x0 : Field) (r : Bool) (h0 : R04_Empty k x0 = some r) : PCall Tryz.prog 14 [.agg (Field.c x0)] (fun y => y = .bool r) := by
 refine PB (fn := Tryz.f14) (sc := F14.c) ?_
 refine rS ?_
 simp only [R04_Empty] at h0
 try simp only [F14.c, go_sem]
 refine AKev_bif h0 ?_ ?_ <;> intro c1 h0
 try simp only [c1, go_sem]
 obtain rfl := Option.some.inj h0
 refine AKev_ret rfl ?_
 try simp only [F14.rs, c1, go_sem]
 try simp only [c1, go_sem]
 obtain rfl := Option.some.inj h0
 refine AKev_ret rfl ?_
 try simp only [F14.rs, c1, go_sem]
def F117.s1 : SC :=
 (.seq
 (.seq
 (.reg [mv 29 5 3 [],
 mv 30 4 37 [],
 ln 31 30 37 3 [30],
 b2 32 .lss 3 29 31 3 4 [29, 31]])
 (.cond (.tmp 32)
 .skip
 (.exit 2)))
 (.seq
 (.block 3
 (.seq
 (.dreg [mv 35 4 37 [],
 mv 36 5 3 [],
 ia 37 37 35 36 [],
 ld 38 3 37 [],
 mv 39 4 37 [],
 mv 40 5 3 [],
 bn 41 .sub 3 40 1 3 3 [],
 ia 42 37 39 41 [],
 ld 43 3 42 [],
 b2 44 .neq 3 38 43 3 4 []] [[], [], [0, 1], [0, 1, 2], [], [], [5], [4, 5, 6], [4, 5, 6, 7], [0, 1, 2, 3, 4, 5, 6, 7, 8]] [35, 36, 37, 38, 39, 40, 41, 42, 43])
 (.cond (.tmp 44)
 (.seq
 (.reg [mv 45 0 37 [],
 mv 46 3 3 [],
 mv 47 4 37 [],
 mv 48 5 3 [],
 ia 49 37 47 48 [47, 48],
 ld 50 3 49 [49],
 ia 51 37 45 46 [45, 46],
 ⟨none, .store 3 (.tmp 51) (.tmp 50), 0, none, [50, 51]⟩])
 (.reg [mv 52 3 3 [3],
 bn 53 .add 3 52 1 3 3 [52],
 sg 3 53 3 [53]]))
 .skip)))
 (.reg [mv 33 5 3 [5],
 bn 34 .add 3 33 1 3 3 [33],
 sg 5 34 3 [34]])))
def F117.s0 : SC :=
 (.seq
 (.seq
 (.reg [mv 10 3 3 [],
 mv 11 0 37 [],
 ln 12 11 37 3 [11],
 b2 13 .lss 3 10 12 3 4 [10, 12]])
 (.cond (.tmp 13)
 .skip
 (.exit 0)))
 (.seq
 (.block 1
 (.seq
 (.dreg [mv 16 0 37 [],
 mv 17 3 3 [],
 ia 18 37 16 17 [],
 ld 19 3 18 [],
 mv 20 0 37 [],
 mv 21 3 3 [],
 bn 22 .sub 3 21 1 3 3 [],
 ia 23 37 20 22 [],
 ld 24 3 23 [],
 b2 25 .eql 3 19 24 3 4 []] [[], [], [0, 1], [0, 1, 2], [], [], [5], [4, 5, 6], [4, 5, 6, 7], [0, 1, 2, 3, 4, 5, 6, 7, 8]] [16, 17, 18, 19, 20, 21, 22, 23, 24])
 (.cond (.tmp 25)
 (.seq
 (.reg [mv 26 0 37 [],
 mv 27 3 3 [],
 oq 28 (.slice 37 (.tmp 26) (some (.tmp 27)) none none) 37 [26, 27],
 sg 4 28 37 [28]])
 (.seq
 (.seq
 (.reg [sn 5 1 3 []])
 (.block 2
 (.loop F117.s1)))
 (.seq
 (.reg [mv 54 0 37 [],
 mv 55 3 3 [],
 oq 56 (.slice 37 (.tmp 54) (some (.tmp 55)) none none) 37 [54, 55],
 ⟨none, .call ⟨.builtin .clear, #[.tmp 56], #[37]⟩, 0, none, [56]⟩])
 (.seq
 (.reg [mv 57 0 37 [0],
 mv 58 3 3 [3],
 oq 59 (.slice 37 (.tmp 57) none (some (.tmp 58)) none) 37 [57, 58],
 sg 2 59 37 [59]])
 .ret))))
 .skip)))
 (.reg [mv 14 3 3 [3],
 bn 15 .add 3 14 1 3 3 [14],
 sg 3 15 3 [15]])))
def F117.c : SC :=
 (.seq
 (.reg [oq 2 (.assign (.const (.slice none 0 0))) 37 [2]])
 (.seq
 (.seq
 (.reg [mv 6 0 37 [],
 ln 7 6 37 3 [6],
 bn 8 .lss 3 7 2 3 4 [7]])
 (.cond (.tmp 8)
 (.seq
 (.reg [mv 9 0 37 [0],
 sg 2 9 37 [9]])
 .ret)
 .skip))
 (.seq
 (.seq
 (.reg [sn 3 1 3 []])
 (.block 0
 (.loop F117.s0)))
 (.seq
 (.reg [mv 60 0 37 [0],
 sg 2 60 37 [60]])
 .ret))))
theorem F117.rs : Tryz.f117.results.toList = [.tmp 2] := rfl
def slices_Compact_int.b1 (k : Nat) (s0 : (List Int)) (i2 : Int) : (Int × Int × (List Int)) → Option (Stp (Int × Int × (List Int)) (Int × (List Int)) ((List Int))) := fun (s : Int × Int × (List Int)) => match s with
 | (i8, i9, l10) =>
   bif decide (i9 < ((s0.length - i2.toNat : Nat) : Int)) then
    (at? ((l10.drop i2.toNat).take (s0.length - i2.toNat)) i9).bind fun x14 =>
    (at? ((l10.drop i2.toNat).take (s0.length - i2.toNat)) (w64 (i9 - 1))).bind fun x15 =>
    bif (!decide (x14 = x15)) then
     (at? l10 i8).bind fun x17 =>
     (set? l10 i8 x14).bind fun l18 =>
     some (.next (w64 (i8 + 1), w64 (i9 + 1), l18))
    else
     some (.next (i8, w64 (i9 + 1), l10))
   else
    some (.brk (i8, l10))
def slices_Compact_int.b0 (k : Nat) (s0 : (List Int)) : Int → Option (Stp (Int) (Unit) ((List Int))) := fun (i2 : Int) =>
 bif decide (i2 < ((s0.length : Nat) : Int)) then
  (at? s0 i2).bind fun x4 =>
  (at? s0 (w64 (i2 - 1))).bind fun x5 =>
  bif decide (x4 = x5) then
   (ls? s0.length i2).bind fun _ =>
   (whl (slices_Compact_int.b1 k s0 i2) k (i2, 1, s0)).bind fun r19 => match r19 with
   | .next _ => none
   | .ret v_ => some (.ret v_)
   | .brk (i11, l12) =>
    (ls? l12.length i11).bind fun _ =>
    (hs? l12.length i11).bind fun _ =>
    some (.ret ((clr l12 i11.toNat (l12.length - i11.toNat) 0).take i11.toNat))
  else
   some (.next (w64 (i2 + 1)))
 else
  some (.brk ())
noncomputable def slices_Compact_int.h1 (H : Heap) (s0 : (List Int)) (i2 : Int) : (Int × Int × (List Int)) → St := fun (s : Int × Int × (List Int)) => match s with
 | (i8, i9, l10) => ⟨[(0, .loc 0 0 1 0 l10.length l10.length), (3, .int .i64 i8), (4, .loc 0 0 1 i2.toNat (s0.length - i2.toNat) l10.length), (5, .int .i64 i9)], [(0, .arr 3 1 (List.map eI l10))], H, 1, Tryz.f117.ntmps⟩
noncomputable def slices_Compact_int.x1 (H : Heap) : (Int × (List Int)) → St := fun (s : Int × (List Int)) => match s with
 | (i11, l12) => ⟨[(0, .loc 0 0 1 0 l12.length l12.length), (3, .int .i64 i11)], [(0, .arr 3 1 (List.map eI l12))], H, 1, Tryz.f117.ntmps⟩
noncomputable def slices_Compact_int.h0 (H : Heap) (s0 : (List Int)) : Int → St := fun (i2 : Int) => ⟨[(0, .loc 0 0 1 0 s0.length s0.length), (3, .int .i64 i2)], [(0, .arr 3 1 (List.map eI s0))], H, 1, Tryz.f117.ntmps⟩
noncomputable def slices_Compact_int.x0 (H : Heap) (s0 : (List Int)) : Unit → St := fun (_ : Unit) => ⟨[(0, .loc 0 0 1 0 s0.length s0.length)], [(0, .arr 3 1 (List.map eI s0))], H, 1, Tryz.f117.ntmps⟩
def slices_Compact_int (k : Nat) (s0 : (List Int)) : Option ((List Int)) :=
 bif decide (((s0.length : Nat) : Int) < (2 : Int)) then
  some s0
 else
  (whl (slices_Compact_int.b0 k s0) k 1).bind fun r23 => match r23 with
  | .next _ => none
  | .ret v_ => some v_
  | .brk _ =>
   some s0
theorem slices_Compact_int_ok (k : Nat) (s0 : (List Int)) (r : (List Int)) (h0 : slices_Compact_int k s0 = some r) : GCall Tryz.prog 117 [.loc 0 0 1 0 s0.length s0.length] [(0, .arr 3 1 (List.map eI s0))] (fun y fr => y = .loc 0 0 1 0 r.length r.length ∧ fr = [(0, .arr 3 1 (List.map eI r))]) := by
 have hr := GCall.own (et := 3) (sz := 1) (ls := List.map eI r) (GCall.of_body T_ok (f := 117) (fn := Tryz.f117) (sc := F117.c) (args := [.loc 0 0 1 0 s0.length s0.length]) (fr0 := [(0, .arr 3 1 (List.map eI s0))]) (by rfl) (by rfl) (by decide +kernel) (by rfl) (by decide +kernel) (Nat.le_of_ble_eq_true rfl) (fun H => ?_))
 simpa only [List.length_map] using hr
 refine rS ?_
 simp only [slices_Compact_int] at h0
 try simp only [F117.c, go_sem]
 refine AKev_bif h0 ?_ ?_ <;> intro c1 h0
 try simp only [c1, go_sem]
 obtain rfl := Option.some.inj h0
 refine AKev_gret rfl ?_
 try simp only [F117.rs, oOK, Option.map_some, tupOf, cut0_map, cut_map, Nat.le_refl, List.take_length, c1, go_sem]
 try simp only [c1, go_sem]
 obtain ⟨r23, yr23, h0⟩ := bs h0
 refine AKev_loopS yr23 (slices_Compact_int.h0 H s0) (slices_Compact_int.x0 H s0) ?_ ?_ ?_
 refine Weak.go [0, 3] [0] rfl ?_
 try simp only [slices_Compact_int.h0, c1, go_sem]
 rintro i2 x_1 Bk1 Br1 h1 hnext1 hbrk1 hret1
 refine rS ?_
 simp only [slices_Compact_int.b0] at h1
 try simp only [F117.s0, slices_Compact_int.h0, c1, go_sem]
 refine AKev_bif h1 ?_ ?_ <;> intro c3 h1
 try simp only [c3, c1, go_sem]
 refine AKev_region T_ok follows_ok 1000 ?_
 try simp only [c1, c3, go_sem]
 obtain ⟨x4, yx4, h1⟩ := bs h1
 try simp only [aa yx4, c1, c3, go_sem]
 obtain ⟨x5, yx5, h1⟩ := bs h1
 try simp only [aa yx5, c1, c3, aa yx4, go_sem]
 refine DG_done ⟨rfl, run_sound T_ok 1000 _ _ ?_⟩
 try simp only [c1, c3, aa yx4, aa yx5, go_sem]
 refine AKev_bif h1 ?_ ?_ <;> intro c6 h1
 try simp only [c6, c1, c3, aa yx4, aa yx5, go_sem]
 obtain ⟨u7, yu7, h1⟩ := bs h1
 have lyu7 := ls_le yu7
 try simp only [ls_bounds yu7, lyu7, c1, c3, aa yx4, aa yx5, c6, go_sem]
 obtain ⟨r19, yr19, h1⟩ := bs h1
 refine AKev_loopS yr19 (slices_Compact_int.h1 H s0 i2) (slices_Compact_int.x1 H) ?_ ?_ ?_
 refine Weak.go [0, 3, 4, 5] [0] rfl ?_
 try simp only [slices_Compact_int.h1, c1, c3, aa yx4, aa yx5, c6, lyu7, go_sem]
 rintro ⟨i8, i9, l10⟩ x_2 Bk2 Br2 h2 hnext2 hbrk2 hret2
 refine rS ?_
 simp only [slices_Compact_int.b1] at h2
 try simp only [F117.s1, slices_Compact_int.h1, c1, c3, aa yx4, aa yx5, c6, lyu7, go_sem]
 refine AKev_bif h2 ?_ ?_ <;> intro c13 h2
 try simp only [c13, c1, c3, aa yx4, aa yx5, c6, lyu7, go_sem]
 refine AKev_region T_ok follows_ok 1000 ?_
 try simp only [c1, c3, aa yx4, aa yx5, c6, lyu7, c13, go_sem]
 obtain ⟨x14, yx14, h2⟩ := bs h2
 try simp only [at_part_in yx14, at_part_get eI yx14, c1, c3, aa yx4, aa yx5, c6, lyu7, c13, go_sem]
 obtain ⟨x15, yx15, h2⟩ := bs h2
 try simp only [at_part_in yx15, at_part_get eI yx15, c1, c3, aa yx4, aa yx5, c6, lyu7, c13, at_part_in yx14, at_part_get eI yx14, go_sem]
 refine DG_done ⟨rfl, run_sound T_ok 1000 _ _ ?_⟩
 try simp only [c1, c3, aa yx4, aa yx5, c6, lyu7, c13, at_part_in yx14, at_part_get eI yx14, at_part_in yx15, at_part_get eI yx15, go_sem]
 refine AKev_bif h2 ?_ ?_ <;> intro c16 h2
 have c16 := bnot_t c16
 try simp only [c16, at_part_in yx14, at_part_get eI yx14, c1, c3, aa yx4, aa yx5, c6, lyu7, c13, at_part_in yx15, at_part_get eI yx15, go_sem]
 obtain ⟨x17, yx17, h2⟩ := bs h2
 try simp only [aa yx17, c1, c3, aa yx4, aa yx5, c6, lyu7, c13, at_part_in yx14, at_part_get eI yx14, at_part_in yx15, at_part_get eI yx15, c16, go_sem]
 obtain ⟨l18, yl18, h2⟩ := bs h2
 have eyl18 := set_map eI yl18
 simp only [go_sem] at eyl18
 try simp only [eyl18, c1, c3, aa yx4, aa yx5, c6, lyu7, c13, at_part_in yx14, at_part_get eI yx14, at_part_in yx15, at_part_get eI yx15, c16, aa yx17, set_len yl18, set_take eI yl18, go_sem]
 refine AKev_backB (hnext2 _ _ (Option.some.inj h2).symm ?_)
 refine Weak.go [0, 3, 4, 5] [0] rfl ?_
 try simp only [slices_Compact_int.h1, c1, c3, aa yx4, aa yx5, c6, lyu7, c13, at_part_in yx14, at_part_get eI yx14, at_part_in yx15, at_part_get eI yx15, c16, aa yx17, eyl18, set_len yl18, set_take eI yl18, go_sem]
 have c16 := bnot_f c16
 try simp only [c16, c1, c3, aa yx4, aa yx5, c6, lyu7, c13, at_part_in yx14, at_part_get eI yx14, at_part_in yx15, at_part_get eI yx15, go_sem]
 refine AKev_backB (hnext2 _ _ (Option.some.inj h2).symm ?_)
 refine Weak.go [0, 3, 4, 5] [0] rfl ?_
 try simp only [slices_Compact_int.h1, c1, c3, aa yx4, aa yx5, c6, lyu7, c13, at_part_in yx14, at_part_get eI yx14, at_part_in yx15, at_part_get eI yx15, c16, go_sem]
 try simp only [c13, c1, c3, aa yx4, aa yx5, c6, lyu7, go_sem]
 refine AKev_backB (hbrk2 _ _ (Option.some.inj h2).symm ?_)
 refine Weak.go [0, 3] [0] rfl ?_
 try simp only [slices_Compact_int.x1, c1, c3, aa yx4, aa yx5, c6, lyu7, c13, go_sem]
 rintro ⟨i11, l12⟩ hr_
 subst hr_
 simp only at h1
 refine rS ?_
 try simp only [slices_Compact_int.x1, c1, c3, aa yx4, aa yx5, c6, lyu7, go_sem]
 obtain ⟨u20, yu20, h1⟩ := bs h1
 have lyu20 := ls_le yu20
 have eq21 := clr_map eI l12 i11.toNat (l12.length - i11.toNat) 0
 have lq21 : (clr l12 i11.toNat (l12.length - i11.toNat) 0).length = l12.length := by rw [clr_len] <;> simp only [c1, c3, aa yx4, aa yx5, c6, lyu7, lyu20, go_sem]
 try simp only [go_sem] at eq21
 try simp only [ls_bounds yu20, lyu20, eq21, c1, c3, aa yx4, aa yx5, c6, lyu7, lq21, go_sem]
 obtain ⟨u22, yu22, h1⟩ := bs h1
 have lyu22 := hs_le yu22
 try simp only [hs_bounds yu22, lyu22, c1, c3, aa yx4, aa yx5, c6, lyu7, lyu20, lq21, go_sem]
 obtain rfl := hret1 _ (Option.some.inj h1).symm
 simp only at h0
 obtain rfl := Option.some.inj h0
 refine AKev_gret rfl ?_
 try simp only [F117.rs, oOK, Option.map_some, tupOf, cut0_map, cut_map, Nat.le_refl, List.take_length, c1, c3, aa yx4, aa yx5, c6, lyu7, lyu20, lq21, lyu22, go_sem]
 try simp only [c6, c1, c3, aa yx4, aa yx5, go_sem]
 refine AKev_backB (hnext1 _ _ (Option.some.inj h1).symm ?_)
 refine Weak.go [0, 3] [0] rfl ?_
 try simp only [slices_Compact_int.h0, c1, c3, aa yx4, aa yx5, c6, go_sem]
 try simp only [c3, c1, go_sem]
 refine AKev_backB (hbrk1 _ _ (Option.some.inj h1).symm ?_)
 refine Weak.go [0] [0] rfl ?_
 try simp only [slices_Compact_int.x0, c1, c3, go_sem]
 rintro _ hr_
 subst hr_
 simp only at h0
 refine rS ?_
 try simp only [slices_Compact_int.x0, c1, go_sem]
 obtain rfl := Option.some.inj h0
 refine AKev_gret rfl ?_
 try simp only [F117.rs, oOK, Option.map_some, tupOf, cut0_map, cut_map, Nat.le_refl, List.take_length, c1, go_sem]
def F67.s0 : SC :=
 (.seq
 (.reg [b2 9 .lss 3 8 7 3 0 []])
 (.seq
 (.cond (.tmp 9)
 .skip
 (.exit 0))
 (.seq
 (.block 1
 (.seq
 (.reg [ia 10 25 6 8 [],
 ld 11 64 10 [10],
 oq 5 (.alloc 64) 0 [],
 ⟨none, .store 64 (.tmp 5) (.tmp 11), 0, none, [11]⟩])
 (.reg [mv 12 3 37 [3],
 fa 13 64 5 0 [5],
 ld 14 3 13 [13],
 oq 15 (.buildSlice 37 1 #[(0, .tmp 14)]) 37 [14],
 oq 16 (.call ⟨.builtin .append, #[.tmp 12, .tmp 15], #[37, 37]⟩) 37 [12, 15],
 sg 3 16 37 [16]])))
 (.reg [bn 17 .add 3 8 1 3 3 [8],
 mv 8 17 3 [17]]))))
def F67.c : SC :=
 (.seq
 (.reg [oq 2 (.assign (.const (.slice none 0 0))) 37 [2]])
 (.seq
 (.reg [oq 3 (.assign (.const (.slice none 0 0))) 37 []])
 (.seq
 (.seq
 (.reg [mv 6 0 25 [0],
 ln 7 6 25 3 [],
 oq 8 (.move (.const (.int .i64 0))) 3 []])
 (.block 0
 (.loop F67.s0)))
 (.seq
 (.reg [mv 18 3 37 [],
 cf1 19 116 18 37 0 [18, 19]])
 (.seq
 (.reg [mv 20 3 37 [3],
 cf1 21 117 20 37 37 [20],
 sg 2 21 37 [21]])
 .ret)))))
theorem F67.rs : Tryz.f67.results.toList = [.tmp 2] := rfl
def heat_sources.b0 (k : Nat) (l0 : (List Reading)) : (Int × (List Int)) → Option (Stp (Int × (List Int)) ((List Int)) ((List Int))) := fun (s : Int × (List Int)) => match s with
 | (i1, l2) =>
   bif decide (i1 < (l0.length : Int)) then
    (at? l0 i1).bind fun x5 =>
    (push? 8 l2 x5.Source).bind fun l6 =>
    some (.next (w64 (i1 + 1), l6))
   else
    some (.brk l2)
noncomputable def heat_sources.h0 (l0 : (List Reading)) : (Int × (List Int)) → St := fun (s : Int × (List Int)) => match s with
 | (i1, l2) => ⟨[(3, .loc 0 0 1 0 l2.length l2.length), (6, .sl 6 (List.map Reading.c l0)), (7, .int .i64 (l0.length : Int)), (8, .int .i64 i1)], [(0, .arr 3 1 (List.map eI l2))], [], 1, Tryz.f67.ntmps⟩
noncomputable def heat_sources.x0 : (List Int) → St := fun (l3 : (List Int)) => ⟨[(3, .loc 0 0 1 0 l3.length l3.length)], [(0, .arr 3 1 (List.map eI l3))], [], 1, Tryz.f67.ntmps⟩
def heat_sources (k : Nat) (l0 : (List Reading)) : Option ((List Int)) :=
 (whl (heat_sources.b0 k l0) k (0, [])).bind fun r7 => match r7 with
 | .next _ => none
 | .ret v_ => some v_
 | .brk l3 =>
  (room? l3.length 8).bind fun _ =>
  (slices_Compact_int k (srt l3)).bind fun x11 =>
  some x11
theorem heat_sources_ok (k : Nat) (l0 : (List Reading)) (r : (List Int)) (h0 : heat_sources k l0 = some r) : PCall Tryz.prog 67 [.sl 6 (List.map Reading.c l0)] (fun y => y = .sl 1 (List.map eI r)) := by
 refine PB (fn := Tryz.f67) (sc := F67.c) ?_
 refine rS ?_
 simp only [heat_sources] at h0
 try simp only [F67.c, go_sem]
 obtain ⟨r7, yr7, h0⟩ := bs h0
 refine AKev_loopS yr7 (heat_sources.h0 l0) (heat_sources.x0) ?_ ?_ ?_
 refine Weak.go [3, 6, 7, 8] [16] rfl ?_
 try simp only [heat_sources.h0, go_sem]
 rintro ⟨i1, l2⟩ x_1 Bk1 Br1 h1 hnext1 hbrk1 hret1
 refine rS ?_
 simp only [heat_sources.b0] at h1
 try simp only [F67.s0, heat_sources.h0, go_sem]
 refine AKev_bif h1 ?_ ?_ <;> intro c4 h1
 try simp only [c4, go_sem]
 obtain ⟨x5, yx5, h1⟩ := bs h1
 try simp only [aa yx5, c4, go_sem]
 obtain ⟨l6, yl6, h1⟩ := bs h1
 have eyl6 := push_map eI yl6
 have tyl6 := push_take eI yl6
 have nyl6 := push_len yl6
 have myl6 := push_room yl6
 try simp only [c4, aa yx5, go_sem] at eyl6 tyl6 nyl6 myl6
 try simp only [myl6, eyl6, c4, aa yx5, nyl6, tyl6, go_sem]
 refine AKev_backB (hnext1 _ _ (Option.some.inj h1).symm ?_)
 refine Weak.go [3, 6, 7, 8] [0] rfl ?_
 try simp only [heat_sources.h0, c4, aa yx5, eyl6, nyl6, tyl6, go_sem]
 try simp only [c4, go_sem]
 refine AKev_backB (hbrk1 _ _ (Option.some.inj h1).symm ?_)
 refine Weak.go [3] [0] rfl ?_
 try simp only [heat_sources.x0, c4, go_sem]
 rintro l3 hr_
 subst hr_
 simp only at h0
 refine rS ?_
 try simp only [heat_sources.x0, go_sem]
 obtain ⟨u9, yu9, h0⟩ := bs h0
 have myu9 := room_some yu9
 refine AKev_sortI sort_ok (l := l3) (k := 0) (et := 3) (b := 8) ?_ ?_ ?_ ?_
 try simp only [go_sem]
 try simp only [go_sem]
 try simp only [myu9, go_sem]
 refine rS ?_
 try simp only [srt_len, go_sem]
 obtain ⟨x11, yx11, h0⟩ := bs h0
 refine AKev_give T_ok 1000 [] [0] (slices_Compact_int_ok k _ _ yx11) ?_ rfl ?_
 try simp only [gOK, List.length_map, srt_len, go_sem]
 try simp only [srt_len, go_sem]
 obtain rfl := Option.some.inj h0
 refine AKev_ret rfl ?_
 try simp only [F67.rs, srt_len, go_sem]
def heat_sources_o.b0 (k : Nat) (l0 : (List Reading)) : (Int × (List Int)) → Option (Stp (Int × (List Int)) ((List Int)) ((List Int))) := fun (s : Int × (List Int)) => match s with
 | (i1, l2) =>
   bif decide (i1 < (l0.length : Int)) then
    (at? l0 i1).bind fun x5 =>
    (push? 8 l2 x5.Source).bind fun l6 =>
    some (.next (w64 (i1 + 1), l6))
   else
    some (.brk l2)
noncomputable def heat_sources_o.h0 (H : Heap) (l0 : (List Reading)) : (Int × (List Int)) → St := fun (s : Int × (List Int)) => match s with
 | (i1, l2) => ⟨[(3, .loc 0 0 1 0 l2.length l2.length), (6, .sl 6 (List.map Reading.c l0)), (7, .int .i64 (l0.length : Int)), (8, .int .i64 i1)], [(0, .arr 3 1 (List.map eI l2))], H, 1, Tryz.f67.ntmps⟩
noncomputable def heat_sources_o.x0 (H : Heap) : (List Int) → St := fun (l3 : (List Int)) => ⟨[(3, .loc 0 0 1 0 l3.length l3.length)], [(0, .arr 3 1 (List.map eI l3))], H, 1, Tryz.f67.ntmps⟩
def heat_sources_o (k : Nat) (l0 : (List Reading)) : Option ((List Int)) :=
 (whl (heat_sources_o.b0 k l0) k (0, [])).bind fun r7 => match r7 with
 | .next _ => none
 | .ret v_ => some v_
 | .brk l3 =>
  (room? l3.length 8).bind fun _ =>
  (slices_Compact_int k (srt l3)).bind fun x11 =>
  some x11
def F68.c : SC :=
 (.seq
 (.reg [oq 6 (.assign (.const (.slice none 0 0))) 37 [6]])
 (.seq
 (.reg [mv 8 0 37 [],
 mv 9 1 3 [],
 mv 10 2 3 [],
 mv 11 0 37 [],
 ln 12 11 37 3 [11],
 oq 13 (.slice 37 (.tmp 8) (some (.tmp 9)) (some (.tmp 10)) (some (.tmp 12))) 37 [8, 9, 10, 12, 13]])
 (.seq
 (.seq
 (.reg [mv 14 1 3 [],
 mv 15 2 3 [],
 b2 16 .eql 3 14 15 3 4 [14, 15]])
 (.cond (.tmp 16)
 (.seq
 (.reg [mv 17 0 37 [0],
 sg 6 17 37 [17]])
 .ret)
 .skip))
 (.seq
 (.reg [mv 18 0 37 [],
 ln 19 18 37 3 [18],
 sg 7 19 3 [19]])
 (.seq
 (.dreg [mv 20 0 37 [],
 mv 21 1 3 [],
 oq 22 (.slice 37 (.tmp 20) none (some (.tmp 21)) none) 37 [],
 mv 23 0 37 [],
 mv 24 2 3 [],
 oq 25 (.slice 37 (.tmp 23) (some (.tmp 24)) none none) 37 [],
 oq 26 (.call ⟨.builtin .append, #[.tmp 22, .tmp 25], #[37, 37]⟩) 37 [],
 sg 0 26 37 []] [[], [], [0, 1], [], [], [3, 4], [0, 1, 2, 3, 4, 5], [0, 1, 2, 3, 4, 5, 6]] [1, 2, 20, 21, 22, 23, 24, 25, 26])
 (.seq
 (.reg [mv 27 0 37 [],
 mv 28 0 37 [],
 ln 29 28 37 3 [28],
 mv 30 7 3 [7],
 oq 31 (.slice 37 (.tmp 27) (some (.tmp 29)) (some (.tmp 30)) none) 37 [27, 29, 30],
 ⟨none, .call ⟨.builtin .clear, #[.tmp 31], #[37]⟩, 0, none, [31]⟩])
 (.seq
 (.reg [mv 32 0 37 [0],
 sg 6 32 37 [32]])
 .ret)))))))
theorem F68.rs : Tryz.f68.results.toList = [.tmp 6] := rfl
def slices_Delete_int (k : Nat) (s0 : (List Int)) (i1 : Int) (j2 : Int) : Option ((List Int)) :=
 (s3? s0.length i1 j2 ((s0.length : Nat) : Int)).bind fun _ =>
 bif decide (i1 = j2) then
  some s0
 else
  (hs? s0.length i1).bind fun _ =>
  (ls? s0.length j2).bind fun _ =>
  (ov? s0.length i1.toNat (((s0.drop j2.toNat).take (s0.length - j2.toNat)).length)).bind fun _ =>
  (rs? s0.length 0 ((i1.toNat + (((s0.drop j2.toNat).take (s0.length - j2.toNat)).length) : Nat) : Int) ((s0.length : Nat) : Int)).bind fun _ =>
  some ((clr (ovr s0 i1.toNat ((s0.drop j2.toNat).take (s0.length - j2.toNat))) (i1.toNat + (((s0.drop j2.toNat).take (s0.length - j2.toNat)).length)) (s0.length - (i1.toNat + (((s0.drop j2.toNat).take (s0.length - j2.toNat)).length))) 0).take (i1.toNat + (((s0.drop j2.toNat).take (s0.length - j2.toNat)).length)))
theorem slices_Delete_int_ok (k : Nat) (s0 : (List Int)) (i1 : Int) (j2 : Int) (r : (List Int)) (h0 : slices_Delete_int k s0 i1 j2 = some r) : GCall Tryz.prog 68 [.loc 0 0 1 0 s0.length s0.length, .int .i64 i1, .int .i64 j2] [(0, .arr 3 1 (List.map eI s0))] (fun y fr => y = .loc 0 0 1 0 r.length r.length ∧ fr = [(0, .arr 3 1 (List.map eI r))]) := by
 have hr := GCall.own (et := 3) (sz := 1) (ls := List.map eI r) (GCall.of_body T_ok (f := 68) (fn := Tryz.f68) (sc := F68.c) (args := [.loc 0 0 1 0 s0.length s0.length, .int .i64 i1, .int .i64 j2]) (fr0 := [(0, .arr 3 1 (List.map eI s0))]) (by rfl) (by rfl) (by decide +kernel) (by rfl) (by decide +kernel) (Nat.le_of_ble_eq_true rfl) (fun H => ?_))
 simpa only [List.length_map] using hr
 refine rS ?_
 simp only [slices_Delete_int] at h0
 try simp only [F68.c, go_sem]
 obtain ⟨u1, yu1, h0⟩ := bs h0
 have eyu1 := s3_some yu1
 try simp only [eyu1, go_sem]
 refine AKev_bif h0 ?_ ?_ <;> intro c2 h0
 try simp only [c2, go_sem]
 obtain rfl := Option.some.inj h0
 refine AKev_gret rfl ?_
 try simp only [F68.rs, oOK, Option.map_some, tupOf, cut0_map, cut_map, Nat.le_refl, List.take_length, c2, go_sem]
 try simp only [c2, go_sem]
 refine AKev_region T_ok follows_ok 1000 ?_
 try simp only [c2, go_sem]
 obtain ⟨u3, yu3, h0⟩ := bs h0
 have lyu3 := hs_le yu3
 try simp only [hs_bounds yu3, lyu3, c2, go_sem]
 obtain ⟨u4, yu4, h0⟩ := bs h0
 have lyu4 := ls_le yu4
 try simp only [ls_bounds yu4, lyu4, c2, lyu3, go_sem]
 obtain ⟨u5, yu5, h0⟩ := bs h0
 have e_yu5 := ovr_map eI s0 i1.toNat ((s0.drop j2.toNat).take (s0.length - j2.toNat))
 have l_yu5 : (ovr s0 i1.toNat ((s0.drop j2.toNat).take (s0.length - j2.toNat))).length = s0.length := by rw [ovr_len (by first | exact ov_le yu5 | (simp only [c2, lyu3, lyu4, go_sem]; exact ov_le yu5))] <;> simp only [c2, lyu3, lyu4, go_sem]
 try simp only [ov_ne yu5, ov_le yu5, cut_map eI s0 j2.toNat (s0.length - j2.toNat), e_yu5, l_yu5, c2, lyu3, lyu4, go_sem]
 refine DG_done ⟨rfl, run_sound T_ok 1000 _ _ ?_⟩
 try simp only [c2, lyu3, lyu4, ov_le yu5, l_yu5, go_sem]
 obtain ⟨u6, yu6, h0⟩ := bs h0
 have eyu6 := rs_some yu6
 have lyu6 := rs_le yu6
 try simp only [c2, lyu3, lyu4, ov_le yu5, l_yu5, go_sem] at eyu6 lyu6
 have eq7 := clr_map eI (ovr s0 i1.toNat ((s0.drop j2.toNat).take (s0.length - j2.toNat))) (i1.toNat + (((s0.drop j2.toNat).take (s0.length - j2.toNat)).length)) (s0.length - (i1.toNat + (((s0.drop j2.toNat).take (s0.length - j2.toNat)).length))) 0
 have lq7 : (clr (ovr s0 i1.toNat ((s0.drop j2.toNat).take (s0.length - j2.toNat))) (i1.toNat + (((s0.drop j2.toNat).take (s0.length - j2.toNat)).length)) (s0.length - (i1.toNat + (((s0.drop j2.toNat).take (s0.length - j2.toNat)).length))) 0).length = s0.length := by rw [clr_len] <;> simp only [c2, lyu3, lyu4, ov_le yu5, l_yu5, lyu6, go_sem]
 try simp only [go_sem] at eq7
 try simp only [eyu6, lyu6, eq7, c2, lyu3, lyu4, ov_le yu5, l_yu5, lq7, go_sem]
 obtain rfl := Option.some.inj h0
 refine AKev_gret rfl ?_
 try simp only [F68.rs, oOK, Option.map_some, tupOf, cut0_map, cut_map, Nat.le_refl, List.take_length, c2, lyu3, lyu4, ov_le yu5, l_yu5, lyu6, lq7, go_sem]
def F69.c : SC :=
 (.seq
 (.reg [oq 2 (.assign (.const (.slice none 0 0))) 37 [2]])
 (.seq
 (.seq
 (.reg [mv 3 0 37 [],
 oq 4 (.binOp .eql 37 (.tmp 3) (.const (.slice none 0 0)) 37) 4 [3]])
 (.cond (.tmp 4)
 (.seq
 (.reg [oq 2 (.assign (.const (.slice none 0 0))) 37 []])
 .ret)
 .skip))
 (.seq
 (.reg [oq 5 (.buildSlice 37 0 #[]) 37 [],
 mv 6 0 37 [0],
 oq 7 (.call ⟨.builtin .append, #[.tmp 5, .tmp 6], #[37, 37]⟩) 37 [5, 6],
 sg 2 7 37 [7]])
 .ret)))
theorem F69.rs : Tryz.f69.results.toList = [.tmp 2] := rfl
def slices_Clone_int (k : Nat) (s0 : (List Int)) : Option ((List Int)) :=
 (room? s0.length 8).bind fun _ =>
 some s0
theorem slices_Clone_int_ok (k : Nat) (s0 : (List Int)) (r : (List Int)) (h0 : slices_Clone_int k s0 = some r) : GCall Tryz.prog 69 [.sl 1 (List.map eI s0)] [] (fun y fr => y = .loc 0 0 1 0 r.length r.length ∧ fr = [(0, .arr 3 1 (List.map eI r))]) := by
 have hr := GCall.own (et := 3) (sz := 1) (ls := List.map eI r) (GCall.of_body T_ok (f := 69) (fn := Tryz.f69) (sc := F69.c) (args := [.sl 1 (List.map eI s0)]) (fr0 := []) (by rfl) (by rfl) (by decide +kernel) (by rfl) (by decide +kernel) (Nat.le_of_ble_eq_true rfl) (fun H => ?_))
 ·simpa only [List.length_map] using hr
 refine run_sound T_ok 1000 _ _ ?_
 simp only [slices_Clone_int] at h0
 try simp only [F69.c, go_sem]
 refine ⟨fun he => ?_, ?_⟩
 ·refine run_sound T_ok 1000 _ _ ?_
  try simp only [go_sem]
  obtain ⟨u_, hu_, h0⟩ := bind_some h0
  obtain rfl := Option.some.inj h0
  refine AKev_gret rfl ?_
  simp only [he, F69.rs, oOK, Option.map_some, tupOf, List.length_nil, List.take_nil, go_sem]
  try simp
 ·refine run_sound T_ok 1000 _ _ ?_
  try simp only [go_sem]
  obtain ⟨u1, yu1, h0⟩ := bind_some h0
  try simp only [room_some yu1, go_sem]
  obtain rfl := Option.some.inj h0
  refine AKev_gret rfl ?_
  try simp only [F69.rs, oOK, Option.map_some, tupOf, cut0_map, cut_map, Nat.le_refl, List.take_length, go_sem]
def F129.c : SC :=
 (.seq
 (.reg [oq 2 (.assign (.const (.slice none 0 0))) 89 [2]])
 (.seq
 (.seq
 (.reg [mv 3 0 89 [],
 oq 4 (.binOp .eql 89 (.tmp 3) (.const (.slice none 0 0)) 89) 4 [3]])
 (.cond (.tmp 4)
 (.seq
 (.reg [oq 2 (.assign (.const (.slice none 0 0))) 89 []])
 .ret)
 .skip))
 (.seq
 (.reg [oq 5 (.buildSlice 89 0 #[]) 89 [],
 mv 6 0 89 [0],
 oq 7 (.call ⟨.builtin .append, #[.tmp 5, .tmp 6], #[89, 89]⟩) 89 [5, 6],
 sg 2 7 89 [7]])
 .ret)))
theorem F129.rs : Tryz.f129.results.toList = [.tmp 2] := rfl
def slices_Clone_api_Range (k : Nat) (s0 : (List Range)) : Option ((List Range)) :=
 (room? s0.length 16).bind fun _ =>
 some s0
theorem slices_Clone_api_Range_ok (k : Nat) (s0 : (List Range)) (r : (List Range)) (h0 : slices_Clone_api_Range k s0 = some r) : GCall Tryz.prog 129 [.sl 2 (List.map Range.c s0)] [] (fun y fr => y = .loc 0 0 2 0 r.length r.length ∧ fr = [(0, .arr 30 2 (List.map Range.c r))]) := by
 have hr := GCall.own (et := 30) (sz := 2) (ls := List.map Range.c r) (GCall.of_body T_ok (f := 129) (fn := Tryz.f129) (sc := F129.c) (args := [.sl 2 (List.map Range.c s0)]) (fr0 := []) (by rfl) (by rfl) (by decide +kernel) (by rfl) (by decide +kernel) (Nat.le_of_ble_eq_true rfl) (fun H => ?_))
 ·simpa only [List.length_map] using hr
 refine run_sound T_ok 1000 _ _ ?_
 simp only [slices_Clone_api_Range] at h0
 try simp only [F129.c, go_sem]
 refine ⟨fun he => ?_, ?_⟩
 ·refine run_sound T_ok 1000 _ _ ?_
  try simp only [go_sem]
  obtain ⟨u_, hu_, h0⟩ := bind_some h0
  obtain rfl := Option.some.inj h0
  refine AKev_gret rfl ?_
  simp only [he, F129.rs, oOK, Option.map_some, tupOf, List.length_nil, List.take_nil, go_sem]
  try simp
 ·refine run_sound T_ok 1000 _ _ ?_
  try simp only [go_sem]
  obtain ⟨u1, yu1, h0⟩ := bind_some h0
  try simp only [room_some yu1, go_sem]
  obtain rfl := Option.some.inj h0
  refine AKev_gret rfl ?_
  try simp only [F129.rs, oOK, Option.map_some, tupOf, cut0_map, cut_map, Nat.le_refl, List.take_length, go_sem]
def F88.s0 : SC :=
 (.seq
 (.reg [b2 10 .lss 3 9 8 3 0 []])
 (.seq
 (.cond (.tmp 10)
 .skip
 (.exit 0))
 (.seq
 (.block 1
 (.seq
 (.reg [ia 11 22 7 9 [],
 ld 12 89 11 [11],
 sg 5 12 89 [12]])
 (.dreg [fa 13 24 3 0 [],
 ld 14 22 13 [],
 mv 15 5 89 [],
 cf1 16 129 15 89 89 [],
 oq 17 (.buildSlice 22 1 #[(0, .tmp 16)]) 22 [],
 oq 18 (.call ⟨.builtin .append, #[.tmp 14, .tmp 17], #[22, 22]⟩) 22 [],
 fa 19 24 3 0 [],
 ⟨none, .store 22 (.tmp 19) (.tmp 18), 0, none, []⟩] [[], [0], [], [2], [2, 3], [0, 1, 2, 3, 4], [0, 1, 2, 3, 4, 5], [0, 1, 2, 3, 4, 5, 6]] [5, 13, 14, 15, 16, 17, 18, 19])))
 (.reg [bn 20 .add 3 9 1 3 3 [9],
 mv 9 20 3 [20]]))))
def F88.c : SC :=
 (.seq
 (.reg [oq 1 (.box 24 (.tmp 0)) 0 [0],
 oq 2 (.alloc 24) 0 []])
 (.seq
 (.reg [oq 3 (.alloc 24) 0 []])
 (.seq
 (.seq
 (.reg [fa 6 24 1 0 [1],
 ld 7 22 6 [6],
 ln 8 7 22 3 [],
 oq 9 (.move (.const (.int .i64 0))) 3 []])
 (.block 0
 (.loop F88.s0)))
 (.seq
 (.reg [ld 21 24 3 [3],
 ⟨none, .store 24 (.tmp 2) (.tmp 21), 0, none, [21]⟩])
 .ret))))
theorem F88.rs : Tryz.f88.results.toList = [.cell 2 24] := rfl
def heat_kilnCopy.b0 (k : Nat) (k0 : Kiln) : (Int × (List (List Range))) → Option (Stp (Int × (List (List Range))) ((List (List Range))) (Kiln)) := fun (s : Int × (List (List Range))) => match s with
 | (i1, l2) =>
   bif decide (i1 < (k0.Falls.length : Int)) then
    (at? k0.Falls i1).bind fun x5 =>
    (slices_Clone_api_Range k x5).bind fun x7 =>
    (push? 24 l2 x7).bind fun l8 =>
    some (.next (w64 (i1 + 1), l8))
   else
    some (.brk l2)
noncomputable def heat_kilnCopy.h0 (k0 : Kiln) : (Int × (List (List Range))) → St := fun (s : Int × (List (List Range))) => match s with
 | (i1, l2) => ⟨[(2, .ptr 0 0 0), (3, .ptr 0 2 0), (7, .sl 1 (List.map (eL 2 Range.c) k0.Falls)), (8, .int .i64 (k0.Falls.length : Int)), (9, .int .i64 i1)], [(0, .box [.loc 0 1 1 0 0 0]), (1, .arr 89 1 (List.map (eL 2 Range.c) [])), (2, .box [.loc 0 3 1 0 l2.length l2.length]), (3, .arr 89 1 (List.map (eL 2 Range.c) l2))], [], 4, Tryz.f88.ntmps⟩
noncomputable def heat_kilnCopy.x0 : (List (List Range)) → St := fun (l3 : (List (List Range))) => ⟨[(2, .ptr 0 0 0), (3, .ptr 0 2 0)], [(0, .box [.loc 0 1 1 0 0 0]), (1, .arr 89 1 (List.map (eL 2 Range.c) [])), (2, .box [.loc 0 3 1 0 l3.length l3.length]), (3, .arr 89 1 (List.map (eL 2 Range.c) l3))], [], 4, Tryz.f88.ntmps⟩
def heat_kilnCopy (k : Nat) (k0 : Kiln) : Option (Kiln) :=
 (whl (heat_kilnCopy.b0 k k0) k (0, [])).bind fun r9 => match r9 with
 | .next _ => none
 | .ret v_ => some v_
 | .brk l3 =>
  some (⟨l3⟩ : Kiln)
theorem heat_kilnCopy_ok (k : Nat) (k0 : Kiln) (r : Kiln) (h0 : heat_kilnCopy k k0 = some r) : PCall Tryz.prog 88 [.agg (Kiln.c k0)] (fun y => y = .agg (Kiln.c r)) := by
 refine PB (fn := Tryz.f88) (sc := F88.c) ?_
 refine rS ?_
 simp only [heat_kilnCopy] at h0
 try simp only [F88.c, go_sem]
 obtain ⟨r9, yr9, h0⟩ := bs h0
 refine AKev_loopS yr9 (heat_kilnCopy.h0 k0) (heat_kilnCopy.x0) ?_ ?_ ?_
 refine Weak.go [2, 3, 7, 8, 9] [16, 17, 32, 33] rfl ?_
 try simp only [heat_kilnCopy.h0, go_sem]
 rintro ⟨i1, l2⟩ x_1 Bk1 Br1 h1 hnext1 hbrk1 hret1
 refine rS ?_
 simp only [heat_kilnCopy.b0] at h1
 try simp only [F88.s0, heat_kilnCopy.h0, go_sem]
 refine AKev_bif h1 ?_ ?_ <;> intro c4 h1
 try simp only [c4, go_sem]
 obtain ⟨x5, yx5, h1⟩ := bs h1
 try simp only [aa yx5, c4, go_sem]
 refine AKev_region T_ok follows_ok 1000 ?_
 try simp only [c4, aa yx5, go_sem]
 obtain ⟨x7, yx7, h1⟩ := bs h1
 refine DG_give 1000 [] [] (slices_Clone_api_Range_ok k _ _ yx7) ?_ rfl ?_
 try simp only [gOK, List.length_map, c4, aa yx5, go_sem]
 try simp only [c4, aa yx5, go_sem]
 obtain ⟨l8, yl8, h1⟩ := bs h1
 have eyl8 := push_map (eL 2 Range.c) yl8
 have tyl8 := push_take (eL 2 Range.c) yl8
 have nyl8 := push_len yl8
 have myl8 := push_room yl8
 try simp only [c4, aa yx5, go_sem] at eyl8 tyl8 nyl8 myl8
 try simp only [myl8, eyl8, c4, aa yx5, nyl8, tyl8, go_sem]
 refine DG_done ⟨rfl, run_sound T_ok 1000 _ _ ?_⟩
 try simp only [c4, aa yx5, eyl8, nyl8, tyl8, go_sem]
 refine AKev_backB (hnext1 _ _ (Option.some.inj h1).symm ?_)
 refine Weak.go [2, 3, 7, 8, 9] [0, 1, 2, 3] rfl ?_
 try simp only [heat_kilnCopy.h0, c4, aa yx5, eyl8, nyl8, tyl8, go_sem]
 try simp only [c4, go_sem]
 refine AKev_backB (hbrk1 _ _ (Option.some.inj h1).symm ?_)
 refine Weak.go [2, 3] [0, 1, 2, 3] rfl ?_
 try simp only [heat_kilnCopy.x0, c4, go_sem]
 rintro l3 hr_
 subst hr_
 simp only at h0
 refine rS ?_
 try simp only [heat_kilnCopy.x0, go_sem]
 obtain rfl := Option.some.inj h0
 refine AKev_ret rfl ?_
 try simp only [F88.rs, go_sem]
def F89.c : SC :=
 (.seq
 (.reg [oq 2 (.assign (.const (.slice none 0 0))) 25 [2]])
 (.seq
 (.seq
 (.reg [mv 3 0 25 [],
 oq 4 (.binOp .eql 25 (.tmp 3) (.const (.slice none 0 0)) 25) 4 [3]])
 (.cond (.tmp 4)
 (.seq
 (.reg [oq 2 (.assign (.const (.slice none 0 0))) 25 []])
 .ret)
 .skip))
 (.seq
 (.reg [oq 5 (.buildSlice 25 0 #[]) 25 [],
 mv 6 0 25 [0],
 oq 7 (.call ⟨.builtin .append, #[.tmp 5, .tmp 6], #[25, 25]⟩) 25 [5, 6],
 sg 2 7 25 [7]])
 .ret)))
theorem F89.rs : Tryz.f89.results.toList = [.tmp 2] := rfl
def slices_Clone_api_Reading (k : Nat) (s0 : (List Reading)) : Option ((List Reading)) :=
 (room? s0.length 48).bind fun _ =>
 some s0
theorem slices_Clone_api_Reading_ok (k : Nat) (s0 : (List Reading)) (r : (List Reading)) (h0 : slices_Clone_api_Reading k s0 = some r) : GCall Tryz.prog 89 [.sl 6 (List.map Reading.c s0)] [] (fun y fr => y = .loc 0 0 6 0 r.length r.length ∧ fr = [(0, .arr 64 6 (List.map Reading.c r))]) := by
 have hr := GCall.own (et := 64) (sz := 6) (ls := List.map Reading.c r) (GCall.of_body T_ok (f := 89) (fn := Tryz.f89) (sc := F89.c) (args := [.sl 6 (List.map Reading.c s0)]) (fr0 := []) (by rfl) (by rfl) (by decide +kernel) (by rfl) (by decide +kernel) (Nat.le_of_ble_eq_true rfl) (fun H => ?_))
 ·simpa only [List.length_map] using hr
 refine run_sound T_ok 1000 _ _ ?_
 simp only [slices_Clone_api_Reading] at h0
 try simp only [F89.c, go_sem]
 refine ⟨fun he => ?_, ?_⟩
 ·refine run_sound T_ok 1000 _ _ ?_
  try simp only [go_sem]
  obtain ⟨u_, hu_, h0⟩ := bind_some h0
  obtain rfl := Option.some.inj h0
  refine AKev_gret rfl ?_
  simp only [he, F89.rs, oOK, Option.map_some, tupOf, List.length_nil, List.take_nil, go_sem]
  try simp
 ·refine run_sound T_ok 1000 _ _ ?_
  try simp only [go_sem]
  obtain ⟨u1, yu1, h0⟩ := bind_some h0
  try simp only [room_some yu1, go_sem]
  obtain rfl := Option.some.inj h0
  refine AKev_gret rfl ?_
  try simp only [F89.rs, oOK, Option.map_some, tupOf, cut0_map, cut_map, Nat.le_refl, List.take_length, go_sem]
def F138.s0 : SC :=
 (.seq
 (.reg [b2 9 .lss 3 8 7 3 0 []])
 (.seq
 (.cond (.tmp 9)
 .skip
 (.exit 0))
 (.seq
 (.block 1
 (.seq
 (.reg [mv 10 8 3 [],
 sg 5 10 3 [10]])
 (.seq
 (.reg [mv 11 1 149 [],
 mv 12 0 25 [],
 mv 13 5 3 [],
 ia 14 25 12 13 [12, 13],
 ld 15 64 14 [14],
 oq 16 (.call ⟨.value (.tmp 11), #[.tmp 15], #[64]⟩) 4 [11, 15]])
 (.cond (.tmp 16)
 (.seq
 (.reg [mv 17 5 3 [5],
 sg 4 17 3 [17]])
 .ret)
 .skip))))
 (.reg [bn 18 .add 3 8 1 3 3 [8],
 mv 8 18 3 [18]]))))
def F138.c : SC :=
 (.seq
 (.reg [sn 4 0 3 [4]])
 (.seq
 (.seq
 (.reg [mv 6 0 25 [],
 ln 7 6 25 3 [6],
 oq 8 (.move (.const (.int .i64 0))) 3 []])
 (.block 0
 (.loop F138.s0)))
 (.seq
 (.reg [sn 4 (-1) 3 []])
 .ret)))
theorem F138.rs : Tryz.f138.results.toList = [.tmp 4] := rfl
def slices_IndexFunc_api_Reading.b0 (k : Nat) (f1 : Reading → Option (Bool)) (s0 : (List Reading)) : Int → Option (Stp (Int) (Unit) (Int)) := fun (i1 : Int) =>
 bif decide (i1 < (s0.length : Int)) then
  (at? s0 i1).bind fun x3 =>
  (f1 x3).bind fun x4 =>
  bif x4 then
   some (.ret i1)
  else
   some (.next (w64 (i1 + 1)))
 else
  some (.brk ())
noncomputable def slices_IndexFunc_api_Reading.h0 (f1_f : Nat) (f1_c : List AV) (s0 : (List Reading)) : Int → St := fun (i1 : Int) => ⟨[(0, .sl 6 (List.map Reading.c s0)), (1, .fn (.func f1_f) [] f1_c), (7, .int .i64 (s0.length : Int)), (8, .int .i64 i1)], [], [], 1, Tryz.f138.ntmps⟩
noncomputable def slices_IndexFunc_api_Reading.x0 : Unit → St := fun (_ : Unit) => ⟨[], [], [], 1, Tryz.f138.ntmps⟩
def slices_IndexFunc_api_Reading (k : Nat) (s0 : (List Reading)) (f1 : Reading → Option (Bool)) : Option (Int) :=
 (whl (slices_IndexFunc_api_Reading.b0 k f1 s0) k 0).bind fun r6 => match r6 with
 | .next _ => none
 | .ret v_ => some v_
 | .brk _ =>
  some (-1)
theorem slices_IndexFunc_api_Reading_ok (k : Nat) (s0 : (List Reading)) (f1_f : Nat) (f1_c : List AV) (f1_i : Ice f1_c) (f1 : Reading → Option (Bool)) (f1_h : ∀ q0 qr, f1 q0 = some qr → PCall Tryz.prog f1_f (.agg (Reading.c q0) :: f1_c) (fun y => y = .bool qr)) (r : Int) (h0 : slices_IndexFunc_api_Reading k s0 f1 = some r) : PCall Tryz.prog 138 [.sl 6 (List.map Reading.c s0), .fn (.func f1_f) [] f1_c] (fun y => y = .int .i64 r) := by
 refine PB (fn := Tryz.f138) (sc := F138.c) ?_
 refine rS ?_
 simp only [slices_IndexFunc_api_Reading] at h0
 try simp only [F138.c, f1_i.sh, f1_i.frz, f1_i.br, f1_i.refs, f1_i.imp, f1_i.ren, f1_i.un, go_sem]
 obtain ⟨r6, yr6, h0⟩ := bs h0
 refine AKev_loopS yr6 (slices_IndexFunc_api_Reading.h0 f1_f f1_c s0) (slices_IndexFunc_api_Reading.x0) ?_ ?_ ?_
 refine Weak.go [0, 1, 7, 8] [] rfl ?_
 try simp only [slices_IndexFunc_api_Reading.h0, f1_i.sh, f1_i.frz, f1_i.br, f1_i.refs, f1_i.imp, f1_i.ren, f1_i.un, go_sem]
 rintro i1 x_1 Bk1 Br1 h1 hnext1 hbrk1 hret1
 refine rS ?_
 simp only [slices_IndexFunc_api_Reading.b0] at h1
 try simp only [F138.s0, slices_IndexFunc_api_Reading.h0, f1_i.sh, f1_i.frz, f1_i.br, f1_i.refs, f1_i.imp, f1_i.ren, f1_i.un, go_sem]
 refine AKev_bif h1 ?_ ?_ <;> intro c2 h1
 try simp only [c2, f1_i.sh, f1_i.frz, f1_i.br, f1_i.refs, f1_i.imp, f1_i.ren, f1_i.un, go_sem]
 obtain ⟨x3, yx3, h1⟩ := bs h1
 try simp only [aa yx3, f1_i.sh, f1_i.frz, f1_i.br, f1_i.refs, f1_i.imp, f1_i.ren, f1_i.un, c2, go_sem]
 obtain ⟨x4, yx4, h1⟩ := bs h1
 refine zc0 (f1_h _ _ yx4) ?_ (by first | rfl | simp [AV.refsL, AV.refs, AV.scal, AV.leaf, f1_i.refs]) ?_
 try simp only [f1_i.sh, f1_i.frz, f1_i.br, f1_i.refs, f1_i.imp, f1_i.ren, f1_i.un, c2, aa yx3, go_sem]
 try simp only [f1_i.sh, f1_i.frz, f1_i.br, f1_i.refs, f1_i.imp, f1_i.ren, f1_i.un, c2, aa yx3, go_sem]
 refine AKev_bif h1 ?_ ?_ <;> intro c5 h1
 try simp only [c5, f1_i.sh, f1_i.frz, f1_i.br, f1_i.refs, f1_i.imp, f1_i.ren, f1_i.un, c2, aa yx3, go_sem]
 obtain rfl := hret1 _ (Option.some.inj h1).symm
 simp only at h0
 obtain rfl := Option.some.inj h0
 refine AKev_ret rfl ?_
 try simp only [F138.rs, f1_i.sh, f1_i.frz, f1_i.br, f1_i.refs, f1_i.imp, f1_i.ren, f1_i.un, c2, aa yx3, c5, go_sem]
 try simp only [c5, f1_i.sh, f1_i.frz, f1_i.br, f1_i.refs, f1_i.imp, f1_i.ren, f1_i.un, c2, aa yx3, go_sem]
 refine AKev_backB (hnext1 _ _ (Option.some.inj h1).symm ?_)
 refine Weak.go [0, 1, 7, 8] [] rfl ?_
 try simp only [slices_IndexFunc_api_Reading.h0, f1_i.sh, f1_i.frz, f1_i.br, f1_i.refs, f1_i.imp, f1_i.ren, f1_i.un, c2, aa yx3, c5, go_sem]
 try simp only [c2, f1_i.sh, f1_i.frz, f1_i.br, f1_i.refs, f1_i.imp, f1_i.ren, f1_i.un, go_sem]
 refine AKev_backB (hbrk1 _ _ (Option.some.inj h1).symm ?_)
 refine Weak.go [] [] rfl ?_
 try simp only [slices_IndexFunc_api_Reading.x0, f1_i.sh, f1_i.frz, f1_i.br, f1_i.refs, f1_i.imp, f1_i.ren, f1_i.un, c2, go_sem]
 rintro _ hr_
 subst hr_
 simp only at h0
 refine rS ?_
 try simp only [slices_IndexFunc_api_Reading.x0, f1_i.sh, f1_i.frz, f1_i.br, f1_i.refs, f1_i.imp, f1_i.ren, f1_i.un, go_sem]
 obtain rfl := Option.some.inj h0
 refine AKev_ret rfl ?_
 try simp only [F138.rs, f1_i.sh, f1_i.frz, f1_i.br, f1_i.refs, f1_i.imp, f1_i.ren, f1_i.un, go_sem]
def F122.s0 : SC :=
 (.seq
 (.seq
 (.reg [mv 16 6 3 [],
 mv 17 0 25 [],
 ln 18 17 25 3 [17],
 b2 19 .lss 3 16 18 3 4 [16, 18]])
 (.cond (.tmp 19)
 .skip
 (.exit 0)))
 (.seq
 (.block 1
 (.seq
 (.reg [mv 22 0 25 [],
 mv 23 6 3 [],
 ia 24 25 22 23 [22, 23],
 ld 25 64 24 [24],
 oq 7 (.alloc 64) 0 [],
 ⟨none, .store 64 (.tmp 7) (.tmp 25), 0, none, [25]⟩])
 (.seq
 (.reg [mv 26 1 149 [],
 ld 27 64 7 [],
 oq 28 (.call ⟨.value (.tmp 26), #[.tmp 27], #[64]⟩) 4 [26, 27],
 oq 29 (.unOp .not 4 (.tmp 28)) 4 [28]])
 (.cond (.tmp 29)
 (.seq
 (.reg [mv 30 0 25 [],
 mv 31 5 3 [],
 ld 32 64 7 [7],
 ia 33 25 30 31 [30, 31],
 ⟨none, .store 64 (.tmp 33) (.tmp 32), 0, none, [32, 33]⟩])
 (.reg [mv 34 5 3 [5],
 bn 35 .add 3 34 1 3 3 [34],
 sg 5 35 3 [35]]))
 .skip))))
 (.reg [mv 20 6 3 [6],
 bn 21 .add 3 20 1 3 3 [20],
 sg 6 21 3 [21]])))
def F122.c : SC :=
 (.seq
 (.reg [oq 4 (.assign (.const (.slice none 0 0))) 25 [4]])
 (.seq
 (.reg [mv 8 0 25 [],
 mv 9 1 149 [],
 cf2 10 138 8 9 25 149 3 [8, 9],
 sg 5 10 3 [10]])
 (.seq
 (.seq
 (.reg [mv 11 5 3 [],
 bn 12 .eql 3 11 (-1) 3 4 [11]])
 (.cond (.tmp 12)
 (.seq
 (.reg [mv 13 0 25 [0],
 sg 4 13 25 [13]])
 .ret)
 .skip))
 (.seq
 (.seq
 (.reg [mv 14 5 3 [],
 bn 15 .add 3 14 1 3 3 [14],
 sg 6 15 3 [15]])
 (.block 0
 (.loop F122.s0)))
 (.seq
 (.reg [mv 36 0 25 [],
 mv 37 5 3 [],
 oq 38 (.slice 25 (.tmp 36) (some (.tmp 37)) none none) 25 [36, 37],
 ⟨none, .call ⟨.builtin .clear, #[.tmp 38], #[25]⟩, 0, none, [38]⟩])
 (.seq
 (.reg [mv 39 0 25 [0],
 mv 40 5 3 [5],
 oq 41 (.slice 25 (.tmp 39) none (some (.tmp 40)) none) 25 [39, 40],
 sg 4 41 25 [41]])
 .ret))))))
theorem F122.rs : Tryz.f122.results.toList = [.tmp 4] := rfl
def slices_DeleteFunc_api_Reading.b0 (k : Nat) (del1 : Reading → Option (Bool)) : (Int × Int × (List Reading)) → Option (Stp (Int × Int × (List Reading)) (Int × (List Reading)) ((List Reading))) := fun (s : Int × Int × (List Reading)) => match s with
 | (i3, i4, l5) =>
   bif decide (i4 < ((l5.length : Nat) : Int)) then
    (at? l5 i4).bind fun x9 =>
    (del1 x9).bind fun x10 =>
    bif (!x10) then
     (at? l5 i3).bind fun x12 =>
     (set? l5 i3 x9).bind fun l13 =>
     some (.next (w64 (i3 + 1), w64 (i4 + 1), l13))
    else
     some (.next (i3, w64 (i4 + 1), l5))
   else
    some (.brk (i3, l5))
noncomputable def slices_DeleteFunc_api_Reading.h0 (H : Heap) (del1_f : Nat) (del1_c : List AV) : (Int × Int × (List Reading)) → St := fun (s : Int × Int × (List Reading)) => match s with
 | (i3, i4, l5) => ⟨[(0, .loc 0 0 6 0 l5.length l5.length), (1, .fn (.func del1_f) [] del1_c), (5, .int .i64 i3), (6, .int .i64 i4)], [(0, .arr 64 6 (List.map Reading.c l5))], H, 1, Tryz.f122.ntmps⟩
noncomputable def slices_DeleteFunc_api_Reading.x0 (H : Heap) : (Int × (List Reading)) → St := fun (s : Int × (List Reading)) => match s with
 | (i6, l7) => ⟨[(0, .loc 0 0 6 0 l7.length l7.length), (5, .int .i64 i6)], [(0, .arr 64 6 (List.map Reading.c l7))], H, 1, Tryz.f122.ntmps⟩
def slices_DeleteFunc_api_Reading (k : Nat) (s0 : (List Reading)) (del1 : Reading → Option (Bool)) : Option ((List Reading)) :=
 (slices_IndexFunc_api_Reading k s0 del1).bind fun x1 =>
 bif decide (x1 = (-1 : Int)) then
  some s0
 else
  (whl (slices_DeleteFunc_api_Reading.b0 k del1) k (x1, w64 (x1 + 1), s0)).bind fun r14 => match r14 with
  | .next _ => none
  | .ret v_ => some v_
  | .brk (i6, l7) =>
   (ls? l7.length i6).bind fun _ =>
   (hs? l7.length i6).bind fun _ =>
   some ((clr l7 i6.toNat (l7.length - i6.toNat) (⟨0, 0, 0, 0, (⟨0, 0⟩ : Range)⟩ : Reading)).take i6.toNat)
theorem slices_DeleteFunc_api_Reading_ok (k : Nat) (s0 : (List Reading)) (del1_f : Nat) (del1_c : List AV) (del1_i : Ice del1_c) (del1 : Reading → Option (Bool)) (del1_h : ∀ q0 qr, del1 q0 = some qr → PCall Tryz.prog del1_f (.agg (Reading.c q0) :: del1_c) (fun y => y = .bool qr)) (r : (List Reading)) (h0 : slices_DeleteFunc_api_Reading k s0 del1 = some r) : GCall Tryz.prog 122 [.loc 0 0 6 0 s0.length s0.length, .fn (.func del1_f) [] del1_c] [(0, .arr 64 6 (List.map Reading.c s0))] (fun y fr => y = .loc 0 0 6 0 r.length r.length ∧ fr = [(0, .arr 64 6 (List.map Reading.c r))]) := by
 have hr := GCall.own (et := 64) (sz := 6) (ls := List.map Reading.c r) (GCall.of_body T_ok (f := 122) (fn := Tryz.f122) (sc := F122.c) (args := [.loc 0 0 6 0 s0.length s0.length, .fn (.func del1_f) [] del1_c]) (fr0 := [(0, .arr 64 6 (List.map Reading.c s0))]) (by rfl) (by rfl) (by decide +kernel) (by rfl) (by decide +kernel) (Nat.le_of_ble_eq_true rfl) (fun H => ?_))
 simpa only [List.length_map] using hr
 refine rS ?_
 simp only [slices_DeleteFunc_api_Reading] at h0
 try simp only [F122.c, del1_i.sh, del1_i.frz, del1_i.br, del1_i.refs, del1_i.imp, del1_i.ren, del1_i.un, go_sem]
 obtain ⟨x1, yx1, h0⟩ := bs h0
 refine zc0 (slices_IndexFunc_api_Reading_ok k _ del1_f del1_c del1_i del1 del1_h _ yx1) ?_ (by first | rfl | simp [AV.refsL, AV.refs, AV.scal, AV.leaf, del1_i.refs]) ?_
 try simp only [del1_i.sh, del1_i.frz, del1_i.br, del1_i.refs, del1_i.imp, del1_i.ren, del1_i.un, go_sem]
 try simp only [del1_i.sh, del1_i.frz, del1_i.br, del1_i.refs, del1_i.imp, del1_i.ren, del1_i.un, go_sem]
 refine AKev_bif h0 ?_ ?_ <;> intro c2 h0
 try simp only [c2, del1_i.sh, del1_i.frz, del1_i.br, del1_i.refs, del1_i.imp, del1_i.ren, del1_i.un, go_sem]
 obtain rfl := Option.some.inj h0
 refine AKev_gret rfl ?_
 try simp only [F122.rs, oOK, Option.map_some, tupOf, cut0_map, cut_map, Nat.le_refl, List.take_length, del1_i.sh, del1_i.frz, del1_i.br, del1_i.refs, del1_i.imp, del1_i.ren, del1_i.un, c2, go_sem]
 try simp only [c2, del1_i.sh, del1_i.frz, del1_i.br, del1_i.refs, del1_i.imp, del1_i.ren, del1_i.un, go_sem]
 obtain ⟨r14, yr14, h0⟩ := bs h0
 refine AKev_loopS yr14 (slices_DeleteFunc_api_Reading.h0 H del1_f del1_c) (slices_DeleteFunc_api_Reading.x0 H) ?_ ?_ ?_
 refine Weak.go [0, 1, 5, 6] [0] rfl ?_
 try simp only [slices_DeleteFunc_api_Reading.h0, del1_i.sh, del1_i.frz, del1_i.br, del1_i.refs, del1_i.imp, del1_i.ren, del1_i.un, c2, go_sem]
 rintro ⟨i3, i4, l5⟩ x_1 Bk1 Br1 h1 hnext1 hbrk1 hret1
 refine rS ?_
 simp only [slices_DeleteFunc_api_Reading.b0] at h1
 try simp only [F122.s0, slices_DeleteFunc_api_Reading.h0, del1_i.sh, del1_i.frz, del1_i.br, del1_i.refs, del1_i.imp, del1_i.ren, del1_i.un, c2, go_sem]
 refine AKev_bif h1 ?_ ?_ <;> intro c8 h1
 try simp only [c8, del1_i.sh, del1_i.frz, del1_i.br, del1_i.refs, del1_i.imp, del1_i.ren, del1_i.un, c2, go_sem]
 obtain ⟨x9, yx9, h1⟩ := bs h1
 try simp only [aa yx9, del1_i.sh, del1_i.frz, del1_i.br, del1_i.refs, del1_i.imp, del1_i.ren, del1_i.un, c2, c8, go_sem]
 obtain ⟨x10, yx10, h1⟩ := bs h1
 refine zc0 (del1_h _ _ yx10) ?_ (by first | rfl | simp [AV.refsL, AV.refs, AV.scal, AV.leaf, del1_i.refs]) ?_
 try simp only [del1_i.sh, del1_i.frz, del1_i.br, del1_i.refs, del1_i.imp, del1_i.ren, del1_i.un, c2, c8, aa yx9, go_sem]
 try simp only [del1_i.sh, del1_i.frz, del1_i.br, del1_i.refs, del1_i.imp, del1_i.ren, del1_i.un, c2, c8, aa yx9, go_sem]
 refine AKev_bif h1 ?_ ?_ <;> intro c11 h1
 have c11 := bnot_t c11
 try simp only [c11, del1_i.sh, del1_i.frz, del1_i.br, del1_i.refs, del1_i.imp, del1_i.ren, del1_i.un, c2, c8, aa yx9, go_sem]
 obtain ⟨x12, yx12, h1⟩ := bs h1
 try simp only [aa yx12, del1_i.sh, del1_i.frz, del1_i.br, del1_i.refs, del1_i.imp, del1_i.ren, del1_i.un, c2, c8, aa yx9, c11, go_sem]
 obtain ⟨l13, yl13, h1⟩ := bs h1
 have eyl13 := set_map Reading.c yl13
 simp only [go_sem] at eyl13
 try simp only [eyl13, del1_i.sh, del1_i.frz, del1_i.br, del1_i.refs, del1_i.imp, del1_i.ren, del1_i.un, c2, c8, aa yx9, c11, aa yx12, set_len yl13, set_take Reading.c yl13, go_sem]
 refine AKev_backB (hnext1 _ _ (Option.some.inj h1).symm ?_)
 refine Weak.go [0, 1, 5, 6] [0] rfl ?_
 try simp only [slices_DeleteFunc_api_Reading.h0, del1_i.sh, del1_i.frz, del1_i.br, del1_i.refs, del1_i.imp, del1_i.ren, del1_i.un, c2, c8, aa yx9, c11, aa yx12, eyl13, set_len yl13, set_take Reading.c yl13, go_sem]
 have c11 := bnot_f c11
 try simp only [c11, del1_i.sh, del1_i.frz, del1_i.br, del1_i.refs, del1_i.imp, del1_i.ren, del1_i.un, c2, c8, aa yx9, go_sem]
 refine AKev_backB (hnext1 _ _ (Option.some.inj h1).symm ?_)
 refine Weak.go [0, 1, 5, 6] [0] rfl ?_
 try simp only [slices_DeleteFunc_api_Reading.h0, del1_i.sh, del1_i.frz, del1_i.br, del1_i.refs, del1_i.imp, del1_i.ren, del1_i.un, c2, c8, aa yx9, c11, go_sem]
 try simp only [c8, del1_i.sh, del1_i.frz, del1_i.br, del1_i.refs, del1_i.imp, del1_i.ren, del1_i.un, c2, go_sem]
 refine AKev_backB (hbrk1 _ _ (Option.some.inj h1).symm ?_)
 refine Weak.go [0, 5] [0] rfl ?_
 try simp only [slices_DeleteFunc_api_Reading.x0, del1_i.sh, del1_i.frz, del1_i.br, del1_i.refs, del1_i.imp, del1_i.ren, del1_i.un, c2, c8, go_sem]
 rintro ⟨i6, l7⟩ hr_
 subst hr_
 simp only at h0
 refine rS ?_
 try simp only [slices_DeleteFunc_api_Reading.x0, del1_i.sh, del1_i.frz, del1_i.br, del1_i.refs, del1_i.imp, del1_i.ren, del1_i.un, c2, go_sem]
 obtain ⟨u15, yu15, h0⟩ := bs h0
 have lyu15 := ls_le yu15
 have eq16 := clr_map Reading.c l7 i6.toNat (l7.length - i6.toNat) (⟨0, 0, 0, 0, (⟨0, 0⟩ : Range)⟩ : Reading)
 have lq16 : (clr l7 i6.toNat (l7.length - i6.toNat) (⟨0, 0, 0, 0, (⟨0, 0⟩ : Range)⟩ : Reading)).length = l7.length := by rw [clr_len] <;> simp only [del1_i.sh, del1_i.frz, del1_i.br, del1_i.refs, del1_i.imp, del1_i.ren, del1_i.un, c2, lyu15, go_sem]
 try simp only [go_sem] at eq16
 try simp only [ls_bounds yu15, lyu15, eq16, del1_i.sh, del1_i.frz, del1_i.br, del1_i.refs, del1_i.imp, del1_i.ren, del1_i.un, c2, lq16, go_sem]
 obtain ⟨u17, yu17, h0⟩ := bs h0
 have lyu17 := hs_le yu17
 try simp only [hs_bounds yu17, lyu17, del1_i.sh, del1_i.frz, del1_i.br, del1_i.refs, del1_i.imp, del1_i.ren, del1_i.un, c2, lyu15, lq16, go_sem]
 obtain rfl := Option.some.inj h0
 refine AKev_gret rfl ?_
 try simp only [F122.rs, oOK, Option.map_some, tupOf, cut0_map, cut_map, Nat.le_refl, List.take_length, del1_i.sh, del1_i.frz, del1_i.br, del1_i.refs, del1_i.imp, del1_i.ren, del1_i.un, c2, lyu15, lq16, lyu17, go_sem]
def F123.c : SC :=
 (.seq
 (.reg [oq 2 (.box 64 (.tmp 0)) 0 [0],
 sb 3 false 4 [3]])
 (.seq
 (.reg [ld 4 109 1 [1],
 fa 5 64 2 0 [2],
 ld 6 3 5 [5],
 oq 7 (.call ⟨.value (.tmp 4), #[.tmp 6], #[3]⟩) 4 [4, 6],
 sg 3 7 4 [7]])
 .ret))
theorem F123.rs : Tryz.f123.results.toList = [.tmp 3] := rfl
def heat_without_1 (k : Nat) (r0 : Reading) (c1 : Int → Option (Bool)) : Option (Bool) :=
 (c1 r0.Source).bind fun x1 =>
 some x1
theorem heat_without_1_ok (k : Nat) (r0 : Reading) (c1_f : Nat) (c1_c : List AV) (c1_i : Ice c1_c) (c1 : Int → Option (Bool)) (c1_h : ∀ q0 qr, c1 q0 = some qr → PCall Tryz.prog c1_f (.int .i64 q0 :: c1_c) (fun y => y = .bool qr)) (r : Bool) (h0 : heat_without_1 k r0 c1 = some r) : PCall Tryz.prog 123 [.agg (Reading.c r0), .rptr 1 [[.fn (.func c1_f) [] c1_c]] 0 0] (fun y => y = .bool r) := by
 refine PB (fn := Tryz.f123) (sc := F123.c) ?_
 refine rS ?_
 simp only [heat_without_1] at h0
 try simp only [F123.c, c1_i.sh, c1_i.frz, c1_i.br, c1_i.refs, c1_i.imp, c1_i.ren, c1_i.un, go_sem]
 obtain ⟨x1, yx1, h0⟩ := bs h0
 refine zc0 (c1_h _ _ yx1) ?_ (by first | rfl | simp [AV.refsL, AV.refs, AV.scal, AV.leaf, c1_i.refs]) ?_
 try simp only [c1_i.sh, c1_i.frz, c1_i.br, c1_i.refs, c1_i.imp, c1_i.ren, c1_i.un, go_sem]
 try simp only [c1_i.sh, c1_i.frz, c1_i.br, c1_i.refs, c1_i.imp, c1_i.ren, c1_i.un, go_sem]
 obtain rfl := Option.some.inj h0
 refine AKev_ret rfl ?_
 try simp only [F123.rs, c1_i.sh, c1_i.frz, c1_i.br, c1_i.refs, c1_i.imp, c1_i.ren, c1_i.un, go_sem]
def F80.c : SC :=
 (.seq
 (.reg [oq 2 (.box 27 (.tmp 0)) 0 [0],
 oq 3 (.box 109 (.tmp 1)) 0 [1],
 oq 4 (.alloc 27) 0 []])
 (.seq
 (.dreg [fa 5 27 2 0 [],
 ld 6 24 5 [],
 cf1 7 88 6 24 24 [],
 fa 8 27 2 1 [],
 ld 9 25 8 [],
 cf1 10 89 9 25 25 [],
 oq 11 (.makeFunc (.func 123) #[] #[.tmp 3]) 149 [],
 cf2 12 122 10 11 25 149 25 [],
 oq 13 (.build 27 #[(0, .tmp 7), (1, .tmp 12)]) 27 [],
 ⟨none, .store 27 (.tmp 4) (.tmp 13), 0, none, []⟩] [[], [0], [0, 1], [], [3], [3, 4, 0, 1, 2], [], [3, 4, 0, 1, 2, 5, 6], [0, 1, 2, 3, 4, 5, 6, 7], [0, 1, 2, 3, 4, 5, 6, 7, 8]] [2, 3, 5, 6, 7, 8, 9, 10, 11, 12, 13])
 .ret))
theorem F80.rs : Tryz.f80.results.toList = [.cell 4 27] := rfl
def heat_without (k : Nat) (f0 : Firing) (gone1 : Int → Option (Bool)) : Option (Firing) :=
 (heat_kilnCopy k f0.Kiln).bind fun x1 =>
 (slices_Clone_api_Reading k f0.Readings).bind fun x3 =>
 (slices_DeleteFunc_api_Reading k x3 (fun q0 => heat_without_1 k q0 gone1)).bind fun x5 =>
 some (⟨x1, x5⟩ : Firing)
theorem heat_without_ok (k : Nat) (f0 : Firing) (gone1_f : Nat) (gone1_c : List AV) (gone1_i : Ice gone1_c) (gone1 : Int → Option (Bool)) (gone1_h : ∀ q0 qr, gone1 q0 = some qr → PCall Tryz.prog gone1_f (.int .i64 q0 :: gone1_c) (fun y => y = .bool qr)) (r : Firing) (h0 : heat_without k f0 gone1 = some r) : PCall Tryz.prog 80 [.agg (Firing.c f0), .fn (.func gone1_f) [] gone1_c] (fun y => y = .agg (Firing.c r)) := by
 refine PB (fn := Tryz.f80) (sc := F80.c) ?_
 refine rS ?_
 simp only [heat_without] at h0
 try simp only [F80.c, gone1_i.sh, gone1_i.frz, gone1_i.br, gone1_i.refs, gone1_i.imp, gone1_i.ren, gone1_i.un, go_sem]
 refine AKev_region T_ok follows_ok 1000 ?_
 try simp only [gone1_i.sh, gone1_i.frz, gone1_i.br, gone1_i.refs, gone1_i.imp, gone1_i.ren, gone1_i.un, go_sem]
 obtain ⟨x1, yx1, h0⟩ := bs h0
 refine DG_call0 1000 (heat_kilnCopy_ok k _ _ yx1) ?_ (by first | rfl | simp [AV.refsL, AV.refs, AV.scal, AV.leaf, gone1_i.refs]) ?_
 try simp only [gone1_i.sh, gone1_i.frz, gone1_i.br, gone1_i.refs, gone1_i.imp, gone1_i.ren, gone1_i.un, go_sem]
 try simp only [gone1_i.sh, gone1_i.frz, gone1_i.br, gone1_i.refs, gone1_i.imp, gone1_i.ren, gone1_i.un, go_sem]
 obtain ⟨x3, yx3, h0⟩ := bs h0
 refine DG_give 1000 [] [] (slices_Clone_api_Reading_ok k _ _ yx3) ?_ rfl ?_
 try simp only [gOK, List.length_map, gone1_i.sh, gone1_i.frz, gone1_i.br, gone1_i.refs, gone1_i.imp, gone1_i.ren, gone1_i.un, go_sem]
 try simp only [gone1_i.sh, gone1_i.frz, gone1_i.br, gone1_i.refs, gone1_i.imp, gone1_i.ren, gone1_i.un, go_sem]
 obtain ⟨x5, yx5, h0⟩ := bs h0
 refine DG_give 1000 [16] [128] (slices_DeleteFunc_api_Reading_ok k _ 123 [.rptr 1 [[.fn (.func gone1_f) [] gone1_c]] 0 0] ⟨fun _ => rfl, fun _ => rfl, fun _ _ => rfl, rfl, fun _ => rfl, fun _ => rfl, fun _ => rfl⟩ (fun q0 => heat_without_1 k q0 gone1) (fun q0 qr qh => heat_without_1_ok k q0 gone1_f gone1_c gone1_i gone1 gone1_h qr qh) _ yx5) ?_ rfl ?_
 try simp only [gOK, List.length_map, gone1_i.sh, gone1_i.frz, gone1_i.br, gone1_i.refs, gone1_i.imp, gone1_i.ren, gone1_i.un, go_sem]
 try simp only [gone1_i.sh, gone1_i.frz, gone1_i.br, gone1_i.refs, gone1_i.imp, gone1_i.ren, gone1_i.un, go_sem]
 refine DG_done ⟨rfl, run_sound T_ok 1000 _ _ ?_⟩
 try simp only [gone1_i.sh, gone1_i.frz, gone1_i.br, gone1_i.refs, gone1_i.imp, gone1_i.ren, gone1_i.un, go_sem]
 obtain rfl := Option.some.inj h0
 refine AKev_ret rfl ?_
 try simp only [F80.rs, gone1_i.sh, gone1_i.frz, gone1_i.br, gone1_i.refs, gone1_i.imp, gone1_i.ren, gone1_i.un, go_sem]
def F120.s0 : SC :=
 (.seq
 (.reg [b2 9 .lss 3 8 7 3 0 []])
 (.seq
 (.cond (.tmp 9)
 .skip
 (.exit 0))
 (.seq
 (.block 1
 (.seq
 (.reg [mv 10 8 3 [],
 sg 5 10 3 [10]])
 (.seq
 (.reg [mv 11 1 3 [],
 mv 12 0 37 [],
 mv 13 5 3 [],
 ia 14 37 12 13 [12, 13],
 ld 15 3 14 [14],
 b2 16 .eql 3 11 15 3 4 [11, 15]])
 (.cond (.tmp 16)
 (.seq
 (.reg [mv 17 5 3 [5],
 sg 4 17 3 [17]])
 .ret)
 .skip))))
 (.reg [bn 18 .add 3 8 1 3 3 [8],
 mv 8 18 3 [18]]))))
def F120.c : SC :=
 (.seq
 (.reg [sn 4 0 3 [4]])
 (.seq
 (.seq
 (.reg [mv 6 0 37 [],
 ln 7 6 37 3 [6],
 oq 8 (.move (.const (.int .i64 0))) 3 []])
 (.block 0
 (.loop F120.s0)))
 (.seq
 (.reg [sn 4 (-1) 3 []])
 .ret)))
theorem F120.rs : Tryz.f120.results.toList = [.tmp 4] := rfl
def slices_Index_int.b0 (k : Nat) (s0 : (List Int)) (v1 : Int) : Int → Option (Stp (Int) (Unit) (Int)) := fun (i1 : Int) =>
 bif decide (i1 < (s0.length : Int)) then
  (at? s0 i1).bind fun x3 =>
  bif decide (v1 = x3) then
   some (.ret i1)
  else
   some (.next (w64 (i1 + 1)))
 else
  some (.brk ())
noncomputable def slices_Index_int.h0 (s0 : (List Int)) (v1 : Int) : Int → St := fun (i1 : Int) => ⟨[(0, .sl 1 (List.map eI s0)), (1, .int .i64 v1), (7, .int .i64 (s0.length : Int)), (8, .int .i64 i1)], [], [], 1, Tryz.f120.ntmps⟩
noncomputable def slices_Index_int.x0 : Unit → St := fun (_ : Unit) => ⟨[], [], [], 1, Tryz.f120.ntmps⟩
def slices_Index_int (k : Nat) (s0 : (List Int)) (v1 : Int) : Option (Int) :=
 (whl (slices_Index_int.b0 k s0 v1) k 0).bind fun r5 => match r5 with
 | .next _ => none
 | .ret v_ => some v_
 | .brk _ =>
  some (-1)
theorem slices_Index_int_ok (k : Nat) (s0 : (List Int)) (v1 : Int) (r : Int) (h0 : slices_Index_int k s0 v1 = some r) : PCall Tryz.prog 120 [.sl 1 (List.map eI s0), .int .i64 v1] (fun y => y = .int .i64 r) := by
 refine PB (fn := Tryz.f120) (sc := F120.c) ?_
 refine rS ?_
 simp only [slices_Index_int] at h0
 try simp only [F120.c, go_sem]
 obtain ⟨r5, yr5, h0⟩ := bs h0
 refine AKev_loopS yr5 (slices_Index_int.h0 s0 v1) (slices_Index_int.x0) ?_ ?_ ?_
 refine Weak.go [0, 1, 7, 8] [] rfl ?_
 try simp only [slices_Index_int.h0, go_sem]
 rintro i1 x_1 Bk1 Br1 h1 hnext1 hbrk1 hret1
 refine rS ?_
 simp only [slices_Index_int.b0] at h1
 try simp only [F120.s0, slices_Index_int.h0, go_sem]
 refine AKev_bif h1 ?_ ?_ <;> intro c2 h1
 try simp only [c2, go_sem]
 obtain ⟨x3, yx3, h1⟩ := bs h1
 try simp only [aa yx3, c2, go_sem]
 refine AKev_bif h1 ?_ ?_ <;> intro c4 h1
 try simp only [c4, c2, aa yx3, go_sem]
 obtain rfl := hret1 _ (Option.some.inj h1).symm
 simp only at h0
 obtain rfl := Option.some.inj h0
 refine AKev_ret rfl ?_
 try simp only [F120.rs, c2, aa yx3, c4, go_sem]
 try simp only [c4, c2, aa yx3, go_sem]
 refine AKev_backB (hnext1 _ _ (Option.some.inj h1).symm ?_)
 refine Weak.go [0, 1, 7, 8] [] rfl ?_
 try simp only [slices_Index_int.h0, c2, aa yx3, c4, go_sem]
 try simp only [c2, go_sem]
 refine AKev_backB (hbrk1 _ _ (Option.some.inj h1).symm ?_)
 refine Weak.go [] [] rfl ?_
 try simp only [slices_Index_int.x0, c2, go_sem]
 rintro _ hr_
 subst hr_
 simp only at h0
 refine rS ?_
 try simp only [slices_Index_int.x0, go_sem]
 obtain rfl := Option.some.inj h0
 refine AKev_ret rfl ?_
 try simp only [F120.rs, go_sem]
def F74.c : SC :=
 (.seq
 (.reg [sb 4 false 4 [4]])
 (.seq
 (.reg [mv 5 0 37 [0],
 mv 6 1 3 [1],
 cf2 7 120 5 6 37 3 3 [5, 6],
 bn 8 .geq 3 7 0 3 4 [7],
 sg 4 8 4 [8]])
 .ret))
theorem F74.rs : Tryz.f74.results.toList = [.tmp 4] := rfl
def slices_Contains_int (k : Nat) (s0 : (List Int)) (v1 : Int) : Option (Bool) :=
 (slices_Index_int k s0 v1).bind fun x1 =>
 some (decide ((0 : Int) ≤ x1))
theorem slices_Contains_int_ok (k : Nat) (s0 : (List Int)) (v1 : Int) (r : Bool) (h0 : slices_Contains_int k s0 v1 = some r) : PCall Tryz.prog 74 [.sl 1 (List.map eI s0), .int .i64 v1] (fun y => y = .bool r) := by
 refine PB (fn := Tryz.f74) (sc := F74.c) ?_
 refine rS ?_
 simp only [slices_Contains_int] at h0
 try simp only [F74.c, go_sem]
 obtain ⟨x1, yx1, h0⟩ := bs h0
 refine zc0 (slices_Index_int_ok k _ _ _ yx1) ?_ (by first | rfl | simp [AV.refsL, AV.refs, AV.scal, AV.leaf]) ?_
 try simp only [go_sem]
 try simp only [go_sem]
 obtain rfl := Option.some.inj h0
 refine AKev_ret rfl ?_
 try simp only [F74.rs, go_sem]
def F118.c : SC :=
 (.seq
 (.reg [sb 3 false 4 [3]])
 (.seq
 (.reg [ld 4 37 1 [1],
 mv 5 0 3 [0],
 cf2 6 74 4 5 37 3 4 [4, 5],
 oq 7 (.unOp .not 4 (.tmp 6)) 4 [6],
 sg 3 7 4 [7]])
 .ret))
theorem F118.rs : Tryz.f118.results.toList = [.tmp 3] := rfl
def heat_only_1 (k : Nat) (n0 : Int) (c1 : (List Int)) : Option (Bool) :=
 (slices_Contains_int k c1 n0).bind fun x1 =>
 some (!x1)
theorem heat_only_1_ok (k : Nat) (n0 : Int) (c1 : (List Int)) (r : Bool) (h0 : heat_only_1 k n0 c1 = some r) : PCall Tryz.prog 118 [.int .i64 n0, .rptr 1 [(eL 1 eI) c1] 0 0] (fun y => y = .bool r) := by
 refine PB (fn := Tryz.f118) (sc := F118.c) ?_
 refine rS ?_
 simp only [heat_only_1] at h0
 try simp only [F118.c, go_sem]
 obtain ⟨x1, yx1, h0⟩ := bs h0
 refine zc0 (slices_Contains_int_ok k _ _ _ yx1) ?_ (by first | rfl | simp [AV.refsL, AV.refs, AV.scal, AV.leaf]) ?_
 try simp only [go_sem]
 try simp only [go_sem]
 obtain rfl := Option.some.inj h0
 refine AKev_ret rfl ?_
 try simp only [F118.rs, go_sem]
def F70.c : SC :=
 (.seq
 (.reg [oq 2 (.box 27 (.tmp 0)) 0 [0],
 oq 3 (.box 37 (.tmp 1)) 0 [1],
 oq 4 (.alloc 81) 0 []])
 (.seq
 (.reg [ld 5 27 2 [2],
 oq 6 (.makeFunc (.func 118) #[] #[.tmp 3]) 109 [3],
 cf2 7 80 5 6 27 109 27 [5, 6],
 cf1 8 66 7 27 81 [7],
 ⟨none, .store 81 (.tmp 4) (.tmp 8), 0, none, [8]⟩])
 .ret))
theorem F70.rs : Tryz.f70.results.toList = [.cell 4 81] := rfl
def heat_only (k : Nat) (f0 : Firing) (by1 : (List Int)) : Option (heat_furnace) :=
 (heat_without k f0 (fun q0 => heat_only_1 k q0 by1)).bind fun x1 =>
 (heat_newFurnace k x1).bind fun x2 =>
 some x2
theorem heat_only_ok (k : Nat) (f0 : Firing) (by1 : (List Int)) (r : heat_furnace) (h0 : heat_only k f0 by1 = some r) : PCall Tryz.prog 70 [.agg (Firing.c f0), .sl 1 (List.map eI by1)] (fun y => y = .agg (heat_furnace.c r)) := by
 refine PB (fn := Tryz.f70) (sc := F70.c) ?_
 refine rS ?_
 simp only [heat_only] at h0
 try simp only [F70.c, go_sem]
 obtain ⟨x1, yx1, h0⟩ := bs h0
 refine zcT [16] (heat_without_ok k _ 118 [.rptr 1 [(eL 1 eI) by1] 0 0] ⟨fun _ => rfl, fun _ => rfl, fun _ _ => rfl, rfl, fun _ => rfl, fun _ => rfl, fun _ => rfl⟩ (fun q0 => heat_only_1 k q0 by1) (fun q0 qr qh => heat_only_1_ok k q0 _ qr qh) _ yx1) ?_ ?_
 try simp only [go_sem]
 try simp only [go_sem]
 obtain ⟨x2, yx2, h0⟩ := bs h0
 refine zc0 (heat_newFurnace_ok k _ _ yx2) ?_ (by first | rfl | simp [AV.refsL, AV.refs, AV.scal, AV.leaf]) ?_
 try simp only [go_sem]
 try simp only [go_sem]
 obtain rfl := Option.some.inj h0
 refine AKev_ret rfl ?_
 try simp only [F70.rs, go_sem]
def F16.s0 : SC :=
 (.seq
 (.seq
 (.reg [mv 21 5 3 [],
 bn 22 .geq 3 21 0 3 4 [21]])
 (.cond (.tmp 22)
 .skip
 (.exit 1)))
 (.seq
 (.block 2
 (.seq
 (.reg [mv 25 4 37 [],
 cf1 26 69 25 37 37 [25],
 mv 27 5 3 [],
 mv 28 5 3 [],
 bn 29 .add 3 28 1 3 3 [28],
 oq 30 (.call ⟨.value (.func 68), #[.tmp 26, .tmp 27, .tmp 29], #[37, 3, 3]⟩) 37 [26, 27, 29],
 sg 6 30 37 [30]])
 (.seq
 (.reg [ld 31 27 1 [],
 mv 32 6 37 [],
 cf2 33 70 31 32 27 37 81 [31, 32],
 cf1 34 53 33 81 4 [33],
 oq 35 (.unOp .not 4 (.tmp 34)) 4 [34]])
 (.cond (.tmp 35)
 (.reg [mv 36 6 37 [6],
 sg 4 36 37 [36]])
 .skip))))
 (.reg [mv 23 5 3 [5],
 bn 24 .sub 3 23 1 3 3 [23],
 sg 5 24 3 [24]])))
def F16.c : SC :=
 (.seq
 (.reg [oq 1 (.box 27 (.tmp 0)) 0 [0],
 oq 2 (.assign (.const (.slice none 0 0))) 37 [2],
 sn 3 0 33 [3]])
 (.seq
 (.block 0
 (.seq
 (.reg [ld 8 27 1 [],
 cf1 9 42 8 27 33 [8],
 bn 10 .neq 33 9 0 33 4 [9],
 sg 7 10 4 [10]])
 (.cond (.tmp 7)
 (.seq
 (.reg [oq 2 (.assign (.const (.slice none 0 0))) 37 [],
 sn 3 42 33 []])
 .ret)
 (.seq
 (.reg [ld 12 27 1 [],
 cf1 13 66 12 27 81 [12],
 cf1 14 53 13 81 4 [13],
 sg 11 14 4 [14]])
 (.cond (.tmp 11)
 (.seq
 (.reg [oq 2 (.assign (.const (.slice none 0 0))) 37 [],
 sn 3 3 33 []])
 .ret)
 .skip)))))
 (.seq
 (.reg [fa 15 27 1 1 [],
 ld 16 25 15 [15],
 cf1 17 67 16 25 37 [16],
 sg 4 17 37 [17]])
 (.seq
 (.seq
 (.reg [mv 18 4 37 [],
 ln 19 18 37 3 [18],
 bn 20 .sub 3 19 1 3 3 [19],
 sg 5 20 3 [20]])
 (.block 1
 (.loop F16.s0)))
 (.seq
 (.reg [mv 37 4 37 [4],
 sg 2 37 37 [37],
 sn 3 0 33 []])
 .ret)))))
theorem F16.rs : Tryz.f16.results.toList = [.tmp 2, .tmp 3] := rfl
def heat_Conflict.b0 (k : Nat) (f0 : Firing) : ((List Int) × Int) → Option (Stp ((List Int) × Int) ((List Int)) ((List Int) × Int)) := fun (s : (List Int) × Int) => match s with
 | (l7, i8) =>
   bif decide ((0 : Int) ≤ i8) then
    (slices_Clone_int k l7).bind fun x12 =>
    (slices_Delete_int k x12 i8 (w64 (i8 + 1))).bind fun x14 =>
    (heat_only k f0 x14).bind fun x15 =>
    (heat_furnace_sound k x15).bind fun x16 =>
    bif (!x16) then
     some (.next (x14, w64 (i8 - 1)))
    else
     some (.next (l7, w64 (i8 - 1)))
   else
    some (.brk l7)
noncomputable def heat_Conflict.h0 (f0 : Firing) : ((List Int) × Int) → St := fun (s : (List Int) × Int) => match s with
 | (l7, i8) => ⟨[(1, .ptr 0 0 0), (4, .sl 1 (List.map eI l7)), (5, .int .i64 i8)], [(0, .box [.sl 1 (List.map (eL 2 Range.c) f0.Kiln.Falls), .sl 6 (List.map Reading.c f0.Readings)])], [], 1, Tryz.f16.ntmps⟩
noncomputable def heat_Conflict.x0 : (List Int) → St := fun (l9 : (List Int)) => ⟨[(4, .sl 1 (List.map eI l9))], [], [], 1, Tryz.f16.ntmps⟩
def heat_Conflict (k : Nat) (f0 : Firing) : Option ((List Int) × Int) :=
 (heat_Check k f0).bind fun x1 =>
 bif (!decide (x1 = (0 : Int))) then
  some ([], 42)
 else
  (heat_newFurnace k f0).bind fun x3 =>
  (heat_furnace_sound k x3).bind fun x4 =>
  bif x4 then
   some ([], 3)
  else
   (heat_sources k f0.Readings).bind fun x6 =>
   (whl (heat_Conflict.b0 k f0) k (x6, w64 ((x6.length : Int) - 1))).bind fun r18 => match r18 with
   | .next _ => none
   | .ret v_ => some v_
   | .brk l9 =>
    some (l9, 0)
theorem heat_Conflict_ok (k : Nat) (f0 : Firing) (r : (List Int) × Int) (h0 : heat_Conflict k f0 = some r) : PCall Tryz.prog 16 [.agg (Firing.c f0)] (fun y => y = .tup [.sl 1 (List.map eI r.1), .int .i64 r.2]) := by
 refine PB (fn := Tryz.f16) (sc := F16.c) ?_
 refine rS ?_
 simp only [heat_Conflict] at h0
 try simp only [F16.c, go_sem]
 obtain ⟨x1, yx1, h0⟩ := bs h0
 refine zc0 (heat_Check_ok k _ _ yx1) ?_ (by first | rfl | simp [AV.refsL, AV.refs, AV.scal, AV.leaf]) ?_
 try simp only [go_sem]
 try simp only [go_sem]
 refine AKev_bif h0 ?_ ?_ <;> intro c2 h0
 have c2 := bnot_t c2
 try simp only [c2, go_sem]
 obtain rfl := Option.some.inj h0
 refine AKev_ret rfl ?_
 try simp only [F16.rs, c2, go_sem]
 have c2 := bnot_f c2
 try simp only [c2, go_sem]
 obtain ⟨x3, yx3, h0⟩ := bs h0
 refine zc0 (heat_newFurnace_ok k _ _ yx3) ?_ (by first | rfl | simp [AV.refsL, AV.refs, AV.scal, AV.leaf]) ?_
 try simp only [c2, go_sem]
 try simp only [c2, go_sem]
 obtain ⟨x4, yx4, h0⟩ := bs h0
 refine zc0 (heat_furnace_sound_ok k _ _ yx4) ?_ (by first | rfl | simp [AV.refsL, AV.refs, AV.scal, AV.leaf]) ?_
 try simp only [c2, go_sem]
 try simp only [c2, go_sem]
 refine AKev_bif h0 ?_ ?_ <;> intro c5 h0
 try simp only [c5, c2, go_sem]
 obtain rfl := Option.some.inj h0
 refine AKev_ret rfl ?_
 try simp only [F16.rs, c2, c5, go_sem]
 try simp only [c5, c2, go_sem]
 obtain ⟨x6, yx6, h0⟩ := bs h0
 refine zc0 (heat_sources_ok k _ _ yx6) ?_ (by first | rfl | simp [AV.refsL, AV.refs, AV.scal, AV.leaf]) ?_
 try simp only [c2, c5, go_sem]
 try simp only [c2, c5, go_sem]
 obtain ⟨r18, yr18, h0⟩ := bs h0
 refine AKev_loopS yr18 (heat_Conflict.h0 f0) (heat_Conflict.x0) ?_ ?_ ?_
 refine Weak.go [1, 4, 5] [0] rfl ?_
 try simp only [heat_Conflict.h0, c2, c5, go_sem]
 rintro ⟨l7, i8⟩ x_1 Bk1 Br1 h1 hnext1 hbrk1 hret1
 refine rS ?_
 simp only [heat_Conflict.b0] at h1
 try simp only [F16.s0, heat_Conflict.h0, c2, c5, go_sem]
 refine AKev_bif h1 ?_ ?_ <;> intro c10 h1
 try simp only [c10, c2, c5, go_sem]
 obtain ⟨x12, yx12, h1⟩ := bs h1
 refine AKev_give T_ok 1000 [] [] (slices_Clone_int_ok k _ _ yx12) ?_ rfl ?_
 try simp only [gOK, List.length_map, c2, c5, c10, go_sem]
 try simp only [c2, c5, c10, go_sem]
 obtain ⟨x14, yx14, h1⟩ := bs h1
 refine AKev_giveF [] [49] (slices_Delete_int_ok k _ _ _ _ yx14) ?_ rfl ?_
 try simp only [gOK, List.length_map, c2, c5, c10, go_sem]
 try simp only [c2, c5, c10, go_sem]
 refine AK.fz 1000 T_ok 113 rfl (fun _ h => by cases h) ?_
 try simp only [c2, c5, c10, go_sem]
 obtain ⟨x15, yx15, h1⟩ := bs h1
 refine zc0 (heat_only_ok k _ _ _ yx15) ?_ (by first | rfl | simp [AV.refsL, AV.refs, AV.scal, AV.leaf]) ?_
 try simp only [c2, c5, c10, go_sem]
 try simp only [c2, c5, c10, go_sem]
 obtain ⟨x16, yx16, h1⟩ := bs h1
 refine zc0 (heat_furnace_sound_ok k _ _ yx16) ?_ (by first | rfl | simp [AV.refsL, AV.refs, AV.scal, AV.leaf]) ?_
 try simp only [c2, c5, c10, go_sem]
 try simp only [c2, c5, c10, go_sem]
 refine AKev_bif h1 ?_ ?_ <;> intro c17 h1
 have c17 := bnot_t c17
 try simp only [c17, c2, c5, c10, go_sem]
 refine AKev_backB (hnext1 _ _ (Option.some.inj h1).symm ?_)
 refine Weak.go [1, 4, 5] [0] rfl ?_
 try simp only [heat_Conflict.h0, c2, c5, c10, c17, go_sem]
 have c17 := bnot_f c17
 try simp only [c17, c2, c5, c10, go_sem]
 refine AKev_backB (hnext1 _ _ (Option.some.inj h1).symm ?_)
 refine Weak.go [1, 4, 5] [0] rfl ?_
 try simp only [heat_Conflict.h0, c2, c5, c10, c17, go_sem]
 try simp only [c10, c2, c5, go_sem]
 refine AKev_backB (hbrk1 _ _ (Option.some.inj h1).symm ?_)
 refine Weak.go [4] [] rfl ?_
 try simp only [heat_Conflict.x0, c2, c5, c10, go_sem]
 rintro l9 hr_
 subst hr_
 simp only at h0
 refine rS ?_
 try simp only [heat_Conflict.x0, c2, c5, go_sem]
 obtain rfl := Option.some.inj h0
 refine AKev_ret rfl ?_
 try simp only [F16.rs, c2, c5, go_sem]
def F18.s0 : SC :=
 (.seq
 (.seq
 (.reg [mv 11 5 3 [],
 mv 12 0 37 [],
 ln 13 12 37 3 [12],
 b2 14 .lss 3 11 13 3 4 [11, 13]])
 (.cond (.tmp 14)
 .skip
 (.exit 0)))
 (.seq
 (.block 1
 (.seq
 (.dreg [mv 17 0 37 [],
 mv 18 5 3 [],
 ia 19 37 17 18 [],
 ld 20 3 19 [],
 mv 21 1 37 [],
 mv 22 5 3 [],
 ia 23 37 21 22 [],
 ld 24 3 23 [],
 b2 25 .neq 3 20 24 3 4 []] [[], [], [0, 1], [0, 1, 2], [], [], [4, 5], [4, 5, 6], [0, 1, 2, 3, 4, 5, 6, 7]] [17, 18, 19, 20, 21, 22, 23, 24])
 (.cond (.tmp 25)
 (.seq
 (.reg [sb 4 false 4 []])
 .ret)
 .skip)))
 (.reg [mv 15 5 3 [5],
 bn 16 .add 3 15 1 3 3 [15],
 sg 5 16 3 [16]])))
def F18.c : SC :=
 (.seq
 (.reg [sb 4 false 4 [4]])
 (.seq
 (.seq
 (.reg [mv 6 0 37 [],
 ln 7 6 37 3 [6],
 mv 8 1 37 [],
 ln 9 8 37 3 [8],
 b2 10 .neq 3 7 9 3 4 [7, 9]])
 (.cond (.tmp 10)
 (.seq
 (.reg [sb 4 false 4 []])
 .ret)
 .skip))
 (.seq
 (.seq
 (.reg [sn 5 0 3 []])
 (.block 0
 (.loop F18.s0)))
 (.seq
 (.reg [sb 4 true 4 []])
 .ret))))
theorem F18.rs : Tryz.f18.results.toList = [.tmp 4] := rfl
def R01_Same.b0 (k : Nat) (a0 : (List Int)) (b1 : (List Int)) : Int → Option (Stp (Int) (Unit) (Bool)) := fun (i2 : Int) =>
 bif decide (i2 < (a0.length : Int)) then
  (at? a0 i2).bind fun x4 =>
  (at? b1 i2).bind fun x5 =>
  bif (!decide (x4 = x5)) then
   some (.ret false)
  else
   some (.next (w64 (i2 + 1)))
 else
  some (.brk ())
noncomputable def R01_Same.h0 (a0 : (List Int)) (b1 : (List Int)) : Int → St := fun (i2 : Int) => ⟨[(0, .sl 1 (List.map eI a0)), (1, .sl 1 (List.map eI b1)), (5, .int .i64 i2)], [], [], 1, Tryz.f18.ntmps⟩
noncomputable def R01_Same.x0 : Unit → St := fun (_ : Unit) => ⟨[], [], [], 1, Tryz.f18.ntmps⟩
def R01_Same (k : Nat) (a0 : (List Int)) (b1 : (List Int)) : Option (Bool) :=
 bif (!decide ((a0.length : Int) = (b1.length : Int))) then
  some false
 else
  (whl (R01_Same.b0 k a0 b1) k 0).bind fun r7 => match r7 with
  | .next _ => none
  | .ret v_ => some v_
  | .brk _ =>
   some true
theorem R01_Same_ok (k : Nat) (a0 : (List Int)) (b1 : (List Int)) (r : Bool) (h0 : R01_Same k a0 b1 = some r) : PCall Tryz.prog 18 [.sl 1 (List.map eI a0), .sl 1 (List.map eI b1)] (fun y => y = .bool r) := by
 refine PB (fn := Tryz.f18) (sc := F18.c) ?_
 refine rS ?_
 simp only [R01_Same] at h0
 try simp only [F18.c, go_sem]
 refine AKev_bif h0 ?_ ?_ <;> intro c1 h0
 have c1 := bnot_t c1
 try simp only [c1, go_sem]
 obtain rfl := Option.some.inj h0
 refine AKev_ret rfl ?_
 try simp only [F18.rs, c1, go_sem]
 have c1 := bnot_f c1
 try simp only [c1, go_sem]
 obtain ⟨r7, yr7, h0⟩ := bs h0
 refine AKev_loopS yr7 (R01_Same.h0 a0 b1) (R01_Same.x0) ?_ ?_ ?_
 refine Weak.go [0, 1, 5] [] rfl ?_
 try simp only [R01_Same.h0, c1, go_sem]
 rintro i2 x_1 Bk1 Br1 h1 hnext1 hbrk1 hret1
 refine rS ?_
 simp only [R01_Same.b0] at h1
 try simp only [F18.s0, R01_Same.h0, c1, go_sem]
 refine AKev_bif h1 ?_ ?_ <;> intro c3 h1
 try simp only [c3, c1, go_sem]
 refine AKev_region T_ok follows_ok 1000 ?_
 try simp only [c1, c3, go_sem]
 obtain ⟨x4, yx4, h1⟩ := bs h1
 try simp only [aa yx4, c1, c3, go_sem]
 obtain ⟨x5, yx5, h1⟩ := bs h1
 try simp only [aa yx5, c1, c3, aa yx4, go_sem]
 refine DG_done ⟨rfl, run_sound T_ok 1000 _ _ ?_⟩
 try simp only [c1, c3, aa yx4, aa yx5, go_sem]
 refine AKev_bif h1 ?_ ?_ <;> intro c6 h1
 have c6 := bnot_t c6
 try simp only [c6, c1, c3, aa yx4, aa yx5, go_sem]
 obtain rfl := hret1 _ (Option.some.inj h1).symm
 simp only at h0
 obtain rfl := Option.some.inj h0
 refine AKev_ret rfl ?_
 try simp only [F18.rs, c1, c3, aa yx4, aa yx5, c6, go_sem]
 have c6 := bnot_f c6
 try simp only [c6, c1, c3, aa yx4, aa yx5, go_sem]
 refine AKev_backB (hnext1 _ _ (Option.some.inj h1).symm ?_)
 refine Weak.go [0, 1, 5] [] rfl ?_
 try simp only [R01_Same.h0, c1, c3, aa yx4, aa yx5, c6, go_sem]
 try simp only [c3, c1, go_sem]
 refine AKev_backB (hbrk1 _ _ (Option.some.inj h1).symm ?_)
 refine Weak.go [] [] rfl ?_
 try simp only [R01_Same.x0, c1, c3, go_sem]
 rintro _ hr_
 subst hr_
 simp only at h0
 refine rS ?_
 try simp only [R01_Same.x0, c1, go_sem]
 obtain rfl := Option.some.inj h0
 refine AKev_ret rfl ?_
 try simp only [F18.rs, c1, go_sem]
def F21.c : SC :=
 (.seq
 (.reg [oq 2 (.box 27 (.tmp 0)) 0 [0],
 oq 4 (.alloc 30) 0 [],
 sn 5 0 33 [5]])
 (.seq
 (.reg [ld 9 27 2 [2],
 mv 10 1 3 [],
 cf2 11 76 9 10 27 3 104 [9, 10],
 mv 8 11 104 [11],
 xt 12 8 0 81 [],
 xt 13 8 1 33 [8],
 oq 6 (.alloc 81) 0 [],
 ⟨none, .store 81 (.tmp 6) (.tmp 12), 0, none, [12]⟩,
 sg 7 13 33 [13]])
 (.seq
 (.seq
 (.reg [mv 14 7 33 [],
 bn 15 .neq 33 14 0 33 4 [14]])
 (.cond (.tmp 15)
 (.seq
 (.reg [oq 16 (.build 30 #[]) 30 [],
 mv 17 7 33 [7],
 ⟨none, .store 30 (.tmp 4) (.tmp 16), 0, none, [16]⟩,
 sg 5 17 33 [17]])
 .ret)
 .skip))
 (.seq
 (.reg [ld 18 81 6 [6],
 mv 19 1 3 [1],
 cf2 20 54 18 19 81 3 30 [18, 19],
 ⟨none, .store 30 (.tmp 4) (.tmp 20), 0, none, [20]⟩,
 sn 5 0 33 []])
 .ret))))
theorem F21.rs : Tryz.f21.results.toList = [.cell 4 30, .tmp 5] := rfl
def heat_Bound (k : Nat) (f0 : Firing) (place1 : Int) : Option (Range × Int) :=
 (heat_asks k f0 place1).bind fun x1 =>
 bif (!decide (x1.2 = (0 : Int))) then
  some ((⟨0, 0⟩ : Range), x1.2)
 else
  (heat_furnace_bound k x1.1 place1).bind fun x3 =>
  some (x3, 0)
theorem heat_Bound_ok (k : Nat) (f0 : Firing) (place1 : Int) (r : Range × Int) (h0 : heat_Bound k f0 place1 = some r) : PCall Tryz.prog 21 [.agg (Firing.c f0), .int .i64 place1] (fun y => y = .tup [.agg (Range.c r.1), .int .i64 r.2]) := by
 refine PB (fn := Tryz.f21) (sc := F21.c) ?_
 refine rS ?_
 simp only [heat_Bound] at h0
 try simp only [F21.c, go_sem]
 obtain ⟨x1, yx1, h0⟩ := bs h0
 refine zc0 (heat_asks_ok k _ _ _ yx1) ?_ (by first | rfl | simp [AV.refsL, AV.refs, AV.scal, AV.leaf]) ?_
 try simp only [go_sem]
 try simp only [go_sem]
 refine AKev_bif h0 ?_ ?_ <;> intro c2 h0
 have c2 := bnot_t c2
 try simp only [c2, go_sem]
 obtain rfl := Option.some.inj h0
 refine AKev_ret rfl ?_
 try simp only [F21.rs, c2, go_sem]
 have c2 := bnot_f c2
 try simp only [c2, go_sem]
 obtain ⟨x3, yx3, h0⟩ := bs h0
 refine zc0 (heat_furnace_bound_ok k _ _ _ yx3) ?_ (by first | rfl | simp [AV.refsL, AV.refs, AV.scal, AV.leaf]) ?_
 try simp only [c2, go_sem]
 try simp only [c2, go_sem]
 obtain rfl := Option.some.inj h0
 refine AKev_ret rfl ?_
 try simp only [F21.rs, c2, go_sem]
def F48.c : SC :=
 (.seq
 (.reg [oq 1 (.box 27 (.tmp 0)) 0 [0],
 oq 2 (.assign (.const (.slice none 0 0))) 37 [2],
 sn 3 0 33 [3]])
 (.seq
 (.reg [ld 7 27 1 [1],
 oq 8 (.call ⟨.value (.func 76), #[.tmp 7, .const (.int .i64 0)], #[27, 3]⟩) 104 [7],
 mv 6 8 104 [8],
 xt 9 6 0 81 [],
 xt 10 6 1 33 [6],
 oq 4 (.alloc 81) 0 [],
 ⟨none, .store 81 (.tmp 4) (.tmp 9), 0, none, [9]⟩,
 sg 5 10 33 [10]])
 (.seq
 (.seq
 (.reg [mv 11 5 33 [],
 bn 12 .neq 33 11 0 33 4 [11]])
 (.cond (.tmp 12)
 (.seq
 (.reg [mv 13 5 33 [5],
 oq 2 (.assign (.const (.slice none 0 0))) 37 [],
 sg 3 13 33 [13]])
 .ret)
 .skip))
 (.seq
 (.reg [ld 14 81 4 [4],
 cf1 15 60 14 81 40 [14],
 oq 16 (.field 40 (.tmp 15) 0) 37 [15],
 sg 2 16 37 [16],
 sn 3 0 33 []])
 .ret))))
theorem F48.rs : Tryz.f48.results.toList = [.tmp 2, .tmp 3] := rfl
def heat_Hottest (k : Nat) (f0 : Firing) : Option ((List Int) × Int) :=
 (heat_asks k f0 0).bind fun x1 =>
 bif (!decide (x1.2 = (0 : Int))) then
  some ([], x1.2)
 else
  (heat_furnace_greatest k x1.1).bind fun x3 =>
  some (x3.Mouths, 0)
theorem heat_Hottest_ok (k : Nat) (f0 : Firing) (r : (List Int) × Int) (h0 : heat_Hottest k f0 = some r) : PCall Tryz.prog 48 [.agg (Firing.c f0)] (fun y => y = .tup [.sl 1 (List.map eI r.1), .int .i64 r.2]) := by
 refine PB (fn := Tryz.f48) (sc := F48.c) ?_
 refine rS ?_
 simp only [heat_Hottest] at h0
 try simp only [F48.c, go_sem]
 obtain ⟨x1, yx1, h0⟩ := bs h0
 refine zc0 (heat_asks_ok k _ _ _ yx1) ?_ (by first | rfl | simp [AV.refsL, AV.refs, AV.scal, AV.leaf]) ?_
 try simp only [go_sem]
 try simp only [go_sem]
 refine AKev_bif h0 ?_ ?_ <;> intro c2 h0
 have c2 := bnot_t c2
 try simp only [c2, go_sem]
 obtain rfl := Option.some.inj h0
 refine AKev_ret rfl ?_
 try simp only [F48.rs, c2, go_sem]
 have c2 := bnot_f c2
 try simp only [c2, go_sem]
 obtain ⟨x3, yx3, h0⟩ := bs h0
 refine zc0 (heat_furnace_greatest_ok k _ _ yx3) ?_ (by first | rfl | simp [AV.refsL, AV.refs, AV.scal, AV.leaf]) ?_
 try simp only [c2, go_sem]
 try simp only [c2, go_sem]
 obtain rfl := Option.some.inj h0
 refine AKev_ret rfl ?_
 try simp only [F48.rs, c2, go_sem]
def F64.c : SC :=
 (.seq
 (.reg [oq 0 (.alloc 24) 0 []])
 (.seq
 (.reg [oq 4 (.build 30 #[(0, .const (.int .i64 100)), (1, .const (.int .i64 200))]) 30 [],
 oq 1 (.alloc 30) 0 [],
 ⟨none, .store 30 (.tmp 1) (.tmp 4), 0, none, [4]⟩])
 (.seq
 (.reg [oq 5 (.build 30 #[(0, .const (.int .i64 300)), (1, .const (.int .i64 400))]) 30 [],
 oq 2 (.alloc 30) 0 [],
 ⟨none, .store 30 (.tmp 2) (.tmp 5), 0, none, [5]⟩])
 (.seq
 (.reg [oq 6 (.build 30 #[(0, .const (.int .i64 600)), (1, .const (.int .i64 800))]) 30 [],
 oq 3 (.alloc 30) 0 [],
 ⟨none, .store 30 (.tmp 3) (.tmp 6), 0, none, [6]⟩])
 (.seq
 (.reg [ld 7 30 1 [],
 ld 8 30 2 [],
 ld 9 30 3 [],
 oq 10 (.buildSlice 89 3 #[(0, .tmp 7), (1, .tmp 8), (2, .tmp 9)]) 89 [7, 8, 9],
 ld 11 30 3 [3],
 ld 12 30 2 [2],
 ld 13 30 1 [1],
 oq 14 (.buildSlice 89 3 #[(0, .tmp 11), (1, .tmp 12), (2, .tmp 13)]) 89 [11, 12, 13],
 oq 15 (.buildSlice 22 2 #[(0, .tmp 10), (1, .tmp 14)]) 22 [10, 14],
 oq 16 (.build 24 #[(0, .tmp 15)]) 24 [15],
 ⟨none, .store 24 (.tmp 0) (.tmp 16), 0, none, [16]⟩])
 .ret)))))
theorem F64.rs : Tryz.f64.results.toList = [.cell 0 24] := rfl
def L04_kiln (k : Nat) : Option (Kiln) :=
 some (⟨[[(⟨100, 200⟩ : Range), (⟨300, 400⟩ : Range), (⟨600, 800⟩ : Range)], [(⟨600, 800⟩ : Range), (⟨300, 400⟩ : Range), (⟨100, 200⟩ : Range)]]⟩ : Kiln)
theorem L04_kiln_ok (k : Nat) (r : Kiln) (h0 : L04_kiln k = some r) : PCall Tryz.prog 64 [] (fun y => y = .agg (Kiln.c r)) := by
 refine PB (fn := Tryz.f64) (sc := F64.c) ?_
 refine rS ?_
 simp only [L04_kiln] at h0
 try simp only [F64.c, go_sem]
 obtain rfl := Option.some.inj h0
 refine AKev_ret rfl ?_
 try simp only [F64.rs, go_sem]
def F63.c : SC :=
 (.seq
 (.reg [oq 0 (.alloc 27) 0 []])
 (.seq
 (.reg [oq 1 (.call ⟨.value (.func 64), #[], #[]⟩) 24 [],
 oq 2 (.build 64 #[(0, .const (.int .i64 1)), (2, .const (.int .i64 1)), (3, .const (.int .i64 1000))]) 64 [],
 oq 3 (.build 64 #[(0, .const (.int .i64 2)), (2, .const (.int .i64 2)), (3, .const (.int .i64 1101))]) 64 [],
 oq 4 (.build 64 #[(0, .const (.int .i64 3)), (1, .const (.int .i64 2)), (2, .const (.int .i64 2)), (3, .const (.int .i64 901))]) 64 [],
 oq 5 (.buildSlice 25 3 #[(0, .tmp 2), (1, .tmp 3), (2, .tmp 4)]) 25 [2, 3, 4],
 oq 6 (.build 27 #[(0, .tmp 1), (1, .tmp 5)]) 27 [1, 5],
 ⟨none, .store 27 (.tmp 0) (.tmp 6), 0, none, [6]⟩])
 .ret))
theorem F63.rs : Tryz.f63.results.toList = [.cell 0 27] := rfl
def L04_firing_o (k : Nat) : Option (Firing) :=
 (L04_kiln k).bind fun x1 =>
 some (⟨x1, [(⟨1, 0, 1, 1000, (⟨0, 0⟩ : Range)⟩ : Reading), (⟨2, 0, 2, 1101, (⟨0, 0⟩ : Range)⟩ : Reading), (⟨3, 2, 2, 901, (⟨0, 0⟩ : Range)⟩ : Reading)]⟩ : Firing)
theorem L04_firing_o_ok (k : Nat) (r : Firing) (h0 : L04_firing_o k = some r) : GCall Tryz.prog 63 [] [] (fun y fr => y = .agg [.sl 1 (List.map (eL 2 Range.c) r.Kiln.Falls), .loc 0 0 6 0 r.Readings.length r.Readings.length] ∧ fr = [(0, .arr 64 6 (List.map Reading.c r.Readings))]) := by
 refine GCall.of_body T_ok (f := 63) (fn := Tryz.f63) (sc := F63.c) (by rfl) (by rfl) (by decide +kernel) (by rfl) (by decide +kernel) (Nat.le_of_ble_eq_true rfl) (fun H => ?_)
 refine rS ?_
 simp only [L04_firing_o] at h0
 try simp only [F63.c, go_sem]
 obtain ⟨x1, yx1, h0⟩ := bs h0
 refine zc0 (L04_kiln_ok k _ yx1) ?_ (by first | rfl | simp [AV.refsL, AV.refs, AV.scal, AV.leaf]) ?_
 try simp only [go_sem]
 try simp only [go_sem]
 obtain rfl := Option.some.inj h0
 refine AKev_gown [96] (by simp) rfl rfl ?_
 try simp only [F63.rs, gwOK, tupOf, Option.bind_some, go_sem]
def F133.s0 : SC :=
 (.seq
 (.reg [b2 9 .lss 3 8 7 3 0 []])
 (.seq
 (.cond (.tmp 9)
 .skip
 (.exit 0))
 (.seq
 (.block 1
 (.seq
 (.reg [mv 10 8 3 [],
 sg 5 10 3 [10]])
 (.seq
 (.reg [mv 11 1 159 [],
 mv 12 0 79 [],
 mv 13 5 3 [],
 ia 14 79 12 13 [12, 13],
 ld 15 135 14 [14],
 oq 16 (.call ⟨.value (.tmp 11), #[.tmp 15], #[135]⟩) 4 [11, 15]])
 (.cond (.tmp 16)
 (.seq
 (.reg [mv 17 5 3 [5],
 sg 4 17 3 [17]])
 .ret)
 .skip))))
 (.reg [bn 18 .add 3 8 1 3 3 [8],
 mv 8 18 3 [18]]))))
def F133.c : SC :=
 (.seq
 (.reg [sn 4 0 3 [4]])
 (.seq
 (.seq
 (.reg [mv 6 0 79 [],
 ln 7 6 79 3 [6],
 oq 8 (.move (.const (.int .i64 0))) 3 []])
 (.block 0
 (.loop F133.s0)))
 (.seq
 (.reg [sn 4 (-1) 3 []])
 .ret)))
theorem F133.rs : Tryz.f133.results.toList = [.tmp 4] := rfl
def slices_IndexFunc_heat_limit.b0 (k : Nat) (f1 : heat_limit → Option (Bool)) (s0 : (List heat_limit)) : Int → Option (Stp (Int) (Unit) (Int)) := fun (i1 : Int) =>
 bif decide (i1 < (s0.length : Int)) then
  (at? s0 i1).bind fun x3 =>
  (f1 x3).bind fun x4 =>
  bif x4 then
   some (.ret i1)
  else
   some (.next (w64 (i1 + 1)))
 else
  some (.brk ())
noncomputable def slices_IndexFunc_heat_limit.h0 (f1_f : Nat) (f1_c : List AV) (s0 : (List heat_limit)) : Int → St := fun (i1 : Int) => ⟨[(0, .sl 3 (List.map heat_limit.c s0)), (1, .fn (.func f1_f) [] f1_c), (7, .int .i64 (s0.length : Int)), (8, .int .i64 i1)], [], [], 1, Tryz.f133.ntmps⟩
noncomputable def slices_IndexFunc_heat_limit.x0 : Unit → St := fun (_ : Unit) => ⟨[], [], [], 1, Tryz.f133.ntmps⟩
def slices_IndexFunc_heat_limit (k : Nat) (s0 : (List heat_limit)) (f1 : heat_limit → Option (Bool)) : Option (Int) :=
 (whl (slices_IndexFunc_heat_limit.b0 k f1 s0) k 0).bind fun r6 => match r6 with
 | .next _ => none
 | .ret v_ => some v_
 | .brk _ =>
  some (-1)
theorem slices_IndexFunc_heat_limit_ok (k : Nat) (s0 : (List heat_limit)) (f1_f : Nat) (f1_c : List AV) (f1_i : Ice f1_c) (f1 : heat_limit → Option (Bool)) (f1_h : ∀ q0 qr, f1 q0 = some qr → PCall Tryz.prog f1_f (.agg (heat_limit.c q0) :: f1_c) (fun y => y = .bool qr)) (r : Int) (h0 : slices_IndexFunc_heat_limit k s0 f1 = some r) : PCall Tryz.prog 133 [.sl 3 (List.map heat_limit.c s0), .fn (.func f1_f) [] f1_c] (fun y => y = .int .i64 r) := by
 refine PB (fn := Tryz.f133) (sc := F133.c) ?_
 refine rS ?_
 simp only [slices_IndexFunc_heat_limit] at h0
 try simp only [F133.c, f1_i.sh, f1_i.frz, f1_i.br, f1_i.refs, f1_i.imp, f1_i.ren, f1_i.un, go_sem]
 obtain ⟨r6, yr6, h0⟩ := bs h0
 refine AKev_loopS yr6 (slices_IndexFunc_heat_limit.h0 f1_f f1_c s0) (slices_IndexFunc_heat_limit.x0) ?_ ?_ ?_
 refine Weak.go [0, 1, 7, 8] [] rfl ?_
 try simp only [slices_IndexFunc_heat_limit.h0, f1_i.sh, f1_i.frz, f1_i.br, f1_i.refs, f1_i.imp, f1_i.ren, f1_i.un, go_sem]
 rintro i1 x_1 Bk1 Br1 h1 hnext1 hbrk1 hret1
 refine rS ?_
 simp only [slices_IndexFunc_heat_limit.b0] at h1
 try simp only [F133.s0, slices_IndexFunc_heat_limit.h0, f1_i.sh, f1_i.frz, f1_i.br, f1_i.refs, f1_i.imp, f1_i.ren, f1_i.un, go_sem]
 refine AKev_bif h1 ?_ ?_ <;> intro c2 h1
 try simp only [c2, f1_i.sh, f1_i.frz, f1_i.br, f1_i.refs, f1_i.imp, f1_i.ren, f1_i.un, go_sem]
 obtain ⟨x3, yx3, h1⟩ := bs h1
 try simp only [aa yx3, f1_i.sh, f1_i.frz, f1_i.br, f1_i.refs, f1_i.imp, f1_i.ren, f1_i.un, c2, go_sem]
 obtain ⟨x4, yx4, h1⟩ := bs h1
 refine zc0 (f1_h _ _ yx4) ?_ (by first | rfl | simp [AV.refsL, AV.refs, AV.scal, AV.leaf, f1_i.refs]) ?_
 try simp only [f1_i.sh, f1_i.frz, f1_i.br, f1_i.refs, f1_i.imp, f1_i.ren, f1_i.un, c2, aa yx3, go_sem]
 try simp only [f1_i.sh, f1_i.frz, f1_i.br, f1_i.refs, f1_i.imp, f1_i.ren, f1_i.un, c2, aa yx3, go_sem]
 refine AKev_bif h1 ?_ ?_ <;> intro c5 h1
 try simp only [c5, f1_i.sh, f1_i.frz, f1_i.br, f1_i.refs, f1_i.imp, f1_i.ren, f1_i.un, c2, aa yx3, go_sem]
 obtain rfl := hret1 _ (Option.some.inj h1).symm
 simp only at h0
 obtain rfl := Option.some.inj h0
 refine AKev_ret rfl ?_
 try simp only [F133.rs, f1_i.sh, f1_i.frz, f1_i.br, f1_i.refs, f1_i.imp, f1_i.ren, f1_i.un, c2, aa yx3, c5, go_sem]
 try simp only [c5, f1_i.sh, f1_i.frz, f1_i.br, f1_i.refs, f1_i.imp, f1_i.ren, f1_i.un, c2, aa yx3, go_sem]
 refine AKev_backB (hnext1 _ _ (Option.some.inj h1).symm ?_)
 refine Weak.go [0, 1, 7, 8] [] rfl ?_
 try simp only [slices_IndexFunc_heat_limit.h0, f1_i.sh, f1_i.frz, f1_i.br, f1_i.refs, f1_i.imp, f1_i.ren, f1_i.un, c2, aa yx3, c5, go_sem]
 try simp only [c2, f1_i.sh, f1_i.frz, f1_i.br, f1_i.refs, f1_i.imp, f1_i.ren, f1_i.un, go_sem]
 refine AKev_backB (hbrk1 _ _ (Option.some.inj h1).symm ?_)
 refine Weak.go [] [] rfl ?_
 try simp only [slices_IndexFunc_heat_limit.x0, f1_i.sh, f1_i.frz, f1_i.br, f1_i.refs, f1_i.imp, f1_i.ren, f1_i.un, c2, go_sem]
 rintro _ hr_
 subst hr_
 simp only at h0
 refine rS ?_
 try simp only [slices_IndexFunc_heat_limit.x0, f1_i.sh, f1_i.frz, f1_i.br, f1_i.refs, f1_i.imp, f1_i.ren, f1_i.un, go_sem]
 obtain rfl := Option.some.inj h0
 refine AKev_ret rfl ?_
 try simp only [F133.rs, f1_i.sh, f1_i.frz, f1_i.br, f1_i.refs, f1_i.imp, f1_i.ren, f1_i.un, go_sem]
def F141.c : SC :=
 (.seq
 (.reg [oq 2 (.box 135 (.tmp 0)) 0 [0],
 sb 3 false 4 [3]])
 (.seq
 (.reg [fa 4 135 2 2 [2],
 ld 5 3 4 [4],
 ld 6 3 1 [1],
 b2 7 .eql 3 5 6 3 4 [5, 6],
 sg 3 7 4 [7]])
 .ret))
theorem F141.rs : Tryz.f141.results.toList = [.tmp 3] := rfl
def heat_furnace_told_1 (k : Nat) (x0 : heat_limit) (c1 : Int) : Option (Bool) :=
 some (decide (x0.by_ = c1))
theorem heat_furnace_told_1_ok (k : Nat) (x0 : heat_limit) (c1 : Int) (r : Bool) (h0 : heat_furnace_told_1 k x0 c1 = some r) : PCall Tryz.prog 141 [.agg (heat_limit.c x0), .rptr 1 [eI c1] 0 0] (fun y => y = .bool r) := by
 refine PB (fn := Tryz.f141) (sc := F141.c) ?_
 refine rS ?_
 simp only [heat_furnace_told_1] at h0
 try simp only [F141.c, go_sem]
 obtain rfl := Option.some.inj h0
 refine AKev_ret rfl ?_
 try simp only [F141.rs, go_sem]
def F132.c : SC :=
 (.seq
 (.reg [oq 2 (.box 81 (.tmp 0)) 0 [0],
 oq 3 (.box 3 (.tmp 1)) 0 [1],
 oq 4 (.alloc 135) 0 [],
 sb 5 false 4 [5]])
 (.seq
 (.reg [fa 7 81 2 2 [],
 ld 8 79 7 [7],
 oq 9 (.makeFunc (.func 141) #[] #[.tmp 3]) 159 [3],
 cf2 10 133 8 9 79 159 3 [8, 9],
 sg 6 10 3 [10]])
 (.seq
 (.seq
 (.reg [mv 11 6 3 [],
 bn 12 .lss 3 11 0 3 4 [11]])
 (.cond (.tmp 12)
 (.seq
 (.reg [oq 13 (.build 135 #[]) 135 [],
 ⟨none, .store 135 (.tmp 4) (.tmp 13), 0, none, [13]⟩,
 sb 5 false 4 []])
 .ret)
 .skip))
 (.seq
 (.reg [fa 14 81 2 2 [2],
 ld 15 79 14 [14],
 mv 16 6 3 [6],
 ia 17 79 15 16 [15, 16],
 ld 18 135 17 [17],
 ⟨none, .store 135 (.tmp 4) (.tmp 18), 0, none, [18]⟩,
 sb 5 true 4 []])
 .ret))))
theorem F132.rs : Tryz.f132.results.toList = [.cell 4 135, .tmp 5] := rfl
def heat_furnace_told (k : Nat) (f0 : heat_furnace) (i1 : Int) : Option (heat_limit × Bool) :=
 (slices_IndexFunc_heat_limit k f0.most (fun q0 => heat_furnace_told_1 k q0 i1)).bind fun x1 =>
 bif decide (x1 < (0 : Int)) then
  some ((⟨0, 0, 0⟩ : heat_limit), false)
 else
  (at? f0.most x1).bind fun x3 =>
  some (x3, true)
theorem heat_furnace_told_ok (k : Nat) (f0 : heat_furnace) (i1 : Int) (r : heat_limit × Bool) (h0 : heat_furnace_told k f0 i1 = some r) : PCall Tryz.prog 132 [.agg (heat_furnace.c f0), .int .i64 i1] (fun y => y = .tup [.agg (heat_limit.c r.1), .bool r.2]) := by
 refine PB (fn := Tryz.f132) (sc := F132.c) ?_
 refine rS ?_
 simp only [heat_furnace_told] at h0
 try simp only [F132.c, go_sem]
 obtain ⟨x1, yx1, h0⟩ := bs h0
 refine zcL (slices_IndexFunc_heat_limit_ok k _ 141 [.rptr 1 [eI i1] 0 0] ⟨fun _ => rfl, fun _ => rfl, fun _ _ => rfl, rfl, fun _ => rfl, fun _ => rfl, fun _ => rfl⟩ (fun q0 => heat_furnace_told_1 k q0 i1) (fun q0 qr qh => heat_furnace_told_1_ok k q0 _ qr qh) _ yx1) ?_ (by first | rfl | simp [AV.refsL, AV.refs, AV.scal, AV.leaf]) ?_
 try simp only [go_sem]
 try simp only [go_sem]
 refine AKev_bif h0 ?_ ?_ <;> intro c2 h0
 try simp only [c2, go_sem]
 obtain rfl := Option.some.inj h0
 refine AKev_ret rfl ?_
 try simp only [F132.rs, c2, go_sem]
 try simp only [c2, go_sem]
 obtain ⟨x3, yx3, h0⟩ := bs h0
 try simp only [aa yx3, c2, go_sem]
 obtain rfl := Option.some.inj h0
 refine AKev_ret rfl ?_
 try simp only [F132.rs, c2, aa yx3, go_sem]
def F114.s0 : SC :=
 (.seq
 (.reg [b2 55 .lss 3 54 53 3 0 []])
 (.seq
 (.cond (.tmp 55)
 .skip
 (.exit 0))
 (.seq
 (.block 1
 (.seq
 (.reg [mv 56 54 3 [],
 ia 57 37 52 54 [],
 ld 58 3 57 [57],
 sg 11 56 3 [56],
 sg 12 58 3 [58]])
 (.seq
 (.reg [sn 13 3000 3 []])
 (.seq
 (.seq
 (.reg [mv 59 12 3 [],
 bn 60 .neq 3 59 (-1) 3 4 [59]])
 (.cond (.tmp 60)
 (.seq
 (.reg [ld 62 81 3 [],
 mv 63 12 3 [12],
 cf2 64 132 62 63 81 3 136 [62, 63],
 mv 61 64 136 [64],
 xt 65 61 0 135 [],
 xt 66 61 1 4 [61],
 oq 14 (.alloc 135) 0 [],
 ⟨none, .store 135 (.tmp 14) (.tmp 65), 0, none, [65]⟩,
 sg 15 66 4 [66]])
 (.seq
 (.seq
 (.reg [mv 67 15 4 [15],
 oq 68 (.unOp .not 4 (.tmp 67)) 4 [67]])
 (.cond (.tmp 68)
 (.seq
 (.reg [sn 6 0 3 [],
 sb 7 false 4 []])
 .ret)
 .skip))
 (.dreg [fa 69 135 14 1 [],
 ld 70 3 69 [],
 fa 71 81 3 0 [],
 fa 72 27 71 0 [],
 fa 73 24 72 0 [],
 ld 74 22 73 [],
 mv 75 11 3 [],
 ia 76 22 74 75 [],
 ld 77 89 76 [],
 fa 78 135 14 0 [],
 ld 79 3 78 [],
 ia 80 89 77 79 [],
 fa 81 30 80 1 [],
 ld 82 3 81 [],
 b2 83 .add 3 70 82 3 3 [],
 sg 13 83 3 []] [[], [0], [], [2], [2, 3], [2, 3, 4], [], [2, 3, 4, 5, 6], [2, 3, 4, 5, 6, 7], [], [9], [2, 3, 4, 5, 6, 7, 8, 9, 10], [2, 3, 4, 5, 6, 7, 8, 9, 10, 11], [2, 3, 4, 5, 6, 7, 8, 9, 10, 11, 12], [0, 1, 2, 3, 4, 5, 6, 7, 8, 9, 10, 11, 12, 13], [0, 1, 2, 3, 4, 5, 6, 7, 8, 9, 10, 11, 12, 13, 14]] [14, 69, 70, 71, 72, 73, 74, 75, 76, 77, 78, 79, 80, 81, 82, 83])))
 .skip))
 (.seq
 (.reg [mv 84 13 3 [13],
 fa 85 81 3 0 [],
 fa 86 27 85 0 [85],
 fa 87 24 86 0 [86],
 ld 88 22 87 [87],
 mv 89 11 3 [],
 ia 90 22 88 89 [88, 89],
 ld 91 89 90 [90],
 mv 92 1 3 [],
 ia 93 89 91 92 [91, 92],
 fa 94 30 93 0 [93],
 ld 95 3 94 [94],
 b2 96 .sub 3 84 95 3 3 [84, 95],
 sg 16 96 3 [96]])
 (.seq
 (.reg [mv 97 11 3 [11],
 bn 98 .eql 3 97 0 3 4 [97],
 mv 99 98 4 [98],
 og 100 (.move (.tmp 16)) 3 99 false [],
 og 101 (.move (.tmp 10)) 3 99 false [],
 og 102 (.binOp .gtr 3 (.tmp 100) (.tmp 101) 3) 4 99 false [100, 101],
 oq 103 (.pick (.tmp 99) (.const (.bool true)) (.tmp 102)) 4 [99, 102]])
 (.cond (.tmp 103)
 (.reg [mv 104 16 3 [16],
 sg 10 104 3 [104]])
 .skip)))))))
 (.reg [bn 105 .add 3 54 1 3 3 [54],
 mv 54 105 3 [105]]))))
def F114.c : SC :=
 (.seq
 (.reg [oq 3 (.box 81 (.tmp 0)) 0 [0],
 oq 5 (.box 57 (.tmp 2)) 0 [2],
 sn 6 0 3 [6],
 sb 7 false 4 [7]])
 (.seq
 (.seq
 (.reg [fa 17 57 5 0 [],
 ld 18 3 17 [17],
 bn 19 .neq 3 18 (-1) 3 4 [18]])
 (.cond (.tmp 19)
 (.seq
 (.reg [ld 21 81 3 [3],
 fa 22 57 5 0 [],
 ld 23 3 22 [22],
 cf2 24 132 21 23 81 3 136 [21, 23],
 mv 20 24 136 [24],
 xt 25 20 0 135 [],
 xt 26 20 1 4 [20],
 oq 8 (.alloc 135) 0 [],
 ⟨none, .store 135 (.tmp 8) (.tmp 25), 0, none, [25]⟩,
 sg 9 26 4 [26]])
 (.seq
 (.dreg [fa 27 135 8 1 [],
 ld 28 3 27 [],
 mv 29 9 4 [],
 mv 30 29 4 [],
 og 31 (.fieldAddr 135 (.tmp 8) 0) 0 30 true [],
 og 32 (.load 3 (.tmp 31)) 3 30 true [],
 og 33 (.move (.tmp 1)) 3 30 true [],
 og 34 (.binOp .eql 3 (.tmp 32) (.tmp 33) 3) 4 30 true [],
 oq 35 (.pick (.tmp 30) (.tmp 34) (.const (.bool false))) 4 [],
 mv 36 35 4 [],
 og 37 (.fieldAddr 57 (.tmp 5) 1) 0 36 true [],
 og 38 (.load 37 (.tmp 37)) 37 36 true [],
 og 39 (.call ⟨.builtin .len, #[.tmp 38], #[37]⟩) 3 36 true [],
 og 40 (.binOp .eql 3 (.tmp 39) (.const (.int .i64 0)) 3) 4 36 true [],
 oq 41 (.pick (.tmp 36) (.tmp 40) (.const (.bool false))) 4 [],
 sg 6 28 3 [],
 sg 7 41 4 []] [[], [0], [], [2], [2, 3], [2, 3, 4], [2, 3], [2, 3, 4, 5, 6], [2, 3, 4, 5, 6, 7], [2, 3, 4, 5, 6, 7, 8], [2, 3, 4, 5, 6, 7, 8, 9], [2, 3, 4, 5, 6, 7, 8, 9, 10], [2, 3, 4, 5, 6, 7, 8, 9, 10, 11], [2, 3, 4, 5, 6, 7, 8, 9, 10, 11, 12], [2, 3, 4, 5, 6, 7, 8, 9, 10, 11, 12, 13], [0, 1, 2, 3, 4, 5, 6, 7, 8, 9], [2, 3, 4, 5, 6, 7, 8, 9, 10, 11, 12, 13, 14, 0, 1, 15]] [1, 5, 8, 9, 27, 28, 29, 30, 31, 32, 33, 34, 35, 36, 37, 38, 39, 40, 41])
 .ret))
 .skip))
 (.seq
 (.seq
 (.reg [fa 42 57 5 1 [],
 ld 43 37 42 [42],
 ln 44 43 37 3 [43],
 fa 45 81 3 0 [],
 fa 46 27 45 0 [45],
 fa 47 24 46 0 [46],
 ld 48 22 47 [47],
 ln 49 48 22 3 [48],
 b2 50 .neq 3 44 49 3 4 [44, 49]])
 (.cond (.tmp 50)
 (.seq
 (.reg [sn 6 0 3 [],
 sb 7 false 4 []])
 .ret)
 .skip))
 (.seq
 (.reg [sn 10 (-3000) 3 []])
 (.seq
 (.seq
 (.reg [fa 51 57 5 1 [5],
 ld 52 37 51 [51],
 ln 53 52 37 3 [],
 oq 54 (.move (.const (.int .i64 0))) 3 []])
 (.block 0
 (.loop F114.s0)))
 (.seq
 (.reg [mv 106 10 3 [10],
 sg 6 106 3 [106],
 sb 7 true 4 []])
 .ret))))))
theorem F114.rs : Tryz.f114.results.toList = [.tmp 6, .tmp 7] := rfl
def heat_furnace_showsHigh.b0 (k : Nat) (f0 : heat_furnace) (place1 : Int) (p2 : HeatProof) : (Int × Int) → Option (Stp (Int × Int) (Int) (Int × Bool)) := fun (s : Int × Int) => match s with
 | (i6, i7) =>
   bif decide (i7 < (p2.By.length : Int)) then
    (at? p2.By i7).bind fun x10 =>
    bif (!decide (x10 = (-1 : Int))) then
     (heat_furnace_told k f0 x10).bind fun x12 =>
     bif (!x12.2) then
      some (.ret (0, false))
     else
      (at? f0.Firing.Kiln.Falls i7).bind fun x14 =>
      (at? x14 x12.1.place).bind fun x15 =>
      (at? x14 place1).bind fun x16 =>
      bif (!decide (i7 = (0 : Int))) then
       bif decide (i6 < w64 ((w64 (x12.1.heat + x15.Hi)) - x16.Lo)) then
        some (.next (w64 ((w64 (x12.1.heat + x15.Hi)) - x16.Lo), w64 (i7 + 1)))
       else
        some (.next (i6, w64 (i7 + 1)))
      else
       some (.next (w64 ((w64 (x12.1.heat + x15.Hi)) - x16.Lo), w64 (i7 + 1)))
    else
     (at? f0.Firing.Kiln.Falls i7).bind fun x19 =>
     (at? x19 place1).bind fun x20 =>
     bif (!decide (i7 = (0 : Int))) then
      bif decide (i6 < w64 (3000 - x20.Lo)) then
       some (.next (w64 (3000 - x20.Lo), w64 (i7 + 1)))
      else
       some (.next (i6, w64 (i7 + 1)))
     else
      some (.next (w64 (3000 - x20.Lo), w64 (i7 + 1)))
   else
    some (.brk i6)
noncomputable def heat_furnace_showsHigh.h0 (f0 : heat_furnace) (place1 : Int) (p2 : HeatProof) : (Int × Int) → St := fun (s : Int × Int) => match s with
 | (i6, i7) => ⟨[(1, .int .i64 place1), (3, .ptr 0 0 0), (10, .int .i64 i6), (52, .sl 1 (List.map eI p2.By)), (53, .int .i64 (p2.By.length : Int)), (54, .int .i64 i7)], [(0, .box [.sl 1 (List.map (eL 2 Range.c) f0.Firing.Kiln.Falls), .sl 6 (List.map Reading.c f0.Firing.Readings), .sl 3 (List.map heat_limit.c f0.least), .sl 3 (List.map heat_limit.c f0.most)])], [], 1, Tryz.f114.ntmps⟩
noncomputable def heat_furnace_showsHigh.x0 : Int → St := fun (i8 : Int) => ⟨[(10, .int .i64 i8)], [], [], 1, Tryz.f114.ntmps⟩
def heat_furnace_showsHigh (k : Nat) (f0 : heat_furnace) (place1 : Int) (p2 : HeatProof) : Option (Int × Bool) :=
 bif (!decide (p2.Reading = (-1 : Int))) then
  (heat_furnace_told k f0 p2.Reading).bind fun x2 =>
  bif x2.2 then
   bif decide (x2.1.place = place1) then
    some (x2.1.heat, decide ((p2.By.length : Int) = (0 : Int)))
   else
    some (x2.1.heat, false)
  else
   some (x2.1.heat, false)
 else
  bif (!decide ((p2.By.length : Int) = (f0.Firing.Kiln.Falls.length : Int))) then
   some (0, false)
  else
   (whl (heat_furnace_showsHigh.b0 k f0 place1 p2) k (-3000, 0)).bind fun r23 => match r23 with
   | .next _ => none
   | .ret v_ => some v_
   | .brk i8 =>
    some (i8, true)
theorem heat_furnace_showsHigh_ok (k : Nat) (f0 : heat_furnace) (place1 : Int) (p2 : HeatProof) (r : Int × Bool) (h0 : heat_furnace_showsHigh k f0 place1 p2 = some r) : PCall Tryz.prog 114 [.agg (heat_furnace.c f0), .int .i64 place1, .agg (HeatProof.c p2)] (fun y => y = .tup [.int .i64 r.1, .bool r.2]) := by
 refine PB (fn := Tryz.f114) (sc := F114.c) ?_
 refine rS ?_
 simp only [heat_furnace_showsHigh] at h0
 try simp only [F114.c, go_sem]
 refine AKev_bif h0 ?_ ?_ <;> intro c1 h0
 have c1 := bnot_t c1
 try simp only [c1, go_sem]
 obtain ⟨x2, yx2, h0⟩ := bs h0
 refine zc0 (heat_furnace_told_ok k _ _ _ yx2) ?_ (by first | rfl | simp [AV.refsL, AV.refs, AV.scal, AV.leaf]) ?_
 try simp only [c1, go_sem]
 try simp only [c1, go_sem]
 refine AKev_region T_ok follows_ok 1000 ?_
 try simp only [c1, go_sem]
 refine DG_bif h0 ?_ ?_ <;> intro c3 h0
 try simp only [c3, c1, go_sem]
 refine DG_bif h0 ?_ ?_ <;> intro c4 h0
 try simp only [c4, c1, c3, go_sem]
 refine DG_done ⟨rfl, run_sound T_ok 1000 _ _ ?_⟩
 try simp only [c1, c3, c4, go_sem]
 obtain rfl := Option.some.inj h0
 refine AKev_ret rfl ?_
 try simp only [F114.rs, c1, c3, c4, go_sem]
 try simp only [c4, c1, c3, go_sem]
 refine DG_done ⟨rfl, run_sound T_ok 1000 _ _ ?_⟩
 try simp only [c1, c3, c4, go_sem]
 obtain rfl := Option.some.inj h0
 refine AKev_ret rfl ?_
 try simp only [F114.rs, c1, c3, c4, go_sem]
 try simp only [c3, c1, go_sem]
 refine DG_done ⟨rfl, run_sound T_ok 1000 _ _ ?_⟩
 try simp only [c1, c3, go_sem]
 obtain rfl := Option.some.inj h0
 refine AKev_ret rfl ?_
 try simp only [F114.rs, c1, c3, go_sem]
 have c1 := bnot_f c1
 try simp only [c1, go_sem]
 refine AKev_bif h0 ?_ ?_ <;> intro c5 h0
 have c5 := bnot_t c5
 try simp only [c5, c1, go_sem]
 obtain rfl := Option.some.inj h0
 refine AKev_ret rfl ?_
 try simp only [F114.rs, c1, c5, go_sem]
 have c5 := bnot_f c5
 try simp only [c5, c1, go_sem]
 obtain ⟨r23, yr23, h0⟩ := bs h0
 refine AKev_loopS yr23 (heat_furnace_showsHigh.h0 f0 place1 p2) (heat_furnace_showsHigh.x0) ?_ ?_ ?_
 refine Weak.go [1, 3, 10, 52, 53, 54] [0] rfl ?_
 try simp only [heat_furnace_showsHigh.h0, c1, c5, go_sem]
 rintro ⟨i6, i7⟩ x_1 Bk1 Br1 h1 hnext1 hbrk1 hret1
 refine rS ?_
 simp only [heat_furnace_showsHigh.b0] at h1
 try simp only [F114.s0, heat_furnace_showsHigh.h0, c1, c5, go_sem]
 refine AKev_bif h1 ?_ ?_ <;> intro c9 h1
 try simp only [c9, c1, c5, go_sem]
 obtain ⟨x10, yx10, h1⟩ := bs h1
 try simp only [aa yx10, c1, c5, c9, go_sem]
 refine AKev_bif h1 ?_ ?_ <;> intro c11 h1
 have c11 := bnot_t c11
 try simp only [c11, c1, c5, c9, aa yx10, go_sem]
 obtain ⟨x12, yx12, h1⟩ := bs h1
 refine zc0 (heat_furnace_told_ok k _ _ _ yx12) ?_ (by first | rfl | simp [AV.refsL, AV.refs, AV.scal, AV.leaf]) ?_
 try simp only [c1, c5, c9, aa yx10, c11, go_sem]
 try simp only [c1, c5, c9, aa yx10, c11, go_sem]
 refine AKev_bif h1 ?_ ?_ <;> intro c13 h1
 have c13 := bnot_t c13
 try simp only [c13, c1, c5, c9, aa yx10, c11, go_sem]
 obtain rfl := hret1 _ (Option.some.inj h1).symm
 simp only at h0
 obtain rfl := Option.some.inj h0
 refine AKev_ret rfl ?_
 try simp only [F114.rs, c1, c5, c9, aa yx10, c11, c13, go_sem]
 have c13 := bnot_f c13
 try simp only [c13, c1, c5, c9, aa yx10, c11, go_sem]
 refine AKev_region T_ok follows_ok 1000 ?_
 try simp only [c1, c5, c9, aa yx10, c11, c13, go_sem]
 obtain ⟨x14, yx14, h1⟩ := bs h1
 try simp only [aa yx14, c1, c5, c9, aa yx10, c11, c13, go_sem]
 obtain ⟨x15, yx15, h1⟩ := bs h1
 try simp only [aa yx15, c1, c5, c9, aa yx10, c11, c13, aa yx14, go_sem]
 refine DG_done ⟨rfl, run_sound T_ok 1000 _ _ ?_⟩
 try simp only [aa yx14, c1, c5, c9, aa yx10, c11, c13, aa yx15, go_sem]
 obtain ⟨x16, yx16, h1⟩ := bs h1
 try simp only [aa yx16, c1, c5, c9, aa yx10, c11, c13, aa yx14, aa yx15, go_sem]
 refine AKev_bif h1 ?_ ?_ <;> intro c17 h1
 have c17 := bnot_t c17
 try simp only [c17, c1, c5, c9, aa yx10, c11, c13, aa yx14, aa yx15, aa yx16, go_sem]
 refine AKev_bif h1 ?_ ?_ <;> intro c18 h1
 try simp only [c18, c1, c5, c9, aa yx10, c11, c13, aa yx14, aa yx15, aa yx16, c17, go_sem]
 refine AKev_backB (hnext1 _ _ (Option.some.inj h1).symm ?_)
 refine Weak.go [1, 3, 10, 52, 53, 54] [0] rfl ?_
 try simp only [heat_furnace_showsHigh.h0, c1, c5, c9, aa yx10, c11, c13, aa yx14, aa yx15, aa yx16, c17, c18, go_sem]
 try simp only [c18, c1, c5, c9, aa yx10, c11, c13, aa yx14, aa yx15, aa yx16, c17, go_sem]
 refine AKev_backB (hnext1 _ _ (Option.some.inj h1).symm ?_)
 refine Weak.go [1, 3, 10, 52, 53, 54] [0] rfl ?_
 try simp only [heat_furnace_showsHigh.h0, c1, c5, c9, aa yx10, c11, c13, aa yx14, aa yx15, aa yx16, c17, c18, go_sem]
 have c17 := bnot_f c17
 try simp only [c17, c1, c5, c9, aa yx10, c11, c13, aa yx14, aa yx15, aa yx16, go_sem]
 refine AKev_backB (hnext1 _ _ (Option.some.inj h1).symm ?_)
 refine Weak.go [1, 3, 10, 52, 53, 54] [0] rfl ?_
 try simp only [heat_furnace_showsHigh.h0, c1, c5, c9, aa yx10, c11, c13, aa yx14, aa yx15, aa yx16, c17, go_sem]
 have c11 := bnot_f c11
 try simp only [c11, c1, c5, c9, aa yx10, go_sem]
 obtain ⟨x19, yx19, h1⟩ := bs h1
 try simp only [aa yx19, c1, c5, c9, aa yx10, c11, go_sem]
 obtain ⟨x20, yx20, h1⟩ := bs h1
 try simp only [aa yx20, c1, c5, c9, aa yx10, c11, aa yx19, go_sem]
 refine AKev_bif h1 ?_ ?_ <;> intro c21 h1
 have c21 := bnot_t c21
 try simp only [c21, c1, c5, c9, aa yx10, c11, aa yx19, aa yx20, go_sem]
 refine AKev_bif h1 ?_ ?_ <;> intro c22 h1
 try simp only [c22, c1, c5, c9, aa yx10, c11, aa yx19, aa yx20, c21, go_sem]
 refine AKev_backB (hnext1 _ _ (Option.some.inj h1).symm ?_)
 refine Weak.go [1, 3, 10, 52, 53, 54] [0] rfl ?_
 try simp only [heat_furnace_showsHigh.h0, c1, c5, c9, aa yx10, c11, aa yx19, aa yx20, c21, c22, go_sem]
 try simp only [c22, c1, c5, c9, aa yx10, c11, aa yx19, aa yx20, c21, go_sem]
 refine AKev_backB (hnext1 _ _ (Option.some.inj h1).symm ?_)
 refine Weak.go [1, 3, 10, 52, 53, 54] [0] rfl ?_
 try simp only [heat_furnace_showsHigh.h0, c1, c5, c9, aa yx10, c11, aa yx19, aa yx20, c21, c22, go_sem]
 have c21 := bnot_f c21
 try simp only [c21, c1, c5, c9, aa yx10, c11, aa yx19, aa yx20, go_sem]
 refine AKev_backB (hnext1 _ _ (Option.some.inj h1).symm ?_)
 refine Weak.go [1, 3, 10, 52, 53, 54] [0] rfl ?_
 try simp only [heat_furnace_showsHigh.h0, c1, c5, c9, aa yx10, c11, aa yx19, aa yx20, c21, go_sem]
 try simp only [c9, c1, c5, go_sem]
 refine AKev_backB (hbrk1 _ _ (Option.some.inj h1).symm ?_)
 refine Weak.go [10] [] rfl ?_
 try simp only [heat_furnace_showsHigh.x0, c1, c5, c9, go_sem]
 rintro i8 hr_
 subst hr_
 simp only at h0
 refine rS ?_
 try simp only [heat_furnace_showsHigh.x0, c1, c5, go_sem]
 obtain rfl := Option.some.inj h0
 refine AKev_ret rfl ?_
 try simp only [F114.rs, c1, c5, go_sem]
def F134.c : SC :=
 (.seq
 (.reg [oq 2 (.box 135 (.tmp 0)) 0 [0],
 sb 3 false 4 [3]])
 (.seq
 (.reg [fa 4 135 2 2 [2],
 ld 5 3 4 [4],
 fa 6 57 1 0 [1],
 ld 7 3 6 [6],
 b2 8 .eql 3 5 7 3 4 [5, 7],
 sg 3 8 4 [8]])
 .ret))
theorem F134.rs : Tryz.f134.results.toList = [.tmp 3] := rfl
def heat_furnace_showsLow_1 (k : Nat) (x0 : heat_limit) (c1 : HeatProof) : Option (Bool) :=
 some (decide (x0.by_ = c1.Reading))
theorem heat_furnace_showsLow_1_ok (k : Nat) (x0 : heat_limit) (c1 : HeatProof) (r : Bool) (h0 : heat_furnace_showsLow_1 k x0 c1 = some r) : PCall Tryz.prog 134 [.agg (heat_limit.c x0), .rptr 2 [HeatProof.c c1] 0 0] (fun y => y = .bool r) := by
 refine PB (fn := Tryz.f134) (sc := F134.c) ?_
 refine rS ?_
 simp only [heat_furnace_showsLow_1] at h0
 try simp only [F134.c, go_sem]
 obtain rfl := Option.some.inj h0
 refine AKev_ret rfl ?_
 try simp only [F134.rs, go_sem]
def F115.s0 : SC :=
 (.seq
 (.reg [b2 87 .lss 3 86 85 3 0 []])
 (.seq
 (.cond (.tmp 87)
 .skip
 (.exit 0))
 (.seq
 (.block 1
 (.seq
 (.reg [mv 88 86 3 [],
 ia 89 37 84 86 [],
 ld 90 3 89 [89],
 sg 11 88 3 [88],
 sg 12 90 3 [90]])
 (.seq
 (.dreg [fa 91 135 10 1 [],
 ld 92 3 91 [],
 fa 93 81 3 0 [],
 fa 94 27 93 0 [],
 fa 95 24 94 0 [],
 ld 96 22 95 [],
 mv 97 11 3 [],
 ia 98 22 96 97 [],
 ld 99 89 98 [],
 fa 100 135 10 0 [],
 ld 101 3 100 [],
 ia 102 89 99 101 [],
 fa 103 30 102 0 [],
 ld 104 3 103 [],
 b2 105 .add 3 92 104 3 3 [],
 sg 13 105 3 []] [[], [0], [], [2], [2, 3], [2, 3, 4], [], [2, 3, 4, 5, 6], [2, 3, 4, 5, 6, 7], [], [9], [2, 3, 4, 5, 6, 7, 8, 9, 10], [2, 3, 4, 5, 6, 7, 8, 9, 10, 11], [2, 3, 4, 5, 6, 7, 8, 9, 10, 11, 12], [0, 1, 2, 3, 4, 5, 6, 7, 8, 9, 10, 11, 12, 13], [0, 1, 2, 3, 4, 5, 6, 7, 8, 9, 10, 11, 12, 13, 14]] [91, 92, 93, 94, 95, 96, 97, 98, 99, 100, 101, 102, 103, 104, 105])
 (.seq
 (.reg [mv 106 12 3 []])
 (.block 2
 (.seq
 (.reg [bn 135 .eql 3 106 (-1) 3 4 [],
 sg 134 135 4 [135]])
 (.cond (.tmp 134)
 (.seq
 (.reg [mv 136 13 3 [13],
 fa 137 81 3 0 [],
 fa 138 27 137 0 [137],
 fa 139 24 138 0 [138],
 ld 140 22 139 [139],
 mv 141 11 3 [11],
 ia 142 22 140 141 [140, 141],
 ld 143 89 142 [142],
 mv 144 1 3 [],
 ia 145 89 143 144 [143, 144],
 fa 146 30 145 1 [145],
 ld 147 3 146 [146],
 b2 148 .sub 3 136 147 3 3 [136, 147],
 sg 14 148 3 [148]])
 (.seq
 (.reg [mv 149 7 4 [],
 mv 150 149 4 [149],
 og 151 (.move (.tmp 14)) 3 150 false [],
 og 152 (.move (.tmp 6)) 3 150 false [],
 og 153 (.binOp .lss 3 (.tmp 151) (.tmp 152) 3) 4 150 false [151, 152],
 oq 154 (.pick (.tmp 150) (.const (.bool true)) (.tmp 153)) 4 [150, 153]])
 (.cond (.tmp 154)
 (.reg [mv 155 14 3 [14],
 sg 6 155 3 [155],
 sb 7 false 4 []])
 .skip)))
 (.seq
 (.reg [bn 157 .eql 3 106 (-2) 3 4 [106],
 sg 156 157 4 [157]])
 (.cond (.tmp 156)
 (.seq
 (.reg [mv 158 13 3 [13],
 bn 159 .leq 3 158 3000 3 4 [158]])
 (.cond (.tmp 159)
 (.seq
 (.reg [sn 6 0 3 [],
 sb 7 false 4 [],
 sb 8 false 4 []])
 .ret)
 .skip))
 (.seq
 (.reg [ld 108 81 3 [],
 mv 109 12 3 [12],
 cf2 110 132 108 109 81 3 136 [108, 109],
 mv 107 110 136 [110],
 xt 111 107 0 135 [],
 xt 112 107 1 4 [107],
 oq 15 (.alloc 135) 0 [],
 ⟨none, .store 135 (.tmp 15) (.tmp 111), 0, none, [111]⟩,
 sg 16 112 4 [112]])
 (.seq
 (.dreg [mv 113 16 4 [],
 oq 114 (.unOp .not 4 (.tmp 113)) 4 [],
 mv 115 114 4 [],
 og 116 (.move (.tmp 13)) 3 115 false [],
 og 117 (.fieldAddr 135 (.tmp 15) 1) 0 115 false [],
 og 118 (.load 3 (.tmp 117)) 3 115 false [],
 og 119 (.fieldAddr 81 (.tmp 3) 0) 0 115 false [],
 og 120 (.fieldAddr 27 (.tmp 119) 0) 0 115 false [],
 og 121 (.fieldAddr 24 (.tmp 120) 0) 0 115 false [],
 og 122 (.load 22 (.tmp 121)) 22 115 false [],
 og 123 (.move (.tmp 11)) 3 115 false [],
 og 124 (.indexAddr 22 (.tmp 122) (.tmp 123)) 0 115 false [],
 og 125 (.load 89 (.tmp 124)) 89 115 false [],
 og 126 (.fieldAddr 135 (.tmp 15) 0) 0 115 false [],
 og 127 (.load 3 (.tmp 126)) 3 115 false [],
 og 128 (.indexAddr 89 (.tmp 125) (.tmp 127)) 0 115 false [],
 og 129 (.fieldAddr 30 (.tmp 128) 1) 0 115 false [],
 og 130 (.load 3 (.tmp 129)) 3 115 false [],
 og 131 (.binOp .add 3 (.tmp 118) (.tmp 130) 3) 3 115 false [],
 og 132 (.binOp .leq 3 (.tmp 116) (.tmp 131) 3) 4 115 false [],
 oq 133 (.pick (.tmp 115) (.const (.bool true)) (.tmp 132)) 4 []] [[], [0], [0, 1], [0, 1, 2], [0, 1, 2], [0, 1, 2, 4], [0, 1, 2], [0, 1, 2, 6], [0, 1, 2, 6, 7], [0, 1, 2, 6, 7, 8], [0, 1, 2], [0, 1, 2, 6, 7, 8, 9, 10], [0, 1, 2, 6, 7, 8, 9, 10, 11], [0, 1, 2], [0, 1, 2, 13], [0, 1, 2, 6, 7, 8, 9, 10, 11, 12, 13, 14], [0, 1, 2, 6, 7, 8, 9, 10, 11, 12, 13, 14, 15], [0, 1, 2, 6, 7, 8, 9, 10, 11, 12, 13, 14, 15, 16], [0, 1, 2, 4, 5, 6, 7, 8, 9, 10, 11, 12, 13, 14, 15, 16, 17], [0, 1, 2, 3, 4, 5, 6, 7, 8, 9, 10, 11, 12, 13, 14, 15, 16, 17, 18], [0, 1, 2, 3, 4, 5, 6, 7, 8, 9, 10, 11, 12, 13, 14, 15, 16, 17, 18, 19]] [11, 13, 15, 16, 113, 114, 115, 116, 117, 118, 119, 120, 121, 122, 123, 124, 125, 126, 127, 128, 129, 130, 131, 132])
 (.cond (.tmp 133)
 (.seq
 (.reg [sn 6 0 3 [],
 sb 7 false 4 [],
 sb 8 false 4 []])
 .ret)
 .skip))))))))))))
 (.reg [bn 160 .add 3 86 1 3 3 [86],
 mv 86 160 3 [160]]))))
def F115.c : SC :=
 (.seq
 (.reg [oq 3 (.box 81 (.tmp 0)) 0 [0],
 oq 5 (.box 57 (.tmp 2)) 0 [2],
 sn 6 0 3 [],
 sb 7 false 4 [7],
 sb 8 false 4 [8]])
 (.seq
 (.seq
 (.reg [fa 17 57 5 0 [],
 ld 18 3 17 [17],
 bn 19 .eql 3 18 (-2) 3 4 [18]])
 (.cond (.tmp 19)
 (.seq
 (.seq
 (.dreg [fa 20 57 5 1 [],
 ld 21 37 20 [],
 ln 22 21 37 3 [],
 bn 23 .neq 3 22 1 3 4 [],
 mv 24 23 4 [],
 og 25 (.fieldAddr 57 (.tmp 5) 1) 0 24 false [],
 og 26 (.load 37 (.tmp 25)) 37 24 false [],
 og 27 (.indexAddr 37 (.tmp 26) (.const (.int .i64 0))) 0 24 false [],
 og 28 (.load 3 (.tmp 27)) 3 24 false [],
 og 29 (.fieldAddr 81 (.tmp 3) 0) 0 24 false [],
 og 30 (.fieldAddr 27 (.tmp 29) 0) 0 24 false [],
 og 31 (.fieldAddr 24 (.tmp 30) 0) 0 24 false [],
 og 32 (.load 22 (.tmp 31)) 22 24 false [],
 og 33 (.call ⟨.builtin .len, #[.tmp 32], #[22]⟩) 3 24 false [],
 og 34 (.binOp .sub 3 (.tmp 33) (.const (.int .i64 1)) 3) 3 24 false [],
 og 35 (.call ⟨.value (.func 58), #[.tmp 28, .const (.int .i64 0), .tmp 34], #[3, 3, 3]⟩) 4 24 false [],
 og 36 (.unOp .not 4 (.tmp 35)) 4 24 false [],
 oq 37 (.pick (.tmp 24) (.const (.bool true)) (.tmp 36)) 4 []] [[], [0], [0, 1], [0, 1, 2], [0, 1, 2, 3], [0, 1, 2, 3, 4], [0, 1, 2, 3, 4, 5], [0, 1, 2, 3, 4, 5, 6], [0, 1, 2, 3, 4, 5, 6, 7], [0, 1, 2, 3, 4], [0, 1, 2, 3, 4, 9], [0, 1, 2, 3, 4, 9, 10], [0, 1, 2, 3, 4, 9, 10, 11], [0, 1, 2, 3, 4, 9, 10, 11, 12], [0, 1, 2, 3, 4, 9, 10, 11, 12, 13], [0, 1, 2, 3, 4, 5, 6, 7, 8, 9, 10, 11, 12, 13, 14], [0, 1, 2, 3, 4, 5, 6, 7, 8, 9, 10, 11, 12, 13, 14, 15], [0, 1, 2, 3, 4, 5, 6, 7, 8, 9, 10, 11, 12, 13, 14, 15, 16]] [20, 21, 22, 23, 24, 25, 26, 27, 28, 29, 30, 31, 32, 33, 34, 35, 36])
 (.cond (.tmp 37)
 (.seq
 (.reg [sn 6 0 3 [],
 sb 7 false 4 [],
 sb 8 false 4 []])
 .ret)
 .skip))
 (.seq
 (.dreg [fa 38 81 3 0 [],
 fa 39 27 38 0 [],
 fa 40 24 39 0 [],
 ld 41 22 40 [],
 fa 42 57 5 1 [],
 ld 43 37 42 [],
 oq 44 (.indexAddr 37 (.tmp 43) (.const (.int .i64 0))) 0 [],
 ld 45 3 44 [],
 ia 46 22 41 45 [],
 ld 47 89 46 [],
 mv 48 1 3 [],
 ia 49 89 47 48 [],
 fa 50 30 49 1 [],
 ld 51 3 50 [],
 oq 52 (.unOp .neg 3 (.tmp 51)) 3 [],
 sg 6 52 3 [],
 sb 7 false 4 [],
 sb 8 true 4 []] [[], [0], [0, 1], [0, 1, 2], [], [4], [4, 5], [4, 5, 6], [0, 1, 2, 3, 4, 5, 6, 7], [0, 1, 2, 3, 4, 5, 6, 7, 8], [], [0, 1, 2, 3, 4, 5, 6, 7, 8, 9, 10], [0, 1, 2, 3, 4, 5, 6, 7, 8, 9, 10, 11], [0, 1, 2, 3, 4, 5, 6, 7, 8, 9, 10, 11, 12], [0, 1, 2, 3, 4, 5, 6, 7, 8, 9, 10, 11, 12, 13], [0, 1, 2, 3, 4, 5, 6, 7, 8, 9, 10, 11, 12, 13, 14], [0, 1, 2, 3, 4, 5, 6, 7, 8, 9, 10, 11, 12, 13, 14, 15], [0, 1, 2, 3, 4, 5, 6, 7, 8, 9, 10, 11, 12, 13, 14, 15, 16]] [1, 3, 5, 38, 39, 40, 41, 42, 43, 44, 45, 46, 47, 48, 49, 50, 51, 52])
 .ret))
 .skip))
 (.seq
 (.reg [fa 53 81 3 1 [],
 ld 54 79 53 [53],
 oq 55 (.makeFunc (.func 134) #[] #[.tmp 5]) 159 [],
 cf2 56 133 54 55 79 159 3 [54, 55],
 sg 9 56 3 [56]])
 (.seq
 (.seq
 (.reg [mv 57 9 3 [],
 bn 58 .lss 3 57 0 3 4 [57]])
 (.cond (.tmp 58)
 (.seq
 (.reg [sn 6 0 3 [],
 sb 7 false 4 [],
 sb 8 false 4 []])
 .ret)
 .skip))
 (.seq
 (.reg [fa 59 81 3 1 [],
 ld 60 79 59 [59],
 mv 61 9 3 [9],
 ia 62 79 60 61 [60, 61],
 ld 63 135 62 [62],
 oq 10 (.alloc 135) 0 [],
 ⟨none, .store 135 (.tmp 10) (.tmp 63), 0, none, [63]⟩])
 (.seq
 (.seq
 (.reg [fa 64 135 10 0 [],
 ld 65 3 64 [64],
 mv 66 1 3 [],
 b2 67 .eql 3 65 66 3 4 [65, 66]])
 (.cond (.tmp 67)
 (.seq
 (.dreg [fa 68 135 10 1 [],
 ld 69 3 68 [],
 fa 70 57 5 1 [],
 ld 71 37 70 [],
 ln 72 71 37 3 [],
 bn 73 .eql 3 72 0 3 4 [],
 sg 6 69 3 [],
 sb 7 false 4 [],
 sg 8 73 4 []] [[], [0], [], [2], [2, 3], [2, 3, 4], [0, 1], [0, 1, 6], [2, 3, 4, 5, 0, 1, 6, 7]] [5, 10, 68, 69, 70, 71, 72, 73])
 .ret)
 .skip))
 (.seq
 (.seq
 (.reg [fa 74 57 5 1 [],
 ld 75 37 74 [74],
 ln 76 75 37 3 [75],
 fa 77 81 3 0 [],
 fa 78 27 77 0 [77],
 fa 79 24 78 0 [78],
 ld 80 22 79 [79],
 ln 81 80 22 3 [80],
 b2 82 .neq 3 76 81 3 4 [76, 81]])
 (.cond (.tmp 82)
 (.seq
 (.reg [sn 6 0 3 [],
 sb 7 false 4 [],
 sb 8 false 4 []])
 .ret)
 .skip))
 (.seq
 (.reg [sb 7 true 4 []])
 (.seq
 (.seq
 (.reg [fa 83 57 5 1 [5],
 ld 84 37 83 [83],
 ln 85 84 37 3 [],
 oq 86 (.move (.const (.int .i64 0))) 3 []])
 (.block 0
 (.loop F115.s0)))
 (.seq
 (.reg [mv 161 6 3 [6],
 mv 162 7 4 [7],
 sg 6 161 3 [161],
 sg 7 162 4 [162],
 sb 8 true 4 []])
 .ret))))))))))
theorem F115.rs : Tryz.f115.results.toList = [.tmp 6, .tmp 7, .tmp 8] := rfl
def heat_furnace_showsLow.b0 (k : Nat) (f0 : heat_furnace) (place1 : Int) (p2 : HeatProof) (x10 : heat_limit) : (Int × Bool × Int) → Option (Stp (Int × Bool × Int) (Int × Bool) (Int × Bool × Bool)) := fun (s : Int × Bool × Int) => match s with
 | (i13, b14, i15) =>
   bif decide (i15 < (p2.By.length : Int)) then
    (at? p2.By i15).bind fun x19 =>
    (at? f0.Firing.Kiln.Falls i15).bind fun x20 =>
    (at? x20 x10.place).bind fun x21 =>
    bif decide (x19 = (-1 : Int)) then
     (at? x20 place1).bind fun x23 =>
     bif (!b14) then
      bif decide (w64 ((w64 (x10.heat + x21.Lo)) - x23.Hi) < i13) then
       some (.next (w64 ((w64 (x10.heat + x21.Lo)) - x23.Hi), false, w64 (i15 + 1)))
      else
       some (.next (i13, b14, w64 (i15 + 1)))
     else
      some (.next (w64 ((w64 (x10.heat + x21.Lo)) - x23.Hi), false, w64 (i15 + 1)))
    else
     bif decide (x19 = (-2 : Int)) then
      bif decide (w64 (x10.heat + x21.Lo) ≤ (3000 : Int)) then
       some (.ret (0, false, false))
      else
       some (.next (i13, b14, w64 (i15 + 1)))
     else
      (heat_furnace_told k f0 x19).bind fun x28 =>
      bif x28.2 then
       (at? x20 x28.1.place).bind fun x30 =>
       bif decide (w64 (x10.heat + x21.Lo) ≤ w64 (x28.1.heat + x30.Hi)) then
        some (.ret (0, false, false))
       else
        some (.next (i13, b14, w64 (i15 + 1)))
      else
       some (.ret (0, false, false))
   else
    some (.brk (i13, b14))
noncomputable def heat_furnace_showsLow.h0 (f0 : heat_furnace) (place1 : Int) (p2 : HeatProof) (x10 : heat_limit) : (Int × Bool × Int) → St := fun (s : Int × Bool × Int) => match s with
 | (i13, b14, i15) => ⟨[(1, .int .i64 place1), (3, .ptr 0 0 0), (6, .int .i64 i13), (7, .bool b14), (10, .ptr 0 1 0), (84, .sl 1 (List.map eI p2.By)), (85, .int .i64 (p2.By.length : Int)), (86, .int .i64 i15)], [(0, .box [.sl 1 (List.map (eL 2 Range.c) f0.Firing.Kiln.Falls), .sl 6 (List.map Reading.c f0.Firing.Readings), .sl 3 (List.map heat_limit.c f0.least), .sl 3 (List.map heat_limit.c f0.most)]), (1, .box [.int .i64 x10.place, .int .i64 x10.heat, .int .i64 x10.by_])], [], 2, Tryz.f115.ntmps⟩
noncomputable def heat_furnace_showsLow.x0 : (Int × Bool) → St := fun (s : Int × Bool) => match s with
 | (i16, b17) => ⟨[(6, .int .i64 i16), (7, .bool b17)], [], [], 1, Tryz.f115.ntmps⟩
def heat_furnace_showsLow (k : Nat) (f0 : heat_furnace) (place1 : Int) (p2 : HeatProof) : Option (Int × Bool × Bool) :=
 bif decide (p2.Reading = (-2 : Int)) then
  bif decide ((p2.By.length : Int) = (1 : Int)) then
   (at? p2.By 0).bind fun x3 =>
   (heat_in k x3 0 (w64 ((f0.Firing.Kiln.Falls.length : Int) - 1))).bind fun x4 =>
   bif (!x4) then
    some (0, false, false)
   else
    (at? f0.Firing.Kiln.Falls x3).bind fun x6 =>
    (at? x6 place1).bind fun x7 =>
    some (w64 (0 - x7.Hi), false, true)
  else
   some (0, false, false)
 else
  (slices_IndexFunc_heat_limit k f0.least (fun q0 => heat_furnace_showsLow_1 k q0 p2)).bind fun x8 =>
  bif decide (x8 < (0 : Int)) then
   some (0, false, false)
  else
   (at? f0.least x8).bind fun x10 =>
   bif decide (x10.place = place1) then
    some (x10.heat, false, decide ((p2.By.length : Int) = (0 : Int)))
   else
    bif (!decide ((p2.By.length : Int) = (f0.Firing.Kiln.Falls.length : Int))) then
     some (0, false, false)
    else
     (whl (heat_furnace_showsLow.b0 k f0 place1 p2 x10) k (0, true, 0)).bind fun r32 => match r32 with
     | .next _ => none
     | .ret v_ => some v_
     | .brk (i16, b17) =>
      some (i16, b17, true)
theorem heat_furnace_showsLow_ok (k : Nat) (f0 : heat_furnace) (place1 : Int) (p2 : HeatProof) (r : Int × Bool × Bool) (h0 : heat_furnace_showsLow k f0 place1 p2 = some r) : PCall Tryz.prog 115 [.agg (heat_furnace.c f0), .int .i64 place1, .agg (HeatProof.c p2)] (fun y => y = .tup [.int .i64 r.1, .bool r.2.1, .bool r.2.2]) := by
 refine PB (fn := Tryz.f115) (sc := F115.c) ?_
 refine rS ?_
 simp only [heat_furnace_showsLow] at h0
 try simp only [F115.c, go_sem]
 refine AKev_bif h0 ?_ ?_ <;> intro c1 h0
 try simp only [c1, go_sem]
 refine AKev_region T_ok follows_ok 1000 ?_
 try simp only [c1, go_sem]
 refine DG_bif h0 ?_ ?_ <;> intro c2 h0
 try simp only [c2, c1, go_sem]
 obtain ⟨x3, yx3, h0⟩ := bs h0
 try simp only [aa yx3, c1, c2, go_sem]
 obtain ⟨x4, yx4, h0⟩ := bs h0
 refine DG_call0 1000 (heat_in_ok k _ _ _ _ yx4) ?_ (by first | rfl | simp [AV.refsL, AV.refs, AV.scal, AV.leaf]) ?_
 try simp only [c1, c2, aa yx3, go_sem]
 try simp only [c1, c2, aa yx3, go_sem]
 refine DG_done ⟨rfl, run_sound T_ok 1000 _ _ ?_⟩
 try simp only [c1, c2, aa yx3, go_sem]
 refine AKev_bif h0 ?_ ?_ <;> intro c5 h0
 have c5 := bnot_t c5
 try simp only [c5, c1, c2, aa yx3, go_sem]
 obtain rfl := Option.some.inj h0
 refine AKev_ret rfl ?_
 try simp only [F115.rs, c1, c2, aa yx3, c5, go_sem]
 have c5 := bnot_f c5
 try simp only [c5, c1, c2, aa yx3, go_sem]
 refine AKev_region T_ok follows_ok 1000 ?_
 try simp only [aa yx3, c1, c2, c5, go_sem]
 obtain ⟨x6, yx6, h0⟩ := bs h0
 try simp only [aa yx6, c1, c2, aa yx3, c5, go_sem]
 obtain ⟨x7, yx7, h0⟩ := bs h0
 try simp only [aa yx7, c1, c2, aa yx3, c5, aa yx6, go_sem]
 refine DG_done ⟨rfl, run_sound T_ok 1000 _ _ ?_⟩
 try simp only [c1, c2, aa yx3, c5, aa yx6, aa yx7, go_sem]
 obtain rfl := Option.some.inj h0
 refine AKev_ret rfl ?_
 try simp only [F115.rs, c1, c2, aa yx3, c5, aa yx6, aa yx7, go_sem]
 try simp only [c2, c1, go_sem]
 refine DG_done ⟨rfl, run_sound T_ok 1000 _ _ ?_⟩
 try simp only [c1, c2, go_sem]
 obtain rfl := Option.some.inj h0
 refine AKev_ret rfl ?_
 try simp only [F115.rs, c1, c2, go_sem]
 try simp only [c1, go_sem]
 obtain ⟨x8, yx8, h0⟩ := bs h0
 refine zcL (slices_IndexFunc_heat_limit_ok k _ 134 [.rptr 2 [HeatProof.c p2] 0 0] ⟨fun _ => rfl, fun _ => rfl, fun _ _ => rfl, rfl, fun _ => rfl, fun _ => rfl, fun _ => rfl⟩ (fun q0 => heat_furnace_showsLow_1 k q0 p2) (fun q0 qr qh => heat_furnace_showsLow_1_ok k q0 _ qr qh) _ yx8) ?_ (by first | rfl | simp [AV.refsL, AV.refs, AV.scal, AV.leaf]) ?_
 try simp only [c1, go_sem]
 try simp only [c1, go_sem]
 refine AKev_bif h0 ?_ ?_ <;> intro c9 h0
 try simp only [c9, c1, go_sem]
 obtain rfl := Option.some.inj h0
 refine AKev_ret rfl ?_
 try simp only [F115.rs, c1, c9, go_sem]
 try simp only [c9, c1, go_sem]
 obtain ⟨x10, yx10, h0⟩ := bs h0
 try simp only [aa yx10, c1, c9, go_sem]
 refine AKev_bif h0 ?_ ?_ <;> intro c11 h0
 try simp only [c11, c1, c9, aa yx10, go_sem]
 refine AKev_region T_ok follows_ok 1000 ?_
 try simp only [c1, c9, aa yx10, c11, go_sem]
 refine DG_done ⟨rfl, run_sound T_ok 1000 _ _ ?_⟩
 try simp only [c1, c9, aa yx10, c11, go_sem]
 obtain rfl := Option.some.inj h0
 refine AKev_ret rfl ?_
 try simp only [F115.rs, c1, c9, aa yx10, c11, go_sem]
 try simp only [c11, c1, c9, aa yx10, go_sem]
 refine AKev_bif h0 ?_ ?_ <;> intro c12 h0
 have c12 := bnot_t c12
 try simp only [c12, c1, c9, aa yx10, c11, go_sem]
 obtain rfl := Option.some.inj h0
 refine AKev_ret rfl ?_
 try simp only [F115.rs, c1, c9, aa yx10, c11, c12, go_sem]
 have c12 := bnot_f c12
 try simp only [c12, c1, c9, aa yx10, c11, go_sem]
 obtain ⟨r32, yr32, h0⟩ := bs h0
 refine AKev_loopS yr32 (heat_furnace_showsLow.h0 f0 place1 p2 x10) (heat_furnace_showsLow.x0) ?_ ?_ ?_
 refine Weak.go [1, 3, 6, 7, 10, 84, 85, 86] [0, 320] rfl ?_
 try simp only [heat_furnace_showsLow.h0, c1, c9, aa yx10, c11, c12, go_sem]
 rintro ⟨i13, b14, i15⟩ x_1 Bk1 Br1 h1 hnext1 hbrk1 hret1
 refine rS ?_
 simp only [heat_furnace_showsLow.b0] at h1
 try simp only [F115.s0, heat_furnace_showsLow.h0, c1, c9, aa yx10, c11, c12, go_sem]
 refine AKev_bif h1 ?_ ?_ <;> intro c18 h1
 try simp only [c18, c1, c9, aa yx10, c11, c12, go_sem]
 obtain ⟨x19, yx19, h1⟩ := bs h1
 try simp only [aa yx19, c1, c9, aa yx10, c11, c12, c18, go_sem]
 refine AKev_region T_ok follows_ok 1000 ?_
 try simp only [c1, c9, aa yx10, c11, c12, c18, aa yx19, go_sem]
 obtain ⟨x20, yx20, h1⟩ := bs h1
 try simp only [aa yx20, c1, c9, aa yx10, c11, c12, c18, aa yx19, go_sem]
 obtain ⟨x21, yx21, h1⟩ := bs h1
 try simp only [aa yx21, c1, c9, aa yx10, c11, c12, c18, aa yx19, aa yx20, go_sem]
 refine DG_done ⟨rfl, run_sound T_ok 1000 _ _ ?_⟩
 try simp only [c1, c9, aa yx10, c11, c12, c18, aa yx19, aa yx20, aa yx21, go_sem]
 refine AKev_bif h1 ?_ ?_ <;> intro c22 h1
 try simp only [c22, aa yx20, c1, c9, aa yx10, c11, c12, c18, aa yx19, aa yx21, go_sem]
 obtain ⟨x23, yx23, h1⟩ := bs h1
 try simp only [aa yx23, c1, c9, aa yx10, c11, c12, c18, aa yx19, aa yx20, aa yx21, c22, go_sem]
 refine AKev_bif h1 ?_ ?_ <;> intro c24 h1
 have c24 := bnot_t c24
 try simp only [c24, c1, c9, aa yx10, c11, c12, c18, aa yx19, aa yx20, aa yx21, c22, aa yx23, go_sem]
 refine AKev_bif h1 ?_ ?_ <;> intro c25 h1
 try simp only [c25, c1, c9, aa yx10, c11, c12, c18, aa yx19, aa yx20, aa yx21, c22, aa yx23, c24, go_sem]
 refine AKev_backB (hnext1 _ _ (Option.some.inj h1).symm ?_)
 refine Weak.go [1, 3, 6, 7, 10, 84, 85, 86] [0, 1] rfl ?_
 try simp only [heat_furnace_showsLow.h0, c1, c9, aa yx10, c11, c12, c18, aa yx19, aa yx20, aa yx21, c22, aa yx23, c24, c25, go_sem]
 try simp only [c25, c1, c9, aa yx10, c11, c12, c18, aa yx19, aa yx20, aa yx21, c22, aa yx23, c24, go_sem]
 refine AKev_backB (hnext1 _ _ (Option.some.inj h1).symm ?_)
 refine Weak.go [1, 3, 6, 7, 10, 84, 85, 86] [0, 1] rfl ?_
 try simp only [heat_furnace_showsLow.h0, c1, c9, aa yx10, c11, c12, c18, aa yx19, aa yx20, aa yx21, c22, aa yx23, c24, c25, go_sem]
 have c24 := bnot_f c24
 try simp only [c24, c1, c9, aa yx10, c11, c12, c18, aa yx19, aa yx20, aa yx21, c22, aa yx23, go_sem]
 refine AKev_backB (hnext1 _ _ (Option.some.inj h1).symm ?_)
 refine Weak.go [1, 3, 6, 7, 10, 84, 85, 86] [0, 1] rfl ?_
 try simp only [heat_furnace_showsLow.h0, c1, c9, aa yx10, c11, c12, c18, aa yx19, aa yx20, aa yx21, c22, aa yx23, c24, go_sem]
 try simp only [c22, c1, c9, aa yx10, c11, c12, c18, aa yx19, aa yx20, aa yx21, go_sem]
 refine AKev_bif h1 ?_ ?_ <;> intro c26 h1
 try simp only [c26, c1, c9, aa yx10, c11, c12, c18, aa yx19, aa yx20, aa yx21, c22, go_sem]
 refine AKev_bif h1 ?_ ?_ <;> intro c27 h1
 try simp only [c27, c1, c9, aa yx10, c11, c12, c18, aa yx19, aa yx20, aa yx21, c22, c26, go_sem]
 obtain rfl := hret1 _ (Option.some.inj h1).symm
 simp only at h0
 obtain rfl := Option.some.inj h0
 refine AKev_ret rfl ?_
 try simp only [F115.rs, c1, c9, aa yx10, c11, c12, c18, aa yx19, aa yx20, aa yx21, c22, c26, c27, go_sem]
 try simp only [c27, c1, c9, aa yx10, c11, c12, c18, aa yx19, aa yx20, aa yx21, c22, c26, go_sem]
 refine AKev_backB (hnext1 _ _ (Option.some.inj h1).symm ?_)
 refine Weak.go [1, 3, 6, 7, 10, 84, 85, 86] [0, 1] rfl ?_
 try simp only [heat_furnace_showsLow.h0, c1, c9, aa yx10, c11, c12, c18, aa yx19, aa yx20, aa yx21, c22, c26, c27, go_sem]
 try simp only [c26, c1, c9, aa yx10, c11, c12, c18, aa yx19, aa yx20, aa yx21, c22, go_sem]
 obtain ⟨x28, yx28, h1⟩ := bs h1
 refine zc0 (heat_furnace_told_ok k _ _ _ yx28) ?_ (by first | rfl | simp [AV.refsL, AV.refs, AV.scal, AV.leaf]) ?_
 try simp only [c1, c9, aa yx10, c11, c12, c18, aa yx19, aa yx20, aa yx21, c22, c26, go_sem]
 try simp only [c1, c9, aa yx10, c11, c12, c18, aa yx19, aa yx20, aa yx21, c22, c26, go_sem]
 refine AKev_region T_ok follows_ok 1000 ?_
 try simp only [c1, c9, aa yx10, c11, c12, c18, aa yx19, aa yx20, aa yx21, c22, c26, go_sem]
 refine DG_bif h1 ?_ ?_ <;> intro c29 h1
 try simp only [c29, aa yx20, c1, c9, aa yx10, c11, c12, c18, aa yx19, aa yx21, c22, c26, go_sem]
 obtain ⟨x30, yx30, h1⟩ := bs h1
 try simp only [aa yx30, c1, c9, aa yx10, c11, c12, c18, aa yx19, aa yx20, aa yx21, c22, c26, c29, go_sem]
 refine DG_done ⟨rfl, run_sound T_ok 1000 _ _ ?_⟩
 try simp only [c1, c9, aa yx10, c11, c12, c18, aa yx19, aa yx20, aa yx21, c22, c26, c29, aa yx30, go_sem]
 refine AKev_bif h1 ?_ ?_ <;> intro c31 h1
 try simp only [c31, c1, c9, aa yx10, c11, c12, c18, aa yx19, aa yx20, aa yx21, c22, c26, c29, aa yx30, go_sem]
 obtain rfl := hret1 _ (Option.some.inj h1).symm
 simp only at h0
 obtain rfl := Option.some.inj h0
 refine AKev_ret rfl ?_
 try simp only [F115.rs, c1, c9, aa yx10, c11, c12, c18, aa yx19, aa yx20, aa yx21, c22, c26, c29, aa yx30, c31, go_sem]
 try simp only [c31, c1, c9, aa yx10, c11, c12, c18, aa yx19, aa yx20, aa yx21, c22, c26, c29, aa yx30, go_sem]
 refine AKev_backB (hnext1 _ _ (Option.some.inj h1).symm ?_)
 refine Weak.go [1, 3, 6, 7, 10, 84, 85, 86] [0, 1] rfl ?_
 try simp only [heat_furnace_showsLow.h0, c1, c9, aa yx10, c11, c12, c18, aa yx19, aa yx20, aa yx21, c22, c26, c29, aa yx30, c31, go_sem]
 try simp only [c29, c1, c9, aa yx10, c11, c12, c18, aa yx19, aa yx20, aa yx21, c22, c26, go_sem]
 refine DG_done ⟨rfl, run_sound T_ok 1000 _ _ ?_⟩
 try simp only [c1, c9, aa yx10, c11, c12, c18, aa yx19, aa yx20, aa yx21, c22, c26, c29, go_sem]
 obtain rfl := hret1 _ (Option.some.inj h1).symm
 simp only at h0
 obtain rfl := Option.some.inj h0
 refine AKev_ret rfl ?_
 try simp only [F115.rs, c1, c9, aa yx10, c11, c12, c18, aa yx19, aa yx20, aa yx21, c22, c26, c29, go_sem]
 try simp only [c18, c1, c9, aa yx10, c11, c12, go_sem]
 refine AKev_backB (hbrk1 _ _ (Option.some.inj h1).symm ?_)
 refine Weak.go [6, 7] [] rfl ?_
 try simp only [heat_furnace_showsLow.x0, c1, c9, aa yx10, c11, c12, c18, go_sem]
 rintro ⟨i16, b17⟩ hr_
 subst hr_
 simp only at h0
 refine rS ?_
 try simp only [heat_furnace_showsLow.x0, c1, c9, aa yx10, c11, c12, go_sem]
 obtain rfl := Option.some.inj h0
 refine AKev_ret rfl ?_
 try simp only [F115.rs, c1, c9, aa yx10, c11, c12, go_sem]
def F65.c : SC :=
 (.seq
 (.reg [oq 5 (.box 27 (.tmp 0)) 0 [0],
 oq 9 (.box 57 (.tmp 4)) 0 [4],
 sn 10 0 33 [10]])
 (.seq
 (.block 0
 (.seq
 (.reg [ld 17 27 5 [],
 cf1 18 42 17 27 33 [17],
 bn 19 .neq 33 18 0 33 4 [18],
 sg 16 19 4 [19]])
 (.cond (.tmp 16)
 (.seq
 (.reg [sn 10 42 33 []])
 .ret)
 (.seq
 (.reg [mv 21 1 3 [],
 fa 22 27 5 0 [],
 fa 23 24 22 0 [22],
 ld 24 22 23 [23],
 oq 25 (.indexAddr 22 (.tmp 24) (.const (.int .i64 0))) 0 [24],
 ld 26 89 25 [25],
 ln 27 26 89 3 [26],
 bn 28 .sub 3 27 1 3 3 [27],
 oq 29 (.call ⟨.value (.func 58), #[.tmp 21, .const (.int .i64 0), .tmp 28], #[3, 3, 3]⟩) 4 [21, 28],
 oq 30 (.unOp .not 4 (.tmp 29)) 4 [29],
 sg 20 30 4 [30]])
 (.cond (.tmp 20)
 (.seq
 (.reg [sn 10 43 33 []])
 .ret)
 .skip)))))
 (.seq
 (.reg [ld 31 27 5 [5],
 cf1 32 66 31 27 81 [31],
 oq 11 (.alloc 81) 0 [],
 ⟨none, .store 81 (.tmp 11) (.tmp 32), 0, none, [32]⟩])
 (.seq
 (.reg [ld 34 81 11 [],
 mv 35 1 3 [],
 ld 36 57 9 [],
 oq 37 (.call ⟨.value (.func 114), #[.tmp 34, .tmp 35, .tmp 36], #[81, 3, 57]⟩) 126 [34, 35, 36],
 mv 33 37 126 [37],
 xt 38 33 0 3 [],
 xt 39 33 1 4 [33],
 sg 12 38 3 [38],
 sg 13 39 4 [39]])
 (.seq
 (.reg [mv 40 12 3 [12],
 mv 41 3 3 [],
 b2 42 .leq 3 40 41 3 4 [40, 41],
 sg 14 42 4 [42]])
 (.seq
 (.seq
 (.reg [mv 43 2 4 [2],
 oq 44 (.unOp .not 4 (.tmp 43)) 4 [43]])
 (.cond (.tmp 44)
 (.seq
 (.reg [sb 15 false 4 [15]])
 (.seq
 (.reg [ld 46 81 11 [11],
 mv 47 1 3 [1],
 ld 48 57 9 [9],
 oq 49 (.call ⟨.value (.func 115), #[.tmp 46, .tmp 47, .tmp 48], #[81, 3, 57]⟩) 143 [46, 47, 48],
 mv 45 49 143 [49],
 xt 50 45 0 3 [],
 xt 51 45 1 4 [],
 xt 52 45 2 4 [45],
 sg 12 50 3 [50],
 sg 15 51 4 [51],
 sg 13 52 4 [52]])
 (.reg [mv 53 15 4 [15],
 mv 54 53 4 [53],
 og 55 (.move (.tmp 12)) 3 54 false [12],
 og 56 (.move (.tmp 3)) 3 54 false [3],
 og 57 (.binOp .geq 3 (.tmp 55) (.tmp 56) 3) 4 54 false [55, 56],
 oq 58 (.pick (.tmp 54) (.const (.bool true)) (.tmp 57)) 4 [54, 57],
 sg 14 58 4 [58]])))
 .skip))
 (.seq
 (.block 1
 (.seq
 (.reg [mv 60 13 4 [13],
 oq 61 (.unOp .not 4 (.tmp 60)) 4 [60],
 sg 59 61 4 [61]])
 (.cond (.tmp 59)
 (.seq
 (.reg [sn 10 46 33 []])
 .ret)
 (.seq
 (.reg [mv 63 14 4 [14],
 oq 64 (.unOp .not 4 (.tmp 63)) 4 [63],
 sg 62 64 4 [64]])
 (.cond (.tmp 62)
 (.seq
 (.reg [sn 10 47 33 []])
 .ret)
 .skip)))))
 (.seq
 (.reg [sn 10 0 33 []])
 .ret))))))))
theorem F65.rs : Tryz.f65.results.toList = [.tmp 10] := rfl
def heat_CheckProof (k : Nat) (f0 : Firing) (place1 : Int) (high2 : Bool) (n3 : Int) (p4 : HeatProof) : Option (Int) :=
 (heat_Check k f0).bind fun x1 =>
 bif (!decide (x1 = (0 : Int))) then
  some 42
 else
  (at? f0.Kiln.Falls 0).bind fun x3 =>
  (heat_in k place1 0 (w64 ((x3.length : Int) - 1))).bind fun x4 =>
  bif (!x4) then
   some 43
  else
   (heat_newFurnace k f0).bind fun x6 =>
   (heat_furnace_showsHigh k x6 place1 p4).bind fun x7 =>
   bif (!high2) then
    (heat_furnace_showsLow k x6 place1 p4).bind fun x9 =>
    bif (!x9.2.1) then
     bif (!x9.2.2) then
      some 46
     else
      bif (!decide (n3 ≤ x9.1)) then
       some 47
      else
       some 0
    else
     bif (!x9.2.2) then
      some 46
     else
      some 0
   else
    bif (!x7.2) then
     some 46
    else
     bif (!decide (x7.1 ≤ n3)) then
      some 47
     else
      some 0
theorem heat_CheckProof_ok (k : Nat) (f0 : Firing) (place1 : Int) (high2 : Bool) (n3 : Int) (p4 : HeatProof) (r : Int) (h0 : heat_CheckProof k f0 place1 high2 n3 p4 = some r) : PCall Tryz.prog 65 [.agg (Firing.c f0), .int .i64 place1, .bool high2, .int .i64 n3, .agg (HeatProof.c p4)] (fun y => y = .int .i64 r) := by
 refine PB (fn := Tryz.f65) (sc := F65.c) ?_
 refine rS ?_
 simp only [heat_CheckProof] at h0
 try simp only [F65.c, go_sem]
 obtain ⟨x1, yx1, h0⟩ := bs h0
 refine zc0 (heat_Check_ok k _ _ yx1) ?_ (by first | rfl | simp [AV.refsL, AV.refs, AV.scal, AV.leaf]) ?_
 try simp only [go_sem]
 try simp only [go_sem]
 refine AKev_bif h0 ?_ ?_ <;> intro c2 h0
 have c2 := bnot_t c2
 try simp only [c2, go_sem]
 obtain rfl := Option.some.inj h0
 refine AKev_ret rfl ?_
 try simp only [F65.rs, c2, go_sem]
 have c2 := bnot_f c2
 try simp only [c2, go_sem]
 obtain ⟨x3, yx3, h0⟩ := bs h0
 try simp only [aa yx3, c2, go_sem]
 obtain ⟨x4, yx4, h0⟩ := bs h0
 refine zc0 (heat_in_ok k _ _ _ _ yx4) ?_ (by first | rfl | simp [AV.refsL, AV.refs, AV.scal, AV.leaf]) ?_
 try simp only [c2, aa yx3, go_sem]
 try simp only [c2, aa yx3, go_sem]
 refine AKev_bif h0 ?_ ?_ <;> intro c5 h0
 have c5 := bnot_t c5
 try simp only [c5, c2, aa yx3, go_sem]
 obtain rfl := Option.some.inj h0
 refine AKev_ret rfl ?_
 try simp only [F65.rs, c2, aa yx3, c5, go_sem]
 have c5 := bnot_f c5
 try simp only [c5, c2, aa yx3, go_sem]
 obtain ⟨x6, yx6, h0⟩ := bs h0
 refine zc0 (heat_newFurnace_ok k _ _ yx6) ?_ (by first | rfl | simp [AV.refsL, AV.refs, AV.scal, AV.leaf]) ?_
 try simp only [c2, aa yx3, c5, go_sem]
 try simp only [c2, aa yx3, c5, go_sem]
 obtain ⟨x7, yx7, h0⟩ := bs h0
 refine zc0 (heat_furnace_showsHigh_ok k _ _ _ _ yx7) ?_ (by first | rfl | simp [AV.refsL, AV.refs, AV.scal, AV.leaf]) ?_
 try simp only [c2, aa yx3, c5, go_sem]
 try simp only [c2, aa yx3, c5, go_sem]
 refine AKev_bif h0 ?_ ?_ <;> intro c8 h0
 have c8 := bnot_t c8
 try simp only [c8, c2, aa yx3, c5, go_sem]
 obtain ⟨x9, yx9, h0⟩ := bs h0
 refine zc0 (heat_furnace_showsLow_ok k _ _ _ _ yx9) ?_ (by first | rfl | simp [AV.refsL, AV.refs, AV.scal, AV.leaf]) ?_
 try simp only [c2, aa yx3, c5, c8, go_sem]
 try simp only [c2, aa yx3, c5, c8, go_sem]
 refine AKev_bif h0 ?_ ?_ <;> intro c10 h0
 have c10 := bnot_t c10
 try simp only [c10, c2, aa yx3, c5, c8, go_sem]
 refine AKev_bif h0 ?_ ?_ <;> intro c11 h0
 have c11 := bnot_t c11
 try simp only [c11, c2, aa yx3, c5, c8, c10, go_sem]
 obtain rfl := Option.some.inj h0
 refine AKev_ret rfl ?_
 try simp only [F65.rs, c2, aa yx3, c5, c8, c10, c11, go_sem]
 have c11 := bnot_f c11
 try simp only [c11, c2, aa yx3, c5, c8, c10, go_sem]
 refine AKev_bif h0 ?_ ?_ <;> intro c12 h0
 have c12 := bnot_t c12
 try simp only [c12, c2, aa yx3, c5, c8, c10, c11, go_sem]
 obtain rfl := Option.some.inj h0
 refine AKev_ret rfl ?_
 try simp only [F65.rs, c2, aa yx3, c5, c8, c10, c11, c12, go_sem]
 have c12 := bnot_f c12
 try simp only [c12, c2, aa yx3, c5, c8, c10, c11, go_sem]
 obtain rfl := Option.some.inj h0
 refine AKev_ret rfl ?_
 try simp only [F65.rs, c2, aa yx3, c5, c8, c10, c11, c12, go_sem]
 have c10 := bnot_f c10
 try simp only [c10, c2, aa yx3, c5, c8, go_sem]
 refine AKev_bif h0 ?_ ?_ <;> intro c13 h0
 have c13 := bnot_t c13
 try simp only [c13, c2, aa yx3, c5, c8, c10, go_sem]
 obtain rfl := Option.some.inj h0
 refine AKev_ret rfl ?_
 try simp only [F65.rs, c2, aa yx3, c5, c8, c10, c13, go_sem]
 have c13 := bnot_f c13
 try simp only [c13, c2, aa yx3, c5, c8, c10, go_sem]
 obtain rfl := Option.some.inj h0
 refine AKev_ret rfl ?_
 try simp only [F65.rs, c2, aa yx3, c5, c8, c10, c13, go_sem]
 have c8 := bnot_f c8
 try simp only [c8, c2, aa yx3, c5, go_sem]
 refine AKev_bif h0 ?_ ?_ <;> intro c14 h0
 have c14 := bnot_t c14
 try simp only [c14, c2, aa yx3, c5, c8, go_sem]
 obtain rfl := Option.some.inj h0
 refine AKev_ret rfl ?_
 try simp only [F65.rs, c2, aa yx3, c5, c8, c14, go_sem]
 have c14 := bnot_f c14
 try simp only [c14, c2, aa yx3, c5, c8, go_sem]
 refine AKev_bif h0 ?_ ?_ <;> intro c15 h0
 have c15 := bnot_t c15
 try simp only [c15, c2, aa yx3, c5, c8, c14, go_sem]
 obtain rfl := Option.some.inj h0
 refine AKev_ret rfl ?_
 try simp only [F65.rs, c2, aa yx3, c5, c8, c14, c15, go_sem]
 have c15 := bnot_f c15
 try simp only [c15, c2, aa yx3, c5, c8, c14, go_sem]
 obtain rfl := Option.some.inj h0
 refine AKev_ret rfl ?_
 try simp only [F65.rs, c2, aa yx3, c5, c8, c14, c15, go_sem]
def F15.c : SC :=
 (.seq
 (.reg [sb 0 false 4 [0]])
 (.seq
 (.reg [oq 12 (.call ⟨.value (.func 63), #[], #[]⟩) 27 [],
 cf1 13 48 12 27 47 [12],
 mv 11 13 47 [13],
 xt 14 11 0 37 [],
 xt 15 11 1 33 [11],
 sg 1 14 37 [14],
 sg 2 15 33 [15]])
 (.seq
 (.reg [oq 17 (.call ⟨.value (.func 63), #[], #[]⟩) 27 [],
 oq 18 (.call ⟨.value (.func 21), #[.tmp 17, .const (.int .i64 1)], #[27, 3]⟩) 52 [17],
 mv 16 18 52 [18],
 xt 19 16 0 30 [],
 xt 20 16 1 33 [16],
 oq 3 (.alloc 30) 0 [],
 ⟨none, .store 30 (.tmp 3) (.tmp 19), 0, none, [19]⟩,
 sg 4 20 33 [20]])
 (.seq
 (.reg [oq 22 (.call ⟨.value (.func 63), #[], #[]⟩) 27 [],
 oq 23 (.build 30 #[(0, .const (.int .i64 900)), (1, .const (.int .i64 950))]) 30 [],
 oq 24 (.call ⟨.value (.func 10), #[.tmp 22, .const (.int .i64 1), .tmp 23], #[27, 3, 30]⟩) 34 [22, 23],
 mv 21 24 34 [24],
 xt 25 21 0 3 [],
 xt 26 21 1 33 [21],
 sg 5 25 3 [25],
 sg 6 26 33 [26]])
 (.seq
 (.reg [oq 28 (.call ⟨.value (.func 64), #[], #[]⟩) 24 [],
 oq 29 (.call ⟨.value (.func 63), #[], #[]⟩) 27 [],
 oq 30 (.field 27 (.tmp 29) 1) 25 [29],
 oq 31 (.build 64 #[(0, .const (.int .i64 4)), (1, .const (.int .i64 1)), (2, .const (.int .i64 2)), (3, .const (.int .i64 600))]) 64 [],
 oq 32 (.buildSlice 25 1 #[(0, .tmp 31)]) 25 [31],
 oq 33 (.call ⟨.builtin .append, #[.tmp 30, .tmp 32], #[25, 25]⟩) 25 [30, 32],
 oq 34 (.build 27 #[(0, .tmp 28), (1, .tmp 33)]) 27 [28, 33],
 cf1 35 16 34 27 47 [34],
 mv 27 35 47 [35],
 xt 36 27 0 37 [],
 xt 37 27 1 33 [27],
 sg 7 36 37 [36],
 sg 8 37 33 [37]])
 (.seq
 (.reg [oq 38 (.call ⟨.value (.func 63), #[], #[]⟩) 27 [],
 oq 39 (.buildSlice 37 2 #[(0, .const (.int .i64 (-1))), (1, .const (.int .i64 2))]) 37 [],
 oq 40 (.build 57 #[(0, .const (.int .i64 0)), (1, .tmp 39)]) 57 [39],
 oq 41 (.call ⟨.value (.func 65), #[.tmp 38, .const (.int .i64 1), .const (.bool false), .const (.int .i64 700), .tmp 40], #[27, 3, 4, 3, 57]⟩) 33 [38, 40],
 sg 9 41 33 [41]])
 (.seq
 (.reg [mv 42 2 33 [2],
 bn 43 .eql 33 42 0 33 4 [42],
 mv 44 43 4 [43],
 og 45 (.move (.tmp 4)) 33 44 true [4],
 og 46 (.binOp .eql 33 (.tmp 45) (.const (.int .i64 0)) 33) 4 44 true [45],
 oq 47 (.pick (.tmp 44) (.tmp 46) (.const (.bool false))) 4 [44, 46],
 mv 48 47 4 [47],
 og 49 (.move (.tmp 6)) 33 48 true [6],
 og 50 (.binOp .eql 33 (.tmp 49) (.const (.int .i64 0)) 33) 4 48 true [49],
 oq 51 (.pick (.tmp 48) (.tmp 50) (.const (.bool false))) 4 [48, 50],
 mv 52 51 4 [51],
 og 53 (.move (.tmp 8)) 33 52 true [8],
 og 54 (.binOp .eql 33 (.tmp 53) (.const (.int .i64 0)) 33) 4 52 true [53],
 oq 55 (.pick (.tmp 52) (.tmp 54) (.const (.bool false))) 4 [52, 54],
 mv 56 55 4 [55],
 og 57 (.move (.tmp 9)) 33 56 true [9],
 og 58 (.binOp .eql 33 (.tmp 57) (.const (.int .i64 0)) 33) 4 56 true [57],
 oq 59 (.pick (.tmp 56) (.tmp 58) (.const (.bool false))) 4 [56, 58],
 sg 10 59 4 [59]])
 (.seq
 (.reg [mv 60 10 4 [10],
 mv 61 60 4 [60],
 og 62 (.move (.tmp 1)) 37 61 true [1],
 og 63 (.buildSlice 37 2 #[(0, .const (.int .i64 1300)), (1, .const (.int .i64 1100))]) 37 61 true [],
 og 64 (.call ⟨.value (.func 18), #[.tmp 62, .tmp 63], #[37, 37]⟩) 4 61 true [62, 63],
 oq 65 (.pick (.tmp 61) (.tmp 64) (.const (.bool false))) 4 [61, 64],
 mv 66 65 4 [65],
 og 67 (.load 30 (.tmp 3)) 30 66 true [3],
 og 68 (.build 30 #[(0, .const (.int .i64 700)), (1, .const (.int .i64 1000))]) 30 66 true [],
 og 69 (.binOp .eql 30 (.tmp 67) (.tmp 68) 30) 4 66 true [67, 68],
 oq 70 (.pick (.tmp 66) (.tmp 69) (.const (.bool false))) 4 [66, 69],
 mv 71 70 4 [70],
 og 72 (.move (.tmp 5)) 3 71 true [5],
 og 73 (.binOp .eql 3 (.tmp 72) (.const (.int .i64 2)) 3) 4 71 true [72],
 oq 74 (.pick (.tmp 71) (.tmp 73) (.const (.bool false))) 4 [71, 73],
 mv 75 74 4 [74],
 og 76 (.move (.tmp 7)) 37 75 true [7],
 og 77 (.buildSlice 37 2 #[(0, .const (.int .i64 1)), (1, .const (.int .i64 4))]) 37 75 true [],
 og 78 (.call ⟨.value (.func 18), #[.tmp 76, .tmp 77], #[37, 37]⟩) 4 75 true [76, 77],
 oq 79 (.pick (.tmp 75) (.tmp 78) (.const (.bool false))) 4 [75, 78],
 sg 0 79 4 [79]])
 .ret))))))))
theorem F15.rs : Tryz.f15.results.toList = [.tmp 0] := rfl
def L04_sane (k : Nat) : Option (Bool) :=
 (L04_firing_o k).bind fun x2 =>
 (heat_Hottest k x2).bind fun x3 =>
 (L04_firing_o k).bind fun x5 =>
 (heat_Bound k x5 1).bind fun x6 =>
 (L04_firing_o k).bind fun x8 =>
 (heat_Verdict k x8 1 (⟨900, 950⟩ : Range)).bind fun x9 =>
 (L04_kiln k).bind fun x10 =>
 (L04_firing_o k).bind fun x12 =>
 (push? 48 x12.Readings (⟨4, 1, 2, 600, (⟨0, 0⟩ : Range)⟩ : Reading)).bind fun l13 =>
 (heat_Conflict k (⟨x10, l13⟩ : Firing)).bind fun x14 =>
 (L04_firing_o k).bind fun x16 =>
 (heat_CheckProof k x16 1 false 700 (⟨0, [-1, 2]⟩ : HeatProof)).bind fun x17 =>
 bif decide (x3.2 = (0 : Int)) then
  bif decide (x6.2 = (0 : Int)) then
   bif decide (x9.2 = (0 : Int)) then
    bif decide (x14.2 = (0 : Int)) then
     bif decide (x17 = (0 : Int)) then
      (R01_Same k x3.1 [1300, 1100]).bind fun x23 =>
      bif x23 then
       bif (decide (x6.1.Lo = (700 : Int)) && decide (x6.1.Hi = (1000 : Int))) then
        bif decide (x9.1 = (2 : Int)) then
         (R01_Same k x14.1 [1, 4]).bind fun x27 =>
         some x27
        else
         some false
       else
        some false
      else
       some false
     else
      some false
    else
     some false
   else
    some false
  else
   some false
 else
  some false
theorem L04_sane_ok (k : Nat) (r : Bool) (h0 : L04_sane k = some r) : PCall Tryz.prog 15 [] (fun y => y = .bool r) := by
 refine PB (fn := Tryz.f15) (sc := F15.c) ?_
 refine rS ?_
 simp only [L04_sane] at h0
 try simp only [F15.c, go_sem]
 obtain ⟨x2, yx2, h0⟩ := bs h0
 refine AKev_giveF [] [] (L04_firing_o_ok k _ yx2) ?_ rfl ?_
 try simp only [gOK, go_sem]
 try simp only [go_sem]
 refine rS ?_
 try simp only [go_sem]
 obtain ⟨x3, yx3, h0⟩ := bs h0
 refine zcT [16] (heat_Hottest_ok k _ _ yx3) ?_ ?_
 try simp only [go_sem]
 try simp only [go_sem]
 obtain ⟨x5, yx5, h0⟩ := bs h0
 refine AKev_giveF [] [] (L04_firing_o_ok k _ yx5) ?_ rfl ?_
 try simp only [gOK, go_sem]
 try simp only [go_sem]
 refine rS ?_
 try simp only [go_sem]
 obtain ⟨x6, yx6, h0⟩ := bs h0
 refine zcT [128] (heat_Bound_ok k _ _ _ yx6) ?_ ?_
 try simp only [go_sem]
 try simp only [go_sem]
 obtain ⟨x8, yx8, h0⟩ := bs h0
 refine AKev_giveF [] [] (L04_firing_o_ok k _ yx8) ?_ rfl ?_
 try simp only [gOK, go_sem]
 try simp only [go_sem]
 refine rS ?_
 try simp only [go_sem]
 obtain ⟨x9, yx9, h0⟩ := bs h0
 refine zc0 (heat_Verdict_ok k _ _ _ _ yx9) ?_ (by first | rfl | simp [AV.refsL, AV.refs, AV.scal, AV.leaf]) ?_
 try simp only [go_sem]
 try simp only [go_sem]
 obtain ⟨x10, yx10, h0⟩ := bs h0
 refine zc0 (L04_kiln_ok k _ yx10) ?_ (by first | rfl | simp [AV.refsL, AV.refs, AV.scal, AV.leaf]) ?_
 try simp only [go_sem]
 try simp only [go_sem]
 obtain ⟨x12, yx12, h0⟩ := bs h0
 refine AKev_giveF [] [] (L04_firing_o_ok k _ yx12) ?_ rfl ?_
 try simp only [gOK, go_sem]
 try simp only [go_sem]
 refine rS ?_
 try simp only [go_sem]
 obtain ⟨l13, yl13, h0⟩ := bs h0
 have eyl13 := push_map Reading.c yl13
 have tyl13 := push_take Reading.c yl13
 have nyl13 := push_len yl13
 have myl13 := push_room yl13
 try simp only [go_sem] at eyl13 tyl13 nyl13 myl13
 try simp only [myl13, eyl13, nyl13, tyl13, go_sem]
 obtain ⟨x14, yx14, h0⟩ := bs h0
 refine zcT [400] (heat_Conflict_ok k _ _ yx14) ?_ ?_
 try simp only [eyl13, nyl13, tyl13, go_sem]
 try simp only [eyl13, nyl13, tyl13, go_sem]
 obtain ⟨x16, yx16, h0⟩ := bs h0
 refine AKev_giveF [] [] (L04_firing_o_ok k _ yx16) ?_ rfl ?_
 try simp only [gOK, eyl13, nyl13, tyl13, go_sem]
 try simp only [eyl13, nyl13, tyl13, go_sem]
 refine rS ?_
 try simp only [eyl13, nyl13, tyl13, go_sem]
 obtain ⟨x17, yx17, h0⟩ := bs h0
 refine zc0 (heat_CheckProof_ok k _ _ _ _ _ _ yx17) ?_ (by first | rfl | simp [AV.refsL, AV.refs, AV.scal, AV.leaf]) ?_
 try simp only [eyl13, nyl13, tyl13, go_sem]
 try simp only [eyl13, nyl13, tyl13, go_sem]
 refine AKev_bif h0 ?_ ?_ <;> intro c18 h0
 try simp only [c18, eyl13, nyl13, tyl13, go_sem]
 refine AKev_bif h0 ?_ ?_ <;> intro c19 h0
 try simp only [c19, eyl13, nyl13, tyl13, c18, go_sem]
 refine AKev_bif h0 ?_ ?_ <;> intro c20 h0
 try simp only [c20, eyl13, nyl13, tyl13, c18, c19, go_sem]
 refine AKev_bif h0 ?_ ?_ <;> intro c21 h0
 try simp only [c21, eyl13, nyl13, tyl13, c18, c19, c20, go_sem]
 refine AKev_bif h0 ?_ ?_ <;> intro c22 h0
 try simp only [c22, eyl13, nyl13, tyl13, c18, c19, c20, c21, go_sem]
 obtain ⟨x23, yx23, h0⟩ := bs h0
 refine zc0 (R01_Same_ok k _ _ _ yx23) ?_ (by first | rfl | simp [AV.refsL, AV.refs, AV.scal, AV.leaf]) ?_
 try simp only [eyl13, nyl13, tyl13, c18, c19, c20, c21, c22, go_sem]
 try simp only [eyl13, nyl13, tyl13, c18, c19, c20, c21, c22, go_sem]
 refine AKev_bif h0 ?_ ?_ <;> intro c24 h0
 try simp only [c24, eyl13, nyl13, tyl13, c18, c19, c20, c21, c22, go_sem]
 refine AKev_bif h0 ?_ ?_ <;> intro c25 h0
 try simp only [c25, eyl13, nyl13, tyl13, c18, c19, c20, c21, c22, c24, go_sem]
 refine AKev_bif h0 ?_ ?_ <;> intro c26 h0
 try simp only [c26, eyl13, nyl13, tyl13, c18, c19, c20, c21, c22, c24, c25, go_sem]
 obtain ⟨x27, yx27, h0⟩ := bs h0
 refine zc0 (R01_Same_ok k _ _ _ yx27) ?_ (by first | rfl | simp [AV.refsL, AV.refs, AV.scal, AV.leaf]) ?_
 try simp only [eyl13, nyl13, tyl13, c18, c19, c20, c21, c22, c24, c25, c26, go_sem]
 try simp only [eyl13, nyl13, tyl13, c18, c19, c20, c21, c22, c24, c25, c26, go_sem]
 obtain rfl := Option.some.inj h0
 refine AKev_ret rfl ?_
 try simp only [F15.rs, eyl13, nyl13, tyl13, c18, c19, c20, c21, c22, c24, c25, c26, go_sem]
 try simp only [c26, eyl13, nyl13, tyl13, c18, c19, c20, c21, c22, c24, c25, go_sem]
 obtain rfl := Option.some.inj h0
 refine AKev_ret rfl ?_
 try simp only [F15.rs, eyl13, nyl13, tyl13, c18, c19, c20, c21, c22, c24, c25, c26, go_sem]
 try simp only [c25, eyl13, nyl13, tyl13, c18, c19, c20, c21, c22, c24, go_sem]
 obtain rfl := Option.some.inj h0
 refine AKev_ret rfl ?_
 try simp only [F15.rs, eyl13, nyl13, tyl13, c18, c19, c20, c21, c22, c24, c25, go_sem]
 try simp only [c24, eyl13, nyl13, tyl13, c18, c19, c20, c21, c22, go_sem]
 obtain rfl := Option.some.inj h0
 refine AKev_ret rfl ?_
 try simp only [F15.rs, eyl13, nyl13, tyl13, c18, c19, c20, c21, c22, c24, go_sem]
 try simp only [c22, eyl13, nyl13, tyl13, c18, c19, c20, c21, go_sem]
 obtain rfl := Option.some.inj h0
 refine AKev_ret rfl ?_
 try simp only [F15.rs, eyl13, nyl13, tyl13, c18, c19, c20, c21, c22, go_sem]
 try simp only [c21, eyl13, nyl13, tyl13, c18, c19, c20, go_sem]
 obtain rfl := Option.some.inj h0
 refine AKev_ret rfl ?_
 try simp only [F15.rs, eyl13, nyl13, tyl13, c18, c19, c20, c21, go_sem]
 try simp only [c20, eyl13, nyl13, tyl13, c18, c19, go_sem]
 obtain rfl := Option.some.inj h0
 refine AKev_ret rfl ?_
 try simp only [F15.rs, eyl13, nyl13, tyl13, c18, c19, c20, go_sem]
 try simp only [c19, eyl13, nyl13, tyl13, c18, go_sem]
 obtain rfl := Option.some.inj h0
 refine AKev_ret rfl ?_
 try simp only [F15.rs, eyl13, nyl13, tyl13, c18, c19, go_sem]
 try simp only [c18, eyl13, nyl13, tyl13, go_sem]
 obtain rfl := Option.some.inj h0
 refine AKev_ret rfl ?_
 try simp only [F15.rs, eyl13, nyl13, tyl13, c18, go_sem]
def F3.c : SC :=
 (.seq
 (.reg [oq 3 (.box 27 (.tmp 0)) 0 [0],
 oq 5 (.box 32 (.tmp 2)) 0 [2],
 sb 6 false 4 [6]])
 (.seq
 (.reg [ld 18 27 3 [],
 mv 19 1 28 [],
 cf2 20 8 18 19 27 28 34 [18, 19],
 mv 17 20 34 [20],
 xt 21 17 0 3 [],
 xt 22 17 1 33 [17],
 sg 7 21 3 [21],
 sg 8 22 33 [22]])
 (.seq
 (.reg [ld 24 27 3 [],
 mv 25 1 28 [],
 cf2 26 9 24 25 27 28 34 [24, 25],
 mv 23 26 34 [26],
 xt 27 23 0 3 [],
 xt 28 23 1 33 [23],
 sg 9 27 3 [27],
 sg 10 28 33 [28]])
 (.seq
 (.reg [ld 30 27 3 [],
 fa 31 32 5 0 [],
 ld 32 3 31 [31],
 fa 33 32 5 1 [],
 ld 34 30 33 [33],
 oq 35 (.call ⟨.value (.func 10), #[.tmp 30, .tmp 32, .tmp 34], #[27, 3, 30]⟩) 34 [30, 32, 34],
 mv 29 35 34 [35],
 xt 36 29 0 3 [],
 xt 37 29 1 33 [29],
 sg 11 36 3 [36],
 sg 12 37 33 [37]])
 (.seq
 (.reg [ld 39 27 3 [],
 fa 40 32 5 0 [],
 ld 41 3 40 [40],
 fa 42 32 5 1 [5],
 ld 43 30 42 [42],
 oq 44 (.call ⟨.value (.func 11), #[.tmp 39, .tmp 41, .tmp 43], #[27, 3, 30]⟩) 34 [39, 41, 43],
 mv 38 44 34 [44],
 xt 45 38 0 3 [],
 xt 46 38 1 33 [38],
 sg 13 45 3 [45],
 sg 14 46 33 [46]])
 (.seq
 (.reg [ld 48 27 3 [],
 mv 49 1 28 [],
 cf2 50 12 48 49 27 28 41 [48, 49],
 mv 47 50 41 [50],
 xt 51 47 0 40 [],
 xt 52 47 1 33 [47],
 oq 15 (.alloc 40) 0 [],
 ⟨none, .store 40 (.tmp 15) (.tmp 51), 0, none, [51]⟩,
 sg 16 52 33 [52]])
 (.seq
 (.seq
 (.reg [mv 53 7 3 [7],
 mv 54 9 3 [],
 b2 55 .neq 3 53 54 3 4 [53, 54],
 mv 56 55 4 [55],
 og 57 (.move (.tmp 8)) 33 56 false [8],
 og 58 (.move (.tmp 10)) 33 56 false [],
 og 59 (.binOp .neq 33 (.tmp 57) (.tmp 58) 33) 4 56 false [57, 58],
 oq 60 (.pick (.tmp 56) (.const (.bool true)) (.tmp 59)) 4 [56, 59],
 mv 61 60 4 [60],
 og 62 (.move (.tmp 11)) 3 61 false [11],
 og 63 (.move (.tmp 13)) 3 61 false [13],
 og 64 (.binOp .neq 3 (.tmp 62) (.tmp 63) 3) 4 61 false [62, 63],
 oq 65 (.pick (.tmp 61) (.const (.bool true)) (.tmp 64)) 4 [61, 64],
 mv 66 65 4 [65],
 og 67 (.move (.tmp 12)) 33 66 false [12],
 og 68 (.move (.tmp 14)) 33 66 false [14],
 og 69 (.binOp .neq 33 (.tmp 67) (.tmp 68) 33) 4 66 false [67, 68],
 oq 70 (.pick (.tmp 66) (.const (.bool true)) (.tmp 69)) 4 [66, 69]])
 (.cond (.tmp 70)
 (.seq
 (.reg [sb 6 false 4 []])
 .ret)
 .skip))
 (.seq
 (.seq
 (.reg [mv 71 10 33 [10],
 bn 72 .neq 33 71 0 33 4 [71],
 mv 73 72 4 [72],
 og 74 (.move (.tmp 9)) 3 73 false [9],
 og 75 (.binOp .eql 3 (.tmp 74) (.const (.int .i64 0)) 3) 4 73 false [74],
 oq 76 (.pick (.tmp 73) (.const (.bool true)) (.tmp 75)) 4 [73, 75]])
 (.cond (.tmp 76)
 (.seq
 (.reg [mv 77 16 33 [16],
 ld 78 27 3 [3],
 mv 79 1 28 [1],
 oq 80 (.build 40 #[]) 40 [],
 oq 81 (.call ⟨.value (.func 13), #[.tmp 78, .tmp 79, .tmp 80], #[27, 28, 40]⟩) 33 [78, 79, 80],
 b2 82 .eql 33 77 81 33 4 [77, 81],
 mv 83 82 4 [82],
 og 84 (.load 40 (.tmp 15)) 40 83 true [15],
 og 85 (.call ⟨.value (.func 14), #[.tmp 84], #[40]⟩) 4 83 true [84],
 oq 86 (.pick (.tmp 83) (.tmp 85) (.const (.bool false))) 4 [83, 85],
 mv 87 86 4 [86],
 og 88 (.call ⟨.value (.func 15), #[], #[]⟩) 4 87 true [],
 oq 89 (.pick (.tmp 87) (.tmp 88) (.const (.bool false))) 4 [87, 88],
 sg 6 89 4 [89]])
 .ret)
 .skip))
 (.seq
 (.reg [mv 90 16 33 [16],
 bn 91 .eql 33 90 0 33 4 [90],
 mv 92 91 4 [91],
 og 93 (.load 27 (.tmp 3)) 27 92 true [3],
 og 94 (.move (.tmp 1)) 28 92 true [1],
 og 95 (.load 40 (.tmp 15)) 40 92 true [15],
 og 96 (.call ⟨.value (.func 13), #[.tmp 93, .tmp 94, .tmp 95], #[27, 28, 40]⟩) 33 92 true [93, 94, 95],
 og 97 (.binOp .eql 33 (.tmp 96) (.const (.int .i64 0)) 33) 4 92 true [96],
 oq 98 (.pick (.tmp 92) (.tmp 97) (.const (.bool false))) 4 [92, 97],
 mv 99 98 4 [98],
 og 100 (.call ⟨.value (.func 15), #[], #[]⟩) 4 99 true [],
 oq 101 (.pick (.tmp 99) (.tmp 100) (.const (.bool false))) 4 [99, 100],
 sg 6 101 4 [101]])
 .ret)))))))))
theorem F3.rs : Tryz.f3.results.toList = [.tmp 6] := rfl
def L04_HeatWants (k : Nat) (f0 : Firing) (l1 : (List Want)) (w2 : Want) : Option (Bool) :=
 (heat_Together k f0 l1).bind fun x1 =>
 (R04_Together k f0 l1).bind fun x2 =>
 (heat_Verdict k f0 w2.Place w2.Heat).bind fun x3 =>
 (R04_Verdict k f0 w2.Place w2.Heat).bind fun x4 =>
 (heat_Show k f0 l1).bind fun x5 =>
 bif decide (x1.1 = x2.1) then
  bif decide (x1.2 = x2.2) then
   bif decide (x3.1 = x4.1) then
    bif (!decide (x3.2 = x4.2)) then
     some false
    else
     bif decide (x2.2 = (0 : Int)) then
      bif decide (x2.1 = (0 : Int)) then
       (R04_Shows k f0 l1 (⟨[], []⟩ : Field)).bind fun x12 =>
       bif decide (x5.2 = x12) then
        (R04_Empty k x5.1).bind fun x14 =>
        bif x14 then
         (L04_sane k).bind fun x16 =>
         some x16
        else
         some false
       else
        some false
      else
       bif decide (x5.2 = (0 : Int)) then
        (R04_Shows k f0 l1 x5.1).bind fun x18 =>
        bif decide (x18 = (0 : Int)) then
         (L04_sane k).bind fun x20 =>
         some x20
        else
         some false
       else
        some false
     else
      (R04_Shows k f0 l1 (⟨[], []⟩ : Field)).bind fun x21 =>
      bif decide (x5.2 = x21) then
       (R04_Empty k x5.1).bind fun x23 =>
       bif x23 then
        (L04_sane k).bind fun x25 =>
        some x25
       else
        some false
      else
       some false
   else
    some false
  else
   some false
 else
  some false
theorem L04_HeatWants_ok (k : Nat) (f0 : Firing) (l1 : (List Want)) (w2 : Want) (r : Bool) (h0 : L04_HeatWants k f0 l1 w2 = some r) : PCall Tryz.prog 3 [.agg (Firing.c f0), .sl 3 (List.map Want.c l1), .agg (Want.c w2)] (fun y => y = .bool r) := by
 refine PB (fn := Tryz.f3) (sc := F3.c) ?_
 refine rS ?_
 simp only [L04_HeatWants] at h0
 try simp only [F3.c, go_sem]
 obtain ⟨x1, yx1, h0⟩ := bs h0
 refine zc0 (heat_Together_ok k _ _ _ yx1) ?_ (by first | rfl | simp [AV.refsL, AV.refs, AV.scal, AV.leaf]) ?_
 try simp only [go_sem]
 try simp only [go_sem]
 obtain ⟨x2, yx2, h0⟩ := bs h0
 refine zc0 (R04_Together_ok k _ _ _ yx2) ?_ (by first | rfl | simp [AV.refsL, AV.refs, AV.scal, AV.leaf]) ?_
 try simp only [go_sem]
 try simp only [go_sem]
 obtain ⟨x3, yx3, h0⟩ := bs h0
 refine zc0 (heat_Verdict_ok k _ _ _ _ yx3) ?_ (by first | rfl | simp [AV.refsL, AV.refs, AV.scal, AV.leaf]) ?_
 try simp only [go_sem]
 try simp only [go_sem]
 obtain ⟨x4, yx4, h0⟩ := bs h0
 refine zc0 (R04_Verdict_ok k _ _ _ _ yx4) ?_ (by first | rfl | simp [AV.refsL, AV.refs, AV.scal, AV.leaf]) ?_
 try simp only [go_sem]
 try simp only [go_sem]
 obtain ⟨x5, yx5, h0⟩ := bs h0
 refine zc0 (heat_Show_ok k _ _ _ yx5) ?_ (by first | rfl | simp [AV.refsL, AV.refs, AV.scal, AV.leaf]) ?_
 try simp only [go_sem]
 try simp only [go_sem]
 refine AKev_bif h0 ?_ ?_ <;> intro c6 h0
 try simp only [c6, go_sem]
 refine AKev_bif h0 ?_ ?_ <;> intro c7 h0
 try simp only [c7, c6, go_sem]
 refine AKev_bif h0 ?_ ?_ <;> intro c8 h0
 try simp only [c8, c6, c7, go_sem]
 refine AKev_bif h0 ?_ ?_ <;> intro c9 h0
 have c9 := bnot_t c9
 try simp only [c9, c6, c7, c8, go_sem]
 obtain rfl := Option.some.inj h0
 refine AKev_ret rfl ?_
 try simp only [F3.rs, c6, c7, c8, c9, go_sem]
 have c9 := bnot_f c9
 try simp only [c9, c6, c7, c8, go_sem]
 refine AKev_bif h0 ?_ ?_ <;> intro c10 h0
 try simp only [c10, c6, c7, c8, c9, go_sem]
 refine AKev_bif h0 ?_ ?_ <;> intro c11 h0
 try simp only [c11, c6, c7, c8, c9, c10, go_sem]
 obtain ⟨x12, yx12, h0⟩ := bs h0
 refine zc0 (R04_Shows_ok k _ _ _ _ yx12) ?_ (by first | rfl | simp [AV.refsL, AV.refs, AV.scal, AV.leaf]) ?_
 try simp only [c6, c7, c8, c9, c10, c11, go_sem]
 repeat' (first | exact NL.refl _ | exact NL.nil _ | exact NLs.refl _ | exact NLs.nil | exact NLss.refl _ | exact NLss.nil | exact NLT.nil | exact NLF.nil | refine NLT.cons _ _ _ _ _ ?_ ?_ | refine NLF.cons _ _ _ _ _ ?_ ?_ | refine NLB.box _ _ ?_ | refine NLB.arr _ _ _ _ ?_ | refine NLs.cons ?_ ?_ | refine NL.aggs ?_ | refine NL.tups ?_ | refine NL.sls ?_ | refine NLss.append ?_ ?_ | refine NLss.cons ?_ ?_ | refine And.intro ?_ ?_ | rfl)
 try simp only [c6, c7, c8, c9, c10, c11, go_sem]
 refine AKev_bif h0 ?_ ?_ <;> intro c13 h0
 try simp only [c13, c6, c7, c8, c9, c10, c11, go_sem]
 obtain ⟨x14, yx14, h0⟩ := bs h0
 refine zc0 (R04_Empty_ok k _ _ yx14) ?_ (by first | rfl | simp [AV.refsL, AV.refs, AV.scal, AV.leaf]) ?_
 try simp only [c6, c7, c8, c9, c10, c11, c13, go_sem]
 try simp only [c6, c7, c8, c9, c10, c11, c13, go_sem]
 refine AKev_bif h0 ?_ ?_ <;> intro c15 h0
 try simp only [c15, c6, c7, c8, c9, c10, c11, c13, go_sem]
 obtain ⟨x16, yx16, h0⟩ := bs h0
 refine zc0 (L04_sane_ok k _ yx16) ?_ (by first | rfl | simp [AV.refsL, AV.refs, AV.scal, AV.leaf]) ?_
 try simp only [c6, c7, c8, c9, c10, c11, c13, c15, go_sem]
 try simp only [c6, c7, c8, c9, c10, c11, c13, c15, go_sem]
 obtain rfl := Option.some.inj h0
 refine AKev_ret rfl ?_
 try simp only [F3.rs, c6, c7, c8, c9, c10, c11, c13, c15, go_sem]
 try simp only [c15, c6, c7, c8, c9, c10, c11, c13, go_sem]
 obtain rfl := Option.some.inj h0
 refine AKev_ret rfl ?_
 try simp only [F3.rs, c6, c7, c8, c9, c10, c11, c13, c15, go_sem]
 try simp only [c13, c6, c7, c8, c9, c10, c11, go_sem]
 obtain rfl := Option.some.inj h0
 refine AKev_ret rfl ?_
 try simp only [F3.rs, c6, c7, c8, c9, c10, c11, c13, go_sem]
 try simp only [c11, c6, c7, c8, c9, c10, go_sem]
 refine AKev_bif h0 ?_ ?_ <;> intro c17 h0
 try simp only [c17, c6, c7, c8, c9, c10, c11, go_sem]
 obtain ⟨x18, yx18, h0⟩ := bs h0
 refine zc0 (R04_Shows_ok k _ _ _ _ yx18) ?_ (by first | rfl | simp [AV.refsL, AV.refs, AV.scal, AV.leaf]) ?_
 try simp only [c6, c7, c8, c9, c10, c11, c17, go_sem]
 try simp only [c6, c7, c8, c9, c10, c11, c17, go_sem]
 refine AKev_bif h0 ?_ ?_ <;> intro c19 h0
 try simp only [c19, c6, c7, c8, c9, c10, c11, c17, go_sem]
 obtain ⟨x20, yx20, h0⟩ := bs h0
 refine zc0 (L04_sane_ok k _ yx20) ?_ (by first | rfl | simp [AV.refsL, AV.refs, AV.scal, AV.leaf]) ?_
 try simp only [c6, c7, c8, c9, c10, c11, c17, c19, go_sem]
 try simp only [c6, c7, c8, c9, c10, c11, c17, c19, go_sem]
 obtain rfl := Option.some.inj h0
 refine AKev_ret rfl ?_
 try simp only [F3.rs, c6, c7, c8, c9, c10, c11, c17, c19, go_sem]
 try simp only [c19, c6, c7, c8, c9, c10, c11, c17, go_sem]
 obtain rfl := Option.some.inj h0
 refine AKev_ret rfl ?_
 try simp only [F3.rs, c6, c7, c8, c9, c10, c11, c17, c19, go_sem]
 try simp only [c17, c6, c7, c8, c9, c10, c11, go_sem]
 obtain rfl := Option.some.inj h0
 refine AKev_ret rfl ?_
 try simp only [F3.rs, c6, c7, c8, c9, c10, c11, c17, go_sem]
 try simp only [c10, c6, c7, c8, c9, go_sem]
 obtain ⟨x21, yx21, h0⟩ := bs h0
 refine zc0 (R04_Shows_ok k _ _ _ _ yx21) ?_ (by first | rfl | simp [AV.refsL, AV.refs, AV.scal, AV.leaf]) ?_
 try simp only [c6, c7, c8, c9, c10, go_sem]
 repeat' (first | exact NL.refl _ | exact NL.nil _ | exact NLs.refl _ | exact NLs.nil | exact NLss.refl _ | exact NLss.nil | exact NLT.nil | exact NLF.nil | refine NLT.cons _ _ _ _ _ ?_ ?_ | refine NLF.cons _ _ _ _ _ ?_ ?_ | refine NLB.box _ _ ?_ | refine NLB.arr _ _ _ _ ?_ | refine NLs.cons ?_ ?_ | refine NL.aggs ?_ | refine NL.tups ?_ | refine NL.sls ?_ | refine NLss.append ?_ ?_ | refine NLss.cons ?_ ?_ | refine And.intro ?_ ?_ | rfl)
 try simp only [c6, c7, c8, c9, c10, go_sem]
 refine AKev_bif h0 ?_ ?_ <;> intro c22 h0
 try simp only [c22, c6, c7, c8, c9, c10, go_sem]
 obtain ⟨x23, yx23, h0⟩ := bs h0
 refine zc0 (R04_Empty_ok k _ _ yx23) ?_ (by first | rfl | simp [AV.refsL, AV.refs, AV.scal, AV.leaf]) ?_
 try simp only [c6, c7, c8, c9, c10, c22, go_sem]
 try simp only [c6, c7, c8, c9, c10, c22, go_sem]
 refine AKev_bif h0 ?_ ?_ <;> intro c24 h0
 try simp only [c24, c6, c7, c8, c9, c10, c22, go_sem]
 obtain ⟨x25, yx25, h0⟩ := bs h0
 refine zc0 (L04_sane_ok k _ yx25) ?_ (by first | rfl | simp [AV.refsL, AV.refs, AV.scal, AV.leaf]) ?_
 try simp only [c6, c7, c8, c9, c10, c22, c24, go_sem]
 try simp only [c6, c7, c8, c9, c10, c22, c24, go_sem]
 obtain rfl := Option.some.inj h0
 refine AKev_ret rfl ?_
 try simp only [F3.rs, c6, c7, c8, c9, c10, c22, c24, go_sem]
 try simp only [c24, c6, c7, c8, c9, c10, c22, go_sem]
 obtain rfl := Option.some.inj h0
 refine AKev_ret rfl ?_
 try simp only [F3.rs, c6, c7, c8, c9, c10, c22, c24, go_sem]
 try simp only [c22, c6, c7, c8, c9, c10, go_sem]
 obtain rfl := Option.some.inj h0
 refine AKev_ret rfl ?_
 try simp only [F3.rs, c6, c7, c8, c9, c10, c22, go_sem]
 try simp only [c8, c6, c7, go_sem]
 obtain rfl := Option.some.inj h0
 refine AKev_ret rfl ?_
 try simp only [F3.rs, c6, c7, c8, go_sem]
 try simp only [c7, c6, go_sem]
 obtain rfl := Option.some.inj h0
 refine AKev_ret rfl ?_
 try simp only [F3.rs, c6, c7, go_sem]
 try simp only [c6, go_sem]
 obtain rfl := Option.some.inj h0
 refine AKev_ret rfl ?_
 try simp only [F3.rs, c6, go_sem]
end Go.Abs
namespace Go.Abs
open Go Go.Proofs Go.RowKit
set_option maxRecDepth 20000
def qB : Nat := reachBytes
theorem qB_le : qB ≤ 140737488351232 := by decide
theorem reads_3 : Reads qB Tryz.prog 3 eI i64ok := Reads.int Tryz.underlying3
def Range.q (x : Range) : Prop := i64ok x.Lo ∧ i64ok x.Hi
theorem reads_30 : Reads qB Tryz.prog 30 Range.c Range.q := (Reads.struct Tryz.underlying30 (by kernel_rfl) (ReadsL.cons (off := 0) (sz := 1) (off' := 1) (tot := 2) rfl (by kernel_rfl) rfl reads_3 (ReadsL.cons (off := 1) (sz := 1) (off' := 2) (tot := 2) rfl (by kernel_rfl) rfl reads_3 (ReadsL.nil (off := 2) (tot := 2) (by decide))))).as (fun p => ⟨p.1, p.2.1⟩) (fun _ => rfl) (fun _ h => ⟨h.1, h.2.1⟩)
theorem reads_89 : Reads qB Tryz.prog 89 (eL 2 Range.c) (fun l => l.length ≤ Go.maxLen ∧ l.length * 16 ≤ qB ∧ ∀ a ∈ l, Range.q a) := Reads.slice Tryz.underlying89 (by kernel_rfl) (by kernel_rfl) (by decide) reads_30
theorem reads_22 : Reads qB Tryz.prog 22 (eL 1 (eL 2 Range.c)) (fun l => l.length ≤ Go.maxLen ∧ l.length * 24 ≤ qB ∧ ∀ a ∈ l, (fun l => l.length ≤ Go.maxLen ∧ l.length * 16 ≤ qB ∧ ∀ a ∈ l, Range.q a) a) := Reads.slice Tryz.underlying22 (by kernel_rfl) (by kernel_rfl) (by decide) reads_89
def Kiln.q (x : Kiln) : Prop := (fun l => l.length ≤ Go.maxLen ∧ l.length * 24 ≤ qB ∧ ∀ a ∈ l, (fun l => l.length ≤ Go.maxLen ∧ l.length * 16 ≤ qB ∧ ∀ a ∈ l, Range.q a) a) x.Falls
theorem reads_24 : Reads qB Tryz.prog 24 Kiln.c Kiln.q := (Reads.struct Tryz.underlying24 (by kernel_rfl) (ReadsL.cons (off := 0) (sz := 1) (off' := 1) (tot := 1) rfl (by kernel_rfl) rfl reads_22 (ReadsL.nil (off := 1) (tot := 1) (by decide)))).as (fun p => ⟨p.1⟩) (fun _ => rfl) (fun _ h => h.1)
def Reading.q (x : Reading) : Prop := i64ok x.Source ∧ i64ok x.Place ∧ i64ok x.Kind ∧ i64ok x.Mark ∧ Range.q x.Heat
theorem reads_64 : Reads qB Tryz.prog 64 Reading.c Reading.q := (Reads.struct Tryz.underlying64 (by kernel_rfl) (ReadsL.cons (off := 0) (sz := 1) (off' := 1) (tot := 6) rfl (by kernel_rfl) rfl reads_3 (ReadsL.cons (off := 1) (sz := 1) (off' := 2) (tot := 6) rfl (by kernel_rfl) rfl reads_3 (ReadsL.cons (off := 2) (sz := 1) (off' := 3) (tot := 6) rfl (by kernel_rfl) rfl reads_3 (ReadsL.cons (off := 3) (sz := 1) (off' := 4) (tot := 6) rfl (by kernel_rfl) rfl reads_3 (ReadsL.cons (off := 4) (sz := 2) (off' := 6) (tot := 6) rfl (by kernel_rfl) rfl reads_30 (ReadsL.nil (off := 6) (tot := 6) (by decide)))))))).as (fun p => ⟨p.1, p.2.1, p.2.2.1, p.2.2.2.1, p.2.2.2.2.1⟩) (fun _ => rfl) (fun _ h => ⟨h.1, h.2.1, h.2.2.1, h.2.2.2.1, h.2.2.2.2.1⟩)
theorem reads_25 : Reads qB Tryz.prog 25 (eL 6 Reading.c) (fun l => l.length ≤ Go.maxLen ∧ l.length * 48 ≤ qB ∧ ∀ a ∈ l, Reading.q a) := Reads.slice Tryz.underlying25 (by kernel_rfl) (by kernel_rfl) (by decide) reads_64
def Firing.q (x : Firing) : Prop := Kiln.q x.Kiln ∧ (fun l => l.length ≤ Go.maxLen ∧ l.length * 48 ≤ qB ∧ ∀ a ∈ l, Reading.q a) x.Readings
theorem reads_27 : Reads qB Tryz.prog 27 Firing.c Firing.q := (Reads.struct Tryz.underlying27 (by kernel_rfl) (ReadsL.cons (off := 0) (sz := 1) (off' := 1) (tot := 2) rfl (by kernel_rfl) rfl reads_24 (ReadsL.cons (off := 1) (sz := 1) (off' := 2) (tot := 2) rfl (by kernel_rfl) rfl reads_25 (ReadsL.nil (off := 2) (tot := 2) (by decide))))).as (fun p => ⟨p.1, p.2.1⟩) (fun _ => rfl) (fun _ h => ⟨h.1, h.2.1⟩)
def Want.q (x : Want) : Prop := i64ok x.Place ∧ Range.q x.Heat
theorem reads_32 : Reads qB Tryz.prog 32 Want.c Want.q := (Reads.struct Tryz.underlying32 (by kernel_rfl) (ReadsL.cons (off := 0) (sz := 1) (off' := 1) (tot := 3) rfl (by kernel_rfl) rfl reads_3 (ReadsL.cons (off := 1) (sz := 2) (off' := 3) (tot := 3) rfl (by kernel_rfl) rfl reads_30 (ReadsL.nil (off := 3) (tot := 3) (by decide))))).as (fun p => ⟨p.1, p.2.1⟩) (fun _ => rfl) (fun _ h => ⟨h.1, h.2.1⟩)
theorem reads_28 : Reads qB Tryz.prog 28 (eL 3 Want.c) (fun l => l.length ≤ Go.maxLen ∧ l.length * 24 ≤ qB ∧ ∀ a ∈ l, Want.q a) := Reads.slice Tryz.underlying28 (by kernel_rfl) (by kernel_rfl) (by decide) reads_32
def Field.q (x : Field) : Prop := (fun l => l.length ≤ Go.maxLen ∧ l.length * 8 ≤ qB ∧ ∀ a ∈ l, i64ok a) x.Mouths ∧ (fun l => l.length ≤ Go.maxLen ∧ l.length * 24 ≤ qB ∧ ∀ a ∈ l, (fun l => l.length ≤ Go.maxLen ∧ l.length * 8 ≤ qB ∧ ∀ a ∈ l, i64ok a) a) x.Falls
end Go.Abs
namespace Go.Abs
open Go
set_option linter.unusedVariables false
theorem at_getD {α : Type} (d : α) {l : List α} {i : Int} (h0 : 0 ≤ i) (h1 : i < l.length) : at? l i = some (l.getD i.toNat d) := by
 unfold at?
 rw [if_pos ⟨h0, by omega⟩]
 rw [List.getElem?_eq_getElem (by omega), List.getD_eq_getElem?_getD, List.getElem?_eq_getElem (by omega)]
 rfl
theorem at_nat {α : Type} (d : α) {l : List α} {i : Nat} (h1 : i < l.length) : at? l (i : Int) = some (l.getD i d) := by
 have := at_getD d (l := l) (i := (i : Int)) (by omega) (by omega)
 simpa using this
theorem getD_mem {α : Type} (d : α) {l : List α} {i : Nat} (h : i < l.length) : l.getD i d ∈ l := by
 rw [List.getD_eq_getElem?_getD, List.getElem?_eq_getElem h]
 exact List.getElem_mem h
theorem getD_none {α : Type} {d : α} {l : List α} {i : Nat} (h : l.length ≤ i) : l.getD i d = d := by
 rw [List.getD_eq_getElem?_getD, List.getElem?_eq_none h]; rfl
theorem getD_of {α : Type} (d : α) {l : List α} {i : Nat} {x : α} (h : l[i]? = some x) : l.getD i d = x := by
 rw [List.getD_eq_getElem?_getD, h]; rfl
theorem range_drop_cons {i d : Nat} : (List.range' i (d + 1)) = i :: List.range' (i + 1) d := by
 rw [List.range'_succ]
theorem whl_eachN {R : Type} {body : Int → Option (Stp Int Unit R)} {n : Nat} {f : Nat → Option R} (hn : n ≤ 9223372036854775807) {k : Nat} (hk : n < k)
  (h1 : ∀ i, i < n → body (i : Int) = some (match f i with | some r => .ret r | none => .next (w64 ((i : Int) + 1)))) (h2 : body (n : Int) = some (.brk ())) :
  whl body k 0 = some (match (List.range n).findSome? f with | some r => .ret r | none => .brk ()) := by
 have h := whl_for (body := body) (n := n) (g := f) hn h1 h2 k n 0 (by omega) hk
 rw [Int.natCast_zero] at h
 rw [h]
 have key : ∀ d i, scan f i d = (List.range' i d).findSome? f := by
  intro d
  induction d with
  | zero => intro i; rfl
  | succ d ih =>
   intro i
   rw [range_drop_cons, List.findSome?_cons, scan, ih]
   cases f i <;> rfl
 rw [key, List.range_eq_range']
 cases (List.range' 0 n).findSome? f <;> rfl
theorem whl_allN {R : Type} {body : Int → Option (Stp Int Unit R)} {n : Nat} {p : Nat → Bool} {c : R} (hn : n ≤ 9223372036854775807) {k : Nat} (hk : n < k)
  (h1 : ∀ i, i < n → body (i : Int) = some (bif p i then .next (w64 ((i : Int) + 1)) else .ret c)) (h2 : body (n : Int) = some (.brk ())) :
  whl body k 0 = some (bif (List.range n).all p then .brk () else .ret c) := by
 have h := whl_eachN (body := body) (n := n) (f := fun i => bif p i then none else some c) hn hk (fun i hi => by rw [h1 i hi]; cases p i <;> rfl) h2
 rw [h]
 have : ∀ l : List Nat, l.findSome? (fun i => bif p i then none else some c) = bif l.all p then none else some c := by
  intro l
  induction l with
  | nil => rfl
  | cons x l ih =>
   rw [List.findSome?_cons, List.all_cons]
   cases hp : p x with
   | true => simpa using ih
   | false => simp
 rw [this]
 cases (List.range n).all p <;> rfl
theorem whl_allL {α R : Type} {l : List α} {body : Int → Option (Stp Int Unit R)} {p : α → Bool} {c : R} (hn : l.length ≤ 9223372036854775807) {k : Nat} (hk : l.length < k)
  (h1 : ∀ (i : Nat) x, l[i]? = some x → body (i : Int) = some (bif p x then .next (w64 ((i : Int) + 1)) else .ret c)) (h2 : body (l.length : Int) = some (.brk ())) :
  whl body k 0 = some (bif l.all p then .brk () else .ret c) := by
 have h := whl_each (body := body) (l := l) (f := fun i => bif p i then none else some c) hn hk (fun i x hi => by rw [h1 i x hi]; cases p x <;> rfl) h2
 rw [h]
 have : l.findSome? (fun i => bif p i then none else some c) = bif l.all p then none else some c := by
  clear h h1 h2 hn hk
  induction l with
  | nil => rfl
  | cons x l ih =>
   rw [List.findSome?_cons, List.all_cons]
   cases hp : p x with
   | true => simpa using ih
   | false => simp
 rw [this]
 cases l.all p <;> rfl
theorem whl_foldN {S R τ : Type} {n : Nat} {body : τ → Option (Stp τ S R)} (mk : Int → S → τ) (f : S → Nat → S) (Inv : Nat → S → Prop) (hn : n ≤ 9223372036854775807) {k : Nat} (hk : n < k) {s0 : S} (h0 : Inv 0 s0)
  (h1 : ∀ i s, i < n → Inv i s → body (mk (i : Int) s) = some (.next (mk (w64 ((i : Int) + 1)) (f s i))) ∧ Inv (i + 1) (f s i)) (h2 : ∀ s, Inv n s → body (mk (n : Int) s) = some (.brk s)) :
  whl body k (mk 0 s0) = some (.brk ((List.range n).foldl f s0)) ∧ Inv n ((List.range n).foldl f s0) := by
 have h := whl_fold (l := List.range n) (body := body) mk f Inv (by simpa using hn) (k := k) (by simpa using hk) h0 (fun i x s hx hI => by
  have hi : i < n := by have := (List.getElem?_eq_some_iff.1 hx).1; simpa using this
  have e : x = i := by have := hx; rw [List.getElem?_range hi] at this; exact (Option.some.inj this).symm
  subst e
  exact h1 x s hi hI) (fun s hI => by have := h2 s (by simpa using hI); simpa using this)
 exact ⟨h.1, by simpa using h.2⟩
theorem foldl_pushN {α : Type} (g : Nat → α) : ∀ (l : List Nat) (s : List α), l.foldl (fun s i => s ++ [g i]) s = s ++ l.map g
 | [], s => by simp
 | x :: l, s => by simp [foldl_pushN g l]
end Go.Abs
namespace Go.Abs
set_option linter.unusedVariables false
def mx (f : Nat → Int) : Nat → Int
 | 0 => f 0
 | n + 1 => max (mx f n) (f (n + 1))
theorem mx_le_iff (f : Nat → Int) (t : Int) : ∀ n, mx f n ≤ t ↔ ∀ j, j ≤ n → f j ≤ t
 | 0 => ⟨fun h j hj => by have h0 : j = 0 := Nat.le_zero.1 hj; subst h0; exact h, fun h => h 0 (Nat.le_refl _)⟩
 | n + 1 => by
  rw [mx, Int.max_le, mx_le_iff f t n]
  constructor
  ·rintro ⟨h1, h2⟩ j hj
   rcases Nat.lt_or_ge n j with h | h
   ·obtain rfl : j = n + 1 := by omega
    exact h2
   ·exact h1 j h
  ·exact fun h => ⟨fun j hj => h j (by omega), h _ (Nat.le_refl _)⟩
theorem le_mx_iff (f : Nat → Int) (t : Int) : ∀ n, t ≤ mx f n ↔ ∃ j, j ≤ n ∧ t ≤ f j
 | 0 => ⟨fun h => ⟨0, Nat.le_refl _, h⟩, fun ⟨j, hj, h⟩ => by have h0 : j = 0 := Nat.le_zero.1 hj; subst h0; exact h⟩
 | n + 1 => by
  rw [mx, show t ≤ max (mx f n) (f (n + 1)) ↔ t ≤ mx f n ∨ t ≤ f (n + 1) by omega, le_mx_iff f t n]
  constructor
  ·rintro (⟨j, h1, h2⟩ | h)
   ·exact ⟨j, by omega, h2⟩
   ·exact ⟨n + 1, Nat.le_refl _, h⟩
  ·rintro ⟨j, h1, h2⟩
   rcases Nat.lt_or_ge n j with h | h
   ·obtain rfl : j = n + 1 := by omega
    exact .inr h2
   ·exact .inl ⟨j, h, h2⟩
theorem eq_of_le_iff {a b : Int} (h : ∀ t, t ≤ a ↔ t ≤ b) : a = b := by
 have h1 := (h a).1 (Int.le_refl _)
 have h2 := (h b).2 (Int.le_refl _)
 omega
theorem eq_of_ge_iff {a b : Int} (h : ∀ t, a ≤ t ↔ b ≤ t) : a = b := by
 have h1 := (h a).1 (Int.le_refl _)
 have h2 := (h b).2 (Int.le_refl _)
 omega
structure Fur where
 m : Nat
 lo : Nat → Nat → Int
 hi : Nat → Nat → Int
 L : List (Nat × Int)
 M : List (Nat × Int)
namespace Fur
def Ok (f : Fur) : Prop := ∀ j p, 0 ≤ f.lo j p ∧ f.lo j p ≤ f.hi j p ∧ f.hi j p ≤ 3000
def U (f : Fur) (j : Nat) : Int := f.M.foldl (fun n x => min n (x.2 + f.hi j x.1)) 3000
theorem U_iff (f : Fur) (j : Nat) (t : Int) : t ≤ f.U j ↔ t ≤ 3000 ∧ ∀ x ∈ f.M, t ≤ x.2 + f.hi j x.1 := by
 have key : ∀ (M : List (Nat × Int)) (a : Int), t ≤ M.foldl (fun n x => min n (x.2 + f.hi j x.1)) a ↔ t ≤ a ∧ ∀ x ∈ M, t ≤ x.2 + f.hi j x.1 := by
  intro M
  induction M with
  | nil => simp
  | cons y M ih =>
   intro a
   rw [List.foldl_cons, ih, Int.le_min]
   simp only [List.forall_mem_cons, and_assoc]
 exact key _ _
theorem U_le (f : Fur) (j : Nat) : f.U j ≤ 3000 := ((f.U_iff j _).1 (Int.le_refl _)).1
theorem U_lim (f : Fur) (j : Nat) {x : Nat × Int} (h : x ∈ f.M) : f.U j ≤ x.2 + f.hi j x.1 := ((f.U_iff j _).1 (Int.le_refl _)).2 x h
def Sound (f : Fur) : Prop :=
 (∀ j, j ≤ f.m → 0 ≤ f.U j) ∧ ∀ x ∈ f.L, (∀ y ∈ f.M, y.1 = x.1 → x.2 ≤ y.2) ∧ ∃ j, j ≤ f.m ∧ x.2 + f.lo j x.1 ≤ f.U j
def High (f : Fur) (q : Nat) (t : Int) : Prop := (∃ j, j ≤ f.m ∧ t + f.lo j q ≤ f.U j) ∧ ∀ y ∈ f.M, y.1 = q → t ≤ y.2
def Low (f : Fur) (q : Nat) (t : Int) : Prop :=
 (∀ j, j ≤ f.m → -f.hi j q ≤ t) ∧ (∀ x ∈ f.L, x.1 = q → x.2 ≤ t) ∧ ∀ x ∈ f.L, x.1 ≠ q → ∃ j, j ≤ f.m ∧ x.2 + f.lo j x.1 ≤ f.U j ∧ x.2 + f.lo j x.1 - f.hi j q ≤ t
def IsField (f : Fur) (u : Nat → Int) (d : Nat → Nat → Int) : Prop := ∀ j, j ≤ f.m → 0 ≤ u j ∧ u j ≤ 3000 ∧ ∀ p, f.lo j p ≤ d j p ∧ d j p ≤ f.hi j p
def heat (f : Fur) (u : Nat → Int) (d : Nat → Nat → Int) (p : Nat) : Int := mx (fun j => u j - d j p) f.m
def Agrees (f : Fur) (u : Nat → Int) (d : Nat → Nat → Int) : Prop :=
 (∀ x ∈ f.L, x.2 ≤ f.heat u d x.1) ∧ ∀ y ∈ f.M, f.heat u d y.1 ≤ y.2
theorem Agrees.u {f : Fur} {u d} (hF : f.IsField u d) (h : f.Agrees u d) (j : Nat) (hj : j ≤ f.m) : u j ≤ f.U j := by
 rw [U_iff]
 refine ⟨(hF j hj).2.1, fun x hx => ?_⟩
 have h1 := (mx_le_iff _ _ _).1 (h.2 x hx) j hj
 have h2 := (hF j hj).2.2 x.1
 omega
theorem Agrees.low {f : Fur} {u d} (hF : f.IsField u d) (h : f.Agrees u d) (p : Nat) : f.Low p (f.heat u d p) := by
 have hm := (mx_le_iff (fun j => u j - d j p) (f.heat u d p) f.m).1 (Int.le_refl _)
 refine ⟨fun j hj => ?_, fun x hx e => e ▸ h.1 x hx, fun x hx _ => ?_⟩
 ·have h1 := hm j hj
  have h2 := hF j hj
  have h3 := h2.2.2 p
  omega
 ·obtain ⟨j, h1, h2⟩ := (le_mx_iff _ _ _).1 (h.1 x hx)
  have h3 := h.u hF j h1
  have h4 := (hF j h1).2.2 x.1
  have h5 := (hF j h1).2.2 p
  have h6 := hm j h1
  exact ⟨j, h1, by omega, by omega⟩
def bst (p : Nat) (o : Option Int) (x : Nat × Int) : Option Int := if x.1 = p then some (match o with | none => x.2 | some n => min n x.2) else o
def best (M : List (Nat × Int)) (p : Nat) : Option Int := M.foldl (bst p) none
theorem best_iff (M : List (Nat × Int)) (p : Nat) : (best M p = none ↔ ∀ y ∈ M, y.1 ≠ p) ∧ ∀ n, best M p = some n → (∀ t, t ≤ n ↔ ∀ y ∈ M, y.1 = p → t ≤ y.2) ∧ ∃ y ∈ M, y.1 = p ∧ y.2 = n := by
 have key : ∀ (M K : List (Nat × Int)) (o : Option Int), ((o = none ↔ ∀ y ∈ K, y.1 ≠ p) ∧ ∀ n, o = some n → (∀ t, t ≤ n ↔ ∀ y ∈ K, y.1 = p → t ≤ y.2) ∧ ∃ y ∈ K, y.1 = p ∧ y.2 = n) →
   ((M.foldl (bst p) o = none ↔ ∀ y ∈ K ++ M, y.1 ≠ p) ∧ ∀ n, M.foldl (bst p) o = some n → (∀ t, t ≤ n ↔ ∀ y ∈ K ++ M, y.1 = p → t ≤ y.2) ∧ ∃ y ∈ K ++ M, y.1 = p ∧ y.2 = n) := by
  intro M
  induction M with
  | nil => intro K o h; simpa using h
  | cons x M ih =>
   intro K o h
   have h2 := ih (K ++ [x]) (bst p o x) ?_
   ·simpa only [List.append_assoc, List.cons_append, List.nil_append, List.foldl_cons] using h2
   ·by_cases hx : x.1 = p
    ·simp only [bst, hx, if_true]
     refine ⟨?_, fun n hn => ?_⟩
     ·constructor
      ·intro h; cases h
      ·intro h; exact absurd hx (h x (by simp))
     ·cases o with
      | none =>
       simp only [Option.some.injEq] at hn
       have h3 := h.1.1 rfl
       refine ⟨fun t => ⟨fun ht y hy e => ?_, fun ht => ?_⟩, x, by simp, hx, hn⟩
       ·rcases List.mem_append.1 hy with hy | hy
        ·exact absurd e (h3 y hy)
        ·simp only [List.mem_singleton] at hy; subst hy; omega
       ·have := ht x (by simp) hx; omega
      | some n0 =>
       simp only [Option.some.injEq] at hn
       obtain ⟨h3, y0, h4, h5, h6⟩ := h.2 n0 rfl
       refine ⟨fun t => ⟨fun ht y hy e => ?_, fun ht => ?_⟩, ?_⟩
       ·rcases List.mem_append.1 hy with hy | hy
        ·exact (h3 t).1 (by omega) y hy e
        ·simp only [List.mem_singleton] at hy; subst hy; omega
       ·have h7 := (h3 t).2 (fun y hy e => ht y (by simp [hy]) e)
        have h8 := ht x (by simp) hx
        omega
       ·by_cases hlt : n0 ≤ x.2
        ·exact ⟨y0, by simp [h4], h5, by omega⟩
        ·exact ⟨x, by simp, hx, by omega⟩
    ·simp only [bst, hx, if_false]
     refine ⟨?_, fun n hn => ?_⟩
     ·rw [h.1]
      constructor
      ·intro g y hy
       rcases List.mem_append.1 hy with hy | hy
       ·exact g y hy
       ·simp only [List.mem_singleton] at hy; subst hy; exact hx
      ·intro g y hy; exact g y (by simp [hy])
     ·obtain ⟨h3, y0, h4, h5, h6⟩ := h.2 n hn
      refine ⟨fun t => ?_, y0, by simp [h4], h5, h6⟩
      rw [h3]
      constructor
      ·intro g y hy e
       rcases List.mem_append.1 hy with hy | hy
       ·exact g y hy e
       ·simp only [List.mem_singleton] at hy; subst hy; exact absurd e hx
      ·intro g y hy e; exact g y (by simp [hy]) e
 have := key M [] none (by simp)
 simpa [best] using this
def gd (f : Fur) (j p : Nat) : Int := match best f.M p with | none => f.lo j p | some n => max (f.lo j p) (f.U j - n)
theorem gd_isField {f : Fur} (hk : f.Ok) (h : f.Sound) : f.IsField f.U f.gd := by
 intro j hj
 refine ⟨h.1 j hj, f.U_le j, fun p => ?_⟩
 have h1 := hk j p
 unfold gd
 cases hb : best f.M p with
 | none => simp only; omega
 | some n =>
  obtain ⟨_, y, h3, h4, h5⟩ := (best_iff f.M p).2 n hb
  have := f.U_lim j h3
  rw [h4] at this
  simp only
  omega
theorem gd_heat {f : Fur} (p : Nat) (t : Int) : t ≤ f.heat f.U f.gd p ↔ f.High p t := by
 unfold heat High
 rw [le_mx_iff]
 cases hb : best f.M p with
 | none =>
  have h1 := (best_iff f.M p).1.1 hb
  simp only [gd, hb]
  constructor
  ·rintro ⟨j, h2, h3⟩
   exact ⟨⟨j, h2, by omega⟩, fun y hy e => absurd e (h1 y hy)⟩
  ·rintro ⟨⟨j, h2, h3⟩, _⟩
   exact ⟨j, h2, by omega⟩
 | some n =>
  obtain ⟨h1, _⟩ := (best_iff f.M p).2 n hb
  simp only [gd, hb]
  rw [← h1]
  constructor
  ·rintro ⟨j, h2, h3⟩
   exact ⟨⟨j, h2, by omega⟩, by omega⟩
  ·rintro ⟨⟨j, h2, h3⟩, h4⟩
   exact ⟨j, h2, by omega⟩
theorem gd_agrees {f : Fur} (h : f.Sound) : f.Agrees f.U f.gd := by
 refine ⟨fun x hx => ?_, fun y hy => ?_⟩
 ·rw [gd_heat]
  obtain ⟨h1, h2⟩ := h.2 x hx
  exact ⟨h2, h1⟩
 ·exact ((gd_heat y.1 _).1 (Int.le_refl _)).2 y hy rfl
def ask (f : Fur) (q : Nat) (a b : Int) : Fur := { f with L := f.L ++ [(q, a)], M := f.M ++ [(q, b)] }
end Fur
end Go.Abs
namespace Go.Abs
set_option linter.unusedVariables false
namespace Fur
def Small (f : Fur) (P : Nat) : Prop := (∀ x ∈ f.L, x.1 < P ∧ -3000 ≤ x.2 ∧ x.2 ≤ 3000) ∧ ∀ x ∈ f.M, x.1 < P ∧ -3000 ≤ x.2 ∧ x.2 ≤ 3000
structure Lims (f : Fur) (P : Nat) (a b : Nat → Int) : Prop where
 hk : f.Ok
 sm : f.Small P
 A : ∀ p t, p < P → (a p ≤ t ↔ -1000000 ≤ t ∧ ∀ x ∈ f.L, x.1 = p → x.2 ≤ t)
 B : ∀ p t, p < P → (t ≤ b p ↔ t ≤ 1000000 ∧ ∀ y ∈ f.M, y.1 = p → t ≤ y.2)
namespace Lims
variable {f : Fur} {P : Nat} {a b : Nat → Int}
theorem a_ge (h : Lims f P a b) {p : Nat} (hp : p < P) : -1000000 ≤ a p := ((h.A p _ hp).1 (Int.le_refl _)).1
theorem a_lim (h : Lims f P a b) {x : Nat × Int} (hx : x ∈ f.L) : x.2 ≤ a x.1 := ((h.A x.1 _ (h.sm.1 x hx).1).1 (Int.le_refl _)).2 x hx rfl
theorem b_le (h : Lims f P a b) {p : Nat} (hp : p < P) : b p ≤ 1000000 := ((h.B p _ hp).1 (Int.le_refl _)).1
theorem b_lim (h : Lims f P a b) {y : Nat × Int} (hy : y ∈ f.M) : b y.1 ≤ y.2 := ((h.B y.1 _ (h.sm.2 y hy).1).1 (Int.le_refl _)).2 y hy rfl
theorem a_att (h : Lims f P a b) {p : Nat} (hp : p < P) (hn : a p ≠ -1000000) : ∃ x ∈ f.L, x.1 = p ∧ x.2 = a p := by
 by_cases hc : ∃ x ∈ f.L, x.1 = p ∧ x.2 = a p
 ·exact hc
 ·exfalso
  have h0 := h.a_ge hp
  have : a p ≤ a p - 1 := by
   rw [h.A p _ hp]
   refine ⟨by omega, fun x hx e => ?_⟩
   have h1 := h.a_lim hx
   rw [e] at h1
   have h2 : x.2 ≠ a p := fun e2 => hc ⟨x, hx, e, e2⟩
   omega
  omega
theorem b_att (h : Lims f P a b) {p : Nat} (hp : p < P) (hn : b p ≠ 1000000) : ∃ x ∈ f.M, x.1 = p ∧ x.2 = b p := by
 by_cases hc : ∃ x ∈ f.M, x.1 = p ∧ x.2 = b p
 ·exact hc
 ·exfalso
  have h0 := h.b_le hp
  have : b p + 1 ≤ b p := by
   rw [h.B p _ hp]
   refine ⟨by omega, fun x hx e => ?_⟩
   have h1 := h.b_lim hx
   rw [e] at h1
   have h2 : x.2 ≠ b p := fun e2 => hc ⟨x, hx, e, e2⟩
   omega
  omega
theorem U_iff (h : Lims f P a b) (j : Nat) (t : Int) : t ≤ f.U j ↔ t ≤ 3000 ∧ ∀ p, p < P → b p < 1000000 → t ≤ b p + f.hi j p := by
 rw [Fur.U_iff]
 constructor
 ·rintro ⟨h1, h2⟩
  refine ⟨h1, fun p hp hb => ?_⟩
  obtain ⟨y, hy, e, e2⟩ := h.b_att hp (by omega)
  have := h2 y hy
  rw [e, e2] at this
  exact this
 ·rintro ⟨h1, h2⟩
  refine ⟨h1, fun y hy => ?_⟩
  have h3 := h.b_lim hy
  have h4 := h.sm.2 y hy
  have := h2 y.1 h4.1 (by omega)
  omega
theorem sound_iff (h : Lims f P a b) : f.Sound ↔ (∀ j, j ≤ f.m → 0 ≤ f.U j) ∧ ∀ p, p < P → a p ≤ b p ∧ (a p = -1000000 ∨ ∃ j, j ≤ f.m ∧ a p + f.lo j p ≤ f.U j) := by
 constructor
 ·rintro ⟨h1, h2⟩
  refine ⟨h1, fun p hp => ⟨?_, ?_⟩⟩
  ·rw [h.A p _ hp]
   constructor
   ·rw [h.B p _ hp]
    exact ⟨by omega, fun y hy e => by have := h.sm.2 y hy; omega⟩
   ·intro x hx e
    rw [h.B p _ hp]
    refine ⟨by have := h.sm.1 x hx; omega, fun y hy e2 => (h2 x hx).1 y hy (by omega)⟩
  ·by_cases hn : a p = -1000000
   ·exact .inl hn
   ·right
    obtain ⟨x, hx, e, e2⟩ := h.a_att hp hn
    have := (h2 x hx).2
    rw [e, e2] at this
    exact this
 ·rintro ⟨h1, h2⟩
  refine ⟨h1, fun x hx => ⟨fun y hy e => ?_, ?_⟩⟩
  ·have h3 := h.a_lim hx
   have h4 := h.b_lim hy
   have h5 := (h2 x.1 (h.sm.1 x hx).1).1
   rw [e] at h4
   omega
  ·have h3 := h.a_lim hx
   have h6 := h.sm.1 x hx
   rcases (h2 x.1 h6.1).2 with h5 | ⟨j, h5, h7⟩
   ·omega
   ·exact ⟨j, h5, by omega⟩
theorem high_iff (h : Lims f P a b) {q : Nat} (hq : q < P) (t : Int) : f.High q t ↔ (∃ j, j ≤ f.m ∧ t + f.lo j q ≤ f.U j) ∧ t ≤ b q := by
 unfold High
 rw [h.B q _ hq]
 constructor
 ·rintro ⟨⟨j, h1, h2⟩, h3⟩
  refine ⟨⟨j, h1, h2⟩, ?_, h3⟩
  have := f.U_le j
  have := h.hk j q
  omega
 ·rintro ⟨h1, _, h3⟩
  exact ⟨h1, h3⟩
theorem low_iff (h : Lims f P a b) (hs : f.Sound) {q : Nat} (hq : q < P) (t : Int) :
  f.Low q t ↔ (∀ j, j ≤ f.m → -f.hi j q ≤ t) ∧ a q ≤ t ∧ ∀ p, p < P → p ≠ q → a p ≠ -1000000 → (1000000 ≤ t ∨ ∃ j, j ≤ f.m ∧ a p + f.lo j p ≤ f.U j ∧ a p + f.lo j p - f.hi j q ≤ t) := by
 unfold Low
 rw [h.A q _ hq]
 constructor
 ·rintro ⟨h1, h2, h3⟩
  refine ⟨h1, ⟨?_, h2⟩, fun p hp hpq hn => .inr ?_⟩
  ·have := h1 0 (Nat.zero_le _)
   have := h.hk 0 q
   omega
  ·obtain ⟨x, hx, e, e2⟩ := h.a_att hp hn
   have := h3 x hx (by omega)
   rw [e, e2] at this
   exact this
 ·rintro ⟨h1, ⟨_, h2⟩, h3⟩
  refine ⟨h1, h2, fun x hx hpq => ?_⟩
  have h4 := h.a_lim hx
  have h6 := h.sm.1 x hx
  rcases h3 x.1 h6.1 hpq (by omega) with h5 | ⟨j, h5, h7, h8⟩
  ·obtain ⟨j, h7, h8⟩ := (hs.2 x hx).2
   have := f.U_le j
   have := h.hk j q
   exact ⟨j, h7, h8, by omega⟩
  ·exact ⟨j, h5, by omega, by omega⟩
end Lims
end Fur
end Go.Abs
namespace Go.Abs
open Go
set_option linter.unusedVariables false
def KK : Nat := 18446744073709551616
theorem KK_big {n : Nat} (h : n ≤ Go.maxLen) : n < KK := by unfold KK; unfold Go.maxLen at h; omega
def Kiln.s (a : Kiln) : Prop := a.Falls.length ≤ Go.maxLen ∧ ∀ x ∈ a.Falls, x.length ≤ Go.maxLen
def Firing.s (f : Firing) : Prop := Kiln.s f.Kiln ∧ f.Readings.length ≤ Go.maxLen
theorem Kiln.q.s {a : Kiln} (q : Kiln.q a) : Kiln.s a := ⟨q.1, fun x hx => (q.2.2 x hx).1⟩
theorem Firing.q.s {f : Firing} (q : Firing.q f) : Firing.s f := ⟨q.1.s, q.2.1⟩
theorem maxLen_le {n : Nat} (h : n ≤ Go.maxLen) : n ≤ 9223372036854775807 := by unfold Go.maxLen at h; omega
theorem sane_KK : L04_sane KK = some true := by unfold KK; decide +kernel
set_option maxRecDepth 10000
def inB (n lo hi : Int) : Bool := decide (lo ≤ n) && decide (n ≤ hi)
theorem heat_in_eq (k : Nat) (n lo hi : Int) : heat_in k n lo hi = some (inB n lo hi) := by
 unfold heat_in inB; cases decide (lo ≤ n) <;> rfl
theorem R01_In_eq (k : Nat) (n lo hi : Int) : R01_In k n lo hi = some (inB n lo hi) := by
 unfold R01_In inB; cases decide (lo ≤ n) <;> rfl
def rangeB (r : Range) (lo hi : Int) : Bool := decide (lo ≤ r.Lo) && (decide (r.Lo ≤ r.Hi) && decide (r.Hi ≤ hi))
theorem R01_Part_eq (k : Nat) (r : Range) (lo hi : Int) : R01_Part k r lo hi = some (rangeB r lo hi) := by
 unfold R01_Part rangeB; cases decide (lo ≤ r.Lo) <;> cases decide (r.Lo ≤ r.Hi) <;> rfl
def readB (places : Int) (r : Reading) : Bool :=
 inB r.Source 1 99999 && (inB r.Place 0 (w64 (places - 1)) &&
  (bif decide (r.Kind = (1 : Int)) then (inB r.Mark 1 2000 && (decide (r.Heat.Lo = (0 : Int)) && decide (r.Heat.Hi = (0 : Int))))
  else bif decide (r.Kind = (2 : Int)) then (inB r.Mark 1 2000 && (decide (r.Heat.Lo = (0 : Int)) && decide (r.Heat.Hi = (0 : Int))))
  else bif decide (r.Kind = (3 : Int)) then (decide (r.Mark = (0 : Int)) && rangeB r.Heat 1 2000) else false))
theorem heat_isReading_eq (k : Nat) (places : Int) (r : Reading) : heat_isReading k places r = some (readB places r) := by
 unfold heat_isReading readB rangeB
 simp only [heat_in_eq, Option.bind_some]
 cases inB r.Source 1 99999 <;> cases inB r.Place 0 (w64 (places - 1)) <;> cases decide (r.Kind = (1 : Int)) <;> cases decide (r.Kind = (2 : Int)) <;> cases decide (r.Kind = (3 : Int)) <;> cases inB r.Mark 1 2000 <;> cases decide (r.Mark = (0 : Int)) <;> cases decide ((1 : Int) ≤ r.Heat.Lo) <;> cases decide (r.Heat.Lo ≤ r.Heat.Hi) <;> rfl
theorem R04_isReading_eq (k : Nat) (k0 : Kiln) (r : Reading) (x3 : List Range) (h : k0.Falls[0]? = some x3) : R04_isReading k k0 r = some (readB (x3.length : Int) r) := by
 unfold R04_isReading readB
 have ha : at? k0.Falls 0 = some x3 := by have := at_of h; simpa using this
 simp only [R01_In_eq, R01_Part_eq, Option.bind_some, ha]
 cases inB r.Source 1 99999 <;> cases inB r.Place 0 (w64 (x3.length - 1)) <;> cases decide (r.Kind = (1 : Int)) <;> cases decide (r.Kind = (2 : Int)) <;> cases decide (r.Kind = (3 : Int)) <;> cases inB r.Mark 1 2000 <;> cases decide (r.Mark = (0 : Int)) <;> rfl
theorem findSome_bif {α R : Type} (p : α → Bool) (c : R) : ∀ l : List α, l.findSome? (fun x => bif p x then none else some c) = bif l.all p then none else some c
 | [] => rfl
 | x :: l => by
  rw [List.findSome?_cons, List.all_cons]
  cases h : p x with
  | true => simp [findSome_bif p c l]
  | false => simp
theorem lt_dec {i n : Nat} (h : i < n) : decide ((i : Int) < (n : Int)) = true := by simp; omega
theorem lt_dec_self (n : Nat) : decide ((n : Int) < (n : Int)) = false := by simp
theorem len_dec {α β : Type} (a : List α) (b : List β) : decide ((a.length : Int) = (b.length : Int)) = decide (a.length = b.length) := by
 by_cases h : a.length = b.length
 ·simp [h]
 ·have : ¬ ((a.length : Int) = (b.length : Int)) := by omega
  simp [h, this]
def kilnB (a : Kiln) : Bool := inB a.Falls.length 1 6 && (inB (a.Falls.headD []).length 1 24 && a.Falls.all fun l => decide (l.length = (a.Falls.headD []).length) && l.all fun r => rangeB r 0 3000)
theorem bad_eq (k : Nat) (r : Range) : heat_CheckKiln_1 k r = some (!rangeB r 0 3000) := by
 unfold heat_CheckKiln_1 rangeB
 have h1 : decide (r.Lo < (0 : Int)) = !decide (0 ≤ r.Lo) := by by_cases h : 0 ≤ r.Lo <;> simp [h] <;> omega
 have h2 : decide (r.Hi < r.Lo) = !decide (r.Lo ≤ r.Hi) := by by_cases h : r.Lo ≤ r.Hi <;> simp [h] <;> omega
 have h3 : decide ((3000 : Int) < r.Hi) = !decide (r.Hi ≤ 3000) := by by_cases h : r.Hi ≤ 3000 <;> simp [h] <;> omega
 rw [h1, h2, h3]
 cases decide (0 ≤ r.Lo) <;> cases decide (r.Lo ≤ r.Hi) <;> rfl
theorem contains_Range {l : List Range} (hl : l.length ≤ Go.maxLen) {f : Range → Option Bool} {p : Range → Bool} (hf : ∀ x, f x = some (p x)) : slices_ContainsFunc_api_Range KK l f = some (l.any p) := by
 unfold slices_ContainsFunc_api_Range slices_IndexFunc_api_Range
 rw [indexFunc_gen (body := slices_IndexFunc_api_Range.b0 KK f l) (p := p) (fun x _ => hf x) (maxLen_le hl) (KK_big hl) rfl]
 have : l.any p = (l.findIdx? p).isSome := by rw [List.findIdx?_isSome]
 rw [this]
 cases l.findIdx? p with
 | none => rfl
 | some i => simp
theorem heat_CheckKiln_eq (a : Kiln) (q : Kiln.s a) : heat_CheckKiln KK a = some (bif kilnB a then 0 else 40) := by
 obtain ⟨q1, q2⟩ := q
 unfold heat_CheckKiln kilnB
 simp only [heat_in_eq, Option.bind_some]
 cases h0 : inB (a.Falls.length : Int) 1 6 with
 | false => rfl
 | true =>
  obtain ⟨x3, hx⟩ : ∃ x3, a.Falls[0]? = some x3 := by
   have : 0 < a.Falls.length := by simp [inB] at h0; omega
   exact ⟨_, List.getElem?_eq_getElem this⟩
  have hd : a.Falls.headD [] = x3 := by cases hF : a.Falls with | nil => rw [hF] at hx; cases hx | cons y l => rw [hF] at hx; simpa using hx
  have ha : at? a.Falls 0 = some x3 := by have := at_of hx; simpa using this
  simp only [ha, hd, cond_true, Option.bind_some, Bool.true_and]
  cases h1 : inB (x3.length : Int) 1 24 with
  | false => rfl
  | true =>
   simp only [Bool.not_true, cond_false, Bool.true_and]
   rw [whl_each (l := a.Falls) (f := fun l => bif (decide (l.length = x3.length) && l.all fun r => rangeB r 0 3000) then none else some 40) (maxLen_le q1) (KK_big q1) ?_ ?_]
   ·rw [findSome_bif]
    cases a.Falls.all _ <;> rfl
   ·intro i x hx
    have hi : i < a.Falls.length := (List.getElem?_eq_some_iff.1 hx).1
    unfold heat_CheckKiln.b0
    rw [lt_dec hi, at_of hx]
    simp only [cond_true, Option.bind_some, len_dec]
    rw [contains_Range (q2 x (List.mem_of_getElem? hx)) (fun r => bad_eq KK r)]
    have : (x.any fun r => !rangeB r 0 3000) = !(x.all fun r => rangeB r 0 3000) := by simp [List.all_eq_not_any_not]
    rw [this]
    cases decide (x.length = x3.length) <;> cases (x.all fun r => rangeB r 0 3000) <;> rfl
   ·unfold heat_CheckKiln.b0
    rw [lt_dec_self]; rfl
theorem R04_CheckKiln_eq (a : Kiln) (q : Kiln.s a) : R04_CheckKiln KK a = some (bif kilnB a then 0 else 40) := by
 obtain ⟨q1, q2⟩ := q
 unfold R04_CheckKiln kilnB
 simp only [R01_In_eq, Option.bind_some]
 cases h0 : inB (a.Falls.length : Int) 1 6 with
 | false => rfl
 | true =>
  have hpos : 0 < a.Falls.length := by simp [inB] at h0; omega
  obtain ⟨x3, hx⟩ : ∃ x3, a.Falls[0]? = some x3 := ⟨_, List.getElem?_eq_getElem hpos⟩
  have hd : a.Falls.headD [] = x3 := by cases hF : a.Falls with | nil => rw [hF] at hx; cases hx | cons y l => rw [hF] at hx; simpa using hx
  have ha : at? a.Falls 0 = some x3 := by have := at_of hx; simpa using this
  simp only [ha, hd, Bool.not_true, cond_false, Option.bind_some, Bool.true_and]
  rw [whl_each (l := a.Falls) (f := fun l => bif (decide (l.length = x3.length) && (inB (x3.length : Int) 1 24 && l.all fun r => rangeB r 0 3000)) then none else some 40) (maxLen_le q1) (KK_big q1) ?_ ?_]
  ·rw [findSome_bif]
   have : (a.Falls.all fun l => decide (l.length = x3.length) && (inB (x3.length : Int) 1 24 && l.all fun r => rangeB r 0 3000)) = (inB (x3.length : Int) 1 24 && a.Falls.all fun l => decide (l.length = x3.length) && l.all fun r => rangeB r 0 3000) := by
    cases inB (x3.length : Int) 1 24 with
    | true => simp
    | false =>
     simp only [Bool.false_and, Bool.and_false]
     cases hF : a.Falls with
     | nil => rw [hF] at hpos; simp at hpos
     | cons y l => simp
   rw [this]
   cases (inB (x3.length : Int) 1 24 && a.Falls.all fun l => decide (l.length = x3.length) && l.all fun r => rangeB r 0 3000) <;> rfl
  ·intro i x hx'
   have hi : i < a.Falls.length := (List.getElem?_eq_some_iff.1 hx').1
   have hq := q2 x (List.mem_of_getElem? hx')
   unfold R04_CheckKiln.b0
   rw [lt_dec hi, at_of hx']
   simp only [cond_true, Option.bind_some, len_dec, R01_In_eq]
   cases hl : decide (x.length = x3.length) with
   | false => rfl
   | true =>
    simp only [cond_true, Bool.true_and]
    cases inB (x3.length : Int) 1 24 with
    | false => rfl
    | true =>
     simp only [Bool.not_true, cond_false, Bool.true_and]
     have hl' : x.length = x3.length := by simpa using hl
     rw [whl_each (l := x) (f := fun r => bif rangeB r 0 3000 then none else some 40) (maxLen_le hq) (KK_big hq) ?_ ?_]
     ·rw [findSome_bif]
      cases (x.all fun r => rangeB r 0 3000) <;> rfl
     ·intro j r hr
      have hj : j < x.length := (List.getElem?_eq_some_iff.1 hr).1
      unfold R04_CheckKiln.b1
      rw [← hl', lt_dec hj, at_of hr]
      simp only [cond_true, Option.bind_some, R01_Part_eq]
      cases rangeB r 0 3000 <;> rfl
     ·unfold R04_CheckKiln.b1
      rw [← hl', lt_dec_self]; rfl
  ·unfold R04_CheckKiln.b0
   rw [lt_dec_self]; rfl
theorem kilnB_head {a : Kiln} (h : kilnB a = true) : ∃ x3, a.Falls[0]? = some x3 ∧ at? a.Falls 0 = some x3 ∧ a.Falls.headD [] = x3 := by
 have hpos : 0 < a.Falls.length := by simp [kilnB, inB] at h; omega
 obtain ⟨x3, hx⟩ : ∃ x3, a.Falls[0]? = some x3 := ⟨_, List.getElem?_eq_getElem hpos⟩
 exact ⟨x3, hx, by have := at_of hx; simpa using this, by cases hF : a.Falls with | nil => rw [hF] at hx; cases hx | cons y l => rw [hF] at hx; simpa using hx⟩
def firingCode (f : Firing) : Int := bif kilnB f.Kiln then (bif decide ((60 : Int) < (f.Readings.length : Int)) then 2 else bif f.Readings.all (readB ((f.Kiln.Falls.headD []).length : Int)) then 0 else 41) else 40
theorem heat_Check_eq (f : Firing) (q : Firing.s f) : heat_Check KK f = some (firingCode f) := by
 obtain ⟨q1, q2⟩ := q
 unfold heat_Check firingCode
 rw [heat_CheckKiln_eq _ q1]
 cases h : kilnB f.Kiln with
 | false => rfl
 | true =>
  obtain ⟨x3, h1, h2, h3⟩ := kilnB_head h
  simp only [Option.bind_some, cond_true, h3]
  simp only [decide_true, Bool.not_true, cond_false]
  cases decide ((60 : Int) < (f.Readings.length : Int)) with
  | true => rfl
  | false =>
   simp only [cond_false]
   rw [whl_each (l := f.Readings) (f := fun r => bif readB (x3.length : Int) r then none else some 41) (maxLen_le q2) (KK_big q2) ?_ ?_]
   ·rw [findSome_bif]
    have : (f.Readings.all fun r => readB (x3.length : Int) r) = f.Readings.all (readB (x3.length : Int)) := rfl
    rw [this]
    cases f.Readings.all (readB (x3.length : Int)) <;> rfl
   ·intro i r hr
    have hi : i < f.Readings.length := (List.getElem?_eq_some_iff.1 hr).1
    unfold heat_Check.b0
    rw [lt_dec hi, at_of hr]
    simp only [cond_true, Option.bind_some, h2, heat_isReading_eq]
    cases readB (x3.length : Int) r <;> rfl
   ·unfold heat_Check.b0
    rw [lt_dec_self]; rfl
theorem R04_Check_eq (f : Firing) (q : Firing.s f) : R04_Check KK f = some (firingCode f) := by
 obtain ⟨q1, q2⟩ := q
 unfold R04_Check firingCode
 rw [R04_CheckKiln_eq _ q1]
 cases h : kilnB f.Kiln with
 | false => rfl
 | true =>
  obtain ⟨x3, h1, h2, h3⟩ := kilnB_head h
  simp only [Option.bind_some, cond_true, h3]
  simp only [decide_true, Bool.not_true, cond_false]
  cases decide ((60 : Int) < (f.Readings.length : Int)) with
  | true => rfl
  | false =>
   simp only [cond_false]
   rw [whl_each (l := f.Readings) (f := fun r => bif readB (x3.length : Int) r then none else some 41) (maxLen_le q2) (KK_big q2) ?_ ?_]
   ·rw [findSome_bif]
    have : (f.Readings.all fun r => readB (x3.length : Int) r) = f.Readings.all (readB (x3.length : Int)) := rfl
    rw [this]
    cases f.Readings.all (readB (x3.length : Int)) <;> rfl
   ·intro i r hr
    have hi : i < f.Readings.length := (List.getElem?_eq_some_iff.1 hr).1
    unfold R04_Check.b0
    rw [lt_dec hi, at_of hr]
    simp only [cond_true, Option.bind_some, R04_isReading_eq KK f.Kiln r x3 h1]
    cases readB (x3.length : Int) r <;> rfl
   ·unfold R04_Check.b0
    rw [lt_dec_self]; rfl
end Go.Abs
namespace Go.Abs
open Go
set_option linter.unusedVariables false
theorem R04_kiln_eq (a : Kiln) (h1 : a.Falls.length ≤ 1000) (h2 : ∀ x ∈ a.Falls, x.length ≤ 1000) : R04_kiln KK a = some a := by
 unfold R04_kiln
 have h := (whl_fold (l := a.Falls) (body := R04_kiln.b0 KK a) (k := KK) (fun i s => (i, s)) (fun s x => s ++ [x]) (fun i s => s.length = i) (s0 := []) (by omega) (by unfold KK; omega) rfl ?_ ?_).1
 ·rw [h, foldl_push]; rfl
 ·intro i x s hx hI
  have hi : i < a.Falls.length := (List.getElem?_eq_some_iff.1 hx).1
  have hq := h2 x (List.mem_of_getElem? hx)
  refine ⟨?_, by simp [hI]⟩
  unfold R04_kiln.b0
  simp only [lt_dec hi, at_of hx, cond_true, Option.bind_some]
  rw [room_of (by omega) (by omega)]
  simp only [Option.bind_some]
  rw [push_of (by omega) (by omega)]
  rfl
 ·intro s _
  unfold R04_kiln.b0
  simp only [lt_dec_self]; rfl
theorem kilnB_small {a : Kiln} (h : kilnB a = true) : a.Falls.length ≤ 6 ∧ (a.Falls.headD []).length ≤ 24 ∧ ∀ x ∈ a.Falls, x.length = (a.Falls.headD []).length := by
 simp only [kilnB, inB, Bool.and_eq_true, decide_eq_true_eq, List.all_eq_true] at h
 obtain ⟨h1, h2, h3⟩ := h
 exact ⟨by omega, by omega, fun x hx => (h3 x hx).1⟩
theorem firing_small {f : Firing} (h : firingCode f = 0) : kilnB f.Kiln = true ∧ f.Readings.length ≤ 60 ∧ ∀ r ∈ f.Readings, readB ((f.Kiln.Falls.headD []).length : Int) r = true := by
 unfold firingCode at h
 cases h1 : kilnB f.Kiln with
 | false => rw [h1] at h; simp at h
 | true =>
  rw [h1] at h
  simp only [cond_true] at h
  by_cases h2 : (60 : Int) < (f.Readings.length : Int)
  ·simp [h2] at h
  ·simp only [h2, decide_false, cond_false] at h
   cases h3 : f.Readings.all (readB ((f.Kiln.Falls.headD []).length : Int)) with
   | false => rw [h3] at h; simp at h
   | true => exact ⟨rfl, by omega, fun r hr => List.all_eq_true.1 h3 r hr⟩
end Go.Abs
namespace Go.Abs
open Go
set_option linter.unusedVariables false
theorem w64_succ {i n : Nat} (h : i < n) (hn : n ≤ 9223372036854775807) : w64 ((i : Int) + 1) = ((i + 1 : Nat) : Int) := by rw [w64_of (by omega) (by omega)]; omega
end Go.Abs
namespace Go.Abs
open Go
set_option linter.unusedVariables false
theorem set_of {α : Type} {l : List α} {i : Nat} {x : α} (h : i < l.length) : set? l (i : Int) x = some (l.set i x) := by
 unfold set?
 rw [if_pos ⟨by omega, by omega⟩]
 simp
theorem take_succ_of {α : Type} {l : List α} {i : Nat} {x : α} (h : l[i]? = some x) : l.take (i + 1) = l.take i ++ [x] := by
 rw [List.take_add_one, h]; rfl
end Go.Abs
namespace Go.Abs
open Go
set_option linter.unusedVariables false
end Go.Abs
namespace Go.Abs
open Go
set_option linter.unusedVariables false
end Go.Abs
namespace Go.Abs
open Go
set_option linter.unusedVariables false
def R0 : Range := ⟨0, 0⟩
def Kiln.at (a : Kiln) (j p : Nat) : Range := (a.Falls.getD j []).getD p R0
def Kiln.P (a : Kiln) : Nat := (a.Falls.headD []).length
def lp (x : heat_limit) : Nat × Int := (x.place.toNat, x.heat)
def heat_furnace.fur (x : heat_furnace) : Fur := ⟨x.Firing.Kiln.Falls.length - 1, fun j p => (x.Firing.Kiln.at j p).Lo, fun j p => (x.Firing.Kiln.at j p).Hi, x.least.map lp, x.most.map lp⟩
def limOk (P : Nat) (x : heat_limit) : Prop := 0 ≤ x.place ∧ x.place < P ∧ -3000 ≤ x.heat ∧ x.heat ≤ 3000
structure heat_furnace.ok (x : heat_furnace) : Prop where
 k : kilnB x.Firing.Kiln = true
 ll : x.least.length ≤ 1000
 l : ∀ y ∈ x.least, limOk x.Firing.Kiln.P y
 ml : x.most.length ≤ 1000
 m : ∀ y ∈ x.most, limOk x.Firing.Kiln.P y
theorem kilnB_len {a : Kiln} (h : kilnB a = true) : 1 ≤ a.Falls.length ∧ a.Falls.length ≤ 6 ∧ 1 ≤ a.P ∧ a.P ≤ 24 := by
 simp only [kilnB, inB, Bool.and_eq_true, decide_eq_true_eq] at h
 have : a.P = (a.Falls.headD []).length := rfl
 omega
theorem kilnB_row {a : Kiln} (h : kilnB a = true) {j : Nat} (hj : j < a.Falls.length) : (a.Falls.getD j []).length = a.P := (kilnB_small h).2.2 _ (getD_mem [] hj)
theorem rangeB_iff {r : Range} : rangeB r 0 3000 = true ↔ 0 ≤ r.Lo ∧ r.Lo ≤ r.Hi ∧ r.Hi ≤ 3000 := by
 simp only [rangeB, Bool.and_eq_true, decide_eq_true_eq]
theorem kilnB_at {a : Kiln} (h : kilnB a = true) (j p : Nat) : 0 ≤ (a.at j p).Lo ∧ (a.at j p).Lo ≤ (a.at j p).Hi ∧ (a.at j p).Hi ≤ 3000 := by
 unfold Kiln.at
 by_cases hj : j < a.Falls.length
 ·by_cases hp : p < (a.Falls.getD j []).length
  ·have h1 := getD_mem R0 hp
   have h2 : rangeB ((a.Falls.getD j []).getD p R0) 0 3000 = true := by
    simp only [kilnB, Bool.and_eq_true, List.all_eq_true] at h
    exact (h.2.2 _ (getD_mem [] hj)).2 _ h1
   exact rangeB_iff.1 h2
  ·rw [getD_none (by omega)]
   decide
 ·rw [getD_none (l := a.Falls) (by omega)]
  simp [R0]
theorem at_row {a : Kiln} (h : kilnB a = true) {j : Nat} (hj : j < a.Falls.length) : at? a.Falls (j : Int) = some (a.Falls.getD j []) := at_nat [] hj
theorem at_cell {a : Kiln} (h : kilnB a = true) {j : Nat} (hj : j < a.Falls.length) {p : Int} (h0 : 0 ≤ p) (hp : p < a.P) : at? (a.Falls.getD j []) p = some (a.at j p.toNat) :=
 at_getD R0 h0 (by rw [kilnB_row h hj]; exact hp)
theorem at_cellN {a : Kiln} (h : kilnB a = true) {j : Nat} (hj : j < a.Falls.length) {p : Nat} (hp : p < a.P) : at? (a.Falls.getD j []) (p : Int) = some (a.at j p) :=
 at_nat R0 (by rw [kilnB_row h hj]; exact hp)
theorem fur_ok {x : heat_furnace} (h : x.ok) : x.fur.Ok := fun j p => kilnB_at h.k j p
def hotStep (x : heat_furnace) (j : Nat) (s : Int × Int) (y : heat_limit) : Int × Int := bif decide (y.heat + (x.Firing.Kiln.at j y.place.toNat).Hi < s.1) then (y.heat + (x.Firing.Kiln.at j y.place.toNat).Hi, y.by_) else s
def hot (x : heat_furnace) (j : Nat) : Int × Int := x.most.foldl (hotStep x j) (3000, -1)
theorem heat_hottest_eq {x : heat_furnace} (h : x.ok) {j : Nat} (hj : j < x.Firing.Kiln.Falls.length) : heat_furnace_hottest KK x (j : Int) = some (hot x j) := by
 have hml := h.ml
 unfold heat_furnace_hottest
 have h1 := (whl_fold (l := x.most) (body := heat_furnace_hottest.b0 KK x (j : Int)) (k := KK) (fun i s => (s.1, s.2, i)) (hotStep x j) (fun _ _ => True) (s0 := (3000, -1)) (by omega) (by unfold KK; omega) trivial ?_ ?_).1
 ·rw [h1]; rfl
 ·intro i y s hy _
  have hi : i < x.most.length := (List.getElem?_eq_some_iff.1 hy).1
  obtain ⟨g1, g2, g3, g4⟩ := h.m y (List.mem_of_getElem? hy)
  have g5 := kilnB_at h.k j y.place.toNat
  refine ⟨?_, trivial⟩
  unfold heat_furnace_hottest.b0 hotStep
  simp only [lt_dec hi, at_of hy, cond_true, Option.bind_some, at_row h.k hj, at_cell h.k hj g1 g2]
  rw [w64_of (n := y.heat + (x.Firing.Kiln.at j y.place.toNat).Hi) (by omega) (by omega)]
  cases decide (y.heat + (x.Firing.Kiln.at j y.place.toNat).Hi < s.1) <;> rfl
 ·intro s _
  unfold heat_furnace_hottest.b0
  simp only [lt_dec_self]; rfl
theorem hot_U (x : heat_furnace) (j : Nat) : (hot x j).1 = x.fur.U j := by
 have key : ∀ (l : List heat_limit) (s : Int × Int), (l.foldl (hotStep x j) s).1 = (l.map lp).foldl (fun n y => min n (y.2 + x.fur.hi j y.1)) s.1 := by
  intro l
  induction l with
  | nil => intro s; rfl
  | cons y l ih =>
   intro s
   rw [List.foldl_cons, ih, List.map_cons, List.foldl_cons]
   congr 1
   unfold hotStep
   show _ = min s.1 (y.heat + (x.Firing.Kiln.at j y.place.toNat).Hi)
   by_cases hc : y.heat + (x.Firing.Kiln.at j y.place.toNat).Hi < s.1
   ·simp only [hc, decide_true, cond_true]; omega
   ·simp only [hc, decide_false, cond_false]; omega
 exact key _ _
theorem U_ge {x : heat_furnace} (h : x.ok) (j : Nat) : -3000 ≤ x.fur.U j ∧ x.fur.U j ≤ 3000 := by
 refine ⟨?_, x.fur.U_le j⟩
 rw [Fur.U_iff]
 refine ⟨by omega, fun y hy => ?_⟩
 obtain ⟨z, hz, rfl⟩ := List.mem_map.1 hy
 have := (h.m z hz).2.2
 have := (fur_ok h j (lp z).1)
 show -3000 ≤ z.heat + _
 omega
def bestStep (p : Int) (s : heat_limit × Bool) (y : heat_limit) : heat_limit × Bool := bif decide (y.place = p) then (bif s.2 then (bif decide (y.heat < s.1.heat) then (y, true) else s) else (y, true)) else s
def bestL (l : List heat_limit) (p : Int) : heat_limit × Bool := l.foldl (bestStep p) (⟨0, 0, 0⟩, false)
theorem heat_best_eq (l : List heat_limit) (hl : l.length ≤ 1000) (p : Int) : heat_best KK l p (fun q0 q1 => heat_less KK q0 q1) = some (bestL l p) := by
 unfold heat_best
 have h1 := (whl_fold (l := l) (body := heat_best.b0 KK (fun q0 q1 => heat_less KK q0 q1) l p) (k := KK) (fun i s => (s.1, s.2, i)) (bestStep p) (fun _ _ => True) (s0 := (⟨0, 0, 0⟩, false)) (by omega) (by unfold KK; omega) trivial ?_ ?_).1
 ·rw [h1]; rfl
 ·intro i y s hy _
  have hi : i < l.length := (List.getElem?_eq_some_iff.1 hy).1
  refine ⟨?_, trivial⟩
  unfold heat_best.b0 bestStep heat_less
  obtain ⟨s1, s2⟩ := s
  simp only [lt_dec hi, at_of hy, cond_true, Option.bind_some]
  cases decide (y.place = p) <;> cases s2 <;> cases decide (y.heat < s1.heat) <;> rfl
 ·intro s _
  unfold heat_best.b0
  simp only [lt_dec_self]; rfl
theorem bestL_some (l : List heat_limit) (p : Nat) (hl : ∀ y ∈ l, 0 ≤ y.place) : Fur.best (l.map lp) p = bif (bestL l p).2 then some (bestL l p).1.heat else none := by
 have key : ∀ (l : List heat_limit) (s : heat_limit × Bool), (∀ y ∈ l, 0 ≤ y.place) → (l.map lp).foldl (Fur.bst p) (bif s.2 then some s.1.heat else none) = bif (l.foldl (bestStep p) s).2 then some (l.foldl (bestStep p) s).1.heat else none := by
  intro l
  induction l with
  | nil => intro s _; rfl
  | cons y l ih =>
   intro s hl
   rw [List.map_cons, List.foldl_cons, List.foldl_cons, ← ih _ (fun z hz => hl z (List.mem_cons_of_mem _ hz))]
   congr 1
   have h0 := hl y (by simp)
   unfold bestStep Fur.bst
   obtain ⟨s1, s2⟩ := s
   by_cases hp : y.place = (p : Int)
   ·have hp2 : (lp y).1 = p := by show y.place.toNat = p; omega
    simp only [hp, hp2, decide_true, cond_true, if_true]
    cases s2 with
    | false => rfl
    | true =>
     simp only [cond_true]
     by_cases hc : y.heat < s1.heat
     ·simp only [hc, decide_true, cond_true, Option.some.injEq]
      show min s1.heat y.heat = y.heat
      omega
     ·simp only [hc, decide_false, cond_false, cond_true, Option.some.injEq]
      show min s1.heat y.heat = s1.heat
      omega
   ·have hp2 : ¬ (lp y).1 = p := by show ¬ y.place.toNat = p; omega
    simp only [hp, hp2, decide_false, cond_false, if_false]
 exact key l (⟨0, 0, 0⟩, false) hl
theorem bestL_mem (l : List heat_limit) (p : Int) : (bestL l p).2 = true → (bestL l p).1 ∈ l ∧ (bestL l p).1.place = p := by
 have key : ∀ (l K : List heat_limit) (s : heat_limit × Bool), (s.2 = true → s.1 ∈ K ∧ s.1.place = p) → (l.foldl (bestStep p) s).2 = true → (l.foldl (bestStep p) s).1 ∈ K ++ l ∧ (l.foldl (bestStep p) s).1.place = p := by
  intro l
  induction l with
  | nil => intro K s h; simpa using h
  | cons y l ih =>
   intro K s h
   have h2 := ih (K ++ [y]) (bestStep p s y) ?_
   ·simpa using h2
   ·unfold bestStep
    by_cases hp : y.place = p
    ·simp only [hp, decide_true, cond_true]
     cases hs : s.2 with
     | false => simp [hp]
     | true =>
      have := h hs
      cases decide (y.heat < s.1.heat) with
      | true => simp [hp]
      | false => simp only [cond_true, cond_false]; intro _; exact ⟨by simp [this.1], this.2⟩
    ·simp only [hp, decide_false, cond_false]
     intro hs
     have := h hs
     exact ⟨by simp [this.1], this.2⟩
 have := key l [] (⟨0, 0, 0⟩, false) (by simp)
 simpa [bestL] using this
def reachB (x : heat_furnace) (p : Nat) (n : Int) : Bool := (List.range x.Firing.Kiln.Falls.length).any fun j => !decide (x.fur.U j < 0) && !decide (x.fur.U j - x.fur.lo j p < n)
theorem heat_reaches_eq {x : heat_furnace} (h : x.ok) {p n : Int} (h0 : 0 ≤ p) (hp : p < x.Firing.Kiln.P) : heat_furnace_reaches KK x p n = some (reachB x p.toNat n) := by
 have hk := kilnB_len h.k
 unfold heat_furnace_reaches
 rw [whl_allN (n := x.Firing.Kiln.Falls.length) (p := fun j => !(!decide (x.fur.U j < 0) && !decide (x.fur.U j - x.fur.lo j p.toNat < n))) (c := true) (by omega) (by unfold KK; omega) ?_ ?_]
 ·have : ((List.range x.Firing.Kiln.Falls.length).all fun j => !(!decide (x.fur.U j < 0) && !decide (x.fur.U j - x.fur.lo j p.toNat < n))) = !reachB x p.toNat n := by
   unfold reachB; rw [List.not_any_eq_all_not]
  rw [this]
  cases reachB x p.toNat n <;> rfl
 ·intro j hj
  unfold heat_furnace_reaches.b0
  have hu := U_ge h j
  have hc := kilnB_at h.k j p.toNat
  have hlo : x.fur.lo j p.toNat = (x.Firing.Kiln.at j p.toNat).Lo := rfl
  simp only [lt_dec hj, cond_true, heat_hottest_eq h hj, Option.bind_some, hot_U, at_row h.k hj, at_cell h.k hj h0 hp]
  rw [w64_of (n := x.fur.U j - (x.Firing.Kiln.at j p.toNat).Lo) (by omega) (by omega), hlo]
  cases decide (x.fur.U j < 0) <;> cases decide (x.fur.U j - (x.Firing.Kiln.at j p.toNat).Lo < n) <;> rfl
 ·unfold heat_furnace_reaches.b0
  rw [lt_dec_self]; rfl
theorem reachB_iff {x : heat_furnace} (h : x.ok) (hu : ∀ j, j ≤ x.fur.m → 0 ≤ x.fur.U j) (p : Nat) (n : Int) : reachB x p n = true ↔ ∃ j, j ≤ x.fur.m ∧ n + x.fur.lo j p ≤ x.fur.U j := by
 have hk := kilnB_len h.k
 have hm : x.fur.m = x.Firing.Kiln.Falls.length - 1 := rfl
 unfold reachB
 rw [List.any_eq_true]
 constructor
 ·rintro ⟨j, h1, h2⟩
  simp only [List.mem_range] at h1
  simp only [Bool.and_eq_true, Bool.not_eq_true', decide_eq_false_iff_not] at h2
  exact ⟨j, by omega, by omega⟩
 ·rintro ⟨j, h1, h2⟩
  have := hu j h1
  refine ⟨j, by simp only [List.mem_range]; omega, ?_⟩
  simp only [Bool.and_eq_true, Bool.not_eq_true', decide_eq_false_iff_not]
  omega
def soundB (x : heat_furnace) : Bool := ((List.range x.Firing.Kiln.Falls.length).all fun j => !decide (x.fur.U j < 0)) &&
 x.least.all fun y => !((bestL x.most y.place).2 && decide ((bestL x.most y.place).1.heat < y.heat)) && reachB x y.place.toNat y.heat
theorem heat_sound_eq {x : heat_furnace} (h : x.ok) : heat_furnace_sound KK x = some (soundB x) := by
 have hk := kilnB_len h.k
 have hll := h.ll
 unfold heat_furnace_sound soundB
 rw [whl_allN (n := x.Firing.Kiln.Falls.length) (p := fun j => !decide (x.fur.U j < 0)) (c := false) (by omega) (by unfold KK; omega) ?_ ?_]
 ·cases ((List.range x.Firing.Kiln.Falls.length).all fun j => !decide (x.fur.U j < 0)) with
  | false => rfl
  | true =>
   simp only [cond_true, Option.bind_some, Bool.true_and]
   rw [whl_allL (l := x.least) (p := fun y => !((bestL x.most y.place).2 && decide ((bestL x.most y.place).1.heat < y.heat)) && reachB x y.place.toNat y.heat) (c := false) (by omega) (by unfold KK; omega) ?_ ?_]
   ·cases x.least.all fun y => !((bestL x.most y.place).2 && decide ((bestL x.most y.place).1.heat < y.heat)) && reachB x y.place.toNat y.heat <;> rfl
   ·intro i y hy
    have hi : i < x.least.length := (List.getElem?_eq_some_iff.1 hy).1
    obtain ⟨g1, g2, g3, g4⟩ := h.l y (List.mem_of_getElem? hy)
    unfold heat_furnace_sound.b1
    simp only [lt_dec hi, at_of hy, cond_true, Option.bind_some, heat_best_eq _ h.ml, heat_reaches_eq h g1 g2]
    cases (bestL x.most y.place).2 <;> cases decide ((bestL x.most y.place).1.heat < y.heat) <;> cases reachB x y.place.toNat y.heat <;> rfl
   ·unfold heat_furnace_sound.b1
    rw [lt_dec_self]; rfl
 ·intro j hj
  unfold heat_furnace_sound.b0
  simp only [lt_dec hj, cond_true, heat_hottest_eq h hj, Option.bind_some, hot_U]
  cases decide (x.fur.U j < 0) <;> rfl
 ·unfold heat_furnace_sound.b0
  rw [lt_dec_self]; rfl
theorem soundB_iff {x : heat_furnace} (h : x.ok) : soundB x = true ↔ x.fur.Sound := by
 have hk := kilnB_len h.k
 have hm : x.fur.m = x.Firing.Kiln.Falls.length - 1 := rfl
 have h1 : (((List.range x.Firing.Kiln.Falls.length).all fun j => !decide (x.fur.U j < 0)) = true) ↔ ∀ j, j ≤ x.fur.m → 0 ≤ x.fur.U j := by
  rw [List.all_eq_true]
  constructor
  ·intro g j hj
   have := g j (by simp only [List.mem_range]; omega)
   simp only [Bool.not_eq_true', decide_eq_false_iff_not] at this
   omega
  ·intro g j hj
   simp only [List.mem_range] at hj
   have := g j (by omega)
   simp only [Bool.not_eq_true', decide_eq_false_iff_not]
   omega
 unfold soundB Fur.Sound
 rw [Bool.and_eq_true, h1]
 constructor
 ·rintro ⟨g1, g2⟩
  refine ⟨g1, fun z hz => ?_⟩
  obtain ⟨y, hy, rfl⟩ := List.mem_map.1 hz
  have g3 := List.all_eq_true.1 g2 y hy
  rw [Bool.and_eq_true, reachB_iff h g1] at g3
  refine ⟨fun z hz e => ?_, g3.2⟩
  obtain ⟨w, hw, rfl⟩ := List.mem_map.1 hz
  have hp := h.l y hy
  have hb := bestL_some x.most y.place.toNat (fun y hy => (h.m y hy).1)
  have ey : ((y.place.toNat : Nat) : Int) = y.place := by have := hp.1; omega
  rw [ey] at hb
  cases hs : (bestL x.most y.place).2 with
  | false =>
   rw [hs] at hb
   exact absurd e ((Fur.best_iff _ _).1.1 hb (lp w) (List.mem_map.2 ⟨w, hw, rfl⟩))
  | true =>
   rw [hs] at hb
   have g4 := (((Fur.best_iff _ _).2 _ hb).1 _).1 (Int.le_refl _) (lp w) (List.mem_map.2 ⟨w, hw, rfl⟩) e
   have g5 := g3.1
   simp only [hs, Bool.true_and, Bool.not_eq_true', decide_eq_false_iff_not] at g5
   show y.heat ≤ _
   omega
 ·rintro ⟨g1, g2⟩
  refine ⟨g1, List.all_eq_true.2 fun y hy => ?_⟩
  have g3 := g2 (lp y) (List.mem_map.2 ⟨y, hy, rfl⟩)
  rw [Bool.and_eq_true, reachB_iff h g1]
  refine ⟨?_, g3.2⟩
  cases hs : (bestL x.most y.place).2 with
  | false => rfl
  | true =>
   have g4 := bestL_mem _ _ hs
   have g5 := g3.1 (lp (bestL x.most y.place).1) (List.mem_map.2 ⟨_, g4.1, rfl⟩) (by show (bestL x.most y.place).1.place.toNat = y.place.toNat; rw [g4.2])
   have g6 : y.heat ≤ (bestL x.most y.place).1.heat := g5
   simp only [Bool.true_and, Bool.not_eq_true', decide_eq_false_iff_not]
   omega
def gField (x : heat_furnace) : Field := ⟨(List.range x.Firing.Kiln.Falls.length).map x.fur.U, (List.range x.Firing.Kiln.Falls.length).map fun j => (List.range x.Firing.Kiln.P).map fun p => x.fur.gd j p⟩
theorem heat_greatest_eq {x : heat_furnace} (h : x.ok) : heat_furnace_greatest KK x = some (gField x) := by
 have hk := kilnB_len h.k
 unfold heat_furnace_greatest
 have h1 := (whl_foldN (n := x.Firing.Kiln.Falls.length) (body := heat_furnace_greatest.b0 KK x) (k := KK) (fun i (s : List Int × List (List Int)) => (i, s.1, s.2)) (fun s j => (s.1 ++ [x.fur.U j], s.2 ++ [(List.range x.Firing.Kiln.P).map fun p => x.fur.gd j p])) (fun i s => s.1.length = i ∧ s.2.length = i) (s0 := ([], [])) (by omega) (by unfold KK; omega) ⟨rfl, rfl⟩ ?_ ?_).1
 ·rw [h1]
  have : ∀ (l : List Nat) (s : List Int × List (List Int)), l.foldl (fun s j => (s.1 ++ [x.fur.U j], s.2 ++ [(List.range x.Firing.Kiln.P).map fun p => x.fur.gd j p])) s = (s.1 ++ l.map x.fur.U, s.2 ++ l.map fun j => (List.range x.Firing.Kiln.P).map fun p => x.fur.gd j p) := by
   intro l
   induction l with
   | nil => simp
   | cons j l ih => intro s; rw [List.foldl_cons, ih]; simp
  rw [this]; rfl
 ·intro j s hj hI
  refine ⟨?_, by simp [hI.1], by simp [hI.2]⟩
  unfold heat_furnace_greatest.b0
  have hr := kilnB_row h.k hj
  have hu := U_ge h j
  simp only [lt_dec hj, cond_true, at_row h.k hj, Option.bind_some, heat_hottest_eq h hj]
  rw [push_of (by omega) (by omega)]
  simp only [Option.bind_some, hot_U]
  have h2 := (whl_foldN (n := (x.Firing.Kiln.Falls.getD j []).length) (body := heat_furnace_greatest.b1 KK x (x.Firing.Kiln.Falls.getD j []) (hot x j)) (k := KK) (fun i s => (i, s)) (fun s p => s ++ [x.fur.gd j p]) (fun i s => s.length = i) (s0 := []) (by omega) (by unfold KK; omega) rfl ?_ ?_).1
  ·rw [h2, foldl_pushN, hr]
   simp only [Option.bind_some, List.nil_append]
   rw [push_of (by omega) (by omega)]
   rfl
  ·intro p t hp hI2
   refine ⟨?_, by simp [hI2]⟩
   unfold heat_furnace_greatest.b1
   have hc := kilnB_at h.k j p
   simp only [lt_dec hp, cond_true, at_cellN h.k hj (show p < x.Firing.Kiln.P by omega), Option.bind_some, heat_best_eq _ h.ml, hot_U]
   have hb := bestL_some x.most p (fun y hy => (h.m y hy).1)
   have hgd : x.fur.gd j p = match Fur.best (x.most.map lp) p with | none => (x.Firing.Kiln.at j p).Lo | some n => max (x.Firing.Kiln.at j p).Lo (x.fur.U j - n) := rfl
   cases hs : (bestL x.most (p : Int)).2 with
   | false =>
    rw [hs] at hb
    rw [hgd, hb]
    simp only [cond_false]
    rw [push_of (by omega) (by omega)]
    rfl
   | true =>
    rw [hs] at hb
    have hm := h.m _ (bestL_mem _ _ hs).1
    have hm2 := hm.2.2
    rw [hgd, hb]
    simp only [cond_true]
    rw [w64_of (n := x.fur.U j - (bestL x.most (p : Int)).1.heat) (by omega) (by omega), push_of (by omega) (by omega)]
    rfl
  ·intro t _
   unfold heat_furnace_greatest.b1
   simp only [lt_dec_self]; rfl
 ·intro s _
  unfold heat_furnace_greatest.b0
  simp only [lt_dec_self]; rfl
end Go.Abs
namespace Go.Abs
open Go
set_option linter.unusedVariables false
def rd0 : Reading := ⟨0, 0, 0, 0, ⟨0, 0⟩⟩
def lo? (r : Reading) : Option Int := bif decide (r.Kind = (1 : Int)) then some r.Mark else bif decide (r.Kind = (3 : Int)) then some r.Heat.Lo else none
def hi? (r : Reading) : Option Int := bif decide (r.Kind = (2 : Int)) then some (w64 (r.Mark - 1)) else bif decide (r.Kind = (3 : Int)) then some r.Heat.Hi else none
def limOf (l : List Reading) (g : Reading → Option Int) (i : Nat) : Option heat_limit := (g (l.getD i rd0)).map fun n => ⟨(l.getD i rd0).Place, n, i⟩
def limsOf (l : List Reading) (g : Reading → Option Int) : List heat_limit := (List.range l.length).filterMap (limOf l g)
def nf (f : Firing) : heat_furnace := ⟨f, limsOf f.Readings lo?, limsOf f.Readings hi?⟩
theorem limsOf_mem {l : List Reading} {g : Reading → Option Int} {y : heat_limit} : y ∈ limsOf l g ↔ ∃ (i : Nat) (r : Reading), l[i]? = some r ∧ g r = some y.heat ∧ y.place = r.Place ∧ y.by_ = (i : Int) := by
 unfold limsOf
 rw [List.mem_filterMap]
 constructor
 ·rintro ⟨i, hi, h⟩
  simp only [List.mem_range] at hi
  have hx : l[i]? = some l[i] := List.getElem?_eq_getElem hi
  unfold limOf at h
  rw [getD_of rd0 hx] at h
  cases hg : g l[i] with
  | none => rw [hg] at h; cases h
  | some n => rw [hg] at h; cases h; exact ⟨i, l[i], hx, hg, rfl, rfl⟩
 ·rintro ⟨i, r, hx, h1, h2, h3⟩
  refine ⟨i, by simp only [List.mem_range]; exact (List.getElem?_eq_some_iff.1 hx).1, ?_⟩
  unfold limOf
  rw [getD_of rd0 hx, h1, Option.map_some, ← h2, ← h3]
theorem limsOf_lp {l : List Reading} {g : Reading → Option Int} {z : Nat × Int} : z ∈ (limsOf l g).map lp ↔ ∃ r ∈ l, g r = some z.2 ∧ r.Place.toNat = z.1 := by
 rw [List.mem_map]
 constructor
 ·rintro ⟨y, hy, rfl⟩
  obtain ⟨i, r, h1, h2, h3, _⟩ := limsOf_mem.1 hy
  exact ⟨r, List.mem_of_getElem? h1, h2, by show _ = y.place.toNat; rw [h3]⟩
 ·rintro ⟨r, hr, h1, h2⟩
  obtain ⟨i, hi⟩ := List.getElem?_of_mem hr
  refine ⟨⟨r.Place, z.2, (i : Int)⟩, limsOf_mem.2 ⟨i, r, hi, h1, rfl, rfl⟩, ?_⟩
  show (r.Place.toNat, z.2) = z
  rw [h2]
theorem limsOf_len (l : List Reading) (g : Reading → Option Int) : (limsOf l g).length ≤ l.length := by
 have := List.length_filterMap_le (limOf l g) (List.range l.length)
 simpa [limsOf] using this
theorem limsOf_bounds {l : List Reading} {g : Reading → Option Int} {y : heat_limit} (h : y ∈ limsOf l g) : ∃ r ∈ l, g r = some y.heat ∧ y.place = r.Place := by
 obtain ⟨i, r, h1, h2, h3, _⟩ := limsOf_mem.1 h
 exact ⟨r, List.mem_of_getElem? h1, h2, h3⟩
theorem heat_least_eq (r : Reading) : heat_reading_least KK ⟨r⟩ = some ((lo? r).getD 0, (lo? r).isSome) := by
 unfold heat_reading_least lo?
 cases decide (r.Kind = (1 : Int)) <;> cases decide (r.Kind = (3 : Int)) <;> rfl
theorem heat_most_eq (r : Reading) : heat_reading_most KK ⟨r⟩ = some ((hi? r).getD 0, (hi? r).isSome) := by
 unfold heat_reading_most hi?
 cases decide (r.Kind = (2 : Int)) <;> cases decide (r.Kind = (3 : Int)) <;> rfl
def nfStep (l : List Reading) (s : List heat_limit × List heat_limit) (i : Nat) : List heat_limit × List heat_limit :=
 (s.1 ++ (limOf l lo? i).toList, s.2 ++ (limOf l hi? i).toList)
theorem nf_fold (l : List Reading) : ∀ (m : List Nat) (s : List heat_limit × List heat_limit), m.foldl (nfStep l) s = (s.1 ++ m.filterMap (limOf l lo?), s.2 ++ m.filterMap (limOf l hi?)) := by
 intro m
 induction m with
 | nil => intro s; simp
 | cons i m ih =>
  intro s
  rw [List.foldl_cons, ih, List.filterMap_cons, List.filterMap_cons]
  unfold nfStep
  cases limOf l lo? i <;> cases limOf l hi? i <;> simp
theorem heat_newFurnace_eq (f : Firing) (hl : f.Readings.length * 24 + 24 ≤ 140737488355328) : heat_newFurnace KK f = some (nf f) := by
 unfold heat_newFurnace
 have h1 := (whl_foldN (n := f.Readings.length) (body := heat_newFurnace.b0 KK f) (k := KK) (fun i (s : List heat_limit × List heat_limit) => (i, s.1, s.2)) (nfStep f.Readings) (fun i s => s.1.length ≤ i ∧ s.2.length ≤ i) (s0 := ([], [])) (by omega) (by unfold KK; omega) ⟨by simp, by simp⟩ ?_ ?_).1
 ·rw [h1, nf_fold]; rfl
 ·intro i s hi hI
  have hx : f.Readings[i]? = some f.Readings[i] := List.getElem?_eq_getElem hi
  have e1 : limOf f.Readings lo? i = (lo? f.Readings[i]).map fun n => ⟨f.Readings[i].Place, n, i⟩ := by unfold limOf; rw [getD_of rd0 hx]
  have e2 : limOf f.Readings hi? i = (hi? f.Readings[i]).map fun n => ⟨f.Readings[i].Place, n, i⟩ := by unfold limOf; rw [getD_of rd0 hx]
  obtain ⟨s1, s2⟩ := s
  simp only at hI
  refine ⟨?_, ?_⟩
  ·unfold heat_newFurnace.b0 nfStep
   rw [e1, e2]
   simp only [lt_dec hi, cond_true, at_of hx, Option.bind_some, heat_least_eq, heat_most_eq]
   cases h1 : lo? f.Readings[i] with
   | none =>
    cases h2 : hi? f.Readings[i] with
    | none => simp
    | some n2 =>
     simp only [Option.isSome_none, Option.isSome_some, cond_true, cond_false, Option.getD_some, Option.map_none, Option.map_some, Option.toList_none, Option.toList_some, List.append_nil]
     rw [push_of (by omega) (by omega)]; rfl
   | some n1 =>
    simp only [Option.isSome_some, cond_true, Option.getD_some]
    rw [push_of (by omega) (by omega)]
    cases h2 : hi? f.Readings[i] with
    | none => simp
    | some n2 =>
     simp only [Option.bind_some, Option.isSome_some, cond_true, Option.getD_some, Option.map_some, Option.toList_some]
     rw [push_of (by omega) (by omega)]; rfl
  ·unfold nfStep
   simp only [List.length_append]
   have : ∀ o : Option heat_limit, o.toList.length ≤ 1 := fun o => by cases o <;> simp
   have t1 := this (limOf f.Readings lo? i)
   have t2 := this (limOf f.Readings hi? i)
   exact ⟨by omega, by omega⟩
 ·intro s _
  unfold heat_newFurnace.b0
  simp only [lt_dec_self]; rfl
def rdOk (P : Nat) (r : Reading) : Prop := 0 ≤ r.Place ∧ r.Place < P ∧ (r.Kind = 1 ∨ r.Kind = 2 ∨ r.Kind = 3) ∧ (∀ n, lo? r = some n → -3000 ≤ n ∧ n ≤ 3000) ∧ ∀ n, hi? r = some n → -3000 ≤ n ∧ n ≤ 3000
structure Firing.ok (f : Firing) : Prop where
 k : kilnB f.Kiln = true
 l : f.Readings.length ≤ 100
 r : ∀ r ∈ f.Readings, rdOk f.Kiln.P r
theorem readB_ok {P : Nat} (hP : 1 ≤ P ∧ P ≤ 24) {r : Reading} (h : readB (P : Int) r = true) : rdOk P r := by
 unfold readB at h
 simp only [Bool.and_eq_true] at h
 obtain ⟨h1, h2, h3⟩ := h
 simp only [inB, Bool.and_eq_true, decide_eq_true_eq] at h2
 rw [w64_of (by omega) (by omega)] at h2
 refine ⟨by omega, by omega, ?_⟩
 unfold lo? hi?
 by_cases k1 : r.Kind = 1
 ·simp only [k1, decide_true, cond_true, Bool.and_eq_true, inB, decide_eq_true_eq] at h3
  refine ⟨.inl k1, fun n hn => ?_, fun n hn => ?_⟩
  ·simp only [k1, decide_true, cond_true, Option.some.injEq] at hn; omega
  ·simp [k1] at hn
 ·by_cases k2 : r.Kind = 2
  ·simp only [k2, decide_true, cond_true, cond_false, Bool.and_eq_true, inB, decide_eq_true_eq] at h3
   refine ⟨.inr (.inl k2), fun n hn => ?_, fun n hn => ?_⟩
   ·simp [k2] at hn
   ·simp only [k2, decide_true, cond_true, Option.some.injEq] at hn
    simp only [show decide ((2 : Int) = 1) = false by decide, cond_false, Bool.and_eq_true, decide_eq_true_eq] at h3
    rw [w64_of (by omega) (by omega)] at hn; omega
  ·by_cases k3 : r.Kind = 3
   ·simp only [k1, k2, k3, show decide ((3 : Int) = 1) = false by decide, show decide ((3 : Int) = 2) = false by decide, decide_true, cond_true, cond_false, Bool.and_eq_true, rangeB, decide_eq_true_eq] at h3
    refine ⟨.inr (.inr k3), fun n hn => ?_, fun n hn => ?_⟩
    ·simp only [k3, show decide ((3 : Int) = 1) = false by decide, decide_true, cond_true, cond_false, Option.some.injEq] at hn; omega
    ·simp only [k3, show decide ((3 : Int) = 2) = false by decide, decide_true, cond_true, cond_false, Option.some.injEq] at hn; omega
   ·simp [k1, k2, k3] at h3
theorem firing_ok {f : Firing} (h : firingCode f = 0) : f.ok := by
 obtain ⟨h1, h2, h3⟩ := firing_small h
 have hk := kilnB_len h1
 exact ⟨h1, by omega, fun r hr => readB_ok ⟨hk.2.2.1, hk.2.2.2⟩ (h3 r hr)⟩
theorem nf_ok {f : Firing} (h : f.ok) : (nf f).ok := by
 have h2 := h.l
 have a := limsOf_len f.Readings lo?
 have b := limsOf_len f.Readings hi?
 refine ⟨h.k, by show (limsOf f.Readings lo?).length ≤ 1000; omega, fun y hy => ?_, by show (limsOf f.Readings hi?).length ≤ 1000; omega, fun y hy => ?_⟩
 ·obtain ⟨r, hr, h3, h4⟩ := limsOf_bounds hy
  obtain ⟨g1, g2, g3, g4, g5⟩ := h.r r hr
  have := g4 _ h3
  refine ⟨by omega, ?_, this⟩
  rw [h4]; exact g2
 ·obtain ⟨r, hr, h3, h4⟩ := limsOf_bounds hy
  obtain ⟨g1, g2, g3, g4, g5⟩ := h.r r hr
  have := g5 _ h3
  refine ⟨by omega, ?_, this⟩
  rw [h4]; exact g2
theorem fur_small {x : heat_furnace} (h : x.ok) : x.fur.Small x.Firing.Kiln.P := by
 constructor
 ·intro z hz
  obtain ⟨y, hy, rfl⟩ := List.mem_map.1 hz
  obtain ⟨g1, g2, g3, g4⟩ := h.l y hy
  exact ⟨by show y.place.toNat < _; omega, g3, g4⟩
 ·intro z hz
  obtain ⟨y, hy, rfl⟩ := List.mem_map.1 hz
  obtain ⟨g1, g2, g3, g4⟩ := h.m y hy
  exact ⟨by show y.place.toNat < _; omega, g3, g4⟩
theorem R04_Least_eq {P : Nat} {r : Reading} (h : rdOk P r) : R04_Least KK r = some ((lo? r).getD (-1000000), (hi? r).getD 1000000) := by
 unfold R04_Least lo? hi?
 rcases h.2.2.1 with e | e | e <;> rw [e] <;> rfl
def limStep (l : List Reading) (s : List Range) (i : Nat) : List Range :=
 let r := l.getD i rd0
 s.set r.Place.toNat ⟨max (s.getD r.Place.toNat R0).Lo ((lo? r).getD (-1000000)), min (s.getD r.Place.toNat R0).Hi ((hi? r).getD 1000000)⟩
theorem mk_of {n : Nat} (h : n ≤ 1000) : mk? (n : Int) 16 = some () := by
 unfold mk?
 rw [if_pos (by constructor <;> omega)]
theorem set_getD {α : Type} (d : α) (l : List α) (i j : Nat) (x : α) (hi : i < l.length) : (l.set i x).getD j d = if j = i then x else l.getD j d := by
 rw [List.getD_eq_getElem?_getD, List.getD_eq_getElem?_getD, List.getElem?_set]
 by_cases h : j = i
 ·subst h; simp [hi]
 ·rw [if_neg (by omega), if_neg h]
theorem R04_limits_eq {f : Firing} (h : f.ok) : ∃ l, R04_limits KK f = some l ∧ l.length = f.Kiln.P ∧ (nf f).fur.Lims f.Kiln.P (fun p => (l.getD p R0).Lo) (fun p => (l.getD p R0).Hi) := by
 have hk := kilnB_len h.k
 obtain ⟨x3, g1, g2, g3⟩ := kilnB_head h.k
 have hP : x3.length = f.Kiln.P := by unfold Kiln.P; rw [g3]
 have hl := h.l
 unfold R04_limits
 rw [g2]
 simp only [Option.bind_some]
 rw [mk_of (by omega)]
 simp only [Option.bind_some]
 obtain ⟨e1, I1⟩ := whl_foldN (n := x3.length) (body := R04_limits.b0 KK) (k := KK) (fun i s => (i, s)) (fun s i => s.set i (⟨-1000000, 1000000⟩ : Range)) (fun i s => s.length = x3.length ∧ ∀ q, q < i → s.getD q R0 = ⟨-1000000, 1000000⟩) (s0 := List.replicate x3.length (⟨0, 0⟩ : Range)) (by omega) (by unfold KK; omega) ⟨by simp, by omega⟩ (fun i s hi hI => by
   obtain ⟨I1, I2⟩ := hI
   refine ⟨?_, by simp [I1], fun q hq => ?_⟩
   ·unfold R04_limits.b0
    simp only [show decide ((i : Int) < ((s.length : Nat) : Int)) = true by simp; omega, cond_true]
    rw [at_nat R0 (by omega)]
    simp only [Option.bind_some]
    rw [set_of (by omega)]
    rfl
   ·rw [set_getD R0 s i q _ (by omega)]
    by_cases hqi : q = i
    ·rw [if_pos hqi]
    ·rw [if_neg hqi]; exact I2 q (by omega)) (fun s hI => by
   unfold R04_limits.b0
   simp only [hI.1, lt_dec_self]; rfl)
 rw [e1]
 simp only [Option.bind_some]
 generalize (List.range x3.length).foldl (fun s i => s.set i (⟨-1000000, 1000000⟩ : Range)) (List.replicate x3.length (⟨0, 0⟩ : Range)) = l0 at I1
 obtain ⟨e2, I2⟩ := whl_foldN (n := f.Readings.length) (body := R04_limits.b1 KK f) (k := KK) (fun i s => (i, s)) (limStep f.Readings)
  (fun i s => s.length = x3.length ∧ (∀ p t, p < f.Kiln.P → ((s.getD p R0).Lo ≤ t ↔ -1000000 ≤ t ∧ ∀ r ∈ f.Readings.take i, r.Place.toNat = p → ∀ n, lo? r = some n → n ≤ t)) ∧
   ∀ p t, p < f.Kiln.P → (t ≤ (s.getD p R0).Hi ↔ t ≤ 1000000 ∧ ∀ r ∈ f.Readings.take i, r.Place.toNat = p → ∀ n, hi? r = some n → t ≤ n)) (s0 := l0) (by omega) (by unfold KK; omega)
  ⟨I1.1, fun p t hp => by rw [I1.2 p (by omega)]; simp, fun p t hp => by rw [I1.2 p (by omega)]; simp⟩ (fun i s hi hI => by
   obtain ⟨J1, J2, J3⟩ := hI
   have hx : f.Readings[i]? = some f.Readings[i] := List.getElem?_eq_getElem hi
   have hr := h.r _ (List.getElem_mem hi)
   have hp := hr.1
   have hp2 := hr.2.1
   have hst : limStep f.Readings s i = s.set f.Readings[i].Place.toNat ⟨max (s.getD f.Readings[i].Place.toNat R0).Lo ((lo? f.Readings[i]).getD (-1000000)), min (s.getD f.Readings[i].Place.toNat R0).Hi ((hi? f.Readings[i]).getD 1000000)⟩ := by
    unfold limStep; rw [getD_of rd0 hx]
   have hpl : ((f.Readings[i].Place.toNat : Nat) : Int) = f.Readings[i].Place := by omega
   refine ⟨?_, ?_, fun p t hpP => ?_, fun p t hpP => ?_⟩
   ·unfold R04_limits.b1
    simp only [lt_dec hi, cond_true, at_of hx, Option.bind_some, R04_Least_eq hr]
    rw [hst, ← hpl]
    rw [at_nat R0 (by omega)]
    simp only [Option.bind_some]
    rw [set_of (by omega)]
    simp only [Option.bind_some, Int.toNat_natCast]
    rw [at_nat R0 (by rw [List.length_set]; omega), set_getD R0 _ _ _ _ (by omega), if_pos rfl]
    simp only [Option.bind_some]
    rw [set_of (by rw [List.length_set]; omega), List.set_set]
    rfl
   ·rw [hst, List.length_set]; exact J1
   ·rw [hst, set_getD R0 _ _ _ _ (by omega), take_succ_of hx]
    by_cases hpe : p = f.Readings[i].Place.toNat
    ·rw [if_pos hpe]
     show max _ _ ≤ t ↔ _
     rw [Int.max_le, ← hpe, J2 p t hpP]
     constructor
     ·rintro ⟨⟨k1, k2⟩, k3⟩
      refine ⟨k1, fun r hr e n hn => ?_⟩
      rcases List.mem_append.1 hr with hr | hr
      ·exact k2 r hr e n hn
      ·simp only [List.mem_singleton] at hr
       subst hr
       rw [hn] at k3; exact k3
     ·rintro ⟨k1, k2⟩
      refine ⟨⟨k1, fun r hr e n hn => k2 r (List.mem_append.2 (.inl hr)) e n hn⟩, ?_⟩
      cases hn : lo? f.Readings[i] with
      | none => exact k1
      | some n => exact k2 _ (List.mem_append.2 (.inr (by simp))) hpe.symm n hn
    ·rw [if_neg hpe, J2 p t hpP]
     constructor
     ·rintro ⟨k1, k2⟩
      refine ⟨k1, fun r hr e n hn => ?_⟩
      rcases List.mem_append.1 hr with hr | hr
      ·exact k2 r hr e n hn
      ·simp only [List.mem_singleton] at hr
       subst hr
       exact absurd e.symm hpe
     ·rintro ⟨k1, k2⟩
      exact ⟨k1, fun r hr e n hn => k2 r (List.mem_append.2 (.inl hr)) e n hn⟩
   ·rw [hst, set_getD R0 _ _ _ _ (by omega), take_succ_of hx]
    by_cases hpe : p = f.Readings[i].Place.toNat
    ·rw [if_pos hpe]
     show t ≤ min _ _ ↔ _
     rw [Int.le_min, ← hpe, J3 p t hpP]
     constructor
     ·rintro ⟨⟨k1, k2⟩, k3⟩
      refine ⟨k1, fun r hr e n hn => ?_⟩
      rcases List.mem_append.1 hr with hr | hr
      ·exact k2 r hr e n hn
      ·simp only [List.mem_singleton] at hr
       subst hr
       rw [hn] at k3; exact k3
     ·rintro ⟨k1, k2⟩
      refine ⟨⟨k1, fun r hr e n hn => k2 r (List.mem_append.2 (.inl hr)) e n hn⟩, ?_⟩
      cases hn : hi? f.Readings[i] with
      | none => exact k1
      | some n => exact k2 _ (List.mem_append.2 (.inr (by simp))) hpe.symm n hn
    ·rw [if_neg hpe, J3 p t hpP]
     constructor
     ·rintro ⟨k1, k2⟩
      refine ⟨k1, fun r hr e n hn => ?_⟩
      rcases List.mem_append.1 hr with hr | hr
      ·exact k2 r hr e n hn
      ·simp only [List.mem_singleton] at hr
       subst hr
       exact absurd e.symm hpe
     ·rintro ⟨k1, k2⟩
      exact ⟨k1, fun r hr e n hn => k2 r (List.mem_append.2 (.inl hr)) e n hn⟩) (fun s hI => by
   unfold R04_limits.b1
   simp only [lt_dec_self]; rfl)
 rw [e2]
 refine ⟨_, rfl, by rw [I2.1, hP], fur_ok (nf_ok h), fur_small (nf_ok h), fun p t hp => ?_, fun p t hp => ?_⟩
 ·rw [I2.2.1 p t hp, List.take_length]
  constructor
  ·rintro ⟨k1, k2⟩
   refine ⟨k1, fun z hz e => ?_⟩
   obtain ⟨r, hr, h1, h2⟩ := limsOf_lp.1 hz
   exact k2 r hr (by omega) _ h1
  ·rintro ⟨k1, k2⟩
   exact ⟨k1, fun r hr e n hn => k2 (p, n) (limsOf_lp.2 ⟨r, hr, hn, e⟩) rfl⟩
 ·rw [I2.2.2 p t hp, List.take_length]
  constructor
  ·rintro ⟨k1, k2⟩
   refine ⟨k1, fun z hz e => ?_⟩
   obtain ⟨r, hr, h1, h2⟩ := limsOf_lp.1 hz
   exact k2 r hr (by omega) _ h1
  ·rintro ⟨k1, k2⟩
   exact ⟨k1, fun r hr e n hn => k2 (p, n) (limsOf_lp.2 ⟨r, hr, hn, e⟩) rfl⟩
end Go.Abs
