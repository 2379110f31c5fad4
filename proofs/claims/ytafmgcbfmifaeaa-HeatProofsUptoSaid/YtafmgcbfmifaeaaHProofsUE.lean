/-
  Part 5 of the proof: a machine over named blocks, what each function computes, and what follows. No condition.
-/
import Derived.Test.YtafmgcbfmifaeaaHProofsUD
set_option linter.unusedVariables false
set_option linter.unusedSimpArgs false
set_option linter.all false
set_option maxRecDepth 20000
set_option maxHeartbeats 8000000
namespace Go.Abs
open Go.Proofs
def F74.s0 : SC :=
 (.seq
 (.reg [b2 43 .lss 3 42 41 3 0 []])
 (.seq
 (.cond (.tmp 43)
 .skip
 (.exit 0))
 (.seq
 (.block 1
 (.seq
 (.reg [ia 44 80 40 42 [],
 ld 45 79 44 [44],
 oq 12 (.alloc 79) 0 [],
 ⟨none, .store 79 (.tmp 12) (.tmp 45), 0, none, [45]⟩])
 (.reg [ld 46 94 10 [],
 fa 47 79 12 0 [],
 ld 48 3 47 [47],
 fa 49 79 12 1 [12],
 ld 50 39 49 [49],
 oq 51 (.call ⟨.value (.func 72), #[.tmp 46, .tmp 48, .tmp 50], #[94, 3, 39]⟩) 94 [46, 48, 50],
 ⟨none, .store 94 (.tmp 10) (.tmp 51), 0, none, [51]⟩])))
 (.reg [bn 52 .add 3 42 1 3 3 [42],
 mv 42 52 3 [52]]))))
def F74.c : SC :=
 (.seq
 (.reg [oq 2 (.box 32 (.tmp 0)) 0 [0],
 oq 4 (.alloc 94) 0 [],
 oq 5 (.alloc 94) 0 [],
 sn 6 0 43 [6]])
 (.seq
 (.seq
 (.reg [ld 13 32 2 [],
 cf1 14 41 13 32 43 [13],
 bn 15 .neq 43 14 0 43 4 [14]])
 (.cond (.tmp 15)
 (.seq
 (.reg [oq 16 (.build 94 #[]) 94 [],
 oq 17 (.build 94 #[]) 94 [],
 ⟨none, .store 94 (.tmp 4) (.tmp 16), 0, none, [16]⟩,
 ⟨none, .store 94 (.tmp 5) (.tmp 17), 0, none, [17]⟩,
 sn 6 42 43 []])
 .ret)
 .skip))
 (.seq
 (.reg [oq 18 (.makeFunc (.func 102) #[] #[.tmp 2]) 156 [],
 oq 7 (.alloc 156) 0 [],
 ⟨none, .store 156 (.tmp 7) (.tmp 18), 0, none, [18]⟩])
 (.seq
 (.seq
 (.reg [mv 19 1 80 [],
 ln 20 19 80 3 [19],
 bn 21 .gtr 3 20 24 3 4 [20],
 mv 22 21 4 [21],
 og 23 (.move (.tmp 1)) 80 22 false [],
 og 24 (.makeFunc (.func 104) #[] #[.tmp 7]) 156 22 false [7],
 og 25 (.call ⟨.value (.func 103), #[.tmp 23, .tmp 24], #[80, 156]⟩) 4 22 false [23, 24],
 oq 26 (.pick (.tmp 22) (.const (.bool true)) (.tmp 25)) 4 [22, 25]])
 (.cond (.tmp 26)
 (.seq
 (.reg [oq 27 (.build 94 #[]) 94 [],
 oq 28 (.build 94 #[]) 94 [],
 ⟨none, .store 94 (.tmp 4) (.tmp 27), 0, none, [27]⟩,
 ⟨none, .store 94 (.tmp 5) (.tmp 28), 0, none, [28]⟩,
 sn 6 49 43 []])
 .ret)
 .skip))
 (.seq
 (.reg [ld 30 32 2 [2],
 oq 31 (.call ⟨.value (.func 36), #[.tmp 30, .const (.int .i64 0)], #[32, 3]⟩) 95 [30],
 mv 29 31 95 [31],
 xt 32 29 0 94 [],
 xt 33 29 1 43 [29],
 oq 8 (.alloc 94) 0 [],
 ⟨none, .store 94 (.tmp 8) (.tmp 32), 0, none, [32]⟩,
 sg 9 33 43 [33]])
 (.seq
 (.seq
 (.reg [mv 34 9 43 [],
 bn 35 .neq 43 34 0 43 4 [34]])
 (.cond (.tmp 35)
 (.seq
 (.reg [oq 36 (.build 94 #[]) 94 [],
 oq 37 (.build 94 #[]) 94 [],
 mv 38 9 43 [9],
 ⟨none, .store 94 (.tmp 4) (.tmp 36), 0, none, [36]⟩,
 ⟨none, .store 94 (.tmp 5) (.tmp 37), 0, none, [37]⟩,
 sg 6 38 43 [38]])
 .ret)
 .skip))
 (.seq
 (.reg [ld 39 94 8 [],
 oq 10 (.alloc 94) 0 [],
 ⟨none, .store 94 (.tmp 10) (.tmp 39), 0, none, [39]⟩])
 (.seq
 (.seq
 (.reg [mv 40 1 80 [1],
 ln 41 40 80 3 [],
 oq 42 (.move (.const (.int .i64 0))) 3 []])
 (.block 0
 (.loop F74.s0)))
 (.seq
 (.dreg [ld 53 94 8 [],
 ld 54 94 10 [],
 ⟨none, .store 94 (.tmp 4) (.tmp 53), 0, none, []⟩,
 ⟨none, .store 94 (.tmp 5) (.tmp 54), 0, none, []⟩,
 sn 6 0 43 []] [[], [], [0], [1, 0, 2], [1, 0, 2, 3]] [8, 10, 53, 54])
 .ret)))))))))
theorem F74.rs : Try.f74.results.toList = [.cell 4 94, .cell 5 94, .tmp 6] := rfl
def heat_wanted.b0 (k : Nat) (l1 : (List Want)) : (heat_furnace × Int) → Option (Stp (heat_furnace × Int) (heat_furnace) (heat_furnace × heat_furnace × Int)) := fun (s : heat_furnace × Int) => match s with
 | (s8, i9) =>
   bif decide (i9 < (l1.length : Int)) then
    (at? l1 i9).bind fun x12 =>
    (heat_furnace_asked k s8 x12.Place x12.Heat).bind fun x13 =>
    some (.next (x13, w64 (i9 + 1)))
   else
    some (.brk s8)
noncomputable def heat_wanted.h0 (l1 : (List Want)) (x6 : heat_furnace × Int) : (heat_furnace × Int) → St := fun (s : heat_furnace × Int) => match s with
 | (s8, i9) => ⟨[(4, .ptr 0 0 0), (5, .ptr 0 5 0), (8, .ptr 0 10 0), (10, .ptr 0 11 0), (40, .sl 3 (List.map Want.c l1)), (41, .int .i64 (l1.length : Int)), (42, .int .i64 i9)], [(0, .box [.loc 0 1 1 0 0 0, .loc 0 2 6 0 0 0, .loc 0 3 3 0 0 0, .loc 0 4 3 0 0 0]), (1, .arr 40 1 (List.map (eL 2 Range.c) [])), (2, .arr 60 6 (List.map Reading.c [])), (3, .arr 136 3 (List.map heat_limit.c [])), (4, .arr 136 3 (List.map heat_limit.c [])), (5, .box [.loc 0 6 1 0 0 0, .loc 0 7 6 0 0 0, .loc 0 8 3 0 0 0, .loc 0 9 3 0 0 0]), (6, .arr 40 1 (List.map (eL 2 Range.c) [])), (7, .arr 60 6 (List.map Reading.c [])), (8, .arr 136 3 (List.map heat_limit.c [])), (9, .arr 136 3 (List.map heat_limit.c [])), (10, .box [.sl 1 (List.map (eL 2 Range.c) x6.1.Firing.Kiln.Falls), .sl 6 (List.map Reading.c x6.1.Firing.Readings), .sl 3 (List.map heat_limit.c x6.1.least), .sl 3 (List.map heat_limit.c x6.1.most)]), (11, .box [.sl 1 (List.map (eL 2 Range.c) s8.Firing.Kiln.Falls), .sl 6 (List.map Reading.c s8.Firing.Readings), .sl 3 (List.map heat_limit.c s8.least), .sl 3 (List.map heat_limit.c s8.most)])], [], 12, Try.f74.ntmps⟩
noncomputable def heat_wanted.x0 (x6 : heat_furnace × Int) : heat_furnace → St := fun (s10 : heat_furnace) => ⟨[(4, .ptr 0 0 0), (5, .ptr 0 5 0), (8, .ptr 0 10 0), (10, .ptr 0 11 0)], [(0, .box [.loc 0 1 1 0 0 0, .loc 0 2 6 0 0 0, .loc 0 3 3 0 0 0, .loc 0 4 3 0 0 0]), (1, .arr 40 1 (List.map (eL 2 Range.c) [])), (2, .arr 60 6 (List.map Reading.c [])), (3, .arr 136 3 (List.map heat_limit.c [])), (4, .arr 136 3 (List.map heat_limit.c [])), (5, .box [.loc 0 6 1 0 0 0, .loc 0 7 6 0 0 0, .loc 0 8 3 0 0 0, .loc 0 9 3 0 0 0]), (6, .arr 40 1 (List.map (eL 2 Range.c) [])), (7, .arr 60 6 (List.map Reading.c [])), (8, .arr 136 3 (List.map heat_limit.c [])), (9, .arr 136 3 (List.map heat_limit.c [])), (10, .box [.sl 1 (List.map (eL 2 Range.c) x6.1.Firing.Kiln.Falls), .sl 6 (List.map Reading.c x6.1.Firing.Readings), .sl 3 (List.map heat_limit.c x6.1.least), .sl 3 (List.map heat_limit.c x6.1.most)]), (11, .box [.sl 1 (List.map (eL 2 Range.c) s10.Firing.Kiln.Falls), .sl 6 (List.map Reading.c s10.Firing.Readings), .sl 3 (List.map heat_limit.c s10.least), .sl 3 (List.map heat_limit.c s10.most)])], [], 12, Try.f74.ntmps⟩
def heat_wanted (k : Nat) (f0 : Firing) (l1 : (List Want)) : Option (heat_furnace × heat_furnace × Int) :=
 (heat_Check k f0).bind fun x1 =>
 bif (!decide (x1 = (0 : Int))) then
  some ((⟨(⟨(⟨[]⟩ : Kiln), []⟩ : Firing), [], []⟩ : heat_furnace), (⟨(⟨(⟨[]⟩ : Kiln), []⟩ : Firing), [], []⟩ : heat_furnace), 42)
 else
  bif (!decide ((24 : Int) < (l1.length : Int))) then
   (slices_ContainsFunc_api_Want k l1 (fun q0 => heat_wanted_2 k q0 (fun q0 => heat_wanted_1 k q0 f0))).bind fun x4 =>
   bif x4 then
    some ((⟨(⟨(⟨[]⟩ : Kiln), []⟩ : Firing), [], []⟩ : heat_furnace), (⟨(⟨(⟨[]⟩ : Kiln), []⟩ : Firing), [], []⟩ : heat_furnace), 49)
   else
    (heat_asks k f0 0).bind fun x6 =>
    bif (!decide (x6.2 = (0 : Int))) then
     some ((⟨(⟨(⟨[]⟩ : Kiln), []⟩ : Firing), [], []⟩ : heat_furnace), (⟨(⟨(⟨[]⟩ : Kiln), []⟩ : Firing), [], []⟩ : heat_furnace), x6.2)
    else
     (whl (heat_wanted.b0 k l1) k (x6.1, 0)).bind fun r14 => match r14 with
     | .next _ => none
     | .ret v_ => some v_
     | .brk s10 =>
      some (x6.1, s10, 0)
  else
   some ((⟨(⟨(⟨[]⟩ : Kiln), []⟩ : Firing), [], []⟩ : heat_furnace), (⟨(⟨(⟨[]⟩ : Kiln), []⟩ : Firing), [], []⟩ : heat_furnace), 49)
theorem heat_wanted_ok (k : Nat) (f0 : Firing) (l1 : (List Want)) (r : heat_furnace × heat_furnace × Int) (h0 : heat_wanted k f0 l1 = some r) : PCall Try.prog 74 [.agg (Firing.c f0), .sl 3 (List.map Want.c l1)] (fun y => y = .tup [.agg (heat_furnace.c r.1), .agg (heat_furnace.c r.2.1), .int .i64 r.2.2]) := by
 refine PB (fn := Try.f74) (sc := F74.c) ?_
 refine rS ?_
 simp only [heat_wanted] at h0
 try simp only [F74.c, go_sem]
 obtain ⟨x1, yx1, h0⟩ := bs h0
 refine zc0 (heat_Check_ok k _ _ yx1) ?_ (by first | rfl | simp [AV.refsL, AV.refs, AV.scal, AV.leaf]) ?_
 try simp only [go_sem]
 try simp only [go_sem]
 refine AKev_bif h0 ?_ ?_ <;> intro c2 h0
 have c2 := bnot_t c2
 try simp only [c2, go_sem]
 obtain rfl := Option.some.inj h0
 refine AKev_ret rfl ?_
 try simp only [F74.rs, c2, go_sem]
 have c2 := bnot_f c2
 try simp only [c2, go_sem]
 refine AKev_bif h0 ?_ ?_ <;> intro c3 h0
 have c3 := bnot_t c3
 try simp only [c3, c2, go_sem]
 obtain ⟨x4, yx4, h0⟩ := bs h0
 refine zcL (slices_ContainsFunc_api_Want_ok k _ 104 [.rptr 1 [[.fn (.func 102) [] [.rptr 2 [Firing.c f0] 0 0]]] 0 0] ⟨fun _ => rfl, fun _ => rfl, fun _ _ => rfl, rfl, fun _ => rfl, fun _ => rfl, fun _ => rfl⟩ (fun q0 => heat_wanted_2 k q0 (fun q0 => heat_wanted_1 k q0 f0)) (fun q0 qr qh => heat_wanted_2_ok k q0 102 [.rptr 2 [Firing.c f0] 0 0] ⟨fun _ => rfl, fun _ => rfl, fun _ _ => rfl, rfl, fun _ => rfl, fun _ => rfl, fun _ => rfl⟩ (fun q0 => heat_wanted_1 k q0 f0) (fun q0 qr qh => heat_wanted_1_ok k q0 _ qr qh) qr qh) _ yx4) ?_ (by first | rfl | simp [AV.refsL, AV.refs, AV.scal, AV.leaf]) ?_
 try simp only [c2, c3, go_sem]
 try simp only [c2, c3, go_sem]
 refine AKev_bif h0 ?_ ?_ <;> intro c5 h0
 try simp only [c5, c2, c3, go_sem]
 obtain rfl := Option.some.inj h0
 refine AKev_ret rfl ?_
 try simp only [F74.rs, c2, c3, c5, go_sem]
 try simp only [c5, c2, c3, go_sem]
 obtain ⟨x6, yx6, h0⟩ := bs h0
 refine zc0 (heat_asks_ok k _ _ _ yx6) ?_ (by first | rfl | simp [AV.refsL, AV.refs, AV.scal, AV.leaf]) ?_
 try simp only [c2, c3, c5, go_sem]
 try simp only [c2, c3, c5, go_sem]
 refine AKev_bif h0 ?_ ?_ <;> intro c7 h0
 have c7 := bnot_t c7
 try simp only [c7, c2, c3, c5, go_sem]
 obtain rfl := Option.some.inj h0
 refine AKev_ret rfl ?_
 try simp only [F74.rs, c2, c3, c5, c7, go_sem]
 have c7 := bnot_f c7
 try simp only [c7, c2, c3, c5, go_sem]
 obtain ⟨r14, yr14, h0⟩ := bs h0
 refine AKev_loopS yr14 (heat_wanted.h0 l1 x6) (heat_wanted.x0 x6) ?_ ?_ ?_
 refine Weak.go [4, 5, 8, 10, 40, 41, 42] [16, 17, 18, 19, 20, 32, 33, 34, 35, 36, 368, 464] rfl ?_
 try simp only [heat_wanted.h0, c2, c3, c5, c7, go_sem]
 rintro ⟨s8, i9⟩ x_1 Bk1 Br1 h1 hnext1 hbrk1 hret1
 refine rS ?_
 simp only [heat_wanted.b0] at h1
 try simp only [F74.s0, heat_wanted.h0, c2, c3, c5, c7, go_sem]
 refine AKev_bif h1 ?_ ?_ <;> intro c11 h1
 try simp only [c11, c2, c3, c5, c7, go_sem]
 obtain ⟨x12, yx12, h1⟩ := bs h1
 try simp only [aa yx12, c2, c3, c5, c7, c11, go_sem]
 obtain ⟨x13, yx13, h1⟩ := bs h1
 refine zc0 (heat_furnace_asked_ok k _ _ _ _ yx13) ?_ (by first | rfl | simp [AV.refsL, AV.refs, AV.scal, AV.leaf]) ?_
 try simp only [c2, c3, c5, c7, c11, aa yx12, go_sem]
 try simp only [c2, c3, c5, c7, c11, aa yx12, go_sem]
 refine AKev_backB (hnext1 _ _ (Option.some.inj h1).symm ?_)
 refine Weak.go [4, 5, 8, 10, 40, 41, 42] [0, 1, 2, 3, 4, 5, 6, 7, 8, 9, 10, 11] rfl ?_
 try simp only [heat_wanted.h0, c2, c3, c5, c7, c11, aa yx12, go_sem]
 try simp only [c11, c2, c3, c5, c7, go_sem]
 refine AKev_backB (hbrk1 _ _ (Option.some.inj h1).symm ?_)
 refine Weak.go [4, 5, 8, 10] [0, 1, 2, 3, 4, 5, 6, 7, 8, 9, 10, 11] rfl ?_
 try simp only [heat_wanted.x0, c2, c3, c5, c7, c11, go_sem]
 rintro s10 hr_
 subst hr_
 simp only at h0
 refine rS ?_
 try simp only [heat_wanted.x0, c2, c3, c5, c7, go_sem]
 refine AKev_region T_ok follows_ok 1000 ?_
 try simp only [c2, c3, c5, c7, go_sem]
 refine DG_done ⟨rfl, run_sound T_ok 1000 _ _ ?_⟩
 try simp only [c2, c3, c5, c7, go_sem]
 obtain rfl := Option.some.inj h0
 refine AKev_ret rfl ?_
 try simp only [F74.rs, c2, c3, c5, c7, go_sem]
 have c3 := bnot_f c3
 try simp only [c3, c2, go_sem]
 obtain rfl := Option.some.inj h0
 refine AKev_ret rfl ?_
 try simp only [F74.rs, c2, c3, go_sem]
def F33.s0 : SC :=
 (.seq
 (.reg [b2 28 .lss 3 27 26 3 0 []])
 (.seq
 (.cond (.tmp 28)
 .skip
 (.exit 0))
 (.seq
 (.block 1
 (.seq
 (.reg [ia 29 80 25 27 [],
 ld 30 79 29 [29],
 oq 10 (.alloc 79) 0 [],
 ⟨none, .store 79 (.tmp 10) (.tmp 30), 0, none, [30]⟩])
 (.seq
 (.reg [ld 31 94 6 [],
 fa 32 79 10 0 [],
 ld 33 3 32 [32],
 cf2 34 37 31 33 94 3 39 [31, 33],
 oq 11 (.alloc 39) 0 [],
 ⟨none, .store 39 (.tmp 11) (.tmp 34), 0, none, [34]⟩])
 (.seq
 (.reg [fa 35 39 11 0 [],
 ld 36 3 35 [35],
 fa 37 79 10 1 [],
 fa 38 39 37 0 [37],
 ld 39 3 38 [38],
 b2 40 .lss 3 36 39 3 4 [36, 39],
 mv 41 40 4 [40],
 og 42 (.fieldAddr 39 (.tmp 11) 1) 0 41 false [11],
 og 43 (.load 3 (.tmp 42)) 3 41 false [42],
 og 44 (.fieldAddr 79 (.tmp 10) 1) 0 41 false [10],
 og 45 (.fieldAddr 39 (.tmp 44) 1) 0 41 false [44],
 og 46 (.load 3 (.tmp 45)) 3 41 false [45],
 og 47 (.binOp .gtr 3 (.tmp 43) (.tmp 46) 3) 4 41 false [43, 46],
 oq 48 (.pick (.tmp 41) (.const (.bool true)) (.tmp 47)) 4 [41, 47]])
 (.cond (.tmp 48)
 (.seq
 (.reg [sn 4 2 3 [],
 sn 5 0 43 []])
 .ret)
 .skip)))))
 (.reg [bn 49 .add 3 27 1 3 3 [27],
 mv 27 49 3 [49]]))))
def F33.c : SC :=
 (.seq
 (.reg [oq 2 (.box 32 (.tmp 0)) 0 [0],
 sn 4 0 3 [4],
 sn 5 0 43 [5]])
 (.seq
 (.reg [ld 13 32 2 [2],
 mv 14 1 80 [],
 cf2 15 74 13 14 32 80 130 [13, 14],
 mv 12 15 130 [15],
 xt 16 12 0 94 [],
 xt 17 12 1 94 [],
 xt 18 12 2 43 [12],
 oq 6 (.alloc 94) 0 [],
 oq 7 (.alloc 94) 0 [],
 ⟨none, .store 94 (.tmp 6) (.tmp 16), 0, none, [16]⟩,
 ⟨none, .store 94 (.tmp 7) (.tmp 17), 0, none, [17]⟩,
 sg 8 18 43 [18]])
 (.seq
 (.seq
 (.reg [mv 19 8 43 [],
 bn 20 .neq 43 19 0 43 4 [19]])
 (.cond (.tmp 20)
 (.seq
 (.reg [mv 21 8 43 [8],
 sn 4 0 3 [],
 sg 5 21 43 [21]])
 .ret)
 .skip))
 (.seq
 (.seq
 (.reg [ld 22 94 7 [7],
 cf1 23 56 22 94 4 [22],
 oq 24 (.unOp .not 4 (.tmp 23)) 4 [23]])
 (.cond (.tmp 24)
 (.seq
 (.reg [sn 4 0 3 [],
 sn 5 0 43 []])
 .ret)
 .skip))
 (.seq
 (.seq
 (.reg [mv 25 1 80 [1],
 ln 26 25 80 3 [],
 oq 27 (.move (.const (.int .i64 0))) 3 []])
 (.block 0
 (.loop F33.s0)))
 (.seq
 (.reg [sn 4 1 3 [],
 sn 5 0 43 []])
 .ret))))))
theorem F33.rs : Try.f33.results.toList = [.tmp 4, .tmp 5] := rfl
def heat_Together.b0 (k : Nat) (l1 : (List Want)) (x1 : heat_furnace × heat_furnace × Int) : Int → Option (Stp (Int) (Unit) (Int × Int)) := fun (i5 : Int) =>
 bif decide (i5 < (l1.length : Int)) then
  (at? l1 i5).bind fun x7 =>
  (heat_furnace_bound k x1.1 x7.Place).bind fun x8 =>
  bif (!decide (x8.Lo < x7.Heat.Lo)) then
   bif decide (x7.Heat.Hi < x8.Hi) then
    some (.ret (2, 0))
   else
    some (.next (w64 (i5 + 1)))
  else
   some (.ret (2, 0))
 else
  some (.brk ())
noncomputable def heat_Together.h0 (l1 : (List Want)) (x1 : heat_furnace × heat_furnace × Int) : Int → St := fun (i5 : Int) => ⟨[(6, .ptr 0 0 0), (25, .sl 3 (List.map Want.c l1)), (26, .int .i64 (l1.length : Int)), (27, .int .i64 i5)], [(0, .box [.sl 1 (List.map (eL 2 Range.c) x1.1.Firing.Kiln.Falls), .sl 6 (List.map Reading.c x1.1.Firing.Readings), .sl 3 (List.map heat_limit.c x1.1.least), .sl 3 (List.map heat_limit.c x1.1.most)])], [], 1, Try.f33.ntmps⟩
noncomputable def heat_Together.x0 : Unit → St := fun (_ : Unit) => ⟨[], [], [], 1, Try.f33.ntmps⟩
def heat_Together (k : Nat) (f0 : Firing) (l1 : (List Want)) : Option (Int × Int) :=
 (heat_wanted k f0 l1).bind fun x1 =>
 bif (!decide (x1.2.2 = (0 : Int))) then
  some (0, x1.2.2)
 else
  (heat_furnace_sound k x1.2.1).bind fun x3 =>
  bif (!x3) then
   some (0, 0)
  else
   (whl (heat_Together.b0 k l1 x1) k 0).bind fun r11 => match r11 with
   | .next _ => none
   | .ret v_ => some v_
   | .brk _ =>
    some (1, 0)
theorem heat_Together_ok (k : Nat) (f0 : Firing) (l1 : (List Want)) (r : Int × Int) (h0 : heat_Together k f0 l1 = some r) : PCall Try.prog 33 [.agg (Firing.c f0), .sl 3 (List.map Want.c l1)] (fun y => y = .tup [.int .i64 r.1, .int .i64 r.2]) := by
 refine PB (fn := Try.f33) (sc := F33.c) ?_
 refine rS ?_
 simp only [heat_Together] at h0
 try simp only [F33.c, go_sem]
 obtain ⟨x1, yx1, h0⟩ := bs h0
 refine zc0 (heat_wanted_ok k _ _ _ yx1) ?_ (by first | rfl | simp [AV.refsL, AV.refs, AV.scal, AV.leaf]) ?_
 try simp only [go_sem]
 try simp only [go_sem]
 refine AKev_bif h0 ?_ ?_ <;> intro c2 h0
 have c2 := bnot_t c2
 try simp only [c2, go_sem]
 obtain rfl := Option.some.inj h0
 refine AKev_ret rfl ?_
 try simp only [F33.rs, c2, go_sem]
 have c2 := bnot_f c2
 try simp only [c2, go_sem]
 obtain ⟨x3, yx3, h0⟩ := bs h0
 refine zc0 (heat_furnace_sound_ok k _ _ yx3) ?_ (by first | rfl | simp [AV.refsL, AV.refs, AV.scal, AV.leaf]) ?_
 try simp only [c2, go_sem]
 try simp only [c2, go_sem]
 refine AKev_bif h0 ?_ ?_ <;> intro c4 h0
 have c4 := bnot_t c4
 try simp only [c4, c2, go_sem]
 obtain rfl := Option.some.inj h0
 refine AKev_ret rfl ?_
 try simp only [F33.rs, c2, c4, go_sem]
 have c4 := bnot_f c4
 try simp only [c4, c2, go_sem]
 obtain ⟨r11, yr11, h0⟩ := bs h0
 refine AKev_loopS yr11 (heat_Together.h0 l1 x1) (heat_Together.x0) ?_ ?_ ?_
 refine Weak.go [6, 25, 26, 27] [160] rfl ?_
 try simp only [heat_Together.h0, c2, c4, go_sem]
 rintro i5 x_1 Bk1 Br1 h1 hnext1 hbrk1 hret1
 refine rS ?_
 simp only [heat_Together.b0] at h1
 try simp only [F33.s0, heat_Together.h0, c2, c4, go_sem]
 refine AKev_bif h1 ?_ ?_ <;> intro c6 h1
 try simp only [c6, c2, c4, go_sem]
 obtain ⟨x7, yx7, h1⟩ := bs h1
 try simp only [aa yx7, c2, c4, c6, go_sem]
 obtain ⟨x8, yx8, h1⟩ := bs h1
 refine zc0 (heat_furnace_bound_ok k _ _ _ yx8) ?_ (by first | rfl | simp [AV.refsL, AV.refs, AV.scal, AV.leaf]) ?_
 try simp only [c2, c4, c6, aa yx7, go_sem]
 try simp only [c2, c4, c6, aa yx7, go_sem]
 refine AKev_bif h1 ?_ ?_ <;> intro c9 h1
 have c9 := bnot_t c9
 try simp only [c9, c2, c4, c6, aa yx7, go_sem]
 refine AKev_bif h1 ?_ ?_ <;> intro c10 h1
 try simp only [c10, c2, c4, c6, aa yx7, c9, go_sem]
 obtain rfl := hret1 _ (Option.some.inj h1).symm
 simp only at h0
 obtain rfl := Option.some.inj h0
 refine AKev_ret rfl ?_
 try simp only [F33.rs, c2, c4, c6, aa yx7, c9, c10, go_sem]
 try simp only [c10, c2, c4, c6, aa yx7, c9, go_sem]
 refine AKev_backB (hnext1 _ _ (Option.some.inj h1).symm ?_)
 refine Weak.go [6, 25, 26, 27] [0] rfl ?_
 try simp only [heat_Together.h0, c2, c4, c6, aa yx7, c9, c10, go_sem]
 have c9 := bnot_f c9
 try simp only [c9, c2, c4, c6, aa yx7, go_sem]
 obtain rfl := hret1 _ (Option.some.inj h1).symm
 simp only at h0
 obtain rfl := Option.some.inj h0
 refine AKev_ret rfl ?_
 try simp only [F33.rs, c2, c4, c6, aa yx7, c9, go_sem]
 try simp only [c6, c2, c4, go_sem]
 refine AKev_backB (hbrk1 _ _ (Option.some.inj h1).symm ?_)
 refine Weak.go [] [] rfl ?_
 try simp only [heat_Together.x0, c2, c4, c6, go_sem]
 rintro _ hr_
 subst hr_
 simp only at h0
 refine rS ?_
 try simp only [heat_Together.x0, c2, c4, go_sem]
 obtain rfl := Option.some.inj h0
 refine AKev_ret rfl ?_
 try simp only [F33.rs, c2, c4, go_sem]
def F32.c : SC :=
 (.seq
 (.reg [oq 3 (.box 32 (.tmp 0)) 0 [0],
 oq 5 (.box 39 (.tmp 2)) 0 [2],
 sn 6 0 3 [6],
 sn 7 0 43 [7]])
 (.seq
 (.block 0
 (.seq
 (.reg [ld 9 32 3 [],
 cf1 10 41 9 32 43 [9],
 bn 11 .neq 43 10 0 43 4 [10],
 sg 8 11 4 [11]])
 (.cond (.tmp 8)
 (.seq
 (.reg [sn 6 0 3 [],
 sn 7 42 43 []])
 .ret)
 (.seq
 (.reg [mv 13 1 3 [],
 fa 14 32 3 0 [],
 fa 15 29 14 0 [14],
 ld 16 27 15 [15],
 oq 17 (.indexAddr 27 (.tmp 16) (.const (.int .i64 0))) 0 [16],
 ld 18 40 17 [17],
 ln 19 18 40 3 [18],
 bn 20 .sub 3 19 1 3 3 [19],
 oq 21 (.call ⟨.value (.func 42), #[.tmp 13, .const (.int .i64 0), .tmp 20], #[3, 3, 3]⟩) 4 [13, 20],
 oq 22 (.unOp .not 4 (.tmp 21)) 4 [21],
 sg 12 22 4 [22]])
 (.cond (.tmp 12)
 (.seq
 (.reg [sn 6 0 3 [],
 sn 7 43 43 []])
 .ret)
 .skip)))))
 (.seq
 (.reg [ld 23 32 3 [3],
 mv 24 1 3 [1],
 ld 25 39 5 [5],
 oq 26 (.build 79 #[(0, .tmp 24), (1, .tmp 25)]) 79 [24, 25],
 oq 27 (.buildSlice 80 1 #[(0, .tmp 26)]) 80 [26],
 cf2 28 33 23 27 32 80 83 [23, 27],
 xt 29 28 0 3 [],
 xt 30 28 1 43 [28],
 sg 6 29 3 [29],
 sg 7 30 43 [30]])
 .ret)))
theorem F32.rs : Try.f32.results.toList = [.tmp 6, .tmp 7] := rfl
def heat_Verdict (k : Nat) (f0 : Firing) (place1 : Int) (want2 : Range) : Option (Int × Int) :=
 (heat_Check k f0).bind fun x1 =>
 bif (!decide (x1 = (0 : Int))) then
  some (0, 42)
 else
  (at? f0.Kiln.Falls 0).bind fun x3 =>
  (heat_in k place1 0 (w64 ((x3.length : Int) - 1))).bind fun x4 =>
  bif (!x4) then
   some (0, 43)
  else
   (heat_Together k f0 [(⟨place1, want2⟩ : Want)]).bind fun x6 =>
   some (x6.1, x6.2)
theorem heat_Verdict_ok (k : Nat) (f0 : Firing) (place1 : Int) (want2 : Range) (r : Int × Int) (h0 : heat_Verdict k f0 place1 want2 = some r) : PCall Try.prog 32 [.agg (Firing.c f0), .int .i64 place1, .agg (Range.c want2)] (fun y => y = .tup [.int .i64 r.1, .int .i64 r.2]) := by
 refine PB (fn := Try.f32) (sc := F32.c) ?_
 refine rS ?_
 simp only [heat_Verdict] at h0
 try simp only [F32.c, go_sem]
 obtain ⟨x1, yx1, h0⟩ := bs h0
 refine zc0 (heat_Check_ok k _ _ yx1) ?_ (by first | rfl | simp [AV.refsL, AV.refs, AV.scal, AV.leaf]) ?_
 try simp only [go_sem]
 try simp only [go_sem]
 refine AKev_bif h0 ?_ ?_ <;> intro c2 h0
 have c2 := bnot_t c2
 try simp only [c2, go_sem]
 obtain rfl := Option.some.inj h0
 refine AKev_ret rfl ?_
 try simp only [F32.rs, c2, go_sem]
 have c2 := bnot_f c2
 try simp only [c2, go_sem]
 obtain ⟨x3, yx3, h0⟩ := bs h0
 try simp only [aa yx3, c2, go_sem]
 obtain ⟨x4, yx4, h0⟩ := bs h0
 refine zc0 (heat_in_ok k _ _ _ _ yx4) ?_ (by first | rfl | simp [AV.refsL, AV.refs, AV.scal, AV.leaf]) ?_
 try simp only [c2, aa yx3, go_sem]
 try simp only [c2, aa yx3, go_sem]
 refine AKev_bif h0 ?_ ?_ <;> intro c5 h0
 have c5 := bnot_t c5
 try simp only [c5, c2, aa yx3, go_sem]
 obtain rfl := Option.some.inj h0
 refine AKev_ret rfl ?_
 try simp only [F32.rs, c2, aa yx3, c5, go_sem]
 have c5 := bnot_f c5
 try simp only [c5, c2, aa yx3, go_sem]
 obtain ⟨x6, yx6, h0⟩ := bs h0
 refine zc0 (heat_Together_ok k _ _ _ yx6) ?_ (by first | rfl | simp [AV.refsL, AV.refs, AV.scal, AV.leaf]) ?_
 try simp only [c2, aa yx3, c5, go_sem]
 try simp only [c2, aa yx3, c5, go_sem]
 obtain rfl := Option.some.inj h0
 refine AKev_ret rfl ?_
 try simp only [F32.rs, c2, aa yx3, c5, go_sem]
def F73.s1 : SC :=
 (.seq
 (.reg [b2 39 .lss 3 38 37 3 0 []])
 (.seq
 (.cond (.tmp 39)
 .skip
 (.exit 2))
 (.seq
 (.block 3
 (.seq
 (.reg [mv 40 38 3 [],
 ia 41 40 36 38 [],
 ld 42 39 41 [41],
 oq 10 (.alloc 39) 0 [],
 sg 9 40 3 [40],
 ⟨none, .store 39 (.tmp 10) (.tmp 42), 0, none, [42]⟩])
 (.seq
 (.reg [fa 43 39 10 0 [10],
 ld 44 3 43 [43],
 sg 11 44 3 [44]])
 (.seq
 (.seq
 (.reg [fa 46 94 1 2 [],
 ld 47 92 46 [46],
 mv 48 9 3 [9],
 oq 49 (.call ⟨.value (.func 89), #[.tmp 47, .tmp 48, .func 90], #[92, 3, 147]⟩) 137 [47, 48],
 mv 45 49 137 [49],
 xt 50 45 0 136 [],
 xt 51 45 1 4 [45],
 oq 12 (.alloc 136) 0 [],
 ⟨none, .store 136 (.tmp 12) (.tmp 50), 0, none, [50]⟩,
 sg 13 51 4 [51]])
 (.seq
 (.reg [mv 52 13 4 [13]])
 (.cond (.tmp 52)
 (.reg [mv 53 11 3 [11],
 mv 54 6 3 [],
 fa 55 136 12 1 [12],
 ld 56 3 55 [55],
 b2 57 .sub 3 54 56 3 3 [54, 56],
 oq 58 (.call ⟨.builtin .max, #[.tmp 53, .tmp 57], #[3, 3]⟩) 3 [53, 57],
 sg 11 58 3 [58]])
 .skip)))
 (.reg [mv 59 8 23 [8],
 mv 60 11 3 [11],
 oq 61 (.buildSlice 23 1 #[(0, .tmp 60)]) 23 [60],
 oq 62 (.call ⟨.builtin .append, #[.tmp 59, .tmp 61], #[23, 23]⟩) 23 [59, 61],
 sg 8 62 23 [62]])))))
 (.reg [bn 63 .add 3 38 1 3 3 [38],
 mv 38 63 3 [63]]))))
def F73.s0 : SC :=
 (.seq
 (.reg [b2 20 .lss 3 19 18 3 0 []])
 (.seq
 (.cond (.tmp 20)
 .skip
 (.exit 0))
 (.seq
 (.block 1
 (.seq
 (.reg [mv 21 19 3 [],
 ia 22 27 17 19 [],
 ld 23 40 22 [22],
 sg 4 21 3 [21],
 sg 5 23 40 [23]])
 (.seq
 (.reg [ld 25 94 1 [],
 mv 26 4 3 [4],
 cf2 27 88 25 26 94 3 141 [25, 26],
 mv 24 27 141 [27],
 xt 28 24 0 3 [],
 xt 29 24 1 3 [24],
 sg 6 28 3 [28],
 sg 7 29 3 [7, 29]])
 (.seq
 (.reg [fa 30 35 3 0 [],
 ld 31 23 30 [30],
 mv 32 6 3 [],
 oq 33 (.buildSlice 23 1 #[(0, .tmp 32)]) 23 [32],
 oq 34 (.call ⟨.builtin .append, #[.tmp 31, .tmp 33], #[23, 23]⟩) 23 [31, 33],
 fa 35 35 3 0 [],
 ⟨none, .store 23 (.tmp 35) (.tmp 34), 0, none, [34, 35]⟩])
 (.seq
 (.reg [oq 8 (.assign (.const (.slice none 0 0))) 23 []])
 (.seq
 (.seq
 (.reg [mv 36 5 40 [5],
 ln 37 36 40 3 [],
 oq 38 (.move (.const (.int .i64 0))) 3 []])
 (.block 2
 (.loop F73.s1)))
 (.reg [fa 64 35 3 1 [],
 ld 65 33 64 [64],
 mv 66 8 23 [8],
 oq 67 (.buildSlice 33 1 #[(0, .tmp 66)]) 33 [66],
 oq 68 (.call ⟨.builtin .append, #[.tmp 65, .tmp 67], #[33, 33]⟩) 33 [65, 67],
 fa 69 35 3 1 [],
 ⟨none, .store 33 (.tmp 69) (.tmp 68), 0, none, [68, 69]⟩])))))))
 (.reg [bn 70 .add 3 19 1 3 3 [19],
 mv 19 70 3 [70]]))))
def F73.c : SC :=
 (.seq
 (.reg [oq 1 (.box 94 (.tmp 0)) 0 [0],
 oq 2 (.alloc 35) 0 []])
 (.seq
 (.reg [oq 3 (.alloc 35) 0 []])
 (.seq
 (.seq
 (.reg [fa 14 94 1 0 [],
 fa 15 32 14 0 [14],
 fa 16 29 15 0 [15],
 ld 17 27 16 [16],
 ln 18 17 27 3 [],
 oq 19 (.move (.const (.int .i64 0))) 3 []])
 (.block 0
 (.loop F73.s0)))
 (.seq
 (.reg [ld 71 35 3 [3],
 ⟨none, .store 35 (.tmp 2) (.tmp 71), 0, none, [71]⟩])
 .ret))))
theorem F73.rs : Try.f73.results.toList = [.cell 2 35] := rfl
def heat_furnace_greatest.b1 (k : Nat) (f0 : heat_furnace) (x7 : (List Range)) (x8 : Int × Int) : (Int × (List Int)) → Option (Stp (Int × (List Int)) ((List Int)) (Field)) := fun (s : Int × (List Int)) => match s with
 | (i10, l11) =>
   bif decide (i10 < (x7.length : Int)) then
    (at? x7 i10).bind fun x14 =>
    (heat_best k f0.most i10 (fun q0 q1 => heat_less k q0 q1)).bind fun x15 =>
    bif x15.2 then
     (push? 8 l11 (max x14.Lo (w64 (x8.1 - x15.1.heat)))).bind fun l17 =>
     some (.next (w64 (i10 + 1), l17))
    else
     (push? 8 l11 x14.Lo).bind fun l18 =>
     some (.next (w64 (i10 + 1), l18))
   else
    some (.brk l11)
def heat_furnace_greatest.b0 (k : Nat) (f0 : heat_furnace) : (Int × (List Int) × (List (List Int))) → Option (Stp (Int × (List Int) × (List (List Int))) ((List Int) × (List (List Int))) (Field)) := fun (s : Int × (List Int) × (List (List Int))) => match s with
 | (i1, l2, l3) =>
   bif decide (i1 < (f0.Firing.Kiln.Falls.length : Int)) then
    (at? f0.Firing.Kiln.Falls i1).bind fun x7 =>
    (heat_furnace_hottest k f0 i1).bind fun x8 =>
    (push? 8 l2 x8.1).bind fun l9 =>
    (whl (heat_furnace_greatest.b1 k f0 x7 x8) k (0, [])).bind fun r19 => match r19 with
    | .next _ => none
    | .ret v_ => some (.ret v_)
    | .brk l12 =>
     (push? 24 l3 l12).bind fun l20 =>
     some (.next (w64 (i1 + 1), l9, l20))
   else
    some (.brk (l2, l3))
noncomputable def heat_furnace_greatest.h1 (f0 : heat_furnace) (i1 : Int) (l2 : (List Int)) (l3 : (List (List Int))) (x7 : (List Range)) (x8 : Int × Int) (l9 : List Int) : (Int × (List Int)) → St := fun (s : Int × (List Int)) => match s with
 | (i10, l11) => ⟨[(1, .ptr 0 0 0), (2, .ptr 0 1 0), (3, .ptr 0 4 0), (6, .int .i64 x8.1), (8, .loc 0 7 1 0 l11.length l11.length), (17, .sl 1 (List.map (eL 2 Range.c) f0.Firing.Kiln.Falls)), (18, .int .i64 (f0.Firing.Kiln.Falls.length : Int)), (19, .int .i64 i1), (36, .sl 2 (List.map Range.c x7)), (37, .int .i64 (x7.length : Int)), (38, .int .i64 i10)], [(0, .box [.sl 1 (List.map (eL 2 Range.c) f0.Firing.Kiln.Falls), .sl 6 (List.map Reading.c f0.Firing.Readings), .sl 3 (List.map heat_limit.c f0.least), .sl 3 (List.map heat_limit.c f0.most)]), (1, .box [.loc 0 2 1 0 0 0, .loc 0 3 1 0 0 0]), (2, .arr 3 1 (List.map eI [])), (3, .arr 23 1 (List.map (eL 1 eI) [])), (4, .box [.loc 0 5 1 0 (l2.length + 1) (l2.length + 1), .loc 0 6 1 0 l3.length l3.length]), (5, .arr 3 1 (List.map eI l9)), (6, .arr 23 1 (List.map (eL 1 eI) l3)), (7, .arr 3 1 (List.map eI l11))], [], 8, Try.f73.ntmps⟩
noncomputable def heat_furnace_greatest.x1 (f0 : heat_furnace) (i1 : Int) (l2 : (List Int)) (l3 : (List (List Int))) (l9 : List Int) : (List Int) → St := fun (l12 : (List Int)) => ⟨[(1, .ptr 0 0 0), (2, .ptr 0 1 0), (3, .ptr 0 4 0), (8, .loc 0 7 1 0 l12.length l12.length), (17, .sl 1 (List.map (eL 2 Range.c) f0.Firing.Kiln.Falls)), (18, .int .i64 (f0.Firing.Kiln.Falls.length : Int)), (19, .int .i64 i1)], [(0, .box [.sl 1 (List.map (eL 2 Range.c) f0.Firing.Kiln.Falls), .sl 6 (List.map Reading.c f0.Firing.Readings), .sl 3 (List.map heat_limit.c f0.least), .sl 3 (List.map heat_limit.c f0.most)]), (1, .box [.loc 0 2 1 0 0 0, .loc 0 3 1 0 0 0]), (2, .arr 3 1 (List.map eI [])), (3, .arr 23 1 (List.map (eL 1 eI) [])), (4, .box [.loc 0 5 1 0 (l2.length + 1) (l2.length + 1), .loc 0 6 1 0 l3.length l3.length]), (5, .arr 3 1 (List.map eI l9)), (6, .arr 23 1 (List.map (eL 1 eI) l3)), (7, .arr 3 1 (List.map eI l12))], [], 8, Try.f73.ntmps⟩
noncomputable def heat_furnace_greatest.h0 (f0 : heat_furnace) : (Int × (List Int) × (List (List Int))) → St := fun (s : Int × (List Int) × (List (List Int))) => match s with
 | (i1, l2, l3) => ⟨[(1, .ptr 0 0 0), (2, .ptr 0 1 0), (3, .ptr 0 4 0), (17, .sl 1 (List.map (eL 2 Range.c) f0.Firing.Kiln.Falls)), (18, .int .i64 (f0.Firing.Kiln.Falls.length : Int)), (19, .int .i64 i1)], [(0, .box [.sl 1 (List.map (eL 2 Range.c) f0.Firing.Kiln.Falls), .sl 6 (List.map Reading.c f0.Firing.Readings), .sl 3 (List.map heat_limit.c f0.least), .sl 3 (List.map heat_limit.c f0.most)]), (1, .box [.loc 0 2 1 0 0 0, .loc 0 3 1 0 0 0]), (2, .arr 3 1 (List.map eI [])), (3, .arr 23 1 (List.map (eL 1 eI) [])), (4, .box [.loc 0 5 1 0 l2.length l2.length, .loc 0 6 1 0 l3.length l3.length]), (5, .arr 3 1 (List.map eI l2)), (6, .arr 23 1 (List.map (eL 1 eI) l3))], [], 7, Try.f73.ntmps⟩
noncomputable def heat_furnace_greatest.x0 : ((List Int) × (List (List Int))) → St := fun (s : (List Int) × (List (List Int))) => match s with
 | (l4, l5) => ⟨[(2, .ptr 0 0 0), (3, .ptr 0 3 0)], [(0, .box [.loc 0 1 1 0 0 0, .loc 0 2 1 0 0 0]), (1, .arr 3 1 (List.map eI [])), (2, .arr 23 1 (List.map (eL 1 eI) [])), (3, .box [.loc 0 4 1 0 l4.length l4.length, .loc 0 5 1 0 l5.length l5.length]), (4, .arr 3 1 (List.map eI l4)), (5, .arr 23 1 (List.map (eL 1 eI) l5))], [], 6, Try.f73.ntmps⟩
def heat_furnace_greatest (k : Nat) (f0 : heat_furnace) : Option (Field) :=
 (whl (heat_furnace_greatest.b0 k f0) k (0, [], [])).bind fun r21 => match r21 with
 | .next _ => none
 | .ret v_ => some v_
 | .brk (l4, l5) =>
  some (⟨l4, l5⟩ : Field)
theorem heat_furnace_greatest_ok (k : Nat) (f0 : heat_furnace) (r : Field) (h0 : heat_furnace_greatest k f0 = some r) : PCall Try.prog 73 [.agg (heat_furnace.c f0)] (fun y => y = .agg (Field.c r)) := by
 refine PB (fn := Try.f73) (sc := F73.c) ?_
 refine rS ?_
 simp only [heat_furnace_greatest] at h0
 try simp only [F73.c, go_sem]
 obtain ⟨r21, yr21, h0⟩ := bs h0
 refine AKev_loopS yr21 (heat_furnace_greatest.h0 f0) (heat_furnace_greatest.x0) ?_ ?_ ?_
 refine Weak.go [1, 2, 3, 17, 18, 19] [0, 16, 17, 18, 32, 33, 34] rfl ?_
 try simp only [heat_furnace_greatest.h0, go_sem]
 rintro ⟨i1, l2, l3⟩ x_1 Bk1 Br1 h1 hnext1 hbrk1 hret1
 refine rS ?_
 simp only [heat_furnace_greatest.b0] at h1
 try simp only [F73.s0, heat_furnace_greatest.h0, go_sem]
 refine AKev_bif h1 ?_ ?_ <;> intro c6 h1
 try simp only [c6, go_sem]
 obtain ⟨x7, yx7, h1⟩ := bs h1
 try simp only [aa yx7, c6, go_sem]
 obtain ⟨x8, yx8, h1⟩ := bs h1
 refine zc0 (heat_furnace_hottest_ok k _ _ _ yx8) ?_ (by first | rfl | simp [AV.refsL, AV.refs, AV.scal, AV.leaf]) ?_
 try simp only [c6, aa yx7, go_sem]
 try simp only [c6, aa yx7, go_sem]
 obtain ⟨l9, yl9, h1⟩ := bs h1
 have eyl9 := push_map eI yl9
 have tyl9 := push_take eI yl9
 have nyl9 := push_len yl9
 have myl9 := push_room yl9
 try simp only [c6, aa yx7, go_sem] at eyl9 tyl9 nyl9 myl9
 try simp only [myl9, eyl9, c6, aa yx7, nyl9, tyl9, go_sem]
 obtain ⟨r19, yr19, h1⟩ := bs h1
 refine AKev_loopS yr19 (heat_furnace_greatest.h1 f0 i1 l2 l3 x7 x8 l9) (heat_furnace_greatest.x1 f0 i1 l2 l3 l9) ?_ ?_ ?_
 refine Weak.go [1, 2, 3, 6, 8, 17, 18, 19, 36, 37, 38] [0, 1, 2, 3, 4, 5, 6, 343] rfl ?_
 try simp only [heat_furnace_greatest.h1, c6, aa yx7, eyl9, nyl9, tyl9, go_sem]
 rintro ⟨i10, l11⟩ x_2 Bk2 Br2 h2 hnext2 hbrk2 hret2
 refine rS ?_
 simp only [heat_furnace_greatest.b1] at h2
 try simp only [F73.s1, heat_furnace_greatest.h1, c6, aa yx7, eyl9, nyl9, tyl9, go_sem]
 refine AKev_bif h2 ?_ ?_ <;> intro c13 h2
 try simp only [c13, c6, aa yx7, eyl9, nyl9, tyl9, go_sem]
 obtain ⟨x14, yx14, h2⟩ := bs h2
 try simp only [aa yx14, c6, aa yx7, eyl9, nyl9, tyl9, c13, go_sem]
 obtain ⟨x15, yx15, h2⟩ := bs h2
 refine zc0 (heat_best_ok k _ _ 90 [] ⟨fun _ => rfl, fun _ => rfl, fun _ _ => rfl, rfl, fun _ => rfl, fun _ => rfl, fun _ => rfl⟩ (fun q0 q1 => heat_less k q0 q1) (fun q0 q1 qr qh => heat_less_ok k q0 q1 qr qh) _ yx15) ?_ (by first | rfl | simp [AV.refsL, AV.refs, AV.scal, AV.leaf]) ?_
 try simp only [c6, aa yx7, eyl9, nyl9, tyl9, c13, aa yx14, go_sem]
 try simp only [c6, aa yx7, eyl9, nyl9, tyl9, c13, aa yx14, go_sem]
 refine AKev_bif h2 ?_ ?_ <;> intro c16 h2
 try simp only [c16, c6, aa yx7, eyl9, nyl9, tyl9, c13, aa yx14, go_sem]
 obtain ⟨l17, yl17, h2⟩ := bs h2
 have eyl17 := push_map eI yl17
 have tyl17 := push_take eI yl17
 have nyl17 := push_len yl17
 have myl17 := push_room yl17
 try simp only [c6, aa yx7, eyl9, nyl9, tyl9, c13, aa yx14, c16, go_sem] at eyl17 tyl17 nyl17 myl17
 try simp only [myl17, eyl17, c6, aa yx7, eyl9, nyl9, tyl9, c13, aa yx14, c16, nyl17, tyl17, go_sem]
 refine AKev_backB (hnext2 _ _ (Option.some.inj h2).symm ?_)
 refine Weak.go [1, 2, 3, 6, 8, 17, 18, 19, 36, 37, 38] [0, 1, 2, 3, 4, 5, 6, 7] rfl ?_
 try simp only [heat_furnace_greatest.h1, c6, aa yx7, eyl9, nyl9, tyl9, c13, aa yx14, c16, eyl17, nyl17, tyl17, go_sem]
 try simp only [c16, c6, aa yx7, eyl9, nyl9, tyl9, c13, aa yx14, go_sem]
 obtain ⟨l18, yl18, h2⟩ := bs h2
 have eyl18 := push_map eI yl18
 have tyl18 := push_take eI yl18
 have nyl18 := push_len yl18
 have myl18 := push_room yl18
 try simp only [c6, aa yx7, eyl9, nyl9, tyl9, c13, aa yx14, c16, go_sem] at eyl18 tyl18 nyl18 myl18
 try simp only [myl18, eyl18, c6, aa yx7, eyl9, nyl9, tyl9, c13, aa yx14, c16, nyl18, tyl18, go_sem]
 refine AKev_backB (hnext2 _ _ (Option.some.inj h2).symm ?_)
 refine Weak.go [1, 2, 3, 6, 8, 17, 18, 19, 36, 37, 38] [0, 1, 2, 3, 4, 5, 6, 7] rfl ?_
 try simp only [heat_furnace_greatest.h1, c6, aa yx7, eyl9, nyl9, tyl9, c13, aa yx14, c16, eyl18, nyl18, tyl18, go_sem]
 try simp only [c13, c6, aa yx7, eyl9, nyl9, tyl9, go_sem]
 refine AKev_backB (hbrk2 _ _ (Option.some.inj h2).symm ?_)
 refine Weak.go [1, 2, 3, 8, 17, 18, 19] [0, 1, 2, 3, 4, 5, 6, 7] rfl ?_
 try simp only [heat_furnace_greatest.x1, c6, aa yx7, eyl9, nyl9, tyl9, c13, go_sem]
 rintro l12 hr_
 subst hr_
 simp only at h1
 refine rS ?_
 try simp only [heat_furnace_greatest.x1, c6, aa yx7, eyl9, nyl9, tyl9, go_sem]
 obtain ⟨l20, yl20, h1⟩ := bs h1
 have eyl20 := push_map (eL 1 eI) yl20
 have tyl20 := push_take (eL 1 eI) yl20
 have nyl20 := push_len yl20
 have myl20 := push_room yl20
 try simp only [c6, aa yx7, eyl9, nyl9, tyl9, go_sem] at eyl20 tyl20 nyl20 myl20
 try simp only [myl20, eyl20, c6, aa yx7, eyl9, nyl9, tyl9, nyl20, tyl20, go_sem]
 refine AKev_backB (hnext1 _ _ (Option.some.inj h1).symm ?_)
 refine Weak.go [1, 2, 3, 17, 18, 19] [0, 1, 2, 3, 4, 5, 6] rfl ?_
 try simp only [heat_furnace_greatest.h0, c6, aa yx7, eyl9, nyl9, tyl9, eyl20, nyl20, tyl20, go_sem]
 try simp only [c6, go_sem]
 refine AKev_backB (hbrk1 _ _ (Option.some.inj h1).symm ?_)
 refine Weak.go [2, 3] [1, 2, 3, 4, 5, 6] rfl ?_
 try simp only [heat_furnace_greatest.x0, c6, go_sem]
 rintro ⟨l4, l5⟩ hr_
 subst hr_
 simp only at h0
 refine rS ?_
 try simp only [heat_furnace_greatest.x0, go_sem]
 obtain rfl := Option.some.inj h0
 refine AKev_ret rfl ?_
 try simp only [F73.rs, go_sem]
def F38.c : SC :=
 (.seq
 (.reg [oq 1 (.box 32 (.tmp 0)) 0 [0],
 oq 2 (.assign (.const (.slice none 0 0))) 23 [2],
 sn 3 0 43 [3]])
 (.seq
 (.reg [ld 7 32 1 [1],
 oq 8 (.call ⟨.value (.func 36), #[.tmp 7, .const (.int .i64 0)], #[32, 3]⟩) 95 [7],
 mv 6 8 95 [8],
 xt 9 6 0 94 [],
 xt 10 6 1 43 [6],
 oq 4 (.alloc 94) 0 [],
 ⟨none, .store 94 (.tmp 4) (.tmp 9), 0, none, [9]⟩,
 sg 5 10 43 [10]])
 (.seq
 (.seq
 (.reg [mv 11 5 43 [],
 bn 12 .neq 43 11 0 43 4 [11]])
 (.cond (.tmp 12)
 (.seq
 (.reg [mv 13 5 43 [5],
 oq 2 (.assign (.const (.slice none 0 0))) 23 [],
 sg 3 13 43 [13]])
 .ret)
 .skip))
 (.seq
 (.reg [ld 14 94 4 [4],
 cf1 15 73 14 94 35 [14],
 oq 16 (.field 35 (.tmp 15) 0) 23 [15],
 sg 2 16 23 [16],
 sn 3 0 43 []])
 .ret))))
theorem F38.rs : Try.f38.results.toList = [.tmp 2, .tmp 3] := rfl
def heat_Hottest (k : Nat) (f0 : Firing) : Option ((List Int) × Int) :=
 (heat_asks k f0 0).bind fun x1 =>
 bif (!decide (x1.2 = (0 : Int))) then
  some ([], x1.2)
 else
  (heat_furnace_greatest k x1.1).bind fun x3 =>
  some (x3.Mouths, 0)
theorem heat_Hottest_ok (k : Nat) (f0 : Firing) (r : (List Int) × Int) (h0 : heat_Hottest k f0 = some r) : PCall Try.prog 38 [.agg (Firing.c f0)] (fun y => y = .tup [.sl 1 (List.map eI r.1), .int .i64 r.2]) := by
 refine PB (fn := Try.f38) (sc := F38.c) ?_
 refine rS ?_
 simp only [heat_Hottest] at h0
 try simp only [F38.c, go_sem]
 obtain ⟨x1, yx1, h0⟩ := bs h0
 refine zc0 (heat_asks_ok k _ _ _ yx1) ?_ (by first | rfl | simp [AV.refsL, AV.refs, AV.scal, AV.leaf]) ?_
 try simp only [go_sem]
 try simp only [go_sem]
 refine AKev_bif h0 ?_ ?_ <;> intro c2 h0
 have c2 := bnot_t c2
 try simp only [c2, go_sem]
 obtain rfl := Option.some.inj h0
 refine AKev_ret rfl ?_
 try simp only [F38.rs, c2, go_sem]
 have c2 := bnot_f c2
 try simp only [c2, go_sem]
 obtain ⟨x3, yx3, h0⟩ := bs h0
 refine zc0 (heat_furnace_greatest_ok k _ _ yx3) ?_ (by first | rfl | simp [AV.refsL, AV.refs, AV.scal, AV.leaf]) ?_
 try simp only [c2, go_sem]
 try simp only [c2, go_sem]
 obtain rfl := Option.some.inj h0
 refine AKev_ret rfl ?_
 try simp only [F38.rs, c2, go_sem]
def F40.c : SC :=
 (.seq
 (.reg [oq 0 (.alloc 29) 0 []])
 (.seq
 (.reg [oq 4 (.build 39 #[(0, .const (.int .i64 100)), (1, .const (.int .i64 200))]) 39 [],
 oq 1 (.alloc 39) 0 [],
 ⟨none, .store 39 (.tmp 1) (.tmp 4), 0, none, [4]⟩])
 (.seq
 (.reg [oq 5 (.build 39 #[(0, .const (.int .i64 300)), (1, .const (.int .i64 400))]) 39 [],
 oq 2 (.alloc 39) 0 [],
 ⟨none, .store 39 (.tmp 2) (.tmp 5), 0, none, [5]⟩])
 (.seq
 (.reg [oq 6 (.build 39 #[(0, .const (.int .i64 600)), (1, .const (.int .i64 800))]) 39 [],
 oq 3 (.alloc 39) 0 [],
 ⟨none, .store 39 (.tmp 3) (.tmp 6), 0, none, [6]⟩])
 (.seq
 (.reg [ld 7 39 1 [],
 ld 8 39 2 [],
 ld 9 39 3 [],
 oq 10 (.buildSlice 40 3 #[(0, .tmp 7), (1, .tmp 8), (2, .tmp 9)]) 40 [7, 8, 9],
 ld 11 39 3 [3],
 ld 12 39 2 [2],
 ld 13 39 1 [1],
 oq 14 (.buildSlice 40 3 #[(0, .tmp 11), (1, .tmp 12), (2, .tmp 13)]) 40 [11, 12, 13],
 oq 15 (.buildSlice 27 2 #[(0, .tmp 10), (1, .tmp 14)]) 27 [10, 14],
 oq 16 (.build 29 #[(0, .tmp 15)]) 29 [15],
 ⟨none, .store 29 (.tmp 0) (.tmp 16), 0, none, [16]⟩])
 .ret)))))
theorem F40.rs : Try.f40.results.toList = [.cell 0 29] := rfl
def L04_kiln (k : Nat) : Option (Kiln) :=
 some (⟨[[(⟨100, 200⟩ : Range), (⟨300, 400⟩ : Range), (⟨600, 800⟩ : Range)], [(⟨600, 800⟩ : Range), (⟨300, 400⟩ : Range), (⟨100, 200⟩ : Range)]]⟩ : Kiln)
theorem L04_kiln_ok (k : Nat) (r : Kiln) (h0 : L04_kiln k = some r) : PCall Try.prog 40 [] (fun y => y = .agg (Kiln.c r)) := by
 refine PB (fn := Try.f40) (sc := F40.c) ?_
 refine rS ?_
 simp only [L04_kiln] at h0
 try simp only [F40.c, go_sem]
 obtain rfl := Option.some.inj h0
 refine AKev_ret rfl ?_
 try simp only [F40.rs, go_sem]
def F39.c : SC :=
 (.seq
 (.reg [oq 0 (.alloc 32) 0 []])
 (.seq
 (.reg [oq 1 (.call ⟨.value (.func 40), #[], #[]⟩) 29 [],
 oq 2 (.build 60 #[(0, .const (.int .i64 1)), (2, .const (.int .i64 1)), (3, .const (.int .i64 1000))]) 60 [],
 oq 3 (.build 60 #[(0, .const (.int .i64 2)), (2, .const (.int .i64 2)), (3, .const (.int .i64 1101))]) 60 [],
 oq 4 (.build 60 #[(0, .const (.int .i64 3)), (1, .const (.int .i64 2)), (2, .const (.int .i64 2)), (3, .const (.int .i64 901))]) 60 [],
 oq 5 (.buildSlice 30 3 #[(0, .tmp 2), (1, .tmp 3), (2, .tmp 4)]) 30 [2, 3, 4],
 oq 6 (.build 32 #[(0, .tmp 1), (1, .tmp 5)]) 32 [1, 5],
 ⟨none, .store 32 (.tmp 0) (.tmp 6), 0, none, [6]⟩])
 .ret))
theorem F39.rs : Try.f39.results.toList = [.cell 0 32] := rfl
def L04_firing_o (k : Nat) : Option (Firing) :=
 (L04_kiln k).bind fun x1 =>
 some (⟨x1, [(⟨1, 0, 1, 1000, (⟨0, 0⟩ : Range)⟩ : Reading), (⟨2, 0, 2, 1101, (⟨0, 0⟩ : Range)⟩ : Reading), (⟨3, 2, 2, 901, (⟨0, 0⟩ : Range)⟩ : Reading)]⟩ : Firing)
theorem L04_firing_o_ok (k : Nat) (r : Firing) (h0 : L04_firing_o k = some r) : GCall Try.prog 39 [] [] (fun y fr => y = .agg [.sl 1 (List.map (eL 2 Range.c) r.Kiln.Falls), .loc 0 0 6 0 r.Readings.length r.Readings.length] ∧ fr = [(0, .arr 60 6 (List.map Reading.c r.Readings))]) := by
 refine GCall.of_body T_ok (f := 39) (fn := Try.f39) (sc := F39.c) (by rfl) (by rfl) (by decide +kernel) (by rfl) (by decide +kernel) (Nat.le_of_ble_eq_true rfl) (fun H => ?_)
 refine rS ?_
 simp only [L04_firing_o] at h0
 try simp only [F39.c, go_sem]
 obtain ⟨x1, yx1, h0⟩ := bs h0
 refine zc0 (L04_kiln_ok k _ yx1) ?_ (by first | rfl | simp [AV.refsL, AV.refs, AV.scal, AV.leaf]) ?_
 try simp only [go_sem]
 try simp only [go_sem]
 obtain rfl := Option.some.inj h0
 refine AKev_gown [96] (by simp) rfl rfl ?_
 try simp only [F39.rs, gwOK, tupOf, Option.bind_some, go_sem]
def F14.c : SC :=
 (.seq
 (.reg [sb 0 false 4 [0]])
 (.seq
 (.reg [oq 12 (.call ⟨.value (.func 39), #[], #[]⟩) 32 [],
 cf1 13 38 12 32 53 [12],
 mv 11 13 53 [13],
 xt 14 11 0 23 [],
 xt 15 11 1 43 [11],
 sg 1 14 23 [14],
 sg 2 15 43 [15]])
 (.seq
 (.reg [oq 17 (.call ⟨.value (.func 39), #[], #[]⟩) 32 [],
 oq 18 (.call ⟨.value (.func 13), #[.tmp 17, .const (.int .i64 1)], #[32, 3]⟩) 44 [17],
 mv 16 18 44 [18],
 xt 19 16 0 39 [],
 xt 20 16 1 43 [16],
 oq 3 (.alloc 39) 0 [],
 ⟨none, .store 39 (.tmp 3) (.tmp 19), 0, none, [19]⟩,
 sg 4 20 43 [20]])
 (.seq
 (.reg [oq 22 (.call ⟨.value (.func 39), #[], #[]⟩) 32 [],
 oq 23 (.build 39 #[(0, .const (.int .i64 900)), (1, .const (.int .i64 950))]) 39 [],
 oq 24 (.call ⟨.value (.func 32), #[.tmp 22, .const (.int .i64 1), .tmp 23], #[32, 3, 39]⟩) 83 [22, 23],
 mv 21 24 83 [24],
 xt 25 21 0 3 [],
 xt 26 21 1 43 [21],
 sg 5 25 3 [25],
 sg 6 26 43 [26]])
 (.seq
 (.reg [oq 28 (.call ⟨.value (.func 40), #[], #[]⟩) 29 [],
 oq 29 (.call ⟨.value (.func 39), #[], #[]⟩) 32 [],
 oq 30 (.field 32 (.tmp 29) 1) 30 [29],
 oq 31 (.build 60 #[(0, .const (.int .i64 4)), (1, .const (.int .i64 1)), (2, .const (.int .i64 2)), (3, .const (.int .i64 600))]) 60 [],
 oq 32 (.buildSlice 30 1 #[(0, .tmp 31)]) 30 [31],
 oq 33 (.call ⟨.builtin .append, #[.tmp 30, .tmp 32], #[30, 30]⟩) 30 [30, 32],
 oq 34 (.build 32 #[(0, .tmp 28), (1, .tmp 33)]) 32 [28, 33],
 cf1 35 22 34 32 53 [34],
 mv 27 35 53 [35],
 xt 36 27 0 23 [],
 xt 37 27 1 43 [27],
 sg 7 36 23 [36],
 sg 8 37 43 [37]])
 (.seq
 (.reg [oq 38 (.call ⟨.value (.func 39), #[], #[]⟩) 32 [],
 oq 39 (.buildSlice 23 2 #[(0, .const (.int .i64 (-1))), (1, .const (.int .i64 2))]) 23 [],
 oq 40 (.build 51 #[(0, .const (.int .i64 0)), (1, .tmp 39)]) 51 [39],
 oq 41 (.call ⟨.value (.func 17), #[.tmp 38, .const (.int .i64 1), .const (.bool false), .const (.int .i64 700), .tmp 40], #[32, 3, 4, 3, 51]⟩) 43 [38, 40],
 sg 9 41 43 [41]])
 (.seq
 (.reg [mv 42 2 43 [2],
 bn 43 .eql 43 42 0 43 4 [42],
 mv 44 43 4 [43],
 og 45 (.move (.tmp 4)) 43 44 true [4],
 og 46 (.binOp .eql 43 (.tmp 45) (.const (.int .i64 0)) 43) 4 44 true [45],
 oq 47 (.pick (.tmp 44) (.tmp 46) (.const (.bool false))) 4 [44, 46],
 mv 48 47 4 [47],
 og 49 (.move (.tmp 6)) 43 48 true [6],
 og 50 (.binOp .eql 43 (.tmp 49) (.const (.int .i64 0)) 43) 4 48 true [49],
 oq 51 (.pick (.tmp 48) (.tmp 50) (.const (.bool false))) 4 [48, 50],
 mv 52 51 4 [51],
 og 53 (.move (.tmp 8)) 43 52 true [8],
 og 54 (.binOp .eql 43 (.tmp 53) (.const (.int .i64 0)) 43) 4 52 true [53],
 oq 55 (.pick (.tmp 52) (.tmp 54) (.const (.bool false))) 4 [52, 54],
 mv 56 55 4 [55],
 og 57 (.move (.tmp 9)) 43 56 true [9],
 og 58 (.binOp .eql 43 (.tmp 57) (.const (.int .i64 0)) 43) 4 56 true [57],
 oq 59 (.pick (.tmp 56) (.tmp 58) (.const (.bool false))) 4 [56, 58],
 sg 10 59 4 [59]])
 (.seq
 (.reg [mv 60 10 4 [10],
 mv 61 60 4 [60],
 og 62 (.move (.tmp 1)) 23 61 true [1],
 og 63 (.buildSlice 23 2 #[(0, .const (.int .i64 1300)), (1, .const (.int .i64 1100))]) 23 61 true [],
 og 64 (.call ⟨.value (.func 19), #[.tmp 62, .tmp 63], #[23, 23]⟩) 4 61 true [62, 63],
 oq 65 (.pick (.tmp 61) (.tmp 64) (.const (.bool false))) 4 [61, 64],
 mv 66 65 4 [65],
 og 67 (.load 39 (.tmp 3)) 39 66 true [3],
 og 68 (.build 39 #[(0, .const (.int .i64 700)), (1, .const (.int .i64 1000))]) 39 66 true [],
 og 69 (.binOp .eql 39 (.tmp 67) (.tmp 68) 39) 4 66 true [67, 68],
 oq 70 (.pick (.tmp 66) (.tmp 69) (.const (.bool false))) 4 [66, 69],
 mv 71 70 4 [70],
 og 72 (.move (.tmp 5)) 3 71 true [5],
 og 73 (.binOp .eql 3 (.tmp 72) (.const (.int .i64 2)) 3) 4 71 true [72],
 oq 74 (.pick (.tmp 71) (.tmp 73) (.const (.bool false))) 4 [71, 73],
 mv 75 74 4 [74],
 og 76 (.move (.tmp 7)) 23 75 true [7],
 og 77 (.buildSlice 23 2 #[(0, .const (.int .i64 1)), (1, .const (.int .i64 4))]) 23 75 true [],
 og 78 (.call ⟨.value (.func 19), #[.tmp 76, .tmp 77], #[23, 23]⟩) 4 75 true [76, 77],
 oq 79 (.pick (.tmp 75) (.tmp 78) (.const (.bool false))) 4 [75, 78],
 sg 0 79 4 [79]])
 .ret))))))))
theorem F14.rs : Try.f14.results.toList = [.tmp 0] := rfl
def L04_sane (k : Nat) : Option (Bool) :=
 (L04_firing_o k).bind fun x2 =>
 (heat_Hottest k x2).bind fun x3 =>
 (L04_firing_o k).bind fun x5 =>
 (heat_Bound k x5 1).bind fun x6 =>
 (L04_firing_o k).bind fun x8 =>
 (heat_Verdict k x8 1 (⟨900, 950⟩ : Range)).bind fun x9 =>
 (L04_kiln k).bind fun x10 =>
 (L04_firing_o k).bind fun x12 =>
 (push? 48 x12.Readings (⟨4, 1, 2, 600, (⟨0, 0⟩ : Range)⟩ : Reading)).bind fun l13 =>
 (heat_Conflict k (⟨x10, l13⟩ : Firing)).bind fun x14 =>
 (L04_firing_o k).bind fun x16 =>
 (heat_CheckProof k x16 1 false 700 (⟨0, [-1, 2]⟩ : HeatProof)).bind fun x17 =>
 bif decide (x3.2 = (0 : Int)) then
  bif decide (x6.2 = (0 : Int)) then
   bif decide (x9.2 = (0 : Int)) then
    bif decide (x14.2 = (0 : Int)) then
     bif decide (x17 = (0 : Int)) then
      (R01_Same k x3.1 [1300, 1100]).bind fun x23 =>
      bif x23 then
       bif (decide (x6.1.Lo = (700 : Int)) && decide (x6.1.Hi = (1000 : Int))) then
        bif decide (x9.1 = (2 : Int)) then
         (R01_Same k x14.1 [1, 4]).bind fun x27 =>
         some x27
        else
         some false
       else
        some false
      else
       some false
     else
      some false
    else
     some false
   else
    some false
  else
   some false
 else
  some false
theorem L04_sane_ok (k : Nat) (r : Bool) (h0 : L04_sane k = some r) : PCall Try.prog 14 [] (fun y => y = .bool r) := by
 refine PB (fn := Try.f14) (sc := F14.c) ?_
 refine rS ?_
 simp only [L04_sane] at h0
 try simp only [F14.c, go_sem]
 obtain ⟨x2, yx2, h0⟩ := bs h0
 refine AKev_giveF [] [] (L04_firing_o_ok k _ yx2) ?_ rfl ?_
 try simp only [gOK, go_sem]
 try simp only [go_sem]
 refine rS ?_
 try simp only [go_sem]
 obtain ⟨x3, yx3, h0⟩ := bs h0
 refine zcT [16] (heat_Hottest_ok k _ _ yx3) ?_ ?_
 try simp only [go_sem]
 try simp only [go_sem]
 obtain ⟨x5, yx5, h0⟩ := bs h0
 refine AKev_giveF [] [] (L04_firing_o_ok k _ yx5) ?_ rfl ?_
 try simp only [gOK, go_sem]
 try simp only [go_sem]
 refine rS ?_
 try simp only [go_sem]
 obtain ⟨x6, yx6, h0⟩ := bs h0
 refine zcT [128] (heat_Bound_ok k _ _ _ yx6) ?_ ?_
 try simp only [go_sem]
 try simp only [go_sem]
 obtain ⟨x8, yx8, h0⟩ := bs h0
 refine AKev_giveF [] [] (L04_firing_o_ok k _ yx8) ?_ rfl ?_
 try simp only [gOK, go_sem]
 try simp only [go_sem]
 refine rS ?_
 try simp only [go_sem]
 obtain ⟨x9, yx9, h0⟩ := bs h0
 refine zc0 (heat_Verdict_ok k _ _ _ _ yx9) ?_ (by first | rfl | simp [AV.refsL, AV.refs, AV.scal, AV.leaf]) ?_
 try simp only [go_sem]
 try simp only [go_sem]
 obtain ⟨x10, yx10, h0⟩ := bs h0
 refine zc0 (L04_kiln_ok k _ yx10) ?_ (by first | rfl | simp [AV.refsL, AV.refs, AV.scal, AV.leaf]) ?_
 try simp only [go_sem]
 try simp only [go_sem]
 obtain ⟨x12, yx12, h0⟩ := bs h0
 refine AKev_giveF [] [] (L04_firing_o_ok k _ yx12) ?_ rfl ?_
 try simp only [gOK, go_sem]
 try simp only [go_sem]
 refine rS ?_
 try simp only [go_sem]
 obtain ⟨l13, yl13, h0⟩ := bs h0
 have eyl13 := push_map Reading.c yl13
 have tyl13 := push_take Reading.c yl13
 have nyl13 := push_len yl13
 have myl13 := push_room yl13
 try simp only [go_sem] at eyl13 tyl13 nyl13 myl13
 try simp only [myl13, eyl13, nyl13, tyl13, go_sem]
 obtain ⟨x14, yx14, h0⟩ := bs h0
 refine zcT [400] (heat_Conflict_ok k _ _ yx14) ?_ ?_
 try simp only [eyl13, nyl13, tyl13, go_sem]
 try simp only [eyl13, nyl13, tyl13, go_sem]
 obtain ⟨x16, yx16, h0⟩ := bs h0
 refine AKev_giveF [] [] (L04_firing_o_ok k _ yx16) ?_ rfl ?_
 try simp only [gOK, eyl13, nyl13, tyl13, go_sem]
 try simp only [eyl13, nyl13, tyl13, go_sem]
 refine rS ?_
 try simp only [eyl13, nyl13, tyl13, go_sem]
 obtain ⟨x17, yx17, h0⟩ := bs h0
 refine zc0 (heat_CheckProof_ok k _ _ _ _ _ _ yx17) ?_ (by first | rfl | simp [AV.refsL, AV.refs, AV.scal, AV.leaf]) ?_
 try simp only [eyl13, nyl13, tyl13, go_sem]
 try simp only [eyl13, nyl13, tyl13, go_sem]
 refine AKev_bif h0 ?_ ?_ <;> intro c18 h0
 try simp only [c18, eyl13, nyl13, tyl13, go_sem]
 refine AKev_bif h0 ?_ ?_ <;> intro c19 h0
 try simp only [c19, eyl13, nyl13, tyl13, c18, go_sem]
 refine AKev_bif h0 ?_ ?_ <;> intro c20 h0
 try simp only [c20, eyl13, nyl13, tyl13, c18, c19, go_sem]
 refine AKev_bif h0 ?_ ?_ <;> intro c21 h0
 try simp only [c21, eyl13, nyl13, tyl13, c18, c19, c20, go_sem]
 refine AKev_bif h0 ?_ ?_ <;> intro c22 h0
 try simp only [c22, eyl13, nyl13, tyl13, c18, c19, c20, c21, go_sem]
 obtain ⟨x23, yx23, h0⟩ := bs h0
 refine zc0 (R01_Same_ok k _ _ _ yx23) ?_ (by first | rfl | simp [AV.refsL, AV.refs, AV.scal, AV.leaf]) ?_
 try simp only [eyl13, nyl13, tyl13, c18, c19, c20, c21, c22, go_sem]
 try simp only [eyl13, nyl13, tyl13, c18, c19, c20, c21, c22, go_sem]
 refine AKev_bif h0 ?_ ?_ <;> intro c24 h0
 try simp only [c24, eyl13, nyl13, tyl13, c18, c19, c20, c21, c22, go_sem]
 refine AKev_bif h0 ?_ ?_ <;> intro c25 h0
 try simp only [c25, eyl13, nyl13, tyl13, c18, c19, c20, c21, c22, c24, go_sem]
 refine AKev_bif h0 ?_ ?_ <;> intro c26 h0
 try simp only [c26, eyl13, nyl13, tyl13, c18, c19, c20, c21, c22, c24, c25, go_sem]
 obtain ⟨x27, yx27, h0⟩ := bs h0
 refine zc0 (R01_Same_ok k _ _ _ yx27) ?_ (by first | rfl | simp [AV.refsL, AV.refs, AV.scal, AV.leaf]) ?_
 try simp only [eyl13, nyl13, tyl13, c18, c19, c20, c21, c22, c24, c25, c26, go_sem]
 try simp only [eyl13, nyl13, tyl13, c18, c19, c20, c21, c22, c24, c25, c26, go_sem]
 obtain rfl := Option.some.inj h0
 refine AKev_ret rfl ?_
 try simp only [F14.rs, eyl13, nyl13, tyl13, c18, c19, c20, c21, c22, c24, c25, c26, go_sem]
 try simp only [c26, eyl13, nyl13, tyl13, c18, c19, c20, c21, c22, c24, c25, go_sem]
 obtain rfl := Option.some.inj h0
 refine AKev_ret rfl ?_
 try simp only [F14.rs, eyl13, nyl13, tyl13, c18, c19, c20, c21, c22, c24, c25, c26, go_sem]
 try simp only [c25, eyl13, nyl13, tyl13, c18, c19, c20, c21, c22, c24, go_sem]
 obtain rfl := Option.some.inj h0
 refine AKev_ret rfl ?_
 try simp only [F14.rs, eyl13, nyl13, tyl13, c18, c19, c20, c21, c22, c24, c25, go_sem]
 try simp only [c24, eyl13, nyl13, tyl13, c18, c19, c20, c21, c22, go_sem]
 obtain rfl := Option.some.inj h0
 refine AKev_ret rfl ?_
 try simp only [F14.rs, eyl13, nyl13, tyl13, c18, c19, c20, c21, c22, c24, go_sem]
 try simp only [c22, eyl13, nyl13, tyl13, c18, c19, c20, c21, go_sem]
 obtain rfl := Option.some.inj h0
 refine AKev_ret rfl ?_
 try simp only [F14.rs, eyl13, nyl13, tyl13, c18, c19, c20, c21, c22, go_sem]
 try simp only [c21, eyl13, nyl13, tyl13, c18, c19, c20, go_sem]
 obtain rfl := Option.some.inj h0
 refine AKev_ret rfl ?_
 try simp only [F14.rs, eyl13, nyl13, tyl13, c18, c19, c20, c21, go_sem]
 try simp only [c20, eyl13, nyl13, tyl13, c18, c19, go_sem]
 obtain rfl := Option.some.inj h0
 refine AKev_ret rfl ?_
 try simp only [F14.rs, eyl13, nyl13, tyl13, c18, c19, c20, go_sem]
 try simp only [c19, eyl13, nyl13, tyl13, c18, go_sem]
 obtain rfl := Option.some.inj h0
 refine AKev_ret rfl ?_
 try simp only [F14.rs, eyl13, nyl13, tyl13, c18, c19, go_sem]
 try simp only [c18, eyl13, nyl13, tyl13, go_sem]
 obtain rfl := Option.some.inj h0
 refine AKev_ret rfl ?_
 try simp only [F14.rs, eyl13, nyl13, tyl13, c18, go_sem]
def F15.s0 : SC :=
 (.seq
 (.reg [b2 26 .lss 3 25 24 3 0 []])
 (.seq
 (.cond (.tmp 26)
 .skip
 (.exit 0))
 (.seq
 (.block 1
 (.seq
 (.reg [ia 27 23 23 25 [],
 ld 28 3 27 [27],
 sg 8 28 3 [28]])
 (.seq
 (.seq
 (.reg [mv 29 8 3 [],
 bn 30 .lss 3 29 0 3 4 [29]])
 (.cond (.tmp 30)
 (.exit 1)
 .skip))
 (.seq
 (.seq
 (.reg [mv 31 8 3 [],
 fa 32 32 2 1 [],
 ld 33 30 32 [32],
 ln 34 33 30 3 [33],
 bn 35 .sub 3 34 1 3 3 [34],
 oq 36 (.call ⟨.value (.func 42), #[.tmp 31, .const (.int .i64 0), .tmp 35], #[3, 3, 3]⟩) 4 [31, 35],
 oq 37 (.unOp .not 4 (.tmp 36)) 4 [36]])
 (.cond (.tmp 37)
 (.seq
 (.reg [oq 4 (.assign (.const (.slice none 0 0))) 23 [],
 sn 5 46 43 []])
 .ret)
 .skip))
 (.reg [mv 38 6 30 [6],
 fa 39 32 2 1 [],
 ld 40 30 39 [39],
 mv 41 8 3 [8],
 ia 42 30 40 41 [40, 41],
 ld 43 60 42 [42],
 oq 44 (.buildSlice 30 1 #[(0, .tmp 43)]) 30 [43],
 oq 45 (.call ⟨.builtin .append, #[.tmp 38, .tmp 44], #[30, 30]⟩) 30 [38, 44],
 sg 6 45 30 [45]])))))
 (.reg [bn 46 .add 3 25 1 3 3 [25],
 mv 25 46 3 [46]]))))
def F15.c : SC :=
 (.seq
 (.reg [oq 2 (.box 32 (.tmp 0)) 0 [0],
 oq 3 (.box 51 (.tmp 1)) 0 [1],
 oq 4 (.assign (.const (.slice none 0 0))) 23 [4],
 sn 5 0 43 [5]])
 (.seq
 (.seq
 (.reg [ld 9 32 2 [],
 cf1 10 41 9 32 43 [9],
 bn 11 .neq 43 10 0 43 4 [10]])
 (.cond (.tmp 11)
 (.seq
 (.reg [oq 4 (.assign (.const (.slice none 0 0))) 23 [],
 sn 5 42 43 []])
 .ret)
 .skip))
 (.seq
 (.seq
 (.reg [fa 12 51 3 0 [],
 ld 13 3 12 [12],
 bn 14 .lss 3 13 (-2) 3 4 [13]])
 (.cond (.tmp 14)
 (.seq
 (.reg [oq 4 (.assign (.const (.slice none 0 0))) 23 [],
 sn 5 46 43 []])
 .ret)
 .skip))
 (.seq
 (.seq
 (.reg [fa 15 51 3 0 [],
 ld 16 3 15 [15],
 bn 17 .eql 3 16 (-2) 3 4 [16]])
 (.cond (.tmp 17)
 (.seq
 (.reg [oq 4 (.assign (.const (.slice none 0 0))) 23 [],
 sn 5 0 43 []])
 .ret)
 .skip))
 (.seq
 (.reg [oq 6 (.assign (.const (.slice none 0 0))) 30 []])
 (.seq
 (.seq
 (.reg [fa 18 51 3 0 [],
 ld 19 3 18 [18],
 oq 20 (.buildSlice 23 1 #[(0, .tmp 19)]) 23 [19],
 fa 21 51 3 1 [3],
 ld 22 23 21 [21],
 oq 23 (.call ⟨.builtin .append, #[.tmp 20, .tmp 22], #[23, 23]⟩) 23 [20, 22],
 ln 24 23 23 3 [],
 oq 25 (.move (.const (.int .i64 0))) 3 []])
 (.block 0
 (.loop F15.s0)))
 (.seq
 (.reg [mv 47 6 30 [6],
 cf1 48 43 47 30 23 [47],
 sg 4 48 23 [48],
 sn 5 0 43 []])
 .ret)))))))
theorem F15.rs : Try.f15.results.toList = [.tmp 4, .tmp 5] := rfl
def heat_Rests.b0 (k : Nat) (f0 : Firing) (p1 : HeatProof) (l5 : List Int) : (Int × (List Reading)) → Option (Stp (Int × (List Reading)) ((List Reading)) ((List Int) × Int)) := fun (s : Int × (List Reading)) => match s with
 | (i6, l7) =>
   bif decide (i6 < ((1 + p1.By.length : Nat) : Int)) then
    (at? l5 i6).bind fun x10 =>
    bif decide (x10 < (0 : Int)) then
     some (.next (w64 (i6 + 1), l7))
    else
     (heat_in k x10 0 (w64 ((f0.Readings.length : Int) - 1))).bind fun x12 =>
     bif (!x12) then
      some (.ret ([], 46))
     else
      (at? f0.Readings x10).bind fun x14 =>
      (push? 48 l7 x14).bind fun l15 =>
      some (.next (w64 (i6 + 1), l15))
   else
    some (.brk l7)
noncomputable def heat_Rests.h0 (f0 : Firing) (p1 : HeatProof) (l5 : List Int) : (Int × (List Reading)) → St := fun (s : Int × (List Reading)) => match s with
 | (i6, l7) => ⟨[(2, .ptr 0 0 0), (6, .loc 0 1 6 0 l7.length l7.length), (23, .loc 0 2 1 0 (1 + p1.By.length) (1 + p1.By.length)), (24, .int .i64 ((1 + p1.By.length : Nat) : Int)), (25, .int .i64 i6)], [(0, .box [.sl 1 (List.map (eL 2 Range.c) f0.Kiln.Falls), .sl 6 (List.map Reading.c f0.Readings)]), (1, .arr 60 6 (List.map Reading.c l7)), (2, .arr 3 1 (List.map eI l5))], [], 3, Try.f15.ntmps⟩
noncomputable def heat_Rests.x0 : (List Reading) → St := fun (l8 : (List Reading)) => ⟨[(6, .loc 0 0 6 0 l8.length l8.length)], [(0, .arr 60 6 (List.map Reading.c l8))], [], 1, Try.f15.ntmps⟩
def heat_Rests (k : Nat) (f0 : Firing) (p1 : HeatProof) : Option ((List Int) × Int) :=
 (heat_Check k f0).bind fun x1 =>
 bif (!decide (x1 = (0 : Int))) then
  some ([], 42)
 else
  bif decide (p1.Reading < (-2 : Int)) then
   some ([], 46)
  else
   bif decide (p1.Reading = (-2 : Int)) then
    some ([], 0)
   else
    (app? 8 [p1.Reading] p1.By).bind fun l5 =>
    (whl (heat_Rests.b0 k f0 p1 l5) k (0, [])).bind fun r16 => match r16 with
    | .next _ => none
    | .ret v_ => some v_
    | .brk l8 =>
     (heat_sources k l8).bind fun x17 =>
     some (x17, 0)
theorem heat_Rests_ok (k : Nat) (f0 : Firing) (p1 : HeatProof) (r : (List Int) × Int) (h0 : heat_Rests k f0 p1 = some r) : PCall Try.prog 15 [.agg (Firing.c f0), .agg (HeatProof.c p1)] (fun y => y = .tup [.sl 1 (List.map eI r.1), .int .i64 r.2]) := by
 refine PB (fn := Try.f15) (sc := F15.c) ?_
 refine rS ?_
 simp only [heat_Rests] at h0
 try simp only [F15.c, go_sem]
 obtain ⟨x1, yx1, h0⟩ := bs h0
 refine zc0 (heat_Check_ok k _ _ yx1) ?_ (by first | rfl | simp [AV.refsL, AV.refs, AV.scal, AV.leaf]) ?_
 try simp only [go_sem]
 try simp only [go_sem]
 refine AKev_bif h0 ?_ ?_ <;> intro c2 h0
 have c2 := bnot_t c2
 try simp only [c2, go_sem]
 obtain rfl := Option.some.inj h0
 refine AKev_ret rfl ?_
 try simp only [F15.rs, c2, go_sem]
 have c2 := bnot_f c2
 try simp only [c2, go_sem]
 refine AKev_bif h0 ?_ ?_ <;> intro c3 h0
 try simp only [c3, c2, go_sem]
 obtain rfl := Option.some.inj h0
 refine AKev_ret rfl ?_
 try simp only [F15.rs, c2, c3, go_sem]
 try simp only [c3, c2, go_sem]
 refine AKev_bif h0 ?_ ?_ <;> intro c4 h0
 try simp only [c4, c2, c3, go_sem]
 obtain rfl := Option.some.inj h0
 refine AKev_ret rfl ?_
 try simp only [F15.rs, c2, c3, c4, go_sem]
 try simp only [c4, c2, c3, go_sem]
 obtain ⟨l5, yl5, h0⟩ := bs h0
 have eyl5 := app_map eI yl5
 have tyl5 := app_take eI yl5
 have nyl5 := app_len yl5
 have myl5 := app_room yl5
 try simp only [c2, c3, c4, go_sem] at eyl5 tyl5 nyl5 myl5
 try simp only [myl5, eyl5, c2, c3, c4, nyl5, tyl5, go_sem]
 obtain ⟨r16, yr16, h0⟩ := bs h0
 refine AKev_loopS yr16 (heat_Rests.h0 f0 p1 l5) (heat_Rests.x0) ?_ ?_ ?_
 refine Weak.go [2, 6, 23, 24, 25] [0, 208, 256] rfl ?_
 try simp only [heat_Rests.h0, c2, c3, c4, eyl5, nyl5, tyl5, go_sem]
 rintro ⟨i6, l7⟩ x_1 Bk1 Br1 h1 hnext1 hbrk1 hret1
 refine rS ?_
 simp only [heat_Rests.b0] at h1
 try simp only [F15.s0, heat_Rests.h0, c2, c3, c4, eyl5, nyl5, tyl5, go_sem]
 refine AKev_bif h1 ?_ ?_ <;> intro c9 h1
 try simp only [c9, c2, c3, c4, eyl5, nyl5, tyl5, go_sem]
 obtain ⟨x10, yx10, h1⟩ := bs h1
 have eyx10 := at_in yx10
 simp only [c2, c3, c4, eyl5, nyl5, tyl5, c9, go_sem] at eyx10
 try simp only [eyx10, at_get eI yx10, c2, c3, c4, eyl5, nyl5, tyl5, c9, go_sem]
 refine AKev_bif h1 ?_ ?_ <;> intro c11 h1
 try simp only [c11, c2, c3, c4, eyl5, nyl5, tyl5, c9, eyx10, at_get eI yx10, go_sem]
 refine AKev_backB (hnext1 _ _ (Option.some.inj h1).symm ?_)
 refine Weak.go [2, 6, 23, 24, 25] [0, 1, 2] rfl ?_
 try simp only [heat_Rests.h0, c2, c3, c4, eyl5, nyl5, tyl5, c9, eyx10, at_get eI yx10, c11, go_sem]
 try simp only [c11, c2, c3, c4, eyl5, nyl5, tyl5, c9, eyx10, at_get eI yx10, go_sem]
 obtain ⟨x12, yx12, h1⟩ := bs h1
 refine zc0 (heat_in_ok k _ _ _ _ yx12) ?_ (by first | rfl | simp [AV.refsL, AV.refs, AV.scal, AV.leaf]) ?_
 try simp only [c2, c3, c4, eyl5, nyl5, tyl5, c9, eyx10, at_get eI yx10, c11, go_sem]
 try simp only [c2, c3, c4, eyl5, nyl5, tyl5, c9, eyx10, at_get eI yx10, c11, go_sem]
 refine AKev_bif h1 ?_ ?_ <;> intro c13 h1
 have c13 := bnot_t c13
 try simp only [c13, c2, c3, c4, eyl5, nyl5, tyl5, c9, eyx10, at_get eI yx10, c11, go_sem]
 obtain rfl := hret1 _ (Option.some.inj h1).symm
 simp only at h0
 obtain rfl := Option.some.inj h0
 refine AKev_ret rfl ?_
 try simp only [F15.rs, c2, c3, c4, eyl5, nyl5, tyl5, c9, eyx10, at_get eI yx10, c11, c13, go_sem]
 have c13 := bnot_f c13
 try simp only [c13, c2, c3, c4, eyl5, nyl5, tyl5, c9, eyx10, at_get eI yx10, c11, go_sem]
 obtain ⟨x14, yx14, h1⟩ := bs h1
 try simp only [aa yx14, c2, c3, c4, eyl5, nyl5, tyl5, c9, eyx10, at_get eI yx10, c11, c13, go_sem]
 obtain ⟨l15, yl15, h1⟩ := bs h1
 have eyl15 := push_map Reading.c yl15
 have tyl15 := push_take Reading.c yl15
 have nyl15 := push_len yl15
 have myl15 := push_room yl15
 try simp only [c2, c3, c4, eyl5, nyl5, tyl5, c9, eyx10, at_get eI yx10, c11, c13, aa yx14, go_sem] at eyl15 tyl15 nyl15 myl15
 try simp only [myl15, eyl15, c2, c3, c4, eyl5, nyl5, tyl5, c9, eyx10, at_get eI yx10, c11, c13, aa yx14, nyl15, tyl15, go_sem]
 refine AKev_backB (hnext1 _ _ (Option.some.inj h1).symm ?_)
 refine Weak.go [2, 6, 23, 24, 25] [0, 1, 2] rfl ?_
 try simp only [heat_Rests.h0, c2, c3, c4, eyl5, nyl5, tyl5, c9, eyx10, at_get eI yx10, c11, c13, aa yx14, eyl15, nyl15, tyl15, go_sem]
 try simp only [c9, c2, c3, c4, eyl5, nyl5, tyl5, go_sem]
 refine AKev_backB (hbrk1 _ _ (Option.some.inj h1).symm ?_)
 refine Weak.go [6] [1] rfl ?_
 try simp only [heat_Rests.x0, c2, c3, c4, eyl5, nyl5, tyl5, c9, go_sem]
 rintro l8 hr_
 subst hr_
 simp only at h0
 refine rS ?_
 try simp only [heat_Rests.x0, c2, c3, c4, eyl5, nyl5, tyl5, go_sem]
 obtain ⟨x17, yx17, h0⟩ := bs h0
 refine zcT [0] (heat_sources_ok k _ _ yx17) ?_ ?_
 try simp only [c2, c3, c4, eyl5, nyl5, tyl5, go_sem]
 try simp only [c2, c3, c4, eyl5, nyl5, tyl5, go_sem]
 obtain rfl := Option.some.inj h0
 refine AKev_ret rfl ?_
 try simp only [F15.rs, c2, c3, c4, eyl5, nyl5, tyl5, go_sem]
def F84.c : SC :=
 (.seq
 (.reg [sb 6 false 4 [6]])
 (.seq
 (.reg [mv 7 1 3 [1],
 mv 8 0 3 [],
 b2 9 .leq 3 7 8 3 4 [7, 8],
 mv 10 9 4 [9],
 og 11 (.move (.tmp 0)) 3 10 true [0],
 og 12 (.move (.tmp 2)) 3 10 true [2],
 og 13 (.binOp .leq 3 (.tmp 11) (.tmp 12) 3) 4 10 true [11, 12],
 oq 14 (.pick (.tmp 10) (.tmp 13) (.const (.bool false))) 4 [10, 13],
 sg 6 14 4 [14]])
 .ret))
theorem F84.rs : Try.f84.results.toList = [.tmp 6] := rfl
def R01_In (k : Nat) (n0 : Int) (lo1 : Int) (hi2 : Int) : Option (Bool) :=
 bif decide (lo1 ≤ n0) then
  some (decide (n0 ≤ hi2))
 else
  some false
theorem R01_In_ok (k : Nat) (n0 : Int) (lo1 : Int) (hi2 : Int) (r : Bool) (h0 : R01_In k n0 lo1 hi2 = some r) : PCall Try.prog 84 [.int .i64 n0, .int .i64 lo1, .int .i64 hi2] (fun y => y = .bool r) := by
 refine PB (fn := Try.f84) (sc := F84.c) ?_
 refine rS ?_
 simp only [R01_In] at h0
 try simp only [F84.c, go_sem]
 refine AKev_bif h0 ?_ ?_ <;> intro c1 h0
 try simp only [c1, go_sem]
 obtain rfl := Option.some.inj h0
 refine AKev_ret rfl ?_
 try simp only [F84.rs, c1, go_sem]
 try simp only [c1, go_sem]
 obtain rfl := Option.some.inj h0
 refine AKev_ret rfl ?_
 try simp only [F84.rs, c1, go_sem]
def F107.c : SC :=
 (.seq
 (.reg [oq 3 (.box 39 (.tmp 0)) 0 [0],
 sb 6 false 4 [6]])
 (.seq
 (.reg [mv 7 1 3 [1],
 fa 8 39 3 0 [],
 ld 9 3 8 [8],
 b2 10 .leq 3 7 9 3 4 [7, 9],
 mv 11 10 4 [10],
 og 12 (.fieldAddr 39 (.tmp 3) 0) 0 11 true [],
 og 13 (.load 3 (.tmp 12)) 3 11 true [12],
 og 14 (.fieldAddr 39 (.tmp 3) 1) 0 11 true [],
 og 15 (.load 3 (.tmp 14)) 3 11 true [14],
 og 16 (.binOp .leq 3 (.tmp 13) (.tmp 15) 3) 4 11 true [13, 15],
 oq 17 (.pick (.tmp 11) (.tmp 16) (.const (.bool false))) 4 [11, 16],
 mv 18 17 4 [17],
 og 19 (.fieldAddr 39 (.tmp 3) 1) 0 18 true [3],
 og 20 (.load 3 (.tmp 19)) 3 18 true [19],
 og 21 (.move (.tmp 2)) 3 18 true [2],
 og 22 (.binOp .leq 3 (.tmp 20) (.tmp 21) 3) 4 18 true [20, 21],
 oq 23 (.pick (.tmp 18) (.tmp 22) (.const (.bool false))) 4 [18, 22],
 sg 6 23 4 [23]])
 .ret))
theorem F107.rs : Try.f107.results.toList = [.tmp 6] := rfl
def R01_Part (k : Nat) (r0 : Range) (lo1 : Int) (hi2 : Int) : Option (Bool) :=
 bif decide (lo1 ≤ r0.Lo) then
  bif decide (r0.Lo ≤ r0.Hi) then
   some (decide (r0.Hi ≤ hi2))
  else
   some false
 else
  some false
theorem R01_Part_ok (k : Nat) (r0 : Range) (lo1 : Int) (hi2 : Int) (r : Bool) (h0 : R01_Part k r0 lo1 hi2 = some r) : PCall Try.prog 107 [.agg (Range.c r0), .int .i64 lo1, .int .i64 hi2] (fun y => y = .bool r) := by
 refine PB (fn := Try.f107) (sc := F107.c) ?_
 refine rS ?_
 simp only [R01_Part] at h0
 try simp only [F107.c, go_sem]
 refine AKev_bif h0 ?_ ?_ <;> intro c1 h0
 try simp only [c1, go_sem]
 refine AKev_bif h0 ?_ ?_ <;> intro c2 h0
 try simp only [c2, c1, go_sem]
 obtain rfl := Option.some.inj h0
 refine AKev_ret rfl ?_
 try simp only [F107.rs, c1, c2, go_sem]
 try simp only [c2, c1, go_sem]
 obtain rfl := Option.some.inj h0
 refine AKev_ret rfl ?_
 try simp only [F107.rs, c1, c2, go_sem]
 try simp only [c1, go_sem]
 obtain rfl := Option.some.inj h0
 refine AKev_ret rfl ?_
 try simp only [F107.rs, c1, go_sem]
def F78.s1 : SC :=
 (.seq
 (.seq
 (.reg [mv 36 5 3 [],
 mv 37 3 3 [],
 b2 38 .lss 3 36 37 3 4 [36, 37]])
 (.cond (.tmp 38)
 .skip
 (.exit 2)))
 (.seq
 (.block 3
 (.seq
 (.reg [fa 41 29 1 0 [],
 ld 42 27 41 [41],
 mv 43 4 3 [],
 ia 44 27 42 43 [42, 43],
 ld 45 40 44 [44],
 mv 46 5 3 [],
 ia 47 40 45 46 [45, 46],
 ld 48 39 47 [47],
 oq 49 (.call ⟨.value (.func 107), #[.tmp 48, .const (.int .i64 0), .const (.int .i64 3000)], #[39, 3, 3]⟩) 4 [48],
 oq 50 (.unOp .not 4 (.tmp 49)) 4 [49]])
 (.cond (.tmp 50)
 (.seq
 (.reg [sn 2 40 43 []])
 .ret)
 .skip)))
 (.reg [mv 39 5 3 [5],
 bn 40 .add 3 39 1 3 3 [39],
 sg 5 40 3 [40]])))
def F78.s0 : SC :=
 (.seq
 (.seq
 (.reg [mv 16 4 3 [],
 fa 17 29 1 0 [],
 ld 18 27 17 [17],
 ln 19 18 27 3 [18],
 b2 20 .lss 3 16 19 3 4 [16, 19]])
 (.cond (.tmp 20)
 .skip
 (.exit 0)))
 (.seq
 (.block 1
 (.seq
 (.seq
 (.reg [fa 23 29 1 0 [],
 ld 24 27 23 [23],
 mv 25 4 3 [],
 ia 26 27 24 25 [24, 25],
 ld 27 40 26 [26],
 ln 28 27 40 3 [27],
 mv 29 3 3 [],
 b2 30 .neq 3 28 29 3 4 [28, 29],
 mv 31 30 4 [30],
 og 32 (.move (.tmp 3)) 3 31 false [],
 og 33 (.call ⟨.value (.func 84), #[.tmp 32, .const (.int .i64 1), .const (.int .i64 24)], #[3, 3, 3]⟩) 4 31 false [32],
 og 34 (.unOp .not 4 (.tmp 33)) 4 31 false [33],
 oq 35 (.pick (.tmp 31) (.const (.bool true)) (.tmp 34)) 4 [31, 34]])
 (.cond (.tmp 35)
 (.seq
 (.reg [sn 2 40 43 []])
 .ret)
 .skip))
 (.seq
 (.reg [sn 5 0 3 []])
 (.block 2
 (.loop F78.s1)))))
 (.reg [mv 21 4 3 [4],
 bn 22 .add 3 21 1 3 3 [21],
 sg 4 22 3 [22]])))
def F78.c : SC :=
 (.seq
 (.reg [oq 1 (.box 29 (.tmp 0)) 0 [0],
 sn 2 0 43 [2]])
 (.seq
 (.seq
 (.reg [fa 6 29 1 0 [],
 ld 7 27 6 [6],
 ln 8 7 27 3 [7],
 oq 9 (.call ⟨.value (.func 84), #[.tmp 8, .const (.int .i64 1), .const (.int .i64 6)], #[3, 3, 3]⟩) 4 [8],
 oq 10 (.unOp .not 4 (.tmp 9)) 4 [9]])
 (.cond (.tmp 10)
 (.seq
 (.reg [sn 2 40 43 []])
 .ret)
 .skip))
 (.seq
 (.reg [fa 11 29 1 0 [],
 ld 12 27 11 [11],
 oq 13 (.indexAddr 27 (.tmp 12) (.const (.int .i64 0))) 0 [12],
 ld 14 40 13 [13],
 ln 15 14 40 3 [14],
 sg 3 15 3 [15]])
 (.seq
 (.seq
 (.reg [sn 4 0 3 []])
 (.block 0
 (.loop F78.s0)))
 (.seq
 (.reg [sn 2 0 43 []])
 .ret)))))
theorem F78.rs : Try.f78.results.toList = [.tmp 2] := rfl
def R04_CheckKiln.b1 (k : Nat) (x3 : (List Range)) (x6 : (List Range)) : Int → Option (Stp (Int) (Unit) (Int)) := fun (i10 : Int) =>
 bif decide (i10 < (x3.length : Int)) then
  (at? x6 i10).bind fun x12 =>
  (R01_Part k x12 0 3000).bind fun x13 =>
  bif (!x13) then
   some (.ret 40)
  else
   some (.next (w64 (i10 + 1)))
 else
  some (.brk ())
def R04_CheckKiln.b0 (k : Nat) (k0 : Kiln) (x3 : (List Range)) : Int → Option (Stp (Int) (Unit) (Int)) := fun (i4 : Int) =>
 bif decide (i4 < (k0.Falls.length : Int)) then
  (at? k0.Falls i4).bind fun x6 =>
  bif decide ((x6.length : Int) = (x3.length : Int)) then
   (R01_In k (x3.length : Int) 1 24).bind fun x8 =>
   bif (!x8) then
    some (.ret 40)
   else
    (whl (R04_CheckKiln.b1 k x3 x6) k 0).bind fun r15 => match r15 with
    | .next _ => none
    | .ret v_ => some (.ret v_)
    | .brk _ =>
     some (.next (w64 (i4 + 1)))
  else
   some (.ret 40)
 else
  some (.brk ())
noncomputable def R04_CheckKiln.h1 (k0 : Kiln) (x3 : (List Range)) (i4 : Int) : Int → St := fun (i10 : Int) => ⟨[(1, .ptr 0 0 0), (3, .int .i64 (x3.length : Int)), (4, .int .i64 i4), (5, .int .i64 i10)], [(0, .box [.sl 1 (List.map (eL 2 Range.c) k0.Falls)])], [], 1, Try.f78.ntmps⟩
noncomputable def R04_CheckKiln.x1 (k0 : Kiln) (x3 : (List Range)) (i4 : Int) : Unit → St := fun (_ : Unit) => ⟨[(1, .ptr 0 0 0), (3, .int .i64 (x3.length : Int)), (4, .int .i64 i4)], [(0, .box [.sl 1 (List.map (eL 2 Range.c) k0.Falls)])], [], 1, Try.f78.ntmps⟩
noncomputable def R04_CheckKiln.h0 (k0 : Kiln) (x3 : (List Range)) : Int → St := fun (i4 : Int) => ⟨[(1, .ptr 0 0 0), (3, .int .i64 (x3.length : Int)), (4, .int .i64 i4)], [(0, .box [.sl 1 (List.map (eL 2 Range.c) k0.Falls)])], [], 1, Try.f78.ntmps⟩
noncomputable def R04_CheckKiln.x0 : Unit → St := fun (_ : Unit) => ⟨[], [], [], 1, Try.f78.ntmps⟩
def R04_CheckKiln (k : Nat) (k0 : Kiln) : Option (Int) :=
 (R01_In k (k0.Falls.length : Int) 1 6).bind fun x1 =>
 bif (!x1) then
  some 40
 else
  (at? k0.Falls 0).bind fun x3 =>
  (whl (R04_CheckKiln.b0 k k0 x3) k 0).bind fun r16 => match r16 with
  | .next _ => none
  | .ret v_ => some v_
  | .brk _ =>
   some 0
theorem R04_CheckKiln_ok (k : Nat) (k0 : Kiln) (r : Int) (h0 : R04_CheckKiln k k0 = some r) : PCall Try.prog 78 [.agg (Kiln.c k0)] (fun y => y = .int .i64 r) := by
 refine PB (fn := Try.f78) (sc := F78.c) ?_
 refine rS ?_
 simp only [R04_CheckKiln] at h0
 try simp only [F78.c, go_sem]
 obtain ⟨x1, yx1, h0⟩ := bs h0
 refine zc0 (R01_In_ok k _ _ _ _ yx1) ?_ (by first | rfl | simp [AV.refsL, AV.refs, AV.scal, AV.leaf]) ?_
 try simp only [go_sem]
 try simp only [go_sem]
 refine AKev_bif h0 ?_ ?_ <;> intro c2 h0
 have c2 := bnot_t c2
 try simp only [c2, go_sem]
 obtain rfl := Option.some.inj h0
 refine AKev_ret rfl ?_
 try simp only [F78.rs, c2, go_sem]
 have c2 := bnot_f c2
 try simp only [c2, go_sem]
 obtain ⟨x3, yx3, h0⟩ := bs h0
 try simp only [aa yx3, c2, go_sem]
 obtain ⟨r16, yr16, h0⟩ := bs h0
 refine AKev_loopS yr16 (R04_CheckKiln.h0 k0 x3) (R04_CheckKiln.x0) ?_ ?_ ?_
 refine Weak.go [1, 3, 4] [0] rfl ?_
 try simp only [R04_CheckKiln.h0, c2, aa yx3, go_sem]
 rintro i4 x_1 Bk1 Br1 h1 hnext1 hbrk1 hret1
 refine rS ?_
 simp only [R04_CheckKiln.b0] at h1
 try simp only [F78.s0, R04_CheckKiln.h0, c2, aa yx3, go_sem]
 refine AKev_bif h1 ?_ ?_ <;> intro c5 h1
 try simp only [c5, c2, aa yx3, go_sem]
 obtain ⟨x6, yx6, h1⟩ := bs h1
 try simp only [aa yx6, c2, aa yx3, c5, go_sem]
 refine AKev_bif h1 ?_ ?_ <;> intro c7 h1
 try simp only [c7, c2, aa yx3, c5, aa yx6, go_sem]
 obtain ⟨x8, yx8, h1⟩ := bs h1
 refine zc0 (R01_In_ok k _ _ _ _ yx8) ?_ (by first | rfl | simp [AV.refsL, AV.refs, AV.scal, AV.leaf]) ?_
 try simp only [c2, aa yx3, c5, aa yx6, c7, go_sem]
 try simp only [c2, aa yx3, c5, aa yx6, c7, go_sem]
 refine AKev_bif h1 ?_ ?_ <;> intro c9 h1
 have c9 := bnot_t c9
 try simp only [c9, c2, aa yx3, c5, aa yx6, c7, go_sem]
 obtain rfl := hret1 _ (Option.some.inj h1).symm
 simp only at h0
 obtain rfl := Option.some.inj h0
 refine AKev_ret rfl ?_
 try simp only [F78.rs, c2, aa yx3, c5, aa yx6, c7, c9, go_sem]
 have c9 := bnot_f c9
 try simp only [c9, c2, aa yx3, c5, aa yx6, c7, go_sem]
 obtain ⟨r15, yr15, h1⟩ := bs h1
 refine AKev_loopS yr15 (R04_CheckKiln.h1 k0 x3 i4) (R04_CheckKiln.x1 k0 x3 i4) ?_ ?_ ?_
 refine Weak.go [1, 3, 4, 5] [0] rfl ?_
 try simp only [R04_CheckKiln.h1, c2, aa yx3, c5, aa yx6, c7, c9, go_sem]
 rintro i10 x_2 Bk2 Br2 h2 hnext2 hbrk2 hret2
 refine rS ?_
 simp only [R04_CheckKiln.b1] at h2
 try simp only [F78.s1, R04_CheckKiln.h1, c2, aa yx3, c5, aa yx6, c7, c9, go_sem]
 refine AKev_bif h2 ?_ ?_ <;> intro c11 h2
 try simp only [c11, aa yx6, c2, aa yx3, c5, c7, c9, go_sem]
 obtain ⟨x12, yx12, h2⟩ := bs h2
 try simp only [aa yx12, c2, aa yx3, c5, aa yx6, c7, c9, c11, go_sem]
 obtain ⟨x13, yx13, h2⟩ := bs h2
 refine zc0 (R01_Part_ok k _ _ _ _ yx13) ?_ (by first | rfl | simp [AV.refsL, AV.refs, AV.scal, AV.leaf]) ?_
 try simp only [c2, aa yx3, c5, aa yx6, c7, c9, c11, aa yx12, go_sem]
 try simp only [c2, aa yx3, c5, aa yx6, c7, c9, c11, aa yx12, go_sem]
 refine AKev_bif h2 ?_ ?_ <;> intro c14 h2
 have c14 := bnot_t c14
 try simp only [c14, c2, aa yx3, c5, aa yx6, c7, c9, c11, aa yx12, go_sem]
 obtain rfl := hret2 _ (Option.some.inj h2).symm
 simp only at h1
 obtain rfl := hret1 _ (Option.some.inj h1).symm
 simp only at h0
 obtain rfl := Option.some.inj h0
 refine AKev_ret rfl ?_
 try simp only [F78.rs, c2, aa yx3, c5, aa yx6, c7, c9, c11, aa yx12, c14, go_sem]
 have c14 := bnot_f c14
 try simp only [c14, c2, aa yx3, c5, aa yx6, c7, c9, c11, aa yx12, go_sem]
 refine AKev_backB (hnext2 _ _ (Option.some.inj h2).symm ?_)
 refine Weak.go [1, 3, 4, 5] [0] rfl ?_
 try simp only [R04_CheckKiln.h1, c2, aa yx3, c5, aa yx6, c7, c9, c11, aa yx12, c14, go_sem]
 try simp only [c11, c2, aa yx3, c5, aa yx6, c7, c9, go_sem]
 refine AKev_backB (hbrk2 _ _ (Option.some.inj h2).symm ?_)
 refine Weak.go [1, 3, 4] [0] rfl ?_
 try simp only [R04_CheckKiln.x1, c2, aa yx3, c5, aa yx6, c7, c9, c11, go_sem]
 rintro _ hr_
 subst hr_
 simp only at h1
 refine rS ?_
 try simp only [R04_CheckKiln.x1, c2, aa yx3, c5, aa yx6, c7, c9, go_sem]
 refine AKev_backB (hnext1 _ _ (Option.some.inj h1).symm ?_)
 refine Weak.go [1, 3, 4] [0] rfl ?_
 try simp only [R04_CheckKiln.h0, c2, aa yx3, c5, aa yx6, c7, c9, go_sem]
 try simp only [c7, c2, aa yx3, c5, aa yx6, go_sem]
 obtain rfl := hret1 _ (Option.some.inj h1).symm
 simp only at h0
 obtain rfl := Option.some.inj h0
 refine AKev_ret rfl ?_
 try simp only [F78.rs, c2, aa yx3, c5, aa yx6, c7, go_sem]
 try simp only [c5, c2, aa yx3, go_sem]
 refine AKev_backB (hbrk1 _ _ (Option.some.inj h1).symm ?_)
 refine Weak.go [] [] rfl ?_
 try simp only [R04_CheckKiln.x0, c2, aa yx3, c5, go_sem]
 rintro _ hr_
 subst hr_
 simp only at h0
 refine rS ?_
 try simp only [R04_CheckKiln.x0, c2, aa yx3, go_sem]
 obtain rfl := Option.some.inj h0
 refine AKev_ret rfl ?_
 try simp only [F78.rs, c2, aa yx3, go_sem]
def F79.c : SC :=
 (.seq
 (.reg [oq 2 (.box 29 (.tmp 0)) 0 [0],
 oq 3 (.box 60 (.tmp 1)) 0 [1],
 sb 4 false 4 [4]])
 (.seq
 (.seq
 (.dreg [fa 5 60 3 0 [],
 ld 6 3 5 [],
 oq 7 (.call ⟨.value (.func 84), #[.tmp 6, .const (.int .i64 1), .const (.int .i64 99999)], #[3, 3, 3]⟩) 4 [],
 oq 8 (.unOp .not 4 (.tmp 7)) 4 [],
 mv 9 8 4 [],
 og 10 (.fieldAddr 60 (.tmp 3) 1) 0 9 false [],
 og 11 (.load 3 (.tmp 10)) 3 9 false [],
 og 12 (.fieldAddr 29 (.tmp 2) 0) 0 9 false [],
 og 13 (.load 27 (.tmp 12)) 27 9 false [],
 og 14 (.indexAddr 27 (.tmp 13) (.const (.int .i64 0))) 0 9 false [],
 og 15 (.load 40 (.tmp 14)) 40 9 false [],
 og 16 (.call ⟨.builtin .len, #[.tmp 15], #[40]⟩) 3 9 false [],
 og 17 (.binOp .sub 3 (.tmp 16) (.const (.int .i64 1)) 3) 3 9 false [],
 og 18 (.call ⟨.value (.func 84), #[.tmp 11, .const (.int .i64 0), .tmp 17], #[3, 3, 3]⟩) 4 9 false [],
 og 19 (.unOp .not 4 (.tmp 18)) 4 9 false [],
 oq 20 (.pick (.tmp 9) (.const (.bool true)) (.tmp 19)) 4 []] [[], [0], [0, 1], [0, 1, 2], [0, 1, 2, 3], [0, 1, 2, 3, 4], [0, 1, 2, 3, 4, 5], [0, 1, 2, 3, 4], [0, 1, 2, 3, 4, 7], [0, 1, 2, 3, 4, 7, 8], [0, 1, 2, 3, 4, 7, 8, 9], [0, 1, 2, 3, 4, 7, 8, 9, 10], [0, 1, 2, 3, 4, 7, 8, 9, 10, 11], [0, 1, 2, 3, 4, 5, 6, 7, 8, 9, 10, 11, 12], [0, 1, 2, 3, 4, 5, 6, 7, 8, 9, 10, 11, 12, 13], [0, 1, 2, 3, 4, 5, 6, 7, 8, 9, 10, 11, 12, 13, 14]] [2, 5, 6, 7, 8, 9, 10, 11, 12, 13, 14, 15, 16, 17, 18, 19])
 (.cond (.tmp 20)
 (.seq
 (.reg [sb 4 false 4 []])
 .ret)
 .skip))
 (.seq
 (.seq
 (.reg [fa 21 60 3 2 [],
 ld 22 3 21 [21]])
 (.block 0
 (.seq
 (.seq
 (.reg [bn 24 .eql 3 22 1 3 4 [],
 sg 23 24 4 [24]])
 (.cond (.tmp 23)
 .skip
 (.reg [bn 25 .eql 3 22 2 3 4 [],
 sg 23 25 4 [25]])))
 (.cond (.tmp 23)
 (.seq
 (.reg [fa 26 60 3 3 [],
 ld 27 3 26 [26],
 oq 28 (.call ⟨.value (.func 84), #[.tmp 27, .const (.int .i64 1), .const (.int .i64 2000)], #[3, 3, 3]⟩) 4 [27],
 mv 29 28 4 [28],
 og 30 (.fieldAddr 60 (.tmp 3) 4) 0 29 true [3],
 og 31 (.load 39 (.tmp 30)) 39 29 true [30],
 og 32 (.build 39 #[]) 39 29 true [],
 og 33 (.binOp .eql 39 (.tmp 31) (.tmp 32) 39) 4 29 true [31, 32],
 oq 34 (.pick (.tmp 29) (.tmp 33) (.const (.bool false))) 4 [29, 33],
 sg 4 34 4 [34]])
 .ret)
 (.seq
 (.reg [bn 36 .eql 3 22 3 3 4 [22],
 sg 35 36 4 [36]])
 (.cond (.tmp 35)
 (.seq
 (.reg [fa 37 60 3 3 [],
 ld 38 3 37 [37],
 bn 39 .eql 3 38 0 3 4 [38],
 mv 40 39 4 [39],
 og 41 (.fieldAddr 60 (.tmp 3) 4) 0 40 true [3],
 og 42 (.load 39 (.tmp 41)) 39 40 true [41],
 og 43 (.call ⟨.value (.func 107), #[.tmp 42, .const (.int .i64 1), .const (.int .i64 2000)], #[39, 3, 3]⟩) 4 40 true [42],
 oq 44 (.pick (.tmp 40) (.tmp 43) (.const (.bool false))) 4 [40, 43],
 sg 4 44 4 [44]])
 .ret)
 .skip))))))
 (.seq
 (.reg [sb 4 false 4 []])
 .ret))))
theorem F79.rs : Try.f79.results.toList = [.tmp 4] := rfl
def R04_isReading (k : Nat) (k0 : Kiln) (r1 : Reading) : Option (Bool) :=
 (R01_In k r1.Source 1 99999).bind fun x1 =>
 bif x1 then
  (at? k0.Falls 0).bind fun x3 =>
  (R01_In k r1.Place 0 (w64 ((x3.length : Int) - 1))).bind fun x4 =>
  bif (!x4) then
   some false
  else
   bif decide (r1.Kind = (1 : Int)) then
    (R01_In k r1.Mark 1 2000).bind fun x7 =>
    bif x7 then
     some (decide (r1.Heat.Lo = (0 : Int)) && decide (r1.Heat.Hi = (0 : Int)))
    else
     some false
   else
    bif decide (r1.Kind = (2 : Int)) then
     (R01_In k r1.Mark 1 2000).bind fun x10 =>
     bif x10 then
      some (decide (r1.Heat.Lo = (0 : Int)) && decide (r1.Heat.Hi = (0 : Int)))
     else
      some false
    else
     bif decide (r1.Kind = (3 : Int)) then
      bif decide (r1.Mark = (0 : Int)) then
       (R01_Part k r1.Heat 1 2000).bind fun x14 =>
       some x14
      else
       some false
     else
      some false
 else
  some false
theorem R04_isReading_ok (k : Nat) (k0 : Kiln) (r1 : Reading) (r : Bool) (h0 : R04_isReading k k0 r1 = some r) : PCall Try.prog 79 [.agg (Kiln.c k0), .agg (Reading.c r1)] (fun y => y = .bool r) := by
 refine PB (fn := Try.f79) (sc := F79.c) ?_
 refine rS ?_
 simp only [R04_isReading] at h0
 try simp only [F79.c, go_sem]
 refine AKev_region T_ok follows_ok 1000 ?_
 try simp only [go_sem]
 obtain ⟨x1, yx1, h0⟩ := bs h0
 refine DG_call0 1000 (R01_In_ok k _ _ _ _ yx1) ?_ (by first | rfl | simp [AV.refsL, AV.refs, AV.scal, AV.leaf]) ?_
 try simp only [go_sem]
 try simp only [go_sem]
 refine DG_bif h0 ?_ ?_ <;> intro c2 h0
 try simp only [c2, go_sem]
 obtain ⟨x3, yx3, h0⟩ := bs h0
 try simp only [aa yx3, c2, go_sem]
 obtain ⟨x4, yx4, h0⟩ := bs h0
 refine DG_call0 1000 (R01_In_ok k _ _ _ _ yx4) ?_ (by first | rfl | simp [AV.refsL, AV.refs, AV.scal, AV.leaf]) ?_
 try simp only [c2, aa yx3, go_sem]
 try simp only [c2, aa yx3, go_sem]
 refine DG_done ⟨rfl, run_sound T_ok 1000 _ _ ?_⟩
 try simp only [c2, aa yx3, go_sem]
 refine AKev_bif h0 ?_ ?_ <;> intro c5 h0
 have c5 := bnot_t c5
 try simp only [c5, c2, aa yx3, go_sem]
 obtain rfl := Option.some.inj h0
 refine AKev_ret rfl ?_
 try simp only [F79.rs, c2, aa yx3, c5, go_sem]
 have c5 := bnot_f c5
 try simp only [c5, c2, aa yx3, go_sem]
 refine AKev_bif h0 ?_ ?_ <;> intro c6 h0
 try simp only [c6, c2, aa yx3, c5, go_sem]
 obtain ⟨x7, yx7, h0⟩ := bs h0
 refine zc0 (R01_In_ok k _ _ _ _ yx7) ?_ (by first | rfl | simp [AV.refsL, AV.refs, AV.scal, AV.leaf]) ?_
 try simp only [c2, aa yx3, c5, c6, go_sem]
 try simp only [c2, aa yx3, c5, c6, go_sem]
 refine AKev_bif h0 ?_ ?_ <;> intro c8 h0
 try simp only [c8, c2, aa yx3, c5, c6, go_sem]
 obtain rfl := Option.some.inj h0
 refine AKev_ret rfl ?_
 try simp only [F79.rs, c2, aa yx3, c5, c6, c8, go_sem]
 try simp only [c8, c2, aa yx3, c5, c6, go_sem]
 obtain rfl := Option.some.inj h0
 refine AKev_ret rfl ?_
 try simp only [F79.rs, c2, aa yx3, c5, c6, c8, go_sem]
 try simp only [c6, c2, aa yx3, c5, go_sem]
 refine AKev_bif h0 ?_ ?_ <;> intro c9 h0
 try simp only [c9, c2, aa yx3, c5, c6, go_sem]
 obtain ⟨x10, yx10, h0⟩ := bs h0
 refine zc0 (R01_In_ok k _ _ _ _ yx10) ?_ (by first | rfl | simp [AV.refsL, AV.refs, AV.scal, AV.leaf]) ?_
 try simp only [c2, aa yx3, c5, c6, c9, go_sem]
 try simp only [c2, aa yx3, c5, c6, c9, go_sem]
 refine AKev_bif h0 ?_ ?_ <;> intro c11 h0
 try simp only [c11, c2, aa yx3, c5, c6, c9, go_sem]
 obtain rfl := Option.some.inj h0
 refine AKev_ret rfl ?_
 try simp only [F79.rs, c2, aa yx3, c5, c6, c9, c11, go_sem]
 try simp only [c11, c2, aa yx3, c5, c6, c9, go_sem]
 obtain rfl := Option.some.inj h0
 refine AKev_ret rfl ?_
 try simp only [F79.rs, c2, aa yx3, c5, c6, c9, c11, go_sem]
 try simp only [c9, c2, aa yx3, c5, c6, go_sem]
 refine AKev_bif h0 ?_ ?_ <;> intro c12 h0
 try simp only [c12, c2, aa yx3, c5, c6, c9, go_sem]
 refine AKev_bif h0 ?_ ?_ <;> intro c13 h0
 try simp only [c13, c2, aa yx3, c5, c6, c9, c12, go_sem]
 obtain ⟨x14, yx14, h0⟩ := bs h0
 refine zc0 (R01_Part_ok k _ _ _ _ yx14) ?_ (by first | rfl | simp [AV.refsL, AV.refs, AV.scal, AV.leaf]) ?_
 try simp only [c2, aa yx3, c5, c6, c9, c12, c13, go_sem]
 try simp only [c2, aa yx3, c5, c6, c9, c12, c13, go_sem]
 obtain rfl := Option.some.inj h0
 refine AKev_ret rfl ?_
 try simp only [F79.rs, c2, aa yx3, c5, c6, c9, c12, c13, go_sem]
 try simp only [c13, c2, aa yx3, c5, c6, c9, c12, go_sem]
 obtain rfl := Option.some.inj h0
 refine AKev_ret rfl ?_
 try simp only [F79.rs, c2, aa yx3, c5, c6, c9, c12, c13, go_sem]
 try simp only [c12, c2, aa yx3, c5, c6, c9, go_sem]
 obtain rfl := Option.some.inj h0
 refine AKev_ret rfl ?_
 try simp only [F79.rs, c2, aa yx3, c5, c6, c9, c12, go_sem]
 try simp only [c2, go_sem]
 refine DG_done ⟨rfl, run_sound T_ok 1000 _ _ ?_⟩
 try simp only [c2, go_sem]
 obtain rfl := Option.some.inj h0
 refine AKev_ret rfl ?_
 try simp only [F79.rs, c2, go_sem]
def F44.s0 : SC :=
 (.seq
 (.seq
 (.reg [mv 12 3 3 [],
 fa 13 32 1 1 [],
 ld 14 30 13 [13],
 ln 15 14 30 3 [14],
 b2 16 .lss 3 12 15 3 4 [12, 15]])
 (.cond (.tmp 16)
 .skip
 (.exit 0)))
 (.seq
 (.block 1
 (.seq
 (.dreg [fa 19 32 1 0 [],
 ld 20 29 19 [],
 fa 21 32 1 1 [],
 ld 22 30 21 [],
 mv 23 3 3 [],
 ia 24 30 22 23 [],
 ld 25 60 24 [],
 cf2 26 79 20 25 29 60 4 [],
 oq 27 (.unOp .not 4 (.tmp 26)) 4 []] [[], [0], [], [2], [], [2, 3, 4], [2, 3, 4, 5], [0, 1, 2, 3, 4, 5, 6], [0, 1, 2, 3, 4, 5, 6, 7]] [19, 20, 21, 22, 23, 24, 25, 26])
 (.cond (.tmp 27)
 (.seq
 (.reg [sn 2 41 43 []])
 .ret)
 .skip)))
 (.reg [mv 17 3 3 [3],
 bn 18 .add 3 17 1 3 3 [17],
 sg 3 18 3 [18]])))
def F44.c : SC :=
 (.seq
 (.reg [oq 1 (.box 32 (.tmp 0)) 0 [0],
 sn 2 0 43 [2]])
 (.seq
 (.seq
 (.reg [fa 4 32 1 0 [],
 ld 5 29 4 [4],
 cf1 6 78 5 29 43 [5],
 bn 7 .neq 43 6 0 43 4 [6]])
 (.cond (.tmp 7)
 (.seq
 (.reg [sn 2 40 43 []])
 .ret)
 .skip))
 (.seq
 (.seq
 (.reg [fa 8 32 1 1 [],
 ld 9 30 8 [8],
 ln 10 9 30 3 [9],
 bn 11 .gtr 3 10 60 3 4 [10]])
 (.cond (.tmp 11)
 (.seq
 (.reg [sn 2 2 43 []])
 .ret)
 .skip))
 (.seq
 (.seq
 (.reg [sn 3 0 3 []])
 (.block 0
 (.loop F44.s0)))
 (.seq
 (.reg [sn 2 0 43 []])
 .ret)))))
theorem F44.rs : Try.f44.results.toList = [.tmp 2] := rfl
def R04_Check.b0 (k : Nat) (f0 : Firing) : Int → Option (Stp (Int) (Unit) (Int)) := fun (i4 : Int) =>
 bif decide (i4 < (f0.Readings.length : Int)) then
  (at? f0.Readings i4).bind fun x6 =>
  (R04_isReading k f0.Kiln x6).bind fun x7 =>
  bif (!x7) then
   some (.ret 41)
  else
   some (.next (w64 (i4 + 1)))
 else
  some (.brk ())
noncomputable def R04_Check.h0 (f0 : Firing) : Int → St := fun (i4 : Int) => ⟨[(1, .ptr 0 0 0), (3, .int .i64 i4)], [(0, .box [.sl 1 (List.map (eL 2 Range.c) f0.Kiln.Falls), .sl 6 (List.map Reading.c f0.Readings)])], [], 1, Try.f44.ntmps⟩
noncomputable def R04_Check.x0 : Unit → St := fun (_ : Unit) => ⟨[], [], [], 1, Try.f44.ntmps⟩
def R04_Check (k : Nat) (f0 : Firing) : Option (Int) :=
 (R04_CheckKiln k f0.Kiln).bind fun x1 =>
 bif (!decide (x1 = (0 : Int))) then
  some 40
 else
  bif decide ((60 : Int) < (f0.Readings.length : Int)) then
   some 2
  else
   (whl (R04_Check.b0 k f0) k 0).bind fun r9 => match r9 with
   | .next _ => none
   | .ret v_ => some v_
   | .brk _ =>
    some 0
theorem R04_Check_ok (k : Nat) (f0 : Firing) (r : Int) (h0 : R04_Check k f0 = some r) : PCall Try.prog 44 [.agg (Firing.c f0)] (fun y => y = .int .i64 r) := by
 refine PB (fn := Try.f44) (sc := F44.c) ?_
 refine rS ?_
 simp only [R04_Check] at h0
 try simp only [F44.c, go_sem]
 obtain ⟨x1, yx1, h0⟩ := bs h0
 refine zc0 (R04_CheckKiln_ok k _ _ yx1) ?_ (by first | rfl | simp [AV.refsL, AV.refs, AV.scal, AV.leaf]) ?_
 try simp only [go_sem]
 try simp only [go_sem]
 refine AKev_bif h0 ?_ ?_ <;> intro c2 h0
 have c2 := bnot_t c2
 try simp only [c2, go_sem]
 obtain rfl := Option.some.inj h0
 refine AKev_ret rfl ?_
 try simp only [F44.rs, c2, go_sem]
 have c2 := bnot_f c2
 try simp only [c2, go_sem]
 refine AKev_bif h0 ?_ ?_ <;> intro c3 h0
 try simp only [c3, c2, go_sem]
 obtain rfl := Option.some.inj h0
 refine AKev_ret rfl ?_
 try simp only [F44.rs, c2, c3, go_sem]
 try simp only [c3, c2, go_sem]
 obtain ⟨r9, yr9, h0⟩ := bs h0
 refine AKev_loopS yr9 (R04_Check.h0 f0) (R04_Check.x0) ?_ ?_ ?_
 refine Weak.go [1, 3] [0] rfl ?_
 try simp only [R04_Check.h0, c2, c3, go_sem]
 rintro i4 x_1 Bk1 Br1 h1 hnext1 hbrk1 hret1
 refine rS ?_
 simp only [R04_Check.b0] at h1
 try simp only [F44.s0, R04_Check.h0, c2, c3, go_sem]
 refine AKev_bif h1 ?_ ?_ <;> intro c5 h1
 try simp only [c5, c2, c3, go_sem]
 refine AKev_region T_ok follows_ok 1000 ?_
 try simp only [c2, c3, c5, go_sem]
 obtain ⟨x6, yx6, h1⟩ := bs h1
 try simp only [aa yx6, c2, c3, c5, go_sem]
 obtain ⟨x7, yx7, h1⟩ := bs h1
 refine DG_call0 1000 (R04_isReading_ok k _ _ _ yx7) ?_ (by first | rfl | simp [AV.refsL, AV.refs, AV.scal, AV.leaf]) ?_
 try simp only [c2, c3, c5, aa yx6, go_sem]
 try simp only [c2, c3, c5, aa yx6, go_sem]
 refine DG_done ⟨rfl, run_sound T_ok 1000 _ _ ?_⟩
 try simp only [c2, c3, c5, aa yx6, go_sem]
 refine AKev_bif h1 ?_ ?_ <;> intro c8 h1
 have c8 := bnot_t c8
 try simp only [c8, c2, c3, c5, aa yx6, go_sem]
 obtain rfl := hret1 _ (Option.some.inj h1).symm
 simp only at h0
 obtain rfl := Option.some.inj h0
 refine AKev_ret rfl ?_
 try simp only [F44.rs, c2, c3, c5, aa yx6, c8, go_sem]
 have c8 := bnot_f c8
 try simp only [c8, c2, c3, c5, aa yx6, go_sem]
 refine AKev_backB (hnext1 _ _ (Option.some.inj h1).symm ?_)
 refine Weak.go [1, 3] [0] rfl ?_
 try simp only [R04_Check.h0, c2, c3, c5, aa yx6, c8, go_sem]
 try simp only [c5, c2, c3, go_sem]
 refine AKev_backB (hbrk1 _ _ (Option.some.inj h1).symm ?_)
 refine Weak.go [] [] rfl ?_
 try simp only [R04_Check.x0, c2, c3, c5, go_sem]
 rintro _ hr_
 subst hr_
 simp only at h0
 refine rS ?_
 try simp only [R04_Check.x0, c2, c3, go_sem]
 obtain rfl := Option.some.inj h0
 refine AKev_ret rfl ?_
 try simp only [F44.rs, c2, c3, go_sem]
def F45.c : SC :=
 (.seq
 (.reg [oq 2 (.box 32 (.tmp 0)) 0 [0],
 sb 4 false 4 [4]])
 (.seq
 (.reg [mv 5 1 3 [],
 bn 6 .geq 3 5 0 3 4 [5],
 mv 7 6 4 [6],
 og 8 (.move (.tmp 1)) 3 7 true [1],
 og 9 (.fieldAddr 32 (.tmp 2) 1) 0 7 true [2],
 og 10 (.load 30 (.tmp 9)) 30 7 true [9],
 og 11 (.call ⟨.builtin .len, #[.tmp 10], #[30]⟩) 3 7 true [10],
 og 12 (.binOp .lss 3 (.tmp 8) (.tmp 11) 3) 4 7 true [8, 11],
 oq 13 (.pick (.tmp 7) (.tmp 12) (.const (.bool false))) 4 [7, 12],
 sg 4 13 4 [13]])
 .ret))
theorem F45.rs : Try.f45.results.toList = [.tmp 4] := rfl
def R04_index (k : Nat) (f0 : Firing) (n1 : Int) : Option (Bool) :=
 bif decide ((0 : Int) ≤ n1) then
  some (decide (n1 < (f0.Readings.length : Int)))
 else
  some false
theorem R04_index_ok (k : Nat) (f0 : Firing) (n1 : Int) (r : Bool) (h0 : R04_index k f0 n1 = some r) : PCall Try.prog 45 [.agg (Firing.c f0), .int .i64 n1] (fun y => y = .bool r) := by
 refine PB (fn := Try.f45) (sc := F45.c) ?_
 refine rS ?_
 simp only [R04_index] at h0
 try simp only [F45.c, go_sem]
 refine AKev_bif h0 ?_ ?_ <;> intro c1 h0
 try simp only [c1, go_sem]
 obtain rfl := Option.some.inj h0
 refine AKev_ret rfl ?_
 try simp only [F45.rs, c1, go_sem]
 try simp only [c1, go_sem]
 obtain rfl := Option.some.inj h0
 refine AKev_ret rfl ?_
 try simp only [F45.rs, c1, go_sem]
def F80.s0 : SC :=
 (.seq
 (.seq
 (.reg [mv 8 7 3 [],
 mv 9 0 23 [],
 ln 10 9 23 3 [9],
 b2 11 .lss 3 8 10 3 4 [8, 10]])
 (.cond (.tmp 11)
 .skip
 (.exit 0)))
 (.seq
 (.block 1
 (.seq
 (.seq
 (.reg [mv 14 0 23 [],
 mv 15 7 3 [],
 ia 16 23 14 15 [14, 15],
 ld 17 3 16 [16],
 mv 18 1 3 [],
 b2 19 .eql 3 17 18 3 4 [17, 18]])
 (.cond (.tmp 19)
 (.seq
 (.reg [mv 20 0 23 [0],
 sg 4 20 23 [20]])
 .ret)
 .skip))
 (.seq
 (.seq
 (.reg [mv 21 6 4 [],
 oq 22 (.unOp .not 4 (.tmp 21)) 4 [21],
 mv 23 22 4 [22],
 og 24 (.move (.tmp 0)) 23 23 true [],
 og 25 (.move (.tmp 7)) 3 23 true [],
 og 26 (.indexAddr 23 (.tmp 24) (.tmp 25)) 0 23 true [24, 25],
 og 27 (.load 3 (.tmp 26)) 3 23 true [26],
 og 28 (.move (.tmp 1)) 3 23 true [],
 og 29 (.binOp .gtr 3 (.tmp 27) (.tmp 28) 3) 4 23 true [27, 28],
 oq 30 (.pick (.tmp 23) (.tmp 29) (.const (.bool false))) 4 [23, 29]])
 (.cond (.tmp 30)
 (.seq
 (.reg [mv 31 5 23 [5],
 mv 32 1 3 [],
 oq 33 (.buildSlice 23 1 #[(0, .tmp 32)]) 23 [32],
 oq 34 (.call ⟨.builtin .append, #[.tmp 31, .tmp 33], #[23, 23]⟩) 23 [31, 33],
 sg 5 34 23 [34]])
 (.reg [sb 6 true 4 []]))
 .skip))
 (.reg [mv 35 5 23 [5],
 mv 36 0 23 [],
 mv 37 7 3 [],
 ia 38 23 36 37 [36, 37],
 ld 39 3 38 [38],
 oq 40 (.buildSlice 23 1 #[(0, .tmp 39)]) 23 [39],
 oq 41 (.call ⟨.builtin .append, #[.tmp 35, .tmp 40], #[23, 23]⟩) 23 [35, 40],
 sg 5 41 23 [41]]))))
 (.reg [mv 12 7 3 [7],
 bn 13 .add 3 12 1 3 3 [12],
 sg 7 13 3 [13]])))
def F80.c : SC :=
 (.seq
 (.reg [oq 4 (.assign (.const (.slice none 0 0))) 23 [4]])
 (.seq
 (.reg [oq 5 (.assign (.const (.slice none 0 0))) 23 []])
 (.seq
 (.reg [sb 6 false 4 []])
 (.seq
 (.seq
 (.reg [sn 7 0 3 []])
 (.block 0
 (.loop F80.s0)))
 (.seq
 (.seq
 (.reg [mv 42 6 4 [6],
 oq 43 (.unOp .not 4 (.tmp 42)) 4 [42]])
 (.cond (.tmp 43)
 (.reg [mv 44 5 23 [5],
 mv 45 1 3 [1],
 oq 46 (.buildSlice 23 1 #[(0, .tmp 45)]) 23 [45],
 oq 47 (.call ⟨.builtin .append, #[.tmp 44, .tmp 46], #[23, 23]⟩) 23 [44, 46],
 sg 5 47 23 [47]])
 .skip))
 (.seq
 (.reg [mv 48 5 23 [5],
 sg 4 48 23 [48]])
 .ret))))))
theorem F80.rs : Try.f80.results.toList = [.tmp 4] := rfl
def R01_add.b0 (k : Nat) (l0 : (List Int)) (n1 : Int) : (Bool × Int × (List Int)) → Option (Stp (Bool × Int × (List Int)) (Bool × (List Int)) ((List Int))) := fun (s : Bool × Int × (List Int)) => match s with
 | (b1, i2, l3) =>
   bif decide (i2 < (l0.length : Int)) then
    (at? l0 i2).bind fun x7 =>
    bif decide (x7 = n1) then
     some (.ret l0)
    else
     bif (!b1) then
      bif decide (n1 < x7) then
       (push? 8 l3 n1).bind fun l11 =>
       (push? 8 l11 x7).bind fun l12 =>
       some (.next (true, w64 (i2 + 1), l12))
      else
       (push? 8 l3 x7).bind fun l13 =>
       some (.next (b1, w64 (i2 + 1), l13))
     else
      (push? 8 l3 x7).bind fun l14 =>
      some (.next (b1, w64 (i2 + 1), l14))
   else
    some (.brk (b1, l3))
noncomputable def R01_add.h0 (l0 : (List Int)) (n1 : Int) : (Bool × Int × (List Int)) → St := fun (s : Bool × Int × (List Int)) => match s with
 | (b1, i2, l3) => ⟨[(0, .sl 1 (List.map eI l0)), (1, .int .i64 n1), (5, .loc 0 0 1 0 l3.length l3.length), (6, .bool b1), (7, .int .i64 i2)], [(0, .arr 3 1 (List.map eI l3))], [], 1, Try.f80.ntmps⟩
noncomputable def R01_add.x0 (n1 : Int) : (Bool × (List Int)) → St := fun (s : Bool × (List Int)) => match s with
 | (b4, l5) => ⟨[(1, .int .i64 n1), (5, .loc 0 0 1 0 l5.length l5.length), (6, .bool b4)], [(0, .arr 3 1 (List.map eI l5))], [], 1, Try.f80.ntmps⟩
def R01_add (k : Nat) (l0 : (List Int)) (n1 : Int) : Option ((List Int)) :=
 (whl (R01_add.b0 k l0 n1) k (false, 0, [])).bind fun r15 => match r15 with
 | .next _ => none
 | .ret v_ => some v_
 | .brk (b4, l5) =>
  bif (!b4) then
   (push? 8 l5 n1).bind fun l17 =>
   some l17
  else
   some l5
theorem R01_add_ok (k : Nat) (l0 : (List Int)) (n1 : Int) (r : (List Int)) (h0 : R01_add k l0 n1 = some r) : PCall Try.prog 80 [.sl 1 (List.map eI l0), .int .i64 n1] (fun y => y = .sl 1 (List.map eI r)) := by
 refine PB (fn := Try.f80) (sc := F80.c) ?_
 refine rS ?_
 simp only [R01_add] at h0
 try simp only [F80.c, go_sem]
 obtain ⟨r15, yr15, h0⟩ := bs h0
 refine AKev_loopS yr15 (R01_add.h0 l0 n1) (R01_add.x0 n1) ?_ ?_ ?_
 refine Weak.go [0, 1, 5, 6, 7] [16] rfl ?_
 try simp only [R01_add.h0, go_sem]
 rintro ⟨b1, i2, l3⟩ x_1 Bk1 Br1 h1 hnext1 hbrk1 hret1
 refine rS ?_
 simp only [R01_add.b0] at h1
 try simp only [F80.s0, R01_add.h0, go_sem]
 refine AKev_bif h1 ?_ ?_ <;> intro c6 h1
 try simp only [c6, go_sem]
 obtain ⟨x7, yx7, h1⟩ := bs h1
 try simp only [aa yx7, c6, go_sem]
 refine AKev_bif h1 ?_ ?_ <;> intro c8 h1
 try simp only [c8, c6, aa yx7, go_sem]
 obtain rfl := hret1 _ (Option.some.inj h1).symm
 simp only at h0
 obtain rfl := Option.some.inj h0
 refine AKev_ret rfl ?_
 try simp only [F80.rs, c6, aa yx7, c8, go_sem]
 try simp only [c8, c6, aa yx7, go_sem]
 refine AKev_bif h1 ?_ ?_ <;> intro c9 h1
 have c9 := bnot_t c9
 try simp only [c9, aa yx7, c6, c8, go_sem]
 refine AKev_bif h1 ?_ ?_ <;> intro c10 h1
 try simp only [c10, c6, aa yx7, c8, c9, go_sem]
 obtain ⟨l11, yl11, h1⟩ := bs h1
 have eyl11 := push_map eI yl11
 have tyl11 := push_take eI yl11
 have nyl11 := push_len yl11
 have myl11 := push_room yl11
 try simp only [c6, aa yx7, c8, c9, c10, go_sem] at eyl11 tyl11 nyl11 myl11
 try simp only [myl11, eyl11, aa yx7, c6, c8, c9, c10, nyl11, tyl11, go_sem]
 obtain ⟨l12, yl12, h1⟩ := bs h1
 have eyl12 := push_map eI yl12
 have tyl12 := push_take eI yl12
 have nyl12 := push_len yl12
 have myl12 := push_room yl12
 try simp only [c6, aa yx7, c8, c9, c10, eyl11, nyl11, tyl11, go_sem] at eyl12 tyl12 nyl12 myl12
 try simp only [myl12, eyl12, c6, aa yx7, c8, c9, c10, eyl11, nyl11, tyl11, nyl12, tyl12, go_sem]
 refine AKev_backB (hnext1 _ _ (Option.some.inj h1).symm ?_)
 refine Weak.go [0, 1, 5, 6, 7] [0] rfl ?_
 try simp only [R01_add.h0, c6, aa yx7, c8, c9, c10, eyl11, nyl11, tyl11, eyl12, nyl12, tyl12, go_sem]
 try simp only [c10, aa yx7, c6, c8, c9, go_sem]
 obtain ⟨l13, yl13, h1⟩ := bs h1
 have eyl13 := push_map eI yl13
 have tyl13 := push_take eI yl13
 have nyl13 := push_len yl13
 have myl13 := push_room yl13
 try simp only [c6, aa yx7, c8, c9, c10, go_sem] at eyl13 tyl13 nyl13 myl13
 try simp only [myl13, eyl13, c6, aa yx7, c8, c9, c10, nyl13, tyl13, go_sem]
 refine AKev_backB (hnext1 _ _ (Option.some.inj h1).symm ?_)
 refine Weak.go [0, 1, 5, 6, 7] [0] rfl ?_
 try simp only [R01_add.h0, c6, aa yx7, c8, c9, c10, eyl13, nyl13, tyl13, go_sem]
 have c9 := bnot_f c9
 try simp only [c9, aa yx7, c6, c8, go_sem]
 obtain ⟨l14, yl14, h1⟩ := bs h1
 have eyl14 := push_map eI yl14
 have tyl14 := push_take eI yl14
 have nyl14 := push_len yl14
 have myl14 := push_room yl14
 try simp only [c6, aa yx7, c8, c9, go_sem] at eyl14 tyl14 nyl14 myl14
 try simp only [myl14, eyl14, c6, aa yx7, c8, c9, nyl14, tyl14, go_sem]
 refine AKev_backB (hnext1 _ _ (Option.some.inj h1).symm ?_)
 refine Weak.go [0, 1, 5, 6, 7] [0] rfl ?_
 try simp only [R01_add.h0, c6, aa yx7, c8, c9, eyl14, nyl14, tyl14, go_sem]
 try simp only [c6, go_sem]
 refine AKev_backB (hbrk1 _ _ (Option.some.inj h1).symm ?_)
 refine Weak.go [1, 5, 6] [0] rfl ?_
 try simp only [R01_add.x0, c6, go_sem]
 rintro ⟨b4, l5⟩ hr_
 subst hr_
 simp only at h0
 refine rS ?_
 try simp only [R01_add.x0, go_sem]
 refine AKev_bif h0 ?_ ?_ <;> intro c16 h0
 have c16 := bnot_t c16
 try simp only [c16, go_sem]
 obtain ⟨l17, yl17, h0⟩ := bs h0
 have eyl17 := push_map eI yl17
 have tyl17 := push_take eI yl17
 have nyl17 := push_len yl17
 have myl17 := push_room yl17
 try simp only [c16, go_sem] at eyl17 tyl17 nyl17 myl17
 try simp only [myl17, eyl17, c16, nyl17, tyl17, go_sem]
 obtain rfl := Option.some.inj h0
 refine AKev_ret rfl ?_
 try simp only [F80.rs, c16, eyl17, nyl17, tyl17, go_sem]
 have c16 := bnot_f c16
 try simp only [c16, go_sem]
 obtain rfl := Option.some.inj h0
 refine AKev_ret rfl ?_
 try simp only [F80.rs, c16, go_sem]
def F46.s0 : SC :=
 (.seq
 (.seq
 (.reg [mv 5 4 3 [],
 mv 6 0 23 [],
 ln 7 6 23 3 [6],
 b2 8 .lss 3 5 7 3 4 [5, 7]])
 (.cond (.tmp 8)
 .skip
 (.exit 0)))
 (.seq
 (.block 1
 (.reg [mv 11 3 23 [3],
 mv 12 0 23 [],
 mv 13 4 3 [],
 ia 14 23 12 13 [12, 13],
 ld 15 3 14 [14],
 cf2 16 80 11 15 23 3 23 [11, 15],
 sg 3 16 23 [16]]))
 (.reg [mv 9 4 3 [4],
 bn 10 .add 3 9 1 3 3 [9],
 sg 4 10 3 [10]])))
def F46.c : SC :=
 (.seq
 (.reg [oq 2 (.assign (.const (.slice none 0 0))) 23 [2]])
 (.seq
 (.reg [oq 3 (.assign (.const (.slice none 0 0))) 23 []])
 (.seq
 (.seq
 (.reg [sn 4 0 3 []])
 (.block 0
 (.loop F46.s0)))
 (.seq
 (.reg [mv 17 3 23 [3],
 sg 2 17 23 [17]])
 .ret))))
theorem F46.rs : Try.f46.results.toList = [.tmp 2] := rfl
def R01_Sorted.b0 (k : Nat) (l0 : (List Int)) : ((List Int) × Int) → Option (Stp ((List Int) × Int) ((List Int)) ((List Int))) := fun (s : (List Int) × Int) => match s with
 | (l1, i2) =>
   bif decide (i2 < (l0.length : Int)) then
    (at? l0 i2).bind fun x5 =>
    (R01_add k l1 x5).bind fun x6 =>
    some (.next (x6, w64 (i2 + 1)))
   else
    some (.brk l1)
noncomputable def R01_Sorted.h0 (l0 : (List Int)) : ((List Int) × Int) → St := fun (s : (List Int) × Int) => match s with
 | (l1, i2) => ⟨[(0, .sl 1 (List.map eI l0)), (3, .sl 1 (List.map eI l1)), (4, .int .i64 i2)], [], [], 1, Try.f46.ntmps⟩
noncomputable def R01_Sorted.x0 : (List Int) → St := fun (l3 : (List Int)) => ⟨[(3, .sl 1 (List.map eI l3))], [], [], 1, Try.f46.ntmps⟩
def R01_Sorted (k : Nat) (l0 : (List Int)) : Option ((List Int)) :=
 (whl (R01_Sorted.b0 k l0) k ([], 0)).bind fun r7 => match r7 with
 | .next _ => none
 | .ret v_ => some v_
 | .brk l3 =>
  some l3
theorem R01_Sorted_ok (k : Nat) (l0 : (List Int)) (r : (List Int)) (h0 : R01_Sorted k l0 = some r) : PCall Try.prog 46 [.sl 1 (List.map eI l0)] (fun y => y = .sl 1 (List.map eI r)) := by
 refine PB (fn := Try.f46) (sc := F46.c) ?_
 refine rS ?_
 simp only [R01_Sorted] at h0
 try simp only [F46.c, go_sem]
 obtain ⟨r7, yr7, h0⟩ := bs h0
 refine AKev_loopS yr7 (R01_Sorted.h0 l0) (R01_Sorted.x0) ?_ ?_ ?_
 refine Weak.trans (Weak.fz 16 rfl (fun _ h => by cases h)) ?_
 refine Weak.go [0, 3, 4] [] rfl ?_
 try simp only [R01_Sorted.h0, go_sem]
 rintro ⟨l1, i2⟩ x_1 Bk1 Br1 h1 hnext1 hbrk1 hret1
 refine rS ?_
 simp only [R01_Sorted.b0] at h1
 try simp only [F46.s0, R01_Sorted.h0, go_sem]
 refine AKev_bif h1 ?_ ?_ <;> intro c4 h1
 try simp only [c4, go_sem]
 obtain ⟨x5, yx5, h1⟩ := bs h1
 try simp only [aa yx5, c4, go_sem]
 obtain ⟨x6, yx6, h1⟩ := bs h1
 refine zc0 (R01_add_ok k _ _ _ yx6) ?_ (by first | rfl | simp [AV.refsL, AV.refs, AV.scal, AV.leaf]) ?_
 try simp only [c4, aa yx5, go_sem]
 try simp only [c4, aa yx5, go_sem]
 refine AKev_backB (hnext1 _ _ (Option.some.inj h1).symm ?_)
 refine Weak.go [0, 3, 4] [] rfl ?_
 try simp only [R01_Sorted.h0, c4, aa yx5, go_sem]
 try simp only [c4, go_sem]
 refine AKev_backB (hbrk1 _ _ (Option.some.inj h1).symm ?_)
 refine Weak.go [3] [] rfl ?_
 try simp only [R01_Sorted.x0, c4, go_sem]
 rintro l3 hr_
 subst hr_
 simp only at h0
 refine rS ?_
 try simp only [R01_Sorted.x0, go_sem]
 obtain rfl := Option.some.inj h0
 refine AKev_ret rfl ?_
 try simp only [F46.rs, go_sem]
def F16.s0 : SC :=
 (.seq
 (.seq
 (.reg [mv 32 7 3 [],
 fa 33 51 3 1 [],
 ld 34 23 33 [33],
 ln 35 34 23 3 [34],
 b2 36 .lss 3 32 35 3 4 [32, 35],
 mv 37 36 4 [36],
 og 38 (.fieldAddr 51 (.tmp 3) 0) 0 37 true [],
 og 39 (.load 3 (.tmp 38)) 3 37 true [38],
 og 40 (.binOp .neq 3 (.tmp 39) (.const (.int .i64 (-2))) 3) 4 37 true [39],
 oq 41 (.pick (.tmp 37) (.tmp 40) (.const (.bool false))) 4 [37, 40]])
 (.cond (.tmp 41)
 .skip
 (.exit 0)))
 (.seq
 (.block 1
 (.seq
 (.seq
 (.reg [fa 44 51 3 1 [],
 ld 45 23 44 [44],
 mv 46 7 3 [],
 ia 47 23 45 46 [45, 46],
 ld 48 3 47 [47],
 bn 49 .lss 3 48 0 3 4 [48]])
 (.cond (.tmp 49)
 (.exit 1)
 .skip))
 (.seq
 (.seq
 (.dreg [ld 50 32 2 [],
 fa 51 51 3 1 [],
 ld 52 23 51 [],
 mv 53 7 3 [],
 ia 54 23 52 53 [],
 ld 55 3 54 [],
 cf2 56 45 50 55 32 3 4 [],
 oq 57 (.unOp .not 4 (.tmp 56)) 4 []] [[], [], [1], [], [1, 2, 3], [1, 2, 3, 4], [0, 1, 2, 3, 4, 5], [0, 1, 2, 3, 4, 5, 6]] [50, 51, 52, 53, 54, 55, 56])
 (.cond (.tmp 57)
 (.seq
 (.reg [oq 4 (.assign (.const (.slice none 0 0))) 23 [],
 sn 5 46 43 []])
 .ret)
 .skip))
 (.dreg [mv 58 6 23 [],
 fa 59 32 2 1 [],
 ld 60 30 59 [],
 fa 61 51 3 1 [],
 ld 62 23 61 [],
 mv 63 7 3 [],
 ia 64 23 62 63 [],
 ld 65 3 64 [],
 ia 66 30 60 65 [],
 fa 67 60 66 0 [],
 ld 68 3 67 [],
 oq 69 (.buildSlice 23 1 #[(0, .tmp 68)]) 23 [],
 oq 70 (.call ⟨.builtin .append, #[.tmp 58, .tmp 69], #[23, 23]⟩) 23 [],
 sg 6 70 23 []] [[], [], [1], [], [3], [], [3, 4, 5], [3, 4, 5, 6], [1, 2, 3, 4, 5, 6, 7], [1, 2, 3, 4, 5, 6, 7, 8], [1, 2, 3, 4, 5, 6, 7, 8, 9], [1, 2, 3, 4, 5, 6, 7, 8, 9, 10], [0, 1, 2, 3, 4, 5, 6, 7, 8, 9, 10, 11], [0, 1, 2, 3, 4, 5, 6, 7, 8, 9, 10, 11, 12]] [58, 59, 60, 61, 62, 63, 64, 65, 66, 67, 68, 69, 70]))))
 (.reg [mv 42 7 3 [7],
 bn 43 .add 3 42 1 3 3 [42],
 sg 7 43 3 [43]])))
def F16.c : SC :=
 (.seq
 (.reg [oq 2 (.box 32 (.tmp 0)) 0 [0],
 oq 3 (.box 51 (.tmp 1)) 0 [1],
 oq 4 (.assign (.const (.slice none 0 0))) 23 [4],
 sn 5 0 43 [5]])
 (.seq
 (.seq
 (.reg [ld 8 32 2 [],
 cf1 9 44 8 32 43 [8],
 bn 10 .neq 43 9 0 43 4 [9]])
 (.cond (.tmp 10)
 (.seq
 (.reg [oq 4 (.assign (.const (.slice none 0 0))) 23 [],
 sn 5 42 43 []])
 .ret)
 .skip))
 (.seq
 (.reg [oq 6 (.assign (.const (.slice none 0 0))) 23 []])
 (.seq
 (.seq
 (.reg [fa 11 51 3 0 [],
 ld 12 3 11 [11],
 bn 13 .lss 3 12 (-2) 3 4 [12]])
 (.cond (.tmp 13)
 (.seq
 (.reg [oq 4 (.assign (.const (.slice none 0 0))) 23 [],
 sn 5 46 43 []])
 .ret)
 .skip))
 (.seq
 (.seq
 (.reg [fa 14 51 3 0 [],
 ld 15 3 14 [14],
 bn 16 .geq 3 15 0 3 4 [15]])
 (.cond (.tmp 16)
 (.seq
 (.seq
 (.reg [ld 17 32 2 [],
 fa 18 51 3 0 [],
 ld 19 3 18 [18],
 cf2 20 45 17 19 32 3 4 [17, 19],
 oq 21 (.unOp .not 4 (.tmp 20)) 4 [20]])
 (.cond (.tmp 21)
 (.seq
 (.reg [oq 4 (.assign (.const (.slice none 0 0))) 23 [],
 sn 5 46 43 []])
 .ret)
 .skip))
 (.reg [mv 22 6 23 [6],
 fa 23 32 2 1 [],
 ld 24 30 23 [23],
 fa 25 51 3 0 [],
 ld 26 3 25 [25],
 ia 27 30 24 26 [24, 26],
 fa 28 60 27 0 [27],
 ld 29 3 28 [28],
 oq 30 (.buildSlice 23 1 #[(0, .tmp 29)]) 23 [29],
 oq 31 (.call ⟨.builtin .append, #[.tmp 22, .tmp 30], #[23, 23]⟩) 23 [22, 30],
 sg 6 31 23 [31]]))
 .skip))
 (.seq
 (.seq
 (.reg [sn 7 0 3 []])
 (.block 0
 (.loop F16.s0)))
 (.seq
 (.reg [mv 71 6 23 [6],
 cf1 72 46 71 23 23 [71],
 sg 4 72 23 [72],
 sn 5 0 43 []])
 .ret)))))))
theorem F16.rs : Try.f16.results.toList = [.tmp 4, .tmp 5] := rfl
def R04_Rests.b0 (k : Nat) (f0 : Firing) (p1 : HeatProof) : (Int × (List Int)) → Option (Stp (Int × (List Int)) ((List Int)) ((List Int) × Int)) := fun (s : Int × (List Int)) => match s with
 | (i8, l9) =>
   bif decide (i8 < (p1.By.length : Int)) then
    bif (!decide (p1.Reading = (-2 : Int))) then
     (at? p1.By i8).bind fun x13 =>
     bif decide (x13 < (0 : Int)) then
      some (.next (w64 (i8 + 1), l9))
     else
      (R04_index k f0 x13).bind fun x15 =>
      bif (!x15) then
       some (.ret ([], 46))
      else
       (at? f0.Readings x13).bind fun x17 =>
       (push? 8 l9 x17.Source).bind fun l18 =>
       some (.next (w64 (i8 + 1), l18))
    else
     some (.brk l9)
   else
    some (.brk l9)
def R04_Rests.b0_2 (k : Nat) (f0 : Firing) (p1 : HeatProof) : (Int × (List Int)) → Option (Stp (Int × (List Int)) ((List Int)) ((List Int) × Int)) := fun (s : Int × (List Int)) => match s with
 | (i21, l22) =>
   bif decide (i21 < (p1.By.length : Int)) then
    bif (!decide (p1.Reading = (-2 : Int))) then
     (at? p1.By i21).bind fun x26 =>
     bif decide (x26 < (0 : Int)) then
      some (.next (w64 (i21 + 1), l22))
     else
      (R04_index k f0 x26).bind fun x28 =>
      bif (!x28) then
       some (.ret ([], 46))
      else
       (at? f0.Readings x26).bind fun x30 =>
       (push? 8 l22 x30.Source).bind fun l31 =>
       some (.next (w64 (i21 + 1), l31))
    else
     some (.brk l22)
   else
    some (.brk l22)
noncomputable def R04_Rests.h0 (f0 : Firing) (p1 : HeatProof) : (Int × (List Int)) → St := fun (s : Int × (List Int)) => match s with
 | (i8, l9) => ⟨[(2, .ptr 0 0 0), (3, .ptr 0 1 0), (6, .loc 0 2 1 0 l9.length l9.length), (7, .int .i64 i8)], [(0, .box [.sl 1 (List.map (eL 2 Range.c) f0.Kiln.Falls), .sl 6 (List.map Reading.c f0.Readings)]), (1, .box [.int .i64 p1.Reading, .sl 1 (List.map eI p1.By)]), (2, .arr 3 1 (List.map eI l9))], [], 3, Try.f16.ntmps⟩
noncomputable def R04_Rests.x0 : (List Int) → St := fun (l10 : (List Int)) => ⟨[(6, .loc 0 0 1 0 l10.length l10.length)], [(0, .arr 3 1 (List.map eI l10))], [], 1, Try.f16.ntmps⟩
noncomputable def R04_Rests.h0_2 (f0 : Firing) (p1 : HeatProof) : (Int × (List Int)) → St := fun (s : Int × (List Int)) => match s with
 | (i21, l22) => ⟨[(2, .ptr 0 0 0), (3, .ptr 0 1 0), (6, .loc 0 2 1 0 l22.length l22.length), (7, .int .i64 i21)], [(0, .box [.sl 1 (List.map (eL 2 Range.c) f0.Kiln.Falls), .sl 6 (List.map Reading.c f0.Readings)]), (1, .box [.int .i64 p1.Reading, .sl 1 (List.map eI p1.By)]), (2, .arr 3 1 (List.map eI l22))], [], 3, Try.f16.ntmps⟩
noncomputable def R04_Rests.x0_2 : (List Int) → St := fun (l23 : (List Int)) => ⟨[(6, .loc 0 0 1 0 l23.length l23.length)], [(0, .arr 3 1 (List.map eI l23))], [], 1, Try.f16.ntmps⟩
def R04_Rests (k : Nat) (f0 : Firing) (p1 : HeatProof) : Option ((List Int) × Int) :=
 (R04_Check k f0).bind fun x1 =>
 bif (!decide (x1 = (0 : Int))) then
  some ([], 42)
 else
  bif decide (p1.Reading < (-2 : Int)) then
   some ([], 46)
  else
   bif decide ((0 : Int) ≤ p1.Reading) then
    (R04_index k f0 p1.Reading).bind fun x5 =>
    bif (!x5) then
     some ([], 46)
    else
     (at? f0.Readings p1.Reading).bind fun x7 =>
     (whl (R04_Rests.b0 k f0 p1) k (0, [x7.Source])).bind fun r19 => match r19 with
     | .next _ => none
     | .ret v_ => some v_
     | .brk l10 =>
      (R01_Sorted k l10).bind fun x20 =>
      some (x20, 0)
   else
    (whl (R04_Rests.b0_2 k f0 p1) k (0, [])).bind fun r32 => match r32 with
    | .next _ => none
    | .ret v_ => some v_
    | .brk l23 =>
     (R01_Sorted k l23).bind fun x33 =>
     some (x33, 0)
theorem R04_Rests_ok (k : Nat) (f0 : Firing) (p1 : HeatProof) (r : (List Int) × Int) (h0 : R04_Rests k f0 p1 = some r) : PCall Try.prog 16 [.agg (Firing.c f0), .agg (HeatProof.c p1)] (fun y => y = .tup [.sl 1 (List.map eI r.1), .int .i64 r.2]) := by
 refine PB (fn := Try.f16) (sc := F16.c) ?_
 refine rS ?_
 simp only [R04_Rests] at h0
 try simp only [F16.c, go_sem]
 obtain ⟨x1, yx1, h0⟩ := bs h0
 refine zc0 (R04_Check_ok k _ _ yx1) ?_ (by first | rfl | simp [AV.refsL, AV.refs, AV.scal, AV.leaf]) ?_
 try simp only [go_sem]
 try simp only [go_sem]
 refine AKev_bif h0 ?_ ?_ <;> intro c2 h0
 have c2 := bnot_t c2
 try simp only [c2, go_sem]
 obtain rfl := Option.some.inj h0
 refine AKev_ret rfl ?_
 try simp only [F16.rs, c2, go_sem]
 have c2 := bnot_f c2
 try simp only [c2, go_sem]
 refine AKev_bif h0 ?_ ?_ <;> intro c3 h0
 try simp only [c3, c2, go_sem]
 obtain rfl := Option.some.inj h0
 refine AKev_ret rfl ?_
 try simp only [F16.rs, c2, c3, go_sem]
 try simp only [c3, c2, go_sem]
 refine AKev_bif h0 ?_ ?_ <;> intro c4 h0
 try simp only [c4, c2, c3, go_sem]
 obtain ⟨x5, yx5, h0⟩ := bs h0
 refine zc0 (R04_index_ok k _ _ _ yx5) ?_ (by first | rfl | simp [AV.refsL, AV.refs, AV.scal, AV.leaf]) ?_
 try simp only [c2, c3, c4, go_sem]
 try simp only [c2, c3, c4, go_sem]
 refine AKev_bif h0 ?_ ?_ <;> intro c6 h0
 have c6 := bnot_t c6
 try simp only [c6, c2, c3, c4, go_sem]
 obtain rfl := Option.some.inj h0
 refine AKev_ret rfl ?_
 try simp only [F16.rs, c2, c3, c4, c6, go_sem]
 have c6 := bnot_f c6
 try simp only [c6, c2, c3, c4, go_sem]
 obtain ⟨x7, yx7, h0⟩ := bs h0
 try simp only [aa yx7, (by decide : room 1 8), c2, c3, c4, c6, go_sem]
 obtain ⟨r19, yr19, h0⟩ := bs h0
 refine AKev_loopS yr19 (R04_Rests.h0 f0 p1) (R04_Rests.x0) ?_ ?_ ?_
 refine Weak.go [2, 3, 6, 7] [0, 16, 112] rfl ?_
 try simp only [R04_Rests.h0, c2, c3, c4, c6, aa yx7, go_sem]
 rintro ⟨i8, l9⟩ x_1 Bk1 Br1 h1 hnext1 hbrk1 hret1
 refine rS ?_
 simp only [R04_Rests.b0] at h1
 try simp only [F16.s0, R04_Rests.h0, c2, c3, c4, c6, aa yx7, go_sem]
 refine AKev_bif h1 ?_ ?_ <;> intro c11 h1
 try simp only [c11, c2, c3, c4, c6, aa yx7, go_sem]
 refine AKev_bif h1 ?_ ?_ <;> intro c12 h1
 have c12 := bnot_t c12
 try simp only [c12, c2, c3, c4, c6, aa yx7, c11, go_sem]
 obtain ⟨x13, yx13, h1⟩ := bs h1
 try simp only [aa yx13, c2, c3, c4, c6, aa yx7, c11, c12, go_sem]
 refine AKev_bif h1 ?_ ?_ <;> intro c14 h1
 try simp only [c14, c2, c3, c4, c6, aa yx7, c11, c12, aa yx13, go_sem]
 refine AKev_backB (hnext1 _ _ (Option.some.inj h1).symm ?_)
 refine Weak.go [2, 3, 6, 7] [0, 1, 2] rfl ?_
 try simp only [R04_Rests.h0, c2, c3, c4, c6, aa yx7, c11, c12, aa yx13, c14, go_sem]
 try simp only [c14, c2, c3, c4, c6, aa yx7, c11, c12, aa yx13, go_sem]
 refine AKev_region T_ok follows_ok 1000 ?_
 try simp only [aa yx13, c2, c3, c4, c6, aa yx7, c11, c12, c14, go_sem]
 obtain ⟨x15, yx15, h1⟩ := bs h1
 refine DG_call0 1000 (R04_index_ok k _ _ _ yx15) ?_ (by first | rfl | simp [AV.refsL, AV.refs, AV.scal, AV.leaf]) ?_
 try simp only [c2, c3, c4, c6, aa yx7, c11, c12, aa yx13, c14, go_sem]
 try simp only [c2, c3, c4, c6, aa yx7, c11, c12, aa yx13, c14, go_sem]
 refine DG_done ⟨rfl, run_sound T_ok 1000 _ _ ?_⟩
 try simp only [c2, c3, c4, c6, aa yx7, c11, c12, aa yx13, c14, go_sem]
 refine AKev_bif h1 ?_ ?_ <;> intro c16 h1
 have c16 := bnot_t c16
 try simp only [c16, c2, c3, c4, c6, aa yx7, c11, c12, aa yx13, c14, go_sem]
 obtain rfl := hret1 _ (Option.some.inj h1).symm
 simp only at h0
 obtain rfl := Option.some.inj h0
 refine AKev_ret rfl ?_
 try simp only [F16.rs, c2, c3, c4, c6, aa yx7, c11, c12, aa yx13, c14, c16, go_sem]
 have c16 := bnot_f c16
 try simp only [c16, c2, c3, c4, c6, aa yx7, c11, c12, aa yx13, c14, go_sem]
 refine AKev_region T_ok follows_ok 1000 ?_
 try simp only [aa yx13, c2, c3, c4, c6, aa yx7, c11, c12, c14, c16, go_sem]
 obtain ⟨x17, yx17, h1⟩ := bs h1
 try simp only [aa yx17, c2, c3, c4, c6, aa yx7, c11, c12, aa yx13, c14, c16, go_sem]
 obtain ⟨l18, yl18, h1⟩ := bs h1
 have eyl18 := push_map eI yl18
 have tyl18 := push_take eI yl18
 have nyl18 := push_len yl18
 have myl18 := push_room yl18
 try simp only [c2, c3, c4, c6, aa yx7, c11, c12, aa yx13, c14, c16, aa yx17, go_sem] at eyl18 tyl18 nyl18 myl18
 try simp only [myl18, eyl18, c2, c3, c4, c6, aa yx7, c11, c12, aa yx13, c14, c16, aa yx17, nyl18, tyl18, go_sem]
 refine DG_done ⟨rfl, run_sound T_ok 1000 _ _ ?_⟩
 try simp only [c2, c3, c4, c6, aa yx7, c11, c12, aa yx13, c14, c16, aa yx17, eyl18, nyl18, tyl18, go_sem]
 refine AKev_backB (hnext1 _ _ (Option.some.inj h1).symm ?_)
 refine Weak.go [2, 3, 6, 7] [0, 1, 2] rfl ?_
 try simp only [R04_Rests.h0, c2, c3, c4, c6, aa yx7, c11, c12, aa yx13, c14, c16, aa yx17, eyl18, nyl18, tyl18, go_sem]
 have c12 := bnot_f c12
 try simp only [c12, c2, c3, c4, c6, aa yx7, c11, go_sem]
 refine AKev_backB (hbrk1 _ _ (Option.some.inj h1).symm ?_)
 refine Weak.go [6] [2] rfl ?_
 try simp only [R04_Rests.x0, c2, c3, c4, c6, aa yx7, c11, c12, go_sem]
 try simp only [c11, c2, c3, c4, c6, aa yx7, go_sem]
 refine AKev_backB (hbrk1 _ _ (Option.some.inj h1).symm ?_)
 refine Weak.go [6] [2] rfl ?_
 try simp only [R04_Rests.x0, c2, c3, c4, c6, aa yx7, c11, go_sem]
 rintro l10 hr_
 subst hr_
 simp only at h0
 refine rS ?_
 try simp only [R04_Rests.x0, c2, c3, c4, c6, aa yx7, go_sem]
 obtain ⟨x20, yx20, h0⟩ := bs h0
 refine zcT [0] (R01_Sorted_ok k _ _ yx20) ?_ ?_
 try simp only [c2, c3, c4, c6, aa yx7, go_sem]
 try simp only [c2, c3, c4, c6, aa yx7, go_sem]
 obtain rfl := Option.some.inj h0
 refine AKev_ret rfl ?_
 try simp only [F16.rs, c2, c3, c4, c6, aa yx7, go_sem]
 try simp only [c4, c2, c3, go_sem]
 obtain ⟨r32, yr32, h0⟩ := bs h0
 refine AKev_loopS yr32 (R04_Rests.h0_2 f0 p1) (R04_Rests.x0_2) ?_ ?_ ?_
 refine Weak.go [2, 3, 6, 7] [0, 16, 112] rfl ?_
 try simp only [R04_Rests.h0_2, c2, c3, c4, go_sem]
 rintro ⟨i21, l22⟩ x_1 Bk1 Br1 h1 hnext1 hbrk1 hret1
 refine rS ?_
 simp only [R04_Rests.b0_2] at h1
 try simp only [F16.s0, R04_Rests.h0_2, c2, c3, c4, go_sem]
 refine AKev_bif h1 ?_ ?_ <;> intro c24 h1
 try simp only [c24, c2, c3, c4, go_sem]
 refine AKev_bif h1 ?_ ?_ <;> intro c25 h1
 have c25 := bnot_t c25
 try simp only [c25, c2, c3, c4, c24, go_sem]
 obtain ⟨x26, yx26, h1⟩ := bs h1
 try simp only [aa yx26, c2, c3, c4, c24, c25, go_sem]
 refine AKev_bif h1 ?_ ?_ <;> intro c27 h1
 try simp only [c27, c2, c3, c4, c24, c25, aa yx26, go_sem]
 refine AKev_backB (hnext1 _ _ (Option.some.inj h1).symm ?_)
 refine Weak.go [2, 3, 6, 7] [0, 1, 2] rfl ?_
 try simp only [R04_Rests.h0_2, c2, c3, c4, c24, c25, aa yx26, c27, go_sem]
 try simp only [c27, c2, c3, c4, c24, c25, aa yx26, go_sem]
 refine AKev_region T_ok follows_ok 1000 ?_
 try simp only [aa yx26, c2, c3, c4, c24, c25, c27, go_sem]
 obtain ⟨x28, yx28, h1⟩ := bs h1
 refine DG_call0 1000 (R04_index_ok k _ _ _ yx28) ?_ (by first | rfl | simp [AV.refsL, AV.refs, AV.scal, AV.leaf]) ?_
 try simp only [c2, c3, c4, c24, c25, aa yx26, c27, go_sem]
 try simp only [c2, c3, c4, c24, c25, aa yx26, c27, go_sem]
 refine DG_done ⟨rfl, run_sound T_ok 1000 _ _ ?_⟩
 try simp only [c2, c3, c4, c24, c25, aa yx26, c27, go_sem]
 refine AKev_bif h1 ?_ ?_ <;> intro c29 h1
 have c29 := bnot_t c29
 try simp only [c29, c2, c3, c4, c24, c25, aa yx26, c27, go_sem]
 obtain rfl := hret1 _ (Option.some.inj h1).symm
 simp only at h0
 obtain rfl := Option.some.inj h0
 refine AKev_ret rfl ?_
 try simp only [F16.rs, c2, c3, c4, c24, c25, aa yx26, c27, c29, go_sem]
 have c29 := bnot_f c29
 try simp only [c29, c2, c3, c4, c24, c25, aa yx26, c27, go_sem]
 refine AKev_region T_ok follows_ok 1000 ?_
 try simp only [aa yx26, c2, c3, c4, c24, c25, c27, c29, go_sem]
 obtain ⟨x30, yx30, h1⟩ := bs h1
 try simp only [aa yx30, c2, c3, c4, c24, c25, aa yx26, c27, c29, go_sem]
 obtain ⟨l31, yl31, h1⟩ := bs h1
 have eyl31 := push_map eI yl31
 have tyl31 := push_take eI yl31
 have nyl31 := push_len yl31
 have myl31 := push_room yl31
 try simp only [c2, c3, c4, c24, c25, aa yx26, c27, c29, aa yx30, go_sem] at eyl31 tyl31 nyl31 myl31
 try simp only [myl31, eyl31, c2, c3, c4, c24, c25, aa yx26, c27, c29, aa yx30, nyl31, tyl31, go_sem]
 refine DG_done ⟨rfl, run_sound T_ok 1000 _ _ ?_⟩
 try simp only [c2, c3, c4, c24, c25, aa yx26, c27, c29, aa yx30, eyl31, nyl31, tyl31, go_sem]
 refine AKev_backB (hnext1 _ _ (Option.some.inj h1).symm ?_)
 refine Weak.go [2, 3, 6, 7] [0, 1, 2] rfl ?_
 try simp only [R04_Rests.h0_2, c2, c3, c4, c24, c25, aa yx26, c27, c29, aa yx30, eyl31, nyl31, tyl31, go_sem]
 have c25 := bnot_f c25
 try simp only [c25, c2, c3, c4, c24, go_sem]
 refine AKev_backB (hbrk1 _ _ (Option.some.inj h1).symm ?_)
 refine Weak.go [6] [2] rfl ?_
 try simp only [R04_Rests.x0_2, c2, c3, c4, c24, c25, go_sem]
 try simp only [c24, c2, c3, c4, go_sem]
 refine AKev_backB (hbrk1 _ _ (Option.some.inj h1).symm ?_)
 refine Weak.go [6] [2] rfl ?_
 try simp only [R04_Rests.x0_2, c2, c3, c4, c24, go_sem]
 rintro l23 hr_
 subst hr_
 simp only at h0
 refine rS ?_
 try simp only [R04_Rests.x0_2, c2, c3, c4, go_sem]
 obtain ⟨x33, yx33, h0⟩ := bs h0
 refine zcT [0] (R01_Sorted_ok k _ _ yx33) ?_ ?_
 try simp only [c2, c3, c4, go_sem]
 try simp only [c2, c3, c4, go_sem]
 obtain rfl := Option.some.inj h0
 refine AKev_ret rfl ?_
 try simp only [F16.rs, c2, c3, c4, go_sem]
def F50.c : SC :=
 (.seq
 (.reg [oq 2 (.box 32 (.tmp 0)) 0 [0],
 sn 4 0 43 [4]])
 (.seq
 (.seq
 (.reg [ld 5 32 2 [],
 cf1 6 44 5 32 43 [5],
 bn 7 .neq 43 6 0 43 4 [6]])
 (.cond (.tmp 7)
 (.seq
 (.reg [sn 4 42 43 []])
 .ret)
 .skip))
 (.seq
 (.seq
 (.reg [mv 8 1 3 [1],
 fa 9 32 2 0 [2],
 fa 10 29 9 0 [9],
 ld 11 27 10 [10],
 oq 12 (.indexAddr 27 (.tmp 11) (.const (.int .i64 0))) 0 [11],
 ld 13 40 12 [12],
 ln 14 13 40 3 [13],
 bn 15 .sub 3 14 1 3 3 [14],
 oq 16 (.call ⟨.value (.func 84), #[.tmp 8, .const (.int .i64 0), .tmp 15], #[3, 3, 3]⟩) 4 [8, 15],
 oq 17 (.unOp .not 4 (.tmp 16)) 4 [16]])
 (.cond (.tmp 17)
 (.seq
 (.reg [sn 4 43 43 []])
 .ret)
 .skip))
 (.seq
 (.reg [sn 4 0 43 []])
 .ret))))
theorem F50.rs : Try.f50.results.toList = [.tmp 4] := rfl
def R04_asked (k : Nat) (f0 : Firing) (place1 : Int) : Option (Int) :=
 (R04_Check k f0).bind fun x1 =>
 bif (!decide (x1 = (0 : Int))) then
  some 42
 else
  (at? f0.Kiln.Falls 0).bind fun x3 =>
  (R01_In k place1 0 (w64 ((x3.length : Int) - 1))).bind fun x4 =>
  bif (!x4) then
   some 43
  else
   some 0
theorem R04_asked_ok (k : Nat) (f0 : Firing) (place1 : Int) (r : Int) (h0 : R04_asked k f0 place1 = some r) : PCall Try.prog 50 [.agg (Firing.c f0), .int .i64 place1] (fun y => y = .int .i64 r) := by
 refine PB (fn := Try.f50) (sc := F50.c) ?_
 refine rS ?_
 simp only [R04_asked] at h0
 try simp only [F50.c, go_sem]
 obtain ⟨x1, yx1, h0⟩ := bs h0
 refine zc0 (R04_Check_ok k _ _ yx1) ?_ (by first | rfl | simp [AV.refsL, AV.refs, AV.scal, AV.leaf]) ?_
 try simp only [go_sem]
 try simp only [go_sem]
 refine AKev_bif h0 ?_ ?_ <;> intro c2 h0
 have c2 := bnot_t c2
 try simp only [c2, go_sem]
 obtain rfl := Option.some.inj h0
 refine AKev_ret rfl ?_
 try simp only [F50.rs, c2, go_sem]
 have c2 := bnot_f c2
 try simp only [c2, go_sem]
 obtain ⟨x3, yx3, h0⟩ := bs h0
 try simp only [aa yx3, c2, go_sem]
 obtain ⟨x4, yx4, h0⟩ := bs h0
 refine zc0 (R01_In_ok k _ _ _ _ yx4) ?_ (by first | rfl | simp [AV.refsL, AV.refs, AV.scal, AV.leaf]) ?_
 try simp only [c2, aa yx3, go_sem]
 try simp only [c2, aa yx3, go_sem]
 refine AKev_bif h0 ?_ ?_ <;> intro c5 h0
 have c5 := bnot_t c5
 try simp only [c5, c2, aa yx3, go_sem]
 obtain rfl := Option.some.inj h0
 refine AKev_ret rfl ?_
 try simp only [F50.rs, c2, aa yx3, c5, go_sem]
 have c5 := bnot_f c5
 try simp only [c5, c2, aa yx3, go_sem]
 obtain rfl := Option.some.inj h0
 refine AKev_ret rfl ?_
 try simp only [F50.rs, c2, aa yx3, c5, go_sem]
def F85.c : SC :=
 (.seq
 (.reg [oq 1 (.box 60 (.tmp 0)) 0 [0],
 sn 2 0 3 [2],
 sn 3 0 3 [3]])
 (.seq
 (.seq
 (.reg [fa 4 60 1 2 [],
 ld 5 3 4 [4]])
 (.block 0
 (.seq
 (.reg [bn 7 .eql 3 5 1 3 4 [],
 sg 6 7 4 [7]])
 (.cond (.tmp 6)
 (.seq
 (.reg [fa 8 60 1 3 [1],
 ld 9 3 8 [8],
 sg 2 9 3 [9],
 sn 3 1000000 3 []])
 .ret)
 (.seq
 (.reg [bn 11 .eql 3 5 2 3 4 [5],
 sg 10 11 4 [11]])
 (.cond (.tmp 10)
 (.seq
 (.dreg [fa 12 60 1 3 [],
 ld 13 3 12 [],
 bn 14 .sub 3 13 1 3 3 [],
 sn 2 (-1000000) 3 [],
 sg 3 14 3 []] [[], [0], [0, 1], [], [0, 1, 2, 3]] [1, 12, 13, 14])
 .ret)
 .skip))))))
 (.seq
 (.dreg [fa 15 60 1 4 [],
 fa 16 39 15 0 [],
 ld 17 3 16 [],
 fa 18 60 1 4 [],
 fa 19 39 18 1 [],
 ld 20 3 19 [],
 sg 2 17 3 [],
 sg 3 20 3 []] [[], [0], [0, 1], [], [3], [3, 4], [0, 1, 2], [3, 4, 5, 0, 1, 2, 6]] [1, 15, 16, 17, 18, 19, 20])
 .ret)))
theorem F85.rs : Try.f85.results.toList = [.tmp 2, .tmp 3] := rfl
def R04_Least (k : Nat) (r0 : Reading) : Option (Int × Int) :=
 bif decide (r0.Kind = (1 : Int)) then
  some (r0.Mark, 1000000)
 else
  bif decide (r0.Kind = (2 : Int)) then
   some (-1000000, w64 (r0.Mark - 1))
  else
   some (r0.Heat.Lo, r0.Heat.Hi)
theorem R04_Least_ok (k : Nat) (r0 : Reading) (r : Int × Int) (h0 : R04_Least k r0 = some r) : PCall Try.prog 85 [.agg (Reading.c r0)] (fun y => y = .tup [.int .i64 r.1, .int .i64 r.2]) := by
 refine PB (fn := Try.f85) (sc := F85.c) ?_
 refine rS ?_
 simp only [R04_Least] at h0
 try simp only [F85.c, go_sem]
 refine AKev_bif h0 ?_ ?_ <;> intro c1 h0
 try simp only [c1, go_sem]
 obtain rfl := Option.some.inj h0
 refine AKev_ret rfl ?_
 try simp only [F85.rs, c1, go_sem]
 try simp only [c1, go_sem]
 refine AKev_bif h0 ?_ ?_ <;> intro c2 h0
 try simp only [c2, c1, go_sem]
 refine AKev_region T_ok follows_ok 1000 ?_
 try simp only [c1, c2, go_sem]
 refine DG_done ⟨rfl, run_sound T_ok 1000 _ _ ?_⟩
 try simp only [c1, c2, go_sem]
 obtain rfl := Option.some.inj h0
 refine AKev_ret rfl ?_
 try simp only [F85.rs, c1, c2, go_sem]
 try simp only [c2, c1, go_sem]
 refine AKev_region T_ok follows_ok 1000 ?_
 try simp only [c1, c2, go_sem]
 refine DG_done ⟨rfl, run_sound T_ok 1000 _ _ ?_⟩
 try simp only [c1, c2, go_sem]
 obtain rfl := Option.some.inj h0
 refine AKev_ret rfl ?_
 try simp only [F85.rs, c1, c2, go_sem]
def F51.s0 : SC :=
 (.seq
 (.seq
 (.reg [mv 64 12 3 [],
 mv 65 8 27 [],
 ln 66 65 27 3 [65],
 b2 67 .lss 3 64 66 3 4 [64, 66]])
 (.cond (.tmp 67)
 .skip
 (.exit 0)))
 (.seq
 (.block 1
 (.seq
 (.reg [sn 13 3000 3 []])
 (.seq
 (.seq
 (.reg [fa 70 51 5 1 [],
 ld 71 23 70 [70],
 mv 72 12 3 [],
 ia 73 23 71 72 [71, 72],
 ld 74 3 73 [73],
 bn 75 .neq 3 74 (-1) 3 4 [74]])
 (.cond (.tmp 75)
 (.seq
 (.seq
 (.dreg [ld 76 32 3 [],
 fa 77 51 5 1 [],
 ld 78 23 77 [],
 mv 79 12 3 [],
 ia 80 23 78 79 [],
 ld 81 3 80 [],
 cf2 82 45 76 81 32 3 4 [],
 oq 83 (.unOp .not 4 (.tmp 82)) 4 []] [[], [], [1], [], [1, 2, 3], [1, 2, 3, 4], [0, 1, 2, 3, 4, 5], [0, 1, 2, 3, 4, 5, 6]] [76, 77, 78, 79, 80, 81, 82])
 (.cond (.tmp 83)
 (.seq
 (.reg [sn 6 0 3 [],
 sb 7 false 4 []])
 .ret)
 .skip))
 (.seq
 (.dreg [fa 84 32 3 1 [],
 ld 85 30 84 [],
 fa 86 51 5 1 [],
 ld 87 23 86 [],
 mv 88 12 3 [],
 ia 89 23 87 88 [],
 ld 90 3 89 [],
 ia 91 30 85 90 [],
 ld 92 60 91 [],
 oq 14 (.alloc 60) 0 [],
 ⟨none, .store 60 (.tmp 14) (.tmp 92), 0, none, []⟩] [[], [0], [], [2], [], [2, 3, 4], [2, 3, 4, 5], [0, 1, 2, 3, 4, 5, 6], [0, 1, 2, 3, 4, 5, 6, 7], [], [9, 0, 1, 2, 3, 4, 5, 6, 7, 8]] [84, 85, 86, 87, 88, 89, 90, 91, 92])
 (.seq
 (.reg [ld 94 60 14 [],
 cf1 95 85 94 60 141 [94],
 mv 93 95 141 [95],
 xt 96 93 0 3 [],
 xt 97 93 1 3 [93],
 sg 15 96 3 [15, 96],
 sg 16 97 3 [97]])
 (.seq
 (.seq
 (.reg [mv 98 16 3 [],
 bn 99 .eql 3 98 1000000 3 4 [98]])
 (.cond (.tmp 99)
 (.seq
 (.reg [sn 6 0 3 [],
 sb 7 false 4 []])
 .ret)
 .skip))
 (.dreg [mv 100 16 3 [],
 mv 101 8 27 [],
 mv 102 12 3 [],
 ia 103 27 101 102 [],
 ld 104 40 103 [],
 fa 105 60 14 1 [],
 ld 106 3 105 [],
 ia 107 40 104 106 [],
 fa 108 39 107 1 [],
 ld 109 3 108 [],
 b2 110 .add 3 100 109 3 3 [],
 sg 13 110 3 []] [[], [], [], [1, 2], [1, 2, 3], [], [5], [1, 2, 3, 4, 5, 6], [1, 2, 3, 4, 5, 6, 7], [1, 2, 3, 4, 5, 6, 7, 8], [0, 1, 2, 3, 4, 5, 6, 7, 8, 9], [0, 1, 2, 3, 4, 5, 6, 7, 8, 9, 10]] [14, 16, 100, 101, 102, 103, 104, 105, 106, 107, 108, 109, 110])))))
 .skip))
 (.reg [mv 111 11 3 [11],
 mv 112 13 3 [13],
 mv 113 8 27 [],
 mv 114 12 3 [],
 ia 115 27 113 114 [113, 114],
 ld 116 40 115 [115],
 mv 117 1 3 [],
 ia 118 40 116 117 [116, 117],
 fa 119 39 118 0 [118],
 ld 120 3 119 [119],
 b2 121 .sub 3 112 120 3 3 [112, 120],
 oq 122 (.call ⟨.builtin .max, #[.tmp 111, .tmp 121], #[3, 3]⟩) 3 [111, 121],
 sg 11 122 3 [122]]))))
 (.reg [mv 68 12 3 [12],
 bn 69 .add 3 68 1 3 3 [68],
 sg 12 69 3 [69]])))
def F51.c : SC :=
 (.seq
 (.reg [oq 3 (.box 32 (.tmp 0)) 0 [0],
 oq 5 (.box 51 (.tmp 2)) 0 [2],
 sn 6 0 3 [6],
 sb 7 false 4 [7]])
 (.seq
 (.reg [fa 17 32 3 0 [],
 fa 18 29 17 0 [17],
 ld 19 27 18 [18],
 sg 8 19 27 [19]])
 (.seq
 (.seq
 (.reg [fa 20 51 5 1 [],
 ld 21 23 20 [20],
 ln 22 21 23 3 [21],
 bn 23 .eql 3 22 0 3 4 [22]])
 (.cond (.tmp 23)
 (.seq
 (.seq
 (.reg [ld 24 32 3 [],
 fa 25 51 5 0 [],
 ld 26 3 25 [25],
 cf2 27 45 24 26 32 3 4 [24, 26],
 oq 28 (.unOp .not 4 (.tmp 27)) 4 [27],
 mv 29 28 4 [28],
 og 30 (.fieldAddr 32 (.tmp 3) 1) 0 29 false [],
 og 31 (.load 30 (.tmp 30)) 30 29 false [30],
 og 32 (.fieldAddr 51 (.tmp 5) 0) 0 29 false [],
 og 33 (.load 3 (.tmp 32)) 3 29 false [32],
 og 34 (.indexAddr 30 (.tmp 31) (.tmp 33)) 0 29 false [31, 33],
 og 35 (.fieldAddr 60 (.tmp 34) 1) 0 29 false [34],
 og 36 (.load 3 (.tmp 35)) 3 29 false [35],
 og 37 (.move (.tmp 1)) 3 29 false [1],
 og 38 (.binOp .neq 3 (.tmp 36) (.tmp 37) 3) 4 29 false [36, 37],
 oq 39 (.pick (.tmp 29) (.const (.bool true)) (.tmp 38)) 4 [29, 38]])
 (.cond (.tmp 39)
 (.seq
 (.reg [sn 6 0 3 [],
 sb 7 false 4 []])
 .ret)
 .skip))
 (.seq
 (.reg [fa 41 32 3 1 [3],
 ld 42 30 41 [41],
 fa 43 51 5 0 [5],
 ld 44 3 43 [43],
 ia 45 30 42 44 [42, 44],
 ld 46 60 45 [45],
 cf1 47 85 46 60 141 [46],
 mv 40 47 141 [47],
 xt 48 40 0 3 [],
 xt 49 40 1 3 [40],
 sg 9 48 3 [9, 48],
 sg 10 49 3 [49]])
 (.seq
 (.reg [mv 50 10 3 [],
 mv 51 10 3 [10],
 bn 52 .lss 3 51 1000000 3 4 [51],
 sg 6 50 3 [50],
 sg 7 52 4 [52]])
 .ret)))
 .skip))
 (.seq
 (.seq
 (.reg [fa 53 51 5 0 [],
 ld 54 3 53 [53],
 bn 55 .neq 3 54 (-1) 3 4 [54],
 mv 56 55 4 [55],
 og 57 (.fieldAddr 51 (.tmp 5) 1) 0 56 false [],
 og 58 (.load 23 (.tmp 57)) 23 56 false [57],
 og 59 (.call ⟨.builtin .len, #[.tmp 58], #[23]⟩) 3 56 false [58],
 og 60 (.move (.tmp 8)) 27 56 false [],
 og 61 (.call ⟨.builtin .len, #[.tmp 60], #[27]⟩) 3 56 false [60],
 og 62 (.binOp .neq 3 (.tmp 59) (.tmp 61) 3) 4 56 false [59, 61],
 oq 63 (.pick (.tmp 56) (.const (.bool true)) (.tmp 62)) 4 [56, 62]])
 (.cond (.tmp 63)
 (.seq
 (.reg [sn 6 0 3 [],
 sb 7 false 4 []])
 .ret)
 .skip))
 (.seq
 (.reg [sn 11 (-1000000) 3 []])
 (.seq
 (.seq
 (.reg [sn 12 0 3 []])
 (.block 0
 (.loop F51.s0)))
 (.seq
 (.reg [mv 123 11 3 [11],
 sg 6 123 3 [123],
 sb 7 true 4 []])
 .ret)))))))
theorem F51.rs : Try.f51.results.toList = [.tmp 6, .tmp 7] := rfl
def R04_shownHigh.b0 (k : Nat) (f0 : Firing) (q1 : Int) (p2 : HeatProof) : (Int × Int) → Option (Stp (Int × Int) (Int) (Int × Bool)) := fun (s : Int × Int) => match s with
 | (i9, i10) =>
   bif decide (i10 < (f0.Kiln.Falls.length : Int)) then
    (at? p2.By i10).bind fun x13 =>
    bif (!decide (x13 = (-1 : Int))) then
     (R04_index k f0 x13).bind fun x15 =>
     bif (!x15) then
      some (.ret (0, false))
     else
      (at? f0.Readings x13).bind fun x17 =>
      (R04_Least k x17).bind fun x18 =>
      bif decide (x18.2 = (1000000 : Int)) then
       some (.ret (0, false))
      else
       (at? f0.Kiln.Falls i10).bind fun x20 =>
       (at? x20 x17.Place).bind fun x21 =>
       (at? x20 q1).bind fun x22 =>
       some (.next (max i9 (w64 ((w64 (x18.2 + x21.Hi)) - x22.Lo)), w64 (i10 + 1)))
    else
     (at? f0.Kiln.Falls i10).bind fun x23 =>
     (at? x23 q1).bind fun x24 =>
     some (.next (max i9 (w64 (3000 - x24.Lo)), w64 (i10 + 1)))
   else
    some (.brk i9)
noncomputable def R04_shownHigh.h0 (f0 : Firing) (q1 : Int) (p2 : HeatProof) : (Int × Int) → St := fun (s : Int × Int) => match s with
 | (i9, i10) => ⟨[(1, .int .i64 q1), (3, .ptr 0 0 0), (5, .ptr 0 1 0), (8, .sl 1 (List.map (eL 2 Range.c) f0.Kiln.Falls)), (11, .int .i64 i9), (12, .int .i64 i10)], [(0, .box [.sl 1 (List.map (eL 2 Range.c) f0.Kiln.Falls), .sl 6 (List.map Reading.c f0.Readings)]), (1, .box [.int .i64 p2.Reading, .sl 1 (List.map eI p2.By)])], [], 2, Try.f51.ntmps⟩
noncomputable def R04_shownHigh.x0 : Int → St := fun (i11 : Int) => ⟨[(11, .int .i64 i11)], [], [], 1, Try.f51.ntmps⟩
def R04_shownHigh (k : Nat) (f0 : Firing) (q1 : Int) (p2 : HeatProof) : Option (Int × Bool) :=
 bif decide ((p2.By.length : Int) = (0 : Int)) then
  (R04_index k f0 p2.Reading).bind fun x2 =>
  bif x2 then
   (at? f0.Readings p2.Reading).bind fun x4 =>
   bif (!decide (x4.Place = q1)) then
    some (0, false)
   else
    (R04_Least k x4).bind fun x6 =>
    some (x6.2, decide (x6.2 < (1000000 : Int)))
  else
   some (0, false)
 else
  bif decide (p2.Reading = (-1 : Int)) then
   bif (!decide ((p2.By.length : Int) = (f0.Kiln.Falls.length : Int))) then
    some (0, false)
   else
    (whl (R04_shownHigh.b0 k f0 q1 p2) k (-1000000, 0)).bind fun r25 => match r25 with
    | .next _ => none
    | .ret v_ => some v_
    | .brk i11 =>
     some (i11, true)
  else
   some (0, false)
theorem R04_shownHigh_ok (k : Nat) (f0 : Firing) (q1 : Int) (p2 : HeatProof) (r : Int × Bool) (h0 : R04_shownHigh k f0 q1 p2 = some r) : PCall Try.prog 51 [.agg (Firing.c f0), .int .i64 q1, .agg (HeatProof.c p2)] (fun y => y = .tup [.int .i64 r.1, .bool r.2]) := by
 refine PB (fn := Try.f51) (sc := F51.c) ?_
 refine rS ?_
 simp only [R04_shownHigh] at h0
 try simp only [F51.c, go_sem]
 refine AKev_bif h0 ?_ ?_ <;> intro c1 h0
 try simp only [c1, go_sem]
 obtain ⟨x2, yx2, h0⟩ := bs h0
 refine zc0 (R04_index_ok k _ _ _ yx2) ?_ (by first | rfl | simp [AV.refsL, AV.refs, AV.scal, AV.leaf]) ?_
 try simp only [c1, go_sem]
 try simp only [c1, go_sem]
 refine AKev_bif h0 ?_ ?_ <;> intro c3 h0
 try simp only [c3, c1, go_sem]
 obtain ⟨x4, yx4, h0⟩ := bs h0
 try simp only [aa yx4, c1, c3, go_sem]
 refine AKev_bif h0 ?_ ?_ <;> intro c5 h0
 have c5 := bnot_t c5
 try simp only [c5, c1, c3, aa yx4, go_sem]
 obtain rfl := Option.some.inj h0
 refine AKev_ret rfl ?_
 try simp only [F51.rs, c1, c3, aa yx4, c5, go_sem]
 have c5 := bnot_f c5
 try simp only [c5, aa yx4, c1, c3, go_sem]
 obtain ⟨x6, yx6, h0⟩ := bs h0
 refine zc0 (R04_Least_ok k _ _ yx6) ?_ (by first | rfl | simp [AV.refsL, AV.refs, AV.scal, AV.leaf]) ?_
 try simp only [c1, c3, aa yx4, c5, go_sem]
 try simp only [c1, c3, aa yx4, c5, go_sem]
 obtain rfl := Option.some.inj h0
 refine AKev_ret rfl ?_
 try simp only [F51.rs, c1, c3, aa yx4, c5, go_sem]
 try simp only [c3, c1, go_sem]
 obtain rfl := Option.some.inj h0
 refine AKev_ret rfl ?_
 try simp only [F51.rs, c1, c3, go_sem]
 try simp only [c1, go_sem]
 refine AKev_bif h0 ?_ ?_ <;> intro c7 h0
 try simp only [c7, c1, go_sem]
 refine AKev_bif h0 ?_ ?_ <;> intro c8 h0
 have c8 := bnot_t c8
 try simp only [c8, c1, c7, go_sem]
 obtain rfl := Option.some.inj h0
 refine AKev_ret rfl ?_
 try simp only [F51.rs, c1, c7, c8, go_sem]
 have c8 := bnot_f c8
 try simp only [c8, c1, c7, go_sem]
 obtain ⟨r25, yr25, h0⟩ := bs h0
 refine AKev_loopS yr25 (R04_shownHigh.h0 f0 q1 p2) (R04_shownHigh.x0) ?_ ?_ ?_
 refine Weak.go [1, 3, 5, 8, 11, 12] [0, 16] rfl ?_
 try simp only [R04_shownHigh.h0, c1, c7, c8, go_sem]
 rintro ⟨i9, i10⟩ x_1 Bk1 Br1 h1 hnext1 hbrk1 hret1
 refine rS ?_
 simp only [R04_shownHigh.b0] at h1
 try simp only [F51.s0, R04_shownHigh.h0, c1, c7, c8, go_sem]
 refine AKev_bif h1 ?_ ?_ <;> intro c12 h1
 try simp only [c12, c1, c7, c8, go_sem]
 obtain ⟨x13, yx13, h1⟩ := bs h1
 try simp only [aa yx13, c1, c7, c8, c12, go_sem]
 refine AKev_bif h1 ?_ ?_ <;> intro c14 h1
 have c14 := bnot_t c14
 try simp only [c14, c1, c7, c8, c12, aa yx13, go_sem]
 refine AKev_region T_ok follows_ok 1000 ?_
 try simp only [aa yx13, c1, c7, c8, c12, c14, go_sem]
 obtain ⟨x15, yx15, h1⟩ := bs h1
 refine DG_call0 1000 (R04_index_ok k _ _ _ yx15) ?_ (by first | rfl | simp [AV.refsL, AV.refs, AV.scal, AV.leaf]) ?_
 try simp only [c1, c7, c8, c12, aa yx13, c14, go_sem]
 try simp only [c1, c7, c8, c12, aa yx13, c14, go_sem]
 refine DG_done ⟨rfl, run_sound T_ok 1000 _ _ ?_⟩
 try simp only [c1, c7, c8, c12, aa yx13, c14, go_sem]
 refine AKev_bif h1 ?_ ?_ <;> intro c16 h1
 have c16 := bnot_t c16
 try simp only [c16, c1, c7, c8, c12, aa yx13, c14, go_sem]
 obtain rfl := hret1 _ (Option.some.inj h1).symm
 simp only at h0
 obtain rfl := Option.some.inj h0
 refine AKev_ret rfl ?_
 try simp only [F51.rs, c1, c7, c8, c12, aa yx13, c14, c16, go_sem]
 have c16 := bnot_f c16
 try simp only [c16, c1, c7, c8, c12, aa yx13, c14, go_sem]
 refine AKev_region T_ok follows_ok 1000 ?_
 try simp only [aa yx13, c1, c7, c8, c12, c14, c16, go_sem]
 obtain ⟨x17, yx17, h1⟩ := bs h1
 try simp only [aa yx17, c1, c7, c8, c12, aa yx13, c14, c16, go_sem]
 refine DG_done ⟨rfl, run_sound T_ok 1000 _ _ ?_⟩
 try simp only [c1, c7, c8, c12, aa yx13, c14, c16, aa yx17, go_sem]
 obtain ⟨x18, yx18, h1⟩ := bs h1
 refine zc0 (R04_Least_ok k _ _ yx18) ?_ (by first | rfl | simp [AV.refsL, AV.refs, AV.scal, AV.leaf]) ?_
 try simp only [c1, c7, c8, c12, aa yx13, c14, c16, aa yx17, go_sem]
 try simp only [c1, c7, c8, c12, aa yx13, c14, c16, aa yx17, go_sem]
 refine AKev_bif h1 ?_ ?_ <;> intro c19 h1
 try simp only [c19, c1, c7, c8, c12, aa yx13, c14, c16, aa yx17, go_sem]
 obtain rfl := hret1 _ (Option.some.inj h1).symm
 simp only at h0
 obtain rfl := Option.some.inj h0
 refine AKev_ret rfl ?_
 try simp only [F51.rs, c1, c7, c8, c12, aa yx13, c14, c16, aa yx17, c19, go_sem]
 try simp only [c19, c1, c7, c8, c12, aa yx13, c14, c16, aa yx17, go_sem]
 refine AKev_region T_ok follows_ok 1000 ?_
 try simp only [c1, c7, c8, c12, aa yx13, c14, c16, aa yx17, c19, go_sem]
 obtain ⟨x20, yx20, h1⟩ := bs h1
 try simp only [aa yx20, c1, c7, c8, c12, aa yx13, c14, c16, aa yx17, c19, go_sem]
 obtain ⟨x21, yx21, h1⟩ := bs h1
 try simp only [aa yx21, c1, c7, c8, c12, aa yx13, c14, c16, aa yx17, c19, aa yx20, go_sem]
 refine DG_done ⟨rfl, run_sound T_ok 1000 _ _ ?_⟩
 try simp only [aa yx20, c1, c7, c8, c12, aa yx13, c14, c16, aa yx17, c19, aa yx21, go_sem]
 obtain ⟨x22, yx22, h1⟩ := bs h1
 try simp only [aa yx22, c1, c7, c8, c12, aa yx13, c14, c16, aa yx17, c19, aa yx20, aa yx21, go_sem]
 refine AKev_backB (hnext1 _ _ (Option.some.inj h1).symm ?_)
 refine Weak.go [1, 3, 5, 8, 11, 12] [0, 1] rfl ?_
 try simp only [R04_shownHigh.h0, c1, c7, c8, c12, aa yx13, c14, c16, aa yx17, c19, aa yx20, aa yx21, aa yx22, go_sem]
 have c14 := bnot_f c14
 try simp only [c14, c1, c7, c8, c12, aa yx13, go_sem]
 obtain ⟨x23, yx23, h1⟩ := bs h1
 try simp only [aa yx23, c1, c7, c8, c12, aa yx13, c14, go_sem]
 obtain ⟨x24, yx24, h1⟩ := bs h1
 try simp only [aa yx24, c1, c7, c8, c12, aa yx13, c14, aa yx23, go_sem]
 refine AKev_backB (hnext1 _ _ (Option.some.inj h1).symm ?_)
 refine Weak.go [1, 3, 5, 8, 11, 12] [0, 1] rfl ?_
 try simp only [R04_shownHigh.h0, c1, c7, c8, c12, aa yx13, c14, aa yx23, aa yx24, go_sem]
 try simp only [c12, c1, c7, c8, go_sem]
 refine AKev_backB (hbrk1 _ _ (Option.some.inj h1).symm ?_)
 refine Weak.go [11] [] rfl ?_
 try simp only [R04_shownHigh.x0, c1, c7, c8, c12, go_sem]
 rintro i11 hr_
 subst hr_
 simp only at h0
 refine rS ?_
 try simp only [R04_shownHigh.x0, c1, c7, c8, go_sem]
 obtain rfl := Option.some.inj h0
 refine AKev_ret rfl ?_
 try simp only [F51.rs, c1, c7, c8, go_sem]
 try simp only [c7, c1, go_sem]
 obtain rfl := Option.some.inj h0
 refine AKev_ret rfl ?_
 try simp only [F51.rs, c1, c7, go_sem]
def F86.c : SC :=
 (.seq
 (.reg [oq 4 (.box 32 (.tmp 0)) 0 [0],
 sb 8 false 4 [8]])
 (.seq
 (.seq
 (.reg [mv 12 3 3 [],
 bn 13 .eql 3 12 (-2) 3 4 [12]])
 (.cond (.tmp 13)
 (.seq
 (.reg [mv 14 2 3 [2],
 bn 15 .gtr 3 14 3000 3 4 [14],
 sg 8 15 4 [15]])
 .ret)
 .skip))
 (.seq
 (.seq
 (.reg [ld 16 32 4 [],
 mv 17 3 3 [],
 cf2 18 45 16 17 32 3 4 [16, 17],
 oq 19 (.unOp .not 4 (.tmp 18)) 4 [18]])
 (.cond (.tmp 19)
 (.seq
 (.reg [sb 8 false 4 []])
 .ret)
 .skip))
 (.seq
 (.reg [fa 20 32 4 1 [],
 ld 21 30 20 [20],
 mv 22 3 3 [3],
 ia 23 30 21 22 [21, 22],
 ld 24 60 23 [23],
 oq 9 (.alloc 60) 0 [],
 ⟨none, .store 60 (.tmp 9) (.tmp 24), 0, none, [24]⟩])
 (.seq
 (.reg [ld 26 60 9 [],
 cf1 27 85 26 60 141 [26],
 mv 25 27 141 [27],
 xt 28 25 0 3 [],
 xt 29 25 1 3 [25],
 sg 10 28 3 [10, 28],
 sg 11 29 3 [29]])
 (.seq
 (.dreg [mv 30 11 3 [],
 bn 31 .lss 3 30 1000000 3 4 [],
 mv 32 31 4 [],
 og 33 (.move (.tmp 2)) 3 32 true [],
 og 34 (.move (.tmp 11)) 3 32 true [],
 og 35 (.fieldAddr 32 (.tmp 4) 0) 0 32 true [],
 og 36 (.fieldAddr 29 (.tmp 35) 0) 0 32 true [],
 og 37 (.load 27 (.tmp 36)) 27 32 true [],
 og 38 (.move (.tmp 1)) 3 32 true [],
 og 39 (.indexAddr 27 (.tmp 37) (.tmp 38)) 0 32 true [],
 og 40 (.load 40 (.tmp 39)) 40 32 true [],
 og 41 (.fieldAddr 60 (.tmp 9) 1) 0 32 true [],
 og 42 (.load 3 (.tmp 41)) 3 32 true [],
 og 43 (.indexAddr 40 (.tmp 40) (.tmp 42)) 0 32 true [],
 og 44 (.fieldAddr 39 (.tmp 43) 1) 0 32 true [],
 og 45 (.load 3 (.tmp 44)) 3 32 true [],
 og 46 (.binOp .add 3 (.tmp 34) (.tmp 45) 3) 3 32 true [],
 og 47 (.binOp .gtr 3 (.tmp 33) (.tmp 46) 3) 4 32 true [],
 oq 48 (.pick (.tmp 32) (.tmp 47) (.const (.bool false))) 4 [],
 sg 8 48 4 []] [[], [0], [0, 1], [0, 1, 2], [0, 1, 2], [0, 1, 2], [0, 1, 2, 5], [0, 1, 2, 5, 6], [0, 1, 2], [0, 1, 2, 5, 6, 7, 8], [0, 1, 2, 5, 6, 7, 8, 9], [0, 1, 2], [0, 1, 2, 11], [0, 1, 2, 5, 6, 7, 8, 9, 10, 11, 12], [0, 1, 2, 5, 6, 7, 8, 9, 10, 11, 12, 13], [0, 1, 2, 5, 6, 7, 8, 9, 10, 11, 12, 13, 14], [0, 1, 2, 4, 5, 6, 7, 8, 9, 10, 11, 12, 13, 14, 15], [0, 1, 2, 3, 4, 5, 6, 7, 8, 9, 10, 11, 12, 13, 14, 15, 16], [0, 1, 2, 3, 4, 5, 6, 7, 8, 9, 10, 11, 12, 13, 14, 15, 16, 17], [0, 1, 2, 3, 4, 5, 6, 7, 8, 9, 10, 11, 12, 13, 14, 15, 16, 17, 18]] [1, 2, 4, 9, 11, 30, 31, 32, 33, 34, 35, 36, 37, 38, 39, 40, 41, 42, 43, 44, 45, 46, 47, 48])
 .ret))))))
theorem F86.rs : Try.f86.results.toList = [.tmp 8] := rfl
def R04_cannot (k : Nat) (f0 : Firing) (j1 : Int) (c2 : Int) (by3 : Int) : Option (Bool) :=
 bif decide (by3 = (-2 : Int)) then
  some (decide ((3000 : Int) < c2))
 else
  (R04_index k f0 by3).bind fun x2 =>
  bif (!x2) then
   some false
  else
   (at? f0.Readings by3).bind fun x4 =>
   (R04_Least k x4).bind fun x5 =>
   bif decide (x5.2 < (1000000 : Int)) then
    (at? f0.Kiln.Falls j1).bind fun x7 =>
    (at? x7 x4.Place).bind fun x8 =>
    some (decide (w64 (x5.2 + x8.Hi) < c2))
   else
    some false
theorem R04_cannot_ok (k : Nat) (f0 : Firing) (j1 : Int) (c2 : Int) (by3 : Int) (r : Bool) (h0 : R04_cannot k f0 j1 c2 by3 = some r) : PCall Try.prog 86 [.agg (Firing.c f0), .int .i64 j1, .int .i64 c2, .int .i64 by3] (fun y => y = .bool r) := by
 refine PB (fn := Try.f86) (sc := F86.c) ?_
 refine rS ?_
 simp only [R04_cannot] at h0
 try simp only [F86.c, go_sem]
 refine AKev_bif h0 ?_ ?_ <;> intro c1 h0
 try simp only [c1, go_sem]
 obtain rfl := Option.some.inj h0
 refine AKev_ret rfl ?_
 try simp only [F86.rs, c1, go_sem]
 try simp only [c1, go_sem]
 obtain ⟨x2, yx2, h0⟩ := bs h0
 refine zc0 (R04_index_ok k _ _ _ yx2) ?_ (by first | rfl | simp [AV.refsL, AV.refs, AV.scal, AV.leaf]) ?_
 try simp only [c1, go_sem]
 try simp only [c1, go_sem]
 refine AKev_bif h0 ?_ ?_ <;> intro c3 h0
 have c3 := bnot_t c3
 try simp only [c3, c1, go_sem]
 obtain rfl := Option.some.inj h0
 refine AKev_ret rfl ?_
 try simp only [F86.rs, c1, c3, go_sem]
 have c3 := bnot_f c3
 try simp only [c3, c1, go_sem]
 obtain ⟨x4, yx4, h0⟩ := bs h0
 try simp only [aa yx4, c1, c3, go_sem]
 obtain ⟨x5, yx5, h0⟩ := bs h0
 refine zc0 (R04_Least_ok k _ _ yx5) ?_ (by first | rfl | simp [AV.refsL, AV.refs, AV.scal, AV.leaf]) ?_
 try simp only [c1, c3, aa yx4, go_sem]
 try simp only [c1, c3, aa yx4, go_sem]
 refine AKev_region T_ok follows_ok 1000 ?_
 try simp only [c1, c3, aa yx4, go_sem]
 refine DG_bif h0 ?_ ?_ <;> intro c6 h0
 try simp only [c6, c1, c3, aa yx4, go_sem]
 obtain ⟨x7, yx7, h0⟩ := bs h0
 try simp only [aa yx7, c1, c3, aa yx4, c6, go_sem]
 obtain ⟨x8, yx8, h0⟩ := bs h0
 try simp only [aa yx8, c1, c3, aa yx4, c6, aa yx7, go_sem]
 refine DG_done ⟨rfl, run_sound T_ok 1000 _ _ ?_⟩
 try simp only [c1, c3, aa yx4, c6, aa yx7, aa yx8, go_sem]
 obtain rfl := Option.some.inj h0
 refine AKev_ret rfl ?_
 try simp only [F86.rs, c1, c3, aa yx4, c6, aa yx7, aa yx8, go_sem]
 try simp only [c6, c1, c3, aa yx4, go_sem]
 refine DG_done ⟨rfl, run_sound T_ok 1000 _ _ ?_⟩
 try simp only [c1, c3, aa yx4, c6, go_sem]
 obtain rfl := Option.some.inj h0
 refine AKev_ret rfl ?_
 try simp only [F86.rs, c1, c3, aa yx4, c6, go_sem]
def F52.s0 : SC :=
 (.seq
 (.seq
 (.reg [mv 92 13 3 [],
 mv 93 8 27 [],
 ln 94 93 27 3 [93],
 b2 95 .lss 3 92 94 3 4 [92, 94]])
 (.cond (.tmp 95)
 .skip
 (.exit 0)))
 (.seq
 (.block 1
 (.seq
 (.dreg [mv 98 10 3 [],
 mv 99 8 27 [],
 mv 100 13 3 [],
 ia 101 27 99 100 [],
 ld 102 40 101 [],
 fa 103 60 9 1 [],
 ld 104 3 103 [],
 ia 105 40 102 104 [],
 fa 106 39 105 0 [],
 ld 107 3 106 [],
 b2 108 .add 3 98 107 3 3 [],
 sg 14 108 3 []] [[], [], [], [1, 2], [1, 2, 3], [], [5], [1, 2, 3, 4, 5, 6], [1, 2, 3, 4, 5, 6, 7], [1, 2, 3, 4, 5, 6, 7, 8], [0, 1, 2, 3, 4, 5, 6, 7, 8, 9], [0, 1, 2, 3, 4, 5, 6, 7, 8, 9, 10]] [98, 99, 100, 101, 102, 103, 104, 105, 106, 107, 108])
 (.seq
 (.seq
 (.reg [fa 109 51 5 1 [],
 ld 110 23 109 [109],
 mv 111 13 3 [],
 ia 112 23 110 111 [110, 111],
 ld 113 3 112 [112],
 bn 114 .eql 3 113 (-1) 3 4 [113]])
 (.cond (.tmp 114)
 (.seq
 (.reg [mv 115 12 3 [12],
 mv 116 14 3 [14],
 mv 117 8 27 [],
 mv 118 13 3 [],
 ia 119 27 117 118 [117, 118],
 ld 120 40 119 [119],
 mv 121 1 3 [],
 ia 122 40 120 121 [120, 121],
 fa 123 39 122 1 [122],
 ld 124 3 123 [123],
 b2 125 .sub 3 116 124 3 3 [116, 124],
 oq 126 (.call ⟨.builtin .min, #[.tmp 115, .tmp 125], #[3, 3]⟩) 3 [115, 125],
 sg 12 126 3 [126]])
 (.exit 1))
 .skip))
 (.seq
 (.dreg [ld 127 32 3 [],
 mv 128 13 3 [],
 mv 129 14 3 [],
 fa 130 51 5 1 [],
 ld 131 23 130 [],
 mv 132 13 3 [],
 ia 133 23 131 132 [],
 ld 134 3 133 [],
 oq 135 (.call ⟨.value (.func 86), #[.tmp 127, .tmp 128, .tmp 129, .tmp 134], #[32, 3, 3, 3]⟩) 4 [],
 oq 136 (.unOp .not 4 (.tmp 135)) 4 []] [[], [], [], [], [3], [], [3, 4, 5], [3, 4, 5, 6], [0, 1, 2, 3, 4, 5, 6, 7], [0, 1, 2, 3, 4, 5, 6, 7, 8]] [14, 127, 128, 129, 130, 131, 132, 133, 134, 135])
 (.cond (.tmp 136)
 (.seq
 (.reg [sn 6 0 3 [],
 sb 7 false 4 []])
 .ret)
 .skip)))))
 (.reg [mv 96 13 3 [13],
 bn 97 .add 3 96 1 3 3 [96],
 sg 13 97 3 [97]])))
def F52.c : SC :=
 (.seq
 (.reg [oq 3 (.box 32 (.tmp 0)) 0 [0],
 oq 5 (.box 51 (.tmp 2)) 0 [2],
 sn 6 0 3 [6],
 sb 7 false 4 [7]])
 (.seq
 (.reg [fa 15 32 3 0 [],
 fa 16 29 15 0 [15],
 ld 17 27 16 [16],
 sg 8 17 27 [17]])
 (.seq
 (.seq
 (.reg [fa 18 51 5 0 [],
 ld 19 3 18 [18],
 bn 20 .eql 3 19 (-2) 3 4 [19]])
 (.cond (.tmp 20)
 (.seq
 (.seq
 (.reg [fa 21 51 5 1 [],
 ld 22 23 21 [21],
 ln 23 22 23 3 [22],
 bn 24 .neq 3 23 1 3 4 [23],
 mv 25 24 4 [24],
 og 26 (.fieldAddr 51 (.tmp 5) 1) 0 25 false [],
 og 27 (.load 23 (.tmp 26)) 23 25 false [26],
 og 28 (.indexAddr 23 (.tmp 27) (.const (.int .i64 0))) 0 25 false [27],
 og 29 (.load 3 (.tmp 28)) 3 25 false [28],
 og 30 (.binOp .lss 3 (.tmp 29) (.const (.int .i64 0)) 3) 4 25 false [29],
 oq 31 (.pick (.tmp 25) (.const (.bool true)) (.tmp 30)) 4 [25, 30],
 mv 32 31 4 [31],
 og 33 (.fieldAddr 51 (.tmp 5) 1) 0 32 false [],
 og 34 (.load 23 (.tmp 33)) 23 32 false [33],
 og 35 (.indexAddr 23 (.tmp 34) (.const (.int .i64 0))) 0 32 false [34],
 og 36 (.load 3 (.tmp 35)) 3 32 false [35],
 og 37 (.move (.tmp 8)) 27 32 false [],
 og 38 (.call ⟨.builtin .len, #[.tmp 37], #[27]⟩) 3 32 false [37],
 og 39 (.binOp .geq 3 (.tmp 36) (.tmp 38) 3) 4 32 false [36, 38],
 oq 40 (.pick (.tmp 32) (.const (.bool true)) (.tmp 39)) 4 [32, 39]])
 (.cond (.tmp 40)
 (.seq
 (.reg [sn 6 0 3 [],
 sb 7 false 4 []])
 .ret)
 .skip))
 (.seq
 (.reg [mv 41 8 27 [8],
 fa 42 51 5 1 [5],
 ld 43 23 42 [42],
 oq 44 (.indexAddr 23 (.tmp 43) (.const (.int .i64 0))) 0 [43],
 ld 45 3 44 [44],
 ia 46 27 41 45 [41, 45],
 ld 47 40 46 [46],
 mv 48 1 3 [1],
 ia 49 40 47 48 [47, 48],
 fa 50 39 49 1 [49],
 ld 51 3 50 [50],
 oq 52 (.unOp .neg 3 (.tmp 51)) 3 [51],
 sg 6 52 3 [52],
 sb 7 true 4 []])
 .ret))
 .skip))
 (.seq
 (.seq
 (.reg [ld 53 32 3 [],
 fa 54 51 5 0 [],
 ld 55 3 54 [54],
 cf2 56 45 53 55 32 3 4 [53, 55],
 oq 57 (.unOp .not 4 (.tmp 56)) 4 [56]])
 (.cond (.tmp 57)
 (.seq
 (.reg [sn 6 0 3 [],
 sb 7 false 4 []])
 .ret)
 .skip))
 (.seq
 (.reg [fa 58 32 3 1 [],
 ld 59 30 58 [58],
 fa 60 51 5 0 [],
 ld 61 3 60 [60],
 ia 62 30 59 61 [59, 61],
 ld 63 60 62 [62],
 oq 9 (.alloc 60) 0 [],
 ⟨none, .store 60 (.tmp 9) (.tmp 63), 0, none, [63]⟩])
 (.seq
 (.reg [ld 65 60 9 [],
 cf1 66 85 65 60 141 [65],
 mv 64 66 141 [66],
 xt 67 64 0 3 [],
 xt 68 64 1 3 [64],
 sg 10 67 3 [67],
 sg 11 68 3 [11, 68]])
 (.seq
 (.seq
 (.reg [mv 69 10 3 [],
 bn 70 .eql 3 69 (-1000000) 3 4 [69]])
 (.cond (.tmp 70)
 (.seq
 (.reg [sn 6 0 3 [],
 sb 7 false 4 []])
 .ret)
 .skip))
 (.seq
 (.seq
 (.reg [fa 71 51 5 1 [],
 ld 72 23 71 [71],
 ln 73 72 23 3 [72],
 bn 74 .eql 3 73 0 3 4 [73]])
 (.cond (.tmp 74)
 (.seq
 (.dreg [mv 75 10 3 [],
 fa 76 60 9 1 [],
 ld 77 3 76 [],
 mv 78 1 3 [],
 b2 79 .eql 3 77 78 3 4 [],
 sg 6 75 3 [],
 sg 7 79 4 []] [[], [], [1], [], [1, 2, 3], [0], [1, 2, 3, 4, 0, 5]] [1, 9, 10, 75, 76, 77, 78, 79])
 .ret)
 .skip))
 (.seq
 (.seq
 (.reg [fa 80 60 9 1 [],
 ld 81 3 80 [80],
 mv 82 1 3 [],
 b2 83 .eql 3 81 82 3 4 [81, 82],
 mv 84 83 4 [83],
 og 85 (.fieldAddr 51 (.tmp 5) 1) 0 84 false [],
 og 86 (.load 23 (.tmp 85)) 23 84 false [85],
 og 87 (.call ⟨.builtin .len, #[.tmp 86], #[23]⟩) 3 84 false [86],
 og 88 (.move (.tmp 8)) 27 84 false [],
 og 89 (.call ⟨.builtin .len, #[.tmp 88], #[27]⟩) 3 84 false [88],
 og 90 (.binOp .neq 3 (.tmp 87) (.tmp 89) 3) 4 84 false [87, 89],
 oq 91 (.pick (.tmp 84) (.const (.bool true)) (.tmp 90)) 4 [84, 90]])
 (.cond (.tmp 91)
 (.seq
 (.reg [sn 6 0 3 [],
 sb 7 false 4 []])
 .ret)
 .skip))
 (.seq
 (.reg [sn 12 9223372036854775807 3 []])
 (.seq
 (.seq
 (.reg [sn 13 0 3 []])
 (.block 0
 (.loop F52.s0)))
 (.seq
 (.reg [mv 137 12 3 [12],
 sg 6 137 3 [137],
 sb 7 true 4 []])
 .ret))))))))))))
theorem F52.rs : Try.f52.results.toList = [.tmp 6, .tmp 7] := rfl
def R04_shownLow.b0 (k : Nat) (f0 : Firing) (q1 : Int) (p2 : HeatProof) (x10 : Reading) (x11 : Int × Int) : (Int × Int) → Option (Stp (Int × Int) (Int) (Int × Bool)) := fun (s : Int × Int) => match s with
 | (i16, i17) =>
   bif decide (i17 < (f0.Kiln.Falls.length : Int)) then
    (at? f0.Kiln.Falls i17).bind fun x20 =>
    (at? x20 x10.Place).bind fun x21 =>
    (at? p2.By i17).bind fun x22 =>
    bif decide (x22 = (-1 : Int)) then
     (at? x20 q1).bind fun x24 =>
     some (.next (min i16 (w64 ((w64 (x11.1 + x21.Lo)) - x24.Hi)), w64 (i17 + 1)))
    else
     (R04_cannot k f0 i17 (w64 (x11.1 + x21.Lo)) x22).bind fun x25 =>
     bif (!x25) then
      some (.ret (0, false))
     else
      some (.next (i16, w64 (i17 + 1)))
   else
    some (.brk i16)
noncomputable def R04_shownLow.h0 (f0 : Firing) (q1 : Int) (p2 : HeatProof) (x10 : Reading) (x11 : Int × Int) : (Int × Int) → St := fun (s : Int × Int) => match s with
 | (i16, i17) => ⟨[(1, .int .i64 q1), (3, .ptr 0 0 0), (5, .ptr 0 1 0), (8, .sl 1 (List.map (eL 2 Range.c) f0.Kiln.Falls)), (9, .ptr 0 2 0), (10, .int .i64 x11.1), (12, .int .i64 i16), (13, .int .i64 i17)], [(0, .box [.sl 1 (List.map (eL 2 Range.c) f0.Kiln.Falls), .sl 6 (List.map Reading.c f0.Readings)]), (1, .box [.int .i64 p2.Reading, .sl 1 (List.map eI p2.By)]), (2, .box [.int .i64 x10.Source, .int .i64 x10.Place, .int .i64 x10.Kind, .int .i64 x10.Mark, .int .i64 x10.Heat.Lo, .int .i64 x10.Heat.Hi])], [], 3, Try.f52.ntmps⟩
noncomputable def R04_shownLow.x0 : Int → St := fun (i18 : Int) => ⟨[(12, .int .i64 i18)], [], [], 1, Try.f52.ntmps⟩
def R04_shownLow (k : Nat) (f0 : Firing) (q1 : Int) (p2 : HeatProof) : Option (Int × Bool) :=
 bif decide (p2.Reading = (-2 : Int)) then
  bif decide ((p2.By.length : Int) = (1 : Int)) then
   (at? p2.By 0).bind fun x3 =>
   bif (!decide (x3 < (0 : Int))) then
    bif decide ((f0.Kiln.Falls.length : Int) ≤ x3) then
     some (0, false)
    else
     (at? f0.Kiln.Falls x3).bind fun x6 =>
     (at? x6 q1).bind fun x7 =>
     some (w64 (0 - x7.Hi), true)
   else
    some (0, false)
  else
   some (0, false)
 else
  (R04_index k f0 p2.Reading).bind fun x8 =>
  bif (!x8) then
   some (0, false)
  else
   (at? f0.Readings p2.Reading).bind fun x10 =>
   (R04_Least k x10).bind fun x11 =>
   bif decide (x11.1 = (-1000000 : Int)) then
    some (0, false)
   else
    bif decide ((p2.By.length : Int) = (0 : Int)) then
     some (x11.1, decide (x10.Place = q1))
    else
     bif (!decide (x10.Place = q1)) then
      bif (!decide ((p2.By.length : Int) = (f0.Kiln.Falls.length : Int))) then
       some (0, false)
      else
       (whl (R04_shownLow.b0 k f0 q1 p2 x10 x11) k (9223372036854775807, 0)).bind fun r27 => match r27 with
       | .next _ => none
       | .ret v_ => some v_
       | .brk i18 =>
        some (i18, true)
     else
      some (0, false)
theorem R04_shownLow_ok (k : Nat) (f0 : Firing) (q1 : Int) (p2 : HeatProof) (r : Int × Bool) (h0 : R04_shownLow k f0 q1 p2 = some r) : PCall Try.prog 52 [.agg (Firing.c f0), .int .i64 q1, .agg (HeatProof.c p2)] (fun y => y = .tup [.int .i64 r.1, .bool r.2]) := by
 refine PB (fn := Try.f52) (sc := F52.c) ?_
 refine rS ?_
 simp only [R04_shownLow] at h0
 try simp only [F52.c, go_sem]
 refine AKev_bif h0 ?_ ?_ <;> intro c1 h0
 try simp only [c1, go_sem]
 refine AKev_bif h0 ?_ ?_ <;> intro c2 h0
 try simp only [c2, c1, go_sem]
 obtain ⟨x3, yx3, h0⟩ := bs h0
 try simp only [aa yx3, c1, c2, go_sem]
 refine AKev_bif h0 ?_ ?_ <;> intro c4 h0
 have c4 := bnot_t c4
 try simp only [c4, aa yx3, c1, c2, go_sem]
 refine AKev_bif h0 ?_ ?_ <;> intro c5 h0
 try simp only [c5, c1, c2, aa yx3, c4, go_sem]
 obtain rfl := Option.some.inj h0
 refine AKev_ret rfl ?_
 try simp only [F52.rs, c1, c2, aa yx3, c4, c5, go_sem]
 try simp only [c5, aa yx3, c1, c2, c4, go_sem]
 obtain ⟨x6, yx6, h0⟩ := bs h0
 try simp only [aa yx6, c1, c2, aa yx3, c4, c5, go_sem]
 obtain ⟨x7, yx7, h0⟩ := bs h0
 try simp only [aa yx7, c1, c2, aa yx3, c4, c5, aa yx6, go_sem]
 obtain rfl := Option.some.inj h0
 refine AKev_ret rfl ?_
 try simp only [F52.rs, c1, c2, aa yx3, c4, c5, aa yx6, aa yx7, go_sem]
 have c4 := bnot_f c4
 try simp only [c4, c1, c2, aa yx3, go_sem]
 obtain rfl := Option.some.inj h0
 refine AKev_ret rfl ?_
 try simp only [F52.rs, c1, c2, aa yx3, c4, go_sem]
 try simp only [c2, c1, go_sem]
 obtain rfl := Option.some.inj h0
 refine AKev_ret rfl ?_
 try simp only [F52.rs, c1, c2, go_sem]
 try simp only [c1, go_sem]
 obtain ⟨x8, yx8, h0⟩ := bs h0
 refine zc0 (R04_index_ok k _ _ _ yx8) ?_ (by first | rfl | simp [AV.refsL, AV.refs, AV.scal, AV.leaf]) ?_
 try simp only [c1, go_sem]
 try simp only [c1, go_sem]
 refine AKev_bif h0 ?_ ?_ <;> intro c9 h0
 have c9 := bnot_t c9
 try simp only [c9, c1, go_sem]
 obtain rfl := Option.some.inj h0
 refine AKev_ret rfl ?_
 try simp only [F52.rs, c1, c9, go_sem]
 have c9 := bnot_f c9
 try simp only [c9, c1, go_sem]
 obtain ⟨x10, yx10, h0⟩ := bs h0
 try simp only [aa yx10, c1, c9, go_sem]
 obtain ⟨x11, yx11, h0⟩ := bs h0
 refine zc0 (R04_Least_ok k _ _ yx11) ?_ (by first | rfl | simp [AV.refsL, AV.refs, AV.scal, AV.leaf]) ?_
 try simp only [c1, c9, aa yx10, go_sem]
 try simp only [c1, c9, aa yx10, go_sem]
 refine AKev_bif h0 ?_ ?_ <;> intro c12 h0
 try simp only [c12, c1, c9, aa yx10, go_sem]
 obtain rfl := Option.some.inj h0
 refine AKev_ret rfl ?_
 try simp only [F52.rs, c1, c9, aa yx10, c12, go_sem]
 try simp only [c12, c1, c9, aa yx10, go_sem]
 refine AKev_bif h0 ?_ ?_ <;> intro c13 h0
 try simp only [c13, c1, c9, aa yx10, c12, go_sem]
 refine AKev_region T_ok follows_ok 1000 ?_
 try simp only [c1, c9, aa yx10, c12, c13, go_sem]
 refine DG_done ⟨rfl, run_sound T_ok 1000 _ _ ?_⟩
 try simp only [c1, c9, aa yx10, c12, c13, go_sem]
 obtain rfl := Option.some.inj h0
 refine AKev_ret rfl ?_
 try simp only [F52.rs, c1, c9, aa yx10, c12, c13, go_sem]
 try simp only [c13, c1, c9, aa yx10, c12, go_sem]
 refine AKev_bif h0 ?_ ?_ <;> intro c14 h0
 have c14 := bnot_t c14
 try simp only [c14, c1, c9, aa yx10, c12, c13, go_sem]
 refine AKev_bif h0 ?_ ?_ <;> intro c15 h0
 have c15 := bnot_t c15
 try simp only [c15, c1, c9, aa yx10, c12, c13, c14, go_sem]
 obtain rfl := Option.some.inj h0
 refine AKev_ret rfl ?_
 try simp only [F52.rs, c1, c9, aa yx10, c12, c13, c14, c15, go_sem]
 have c15 := bnot_f c15
 try simp only [c15, c1, c9, aa yx10, c12, c13, c14, go_sem]
 obtain ⟨r27, yr27, h0⟩ := bs h0
 refine AKev_loopS yr27 (R04_shownLow.h0 f0 q1 p2 x10 x11) (R04_shownLow.x0) ?_ ?_ ?_
 refine Weak.go [1, 3, 5, 8, 9, 10, 12, 13] [0, 16, 352] rfl ?_
 try simp only [R04_shownLow.h0, c1, c9, aa yx10, c12, c13, c14, c15, go_sem]
 rintro ⟨i16, i17⟩ x_1 Bk1 Br1 h1 hnext1 hbrk1 hret1
 refine rS ?_
 simp only [R04_shownLow.b0] at h1
 try simp only [F52.s0, R04_shownLow.h0, c1, c9, aa yx10, c12, c13, c14, c15, go_sem]
 refine AKev_bif h1 ?_ ?_ <;> intro c19 h1
 try simp only [c19, c1, c9, aa yx10, c12, c13, c14, c15, go_sem]
 refine AKev_region T_ok follows_ok 1000 ?_
 try simp only [c1, c9, aa yx10, c12, c13, c14, c15, c19, go_sem]
 obtain ⟨x20, yx20, h1⟩ := bs h1
 try simp only [aa yx20, c1, c9, aa yx10, c12, c13, c14, c15, c19, go_sem]
 obtain ⟨x21, yx21, h1⟩ := bs h1
 try simp only [aa yx21, c1, c9, aa yx10, c12, c13, c14, c15, c19, aa yx20, go_sem]
 refine DG_done ⟨rfl, run_sound T_ok 1000 _ _ ?_⟩
 try simp only [c1, c9, aa yx10, c12, c13, c14, c15, c19, aa yx20, aa yx21, go_sem]
 obtain ⟨x22, yx22, h1⟩ := bs h1
 try simp only [aa yx22, c1, c9, aa yx10, c12, c13, c14, c15, c19, aa yx20, aa yx21, go_sem]
 refine AKev_bif h1 ?_ ?_ <;> intro c23 h1
 try simp only [c23, aa yx20, c1, c9, aa yx10, c12, c13, c14, c15, c19, aa yx21, aa yx22, go_sem]
 obtain ⟨x24, yx24, h1⟩ := bs h1
 try simp only [aa yx24, c1, c9, aa yx10, c12, c13, c14, c15, c19, aa yx20, aa yx21, aa yx22, c23, go_sem]
 refine AKev_backB (hnext1 _ _ (Option.some.inj h1).symm ?_)
 refine Weak.go [1, 3, 5, 8, 9, 10, 12, 13] [0, 1, 2] rfl ?_
 try simp only [R04_shownLow.h0, c1, c9, aa yx10, c12, c13, c14, c15, c19, aa yx20, aa yx21, aa yx22, c23, aa yx24, go_sem]
 try simp only [c23, c1, c9, aa yx10, c12, c13, c14, c15, c19, aa yx20, aa yx21, aa yx22, go_sem]
 refine AKev_region T_ok follows_ok 1000 ?_
 try simp only [aa yx22, c1, c9, aa yx10, c12, c13, c14, c15, c19, aa yx20, aa yx21, c23, go_sem]
 obtain ⟨x25, yx25, h1⟩ := bs h1
 refine DG_call0 1000 (R04_cannot_ok k _ _ _ _ _ yx25) ?_ (by first | rfl | simp [AV.refsL, AV.refs, AV.scal, AV.leaf]) ?_
 try simp only [c1, c9, aa yx10, c12, c13, c14, c15, c19, aa yx20, aa yx21, aa yx22, c23, go_sem]
 try simp only [c1, c9, aa yx10, c12, c13, c14, c15, c19, aa yx20, aa yx21, aa yx22, c23, go_sem]
 refine DG_done ⟨rfl, run_sound T_ok 1000 _ _ ?_⟩
 try simp only [c1, c9, aa yx10, c12, c13, c14, c15, c19, aa yx20, aa yx21, aa yx22, c23, go_sem]
 refine AKev_bif h1 ?_ ?_ <;> intro c26 h1
 have c26 := bnot_t c26
 try simp only [c26, c1, c9, aa yx10, c12, c13, c14, c15, c19, aa yx20, aa yx21, aa yx22, c23, go_sem]
 obtain rfl := hret1 _ (Option.some.inj h1).symm
 simp only at h0
 obtain rfl := Option.some.inj h0
 refine AKev_ret rfl ?_
 try simp only [F52.rs, c1, c9, aa yx10, c12, c13, c14, c15, c19, aa yx20, aa yx21, aa yx22, c23, c26, go_sem]
 have c26 := bnot_f c26
 try simp only [c26, c1, c9, aa yx10, c12, c13, c14, c15, c19, aa yx20, aa yx21, aa yx22, c23, go_sem]
 refine AKev_backB (hnext1 _ _ (Option.some.inj h1).symm ?_)
 refine Weak.go [1, 3, 5, 8, 9, 10, 12, 13] [0, 1, 2] rfl ?_
 try simp only [R04_shownLow.h0, c1, c9, aa yx10, c12, c13, c14, c15, c19, aa yx20, aa yx21, aa yx22, c23, c26, go_sem]
 try simp only [c19, c1, c9, aa yx10, c12, c13, c14, c15, go_sem]
 refine AKev_backB (hbrk1 _ _ (Option.some.inj h1).symm ?_)
 refine Weak.go [12] [] rfl ?_
 try simp only [R04_shownLow.x0, c1, c9, aa yx10, c12, c13, c14, c15, c19, go_sem]
 rintro i18 hr_
 subst hr_
 simp only at h0
 refine rS ?_
 try simp only [R04_shownLow.x0, c1, c9, aa yx10, c12, c13, c14, c15, go_sem]
 obtain rfl := Option.some.inj h0
 refine AKev_ret rfl ?_
 try simp only [F52.rs, c1, c9, aa yx10, c12, c13, c14, c15, go_sem]
 have c14 := bnot_f c14
 try simp only [c14, c1, c9, aa yx10, c12, c13, go_sem]
 obtain rfl := Option.some.inj h0
 refine AKev_ret rfl ?_
 try simp only [F52.rs, c1, c9, aa yx10, c12, c13, c14, go_sem]
def F18.c : SC :=
 (.seq
 (.reg [oq 4 (.box 32 (.tmp 0)) 0 [0],
 oq 6 (.box 52 (.tmp 2)) 0 [2],
 oq 7 (.box 51 (.tmp 3)) 0 [3],
 sn 8 0 43 [8]])
 (.seq
 (.reg [ld 14 32 4 [],
 mv 15 1 3 [],
 cf2 16 50 14 15 32 3 43 [14, 15],
 sg 9 16 43 [16]])
 (.seq
 (.seq
 (.reg [mv 17 9 43 [],
 bn 18 .neq 43 17 0 43 4 [17]])
 (.cond (.tmp 18)
 (.seq
 (.reg [mv 19 9 43 [9],
 sg 8 19 43 [19]])
 .ret)
 .skip))
 (.seq
 (.seq
 (.reg [oq 20 (.indexAddr 52 (.tmp 6) (.const (.int .i64 0))) 0 [],
 ld 21 3 20 [20],
 bn 22 .eql 3 21 1 3 4 [21]])
 (.cond (.tmp 22)
 (.seq
 (.reg [ld 24 32 4 [4],
 mv 25 1 3 [1],
 ld 26 51 7 [7],
 oq 27 (.call ⟨.value (.func 51), #[.tmp 24, .tmp 25, .tmp 26], #[32, 3, 51]⟩) 106 [24, 25, 26],
 mv 23 27 106 [27],
 xt 28 23 0 3 [],
 xt 29 23 1 4 [23],
 sg 10 28 3 [28],
 sg 11 29 4 [29]])
 (.seq
 (.seq
 (.reg [mv 30 11 4 [11],
 oq 31 (.unOp .not 4 (.tmp 30)) 4 [30]])
 (.cond (.tmp 31)
 (.seq
 (.reg [sn 8 46 43 []])
 .ret)
 .skip))
 (.seq
 (.seq
 (.reg [mv 32 10 3 [10],
 oq 33 (.indexAddr 52 (.tmp 6) (.const (.int .i64 1))) 0 [6],
 ld 34 3 33 [33],
 b2 35 .gtr 3 32 34 3 4 [32, 34]])
 (.cond (.tmp 35)
 (.seq
 (.reg [sn 8 47 43 []])
 .ret)
 .skip))
 (.seq
 (.reg [sn 8 0 43 []])
 .ret))))
 .skip))
 (.seq
 (.reg [ld 37 32 4 [4],
 mv 38 1 3 [1],
 ld 39 51 7 [7],
 oq 40 (.call ⟨.value (.func 52), #[.tmp 37, .tmp 38, .tmp 39], #[32, 3, 51]⟩) 106 [37, 38, 39],
 mv 36 40 106 [40],
 xt 41 36 0 3 [],
 xt 42 36 1 4 [36],
 sg 12 41 3 [41],
 sg 13 42 4 [42]])
 (.seq
 (.seq
 (.reg [mv 43 13 4 [13],
 oq 44 (.unOp .not 4 (.tmp 43)) 4 [43]])
 (.cond (.tmp 44)
 (.seq
 (.reg [sn 8 46 43 []])
 .ret)
 .skip))
 (.seq
 (.seq
 (.reg [mv 45 12 3 [12],
 oq 46 (.indexAddr 52 (.tmp 6) (.const (.int .i64 1))) 0 [6],
 ld 47 3 46 [46],
 b2 48 .lss 3 45 47 3 4 [45, 47]])
 (.cond (.tmp 48)
 (.seq
 (.reg [sn 8 47 43 []])
 .ret)
 .skip))
 (.seq
 (.reg [sn 8 0 43 []])
 .ret))))))))
theorem F18.rs : Try.f18.results.toList = [.tmp 8] := rfl
def R04_CheckProof (k : Nat) (f0 : Firing) (place1 : Int) (n2 : (A2 Int)) (p3 : HeatProof) : Option (Int) :=
 (R04_asked k f0 place1).bind fun x1 =>
 bif (!decide (x1 = (0 : Int))) then
  some x1
 else
  bif decide (n2.x0 = (1 : Int)) then
   (R04_shownHigh k f0 place1 p3).bind fun x4 =>
   bif (!x4.2) then
    some 46
   else
    bif decide (n2.x1 < x4.1) then
     some 47
    else
     some 0
  else
   (R04_shownLow k f0 place1 p3).bind fun x7 =>
   bif (!x7.2) then
    some 46
   else
    bif decide (x7.1 < n2.x1) then
     some 47
    else
     some 0
theorem R04_CheckProof_ok (k : Nat) (f0 : Firing) (place1 : Int) (n2 : (A2 Int)) (p3 : HeatProof) (r : Int) (h0 : R04_CheckProof k f0 place1 n2 p3 = some r) : PCall Try.prog 18 [.agg (Firing.c f0), .int .i64 place1, .agg ((A2.c eI) n2), .agg (HeatProof.c p3)] (fun y => y = .int .i64 r) := by
 refine PB (fn := Try.f18) (sc := F18.c) ?_
 refine rS ?_
 simp only [R04_CheckProof] at h0
 try simp only [F18.c, go_sem]
 obtain ⟨x1, yx1, h0⟩ := bs h0
 refine zc0 (R04_asked_ok k _ _ _ yx1) ?_ (by first | rfl | simp [AV.refsL, AV.refs, AV.scal, AV.leaf]) ?_
 try simp only [go_sem]
 try simp only [go_sem]
 refine AKev_bif h0 ?_ ?_ <;> intro c2 h0
 have c2 := bnot_t c2
 try simp only [c2, go_sem]
 obtain rfl := Option.some.inj h0
 refine AKev_ret rfl ?_
 try simp only [F18.rs, c2, go_sem]
 have c2 := bnot_f c2
 try simp only [c2, (by decide : inRange (0 : Int) 2 = some 0), go_sem]
 refine AKev_bif h0 ?_ ?_ <;> intro c3 h0
 try simp only [c3, c2, go_sem]
 obtain ⟨x4, yx4, h0⟩ := bs h0
 refine zc0 (R04_shownHigh_ok k _ _ _ _ yx4) ?_ (by first | rfl | simp [AV.refsL, AV.refs, AV.scal, AV.leaf]) ?_
 try simp only [c2, c3, go_sem]
 try simp only [c2, c3, go_sem]
 refine AKev_bif h0 ?_ ?_ <;> intro c5 h0
 have c5 := bnot_t c5
 try simp only [c5, c2, c3, go_sem]
 obtain rfl := Option.some.inj h0
 refine AKev_ret rfl ?_
 try simp only [F18.rs, c2, c3, c5, go_sem]
 have c5 := bnot_f c5
 try simp only [c5, (by decide : inRange (1 : Int) 2 = some 1), c2, c3, go_sem]
 refine AKev_bif h0 ?_ ?_ <;> intro c6 h0
 try simp only [c6, c2, c3, c5, go_sem]
 obtain rfl := Option.some.inj h0
 refine AKev_ret rfl ?_
 try simp only [F18.rs, c2, c3, c5, c6, go_sem]
 try simp only [c6, c2, c3, c5, go_sem]
 obtain rfl := Option.some.inj h0
 refine AKev_ret rfl ?_
 try simp only [F18.rs, c2, c3, c5, c6, go_sem]
 try simp only [c3, c2, go_sem]
 obtain ⟨x7, yx7, h0⟩ := bs h0
 refine zc0 (R04_shownLow_ok k _ _ _ _ yx7) ?_ (by first | rfl | simp [AV.refsL, AV.refs, AV.scal, AV.leaf]) ?_
 try simp only [c2, c3, go_sem]
 try simp only [c2, c3, go_sem]
 refine AKev_bif h0 ?_ ?_ <;> intro c8 h0
 have c8 := bnot_t c8
 try simp only [c8, c2, c3, go_sem]
 obtain rfl := Option.some.inj h0
 refine AKev_ret rfl ?_
 try simp only [F18.rs, c2, c3, c8, go_sem]
 have c8 := bnot_f c8
 try simp only [c8, (by decide : inRange (1 : Int) 2 = some 1), c2, c3, go_sem]
 refine AKev_bif h0 ?_ ?_ <;> intro c9 h0
 try simp only [c9, c2, c3, c8, go_sem]
 obtain rfl := Option.some.inj h0
 refine AKev_ret rfl ?_
 try simp only [F18.rs, c2, c3, c8, c9, go_sem]
 try simp only [c9, c2, c3, c8, go_sem]
 obtain rfl := Option.some.inj h0
 refine AKev_ret rfl ?_
 try simp only [F18.rs, c2, c3, c8, c9, go_sem]
def F4.c : SC :=
 (.seq
 (.reg [oq 3 (.box 32 (.tmp 0)) 0 [0],
 oq 4 (.box 49 (.tmp 1)) 0 [1],
 oq 5 (.box 51 (.tmp 2)) 0 [2],
 sb 6 false 4 [6]])
 (.seq
 (.reg [fa 12 49 4 1 [],
 ld 13 3 12 [12],
 oq 14 (.build 52 #[(0, .const (.int .i64 0)), (1, .tmp 13)]) 52 [13],
 oq 7 (.alloc 52) 0 [],
 ⟨none, .store 52 (.tmp 7) (.tmp 14), 0, none, [14]⟩])
 (.seq
 (.seq
 (.reg [fa 15 49 4 2 [],
 ld 16 4 15 [15]])
 (.cond (.tmp 16)
 (.reg [oq 17 (.indexAddr 52 (.tmp 7) (.const (.int .i64 0))) 0 [],
 ⟨none, .store 3 (.tmp 17) (.const (.int .i64 1)), 0, none, [17]⟩])
 .skip))
 (.seq
 (.reg [ld 19 32 3 [],
 ld 20 51 5 [],
 cf2 21 15 19 20 32 51 53 [19, 20],
 mv 18 21 53 [21],
 xt 22 18 0 23 [],
 xt 23 18 1 43 [18],
 sg 8 22 23 [22],
 sg 9 23 43 [23]])
 (.seq
 (.reg [ld 25 32 3 [],
 ld 26 51 5 [],
 cf2 27 16 25 26 32 51 53 [25, 26],
 mv 24 27 53 [27],
 xt 28 24 0 23 [],
 xt 29 24 1 43 [24],
 sg 10 28 23 [28],
 sg 11 29 43 [29]])
 (.seq
 (.dreg [ld 30 32 3 [],
 fa 31 49 4 0 [],
 ld 32 3 31 [],
 fa 33 49 4 2 [],
 ld 34 4 33 [],
 fa 35 49 4 1 [],
 ld 36 3 35 [],
 ld 37 51 5 [],
 oq 38 (.call ⟨.value (.func 17), #[.tmp 30, .tmp 32, .tmp 34, .tmp 36, .tmp 37], #[32, 3, 4, 3, 51]⟩) 43 [],
 ld 39 32 3 [],
 fa 40 49 4 0 [],
 ld 41 3 40 [],
 ld 42 52 7 [],
 ld 43 51 5 [],
 oq 44 (.call ⟨.value (.func 18), #[.tmp 39, .tmp 41, .tmp 42, .tmp 43], #[32, 3, 52, 51]⟩) 43 [],
 b2 45 .eql 43 38 44 43 4 [],
 mv 46 45 4 [],
 og 47 (.move (.tmp 8)) 23 46 true [],
 og 48 (.move (.tmp 10)) 23 46 true [],
 og 49 (.call ⟨.value (.func 19), #[.tmp 47, .tmp 48], #[23, 23]⟩) 4 46 true [],
 oq 50 (.pick (.tmp 46) (.tmp 49) (.const (.bool false))) 4 [],
 mv 51 50 4 [],
 og 52 (.move (.tmp 9)) 43 51 true [],
 og 53 (.move (.tmp 11)) 43 51 true [],
 og 54 (.binOp .eql 43 (.tmp 52) (.tmp 53) 43) 4 51 true [],
 oq 55 (.pick (.tmp 51) (.tmp 54) (.const (.bool false))) 4 [],
 mv 56 55 4 [],
 og 57 (.call ⟨.value (.func 14), #[], #[]⟩) 4 56 true [],
 oq 58 (.pick (.tmp 56) (.tmp 57) (.const (.bool false))) 4 [],
 sg 6 58 4 []] [[], [], [1], [], [3], [], [5], [], [0, 1, 2, 3, 4, 5, 6, 7], [], [], [10], [], [], [9, 10, 11, 12, 13, 0, 1, 2, 3, 4, 5, 6, 7, 8], [0, 1, 2, 3, 4, 5, 6, 7, 8, 9, 10, 11, 12, 13, 14], [0, 1, 2, 3, 4, 5, 6, 7, 8, 9, 10, 11, 12, 13, 14, 15], [0, 1, 2, 3, 4, 5, 6, 7, 8, 9, 10, 11, 12, 13, 14, 15, 16], [0, 1, 2, 3, 4, 5, 6, 7, 8, 9, 10, 11, 12, 13, 14, 15, 16], [0, 1, 2, 3, 4, 5, 6, 7, 8, 9, 10, 11, 12, 13, 14, 15, 16, 17, 18], [0, 1, 2, 3, 4, 5, 6, 7, 8, 9, 10, 11, 12, 13, 14, 15, 16, 17, 18, 19], [0, 1, 2, 3, 4, 5, 6, 7, 8, 9, 10, 11, 12, 13, 14, 15, 16, 17, 18, 19, 20], [0, 1, 2, 3, 4, 5, 6, 7, 8, 9, 10, 11, 12, 13, 14, 15, 16, 17, 18, 19, 20, 21], [0, 1, 2, 3, 4, 5, 6, 7, 8, 9, 10, 11, 12, 13, 14, 15, 16, 17, 18, 19, 20, 21], [0, 1, 2, 3, 4, 5, 6, 7, 8, 9, 10, 11, 12, 13, 14, 15, 16, 17, 18, 19, 20, 21, 22, 23], [0, 1, 2, 3, 4, 5, 6, 7, 8, 9, 10, 11, 12, 13, 14, 15, 16, 17, 18, 19, 20, 21, 22, 23, 24], [0, 1, 2, 3, 4, 5, 6, 7, 8, 9, 10, 11, 12, 13, 14, 15, 16, 17, 18, 19, 20, 21, 22, 23, 24, 25], [0, 1, 2, 3, 4, 5, 6, 7, 8, 9, 10, 11, 12, 13, 14, 15, 16, 17, 18, 19, 20, 21, 22, 23, 24, 25, 26], [0, 1, 2, 3, 4, 5, 6, 7, 8, 9, 10, 11, 12, 13, 14, 15, 16, 17, 18, 19, 20, 21, 22, 23, 24, 25, 26, 27], [0, 1, 2, 3, 4, 5, 6, 7, 8, 9, 10, 11, 12, 13, 14, 15, 16, 17, 18, 19, 20, 21, 22, 23, 24, 25, 26, 27, 28]] [3, 4, 5, 7, 8, 9, 10, 11, 30, 31, 32, 33, 34, 35, 36, 37, 38, 39, 40, 41, 42, 43, 44, 45, 46, 47, 48, 49, 50, 51, 52, 53, 54, 55, 56, 57, 58])
 .ret))))))
theorem F4.rs : Try.f4.results.toList = [.tmp 6] := rfl
def L04_HeatProofs (k : Nat) (f0 : Firing) (t1 : L04_Told) (p2 : HeatProof) : Option (Bool) :=
 bif t1.High then
  (heat_Rests k f0 p2).bind fun x2 =>
  (R04_Rests k f0 p2).bind fun x3 =>
  (heat_CheckProof k f0 t1.Place true t1.N p2).bind fun x4 =>
  (R04_CheckProof k f0 t1.Place (⟨1, t1.N⟩ : (A2 Int)) p2).bind fun x5 =>
  bif decide (x4 = x5) then
   (R01_Same k x2.1 x3.1).bind fun x7 =>
   bif x7 then
    bif decide (x2.2 = x3.2) then
     (L04_sane k).bind fun x10 =>
     some x10
    else
     some false
   else
    some false
  else
   some false
 else
  (heat_Rests k f0 p2).bind fun x11 =>
  (R04_Rests k f0 p2).bind fun x12 =>
  (heat_CheckProof k f0 t1.Place false t1.N p2).bind fun x13 =>
  (R04_CheckProof k f0 t1.Place (⟨0, t1.N⟩ : (A2 Int)) p2).bind fun x14 =>
  bif decide (x13 = x14) then
   (R01_Same k x11.1 x12.1).bind fun x16 =>
   bif x16 then
    bif decide (x11.2 = x12.2) then
     (L04_sane k).bind fun x19 =>
     some x19
    else
     some false
   else
    some false
  else
   some false
theorem L04_HeatProofs_ok (k : Nat) (f0 : Firing) (t1 : L04_Told) (p2 : HeatProof) (r : Bool) (h0 : L04_HeatProofs k f0 t1 p2 = some r) : PCall Try.prog 4 [.agg (Firing.c f0), .agg (L04_Told.c t1), .agg (HeatProof.c p2)] (fun y => y = .bool r) := by
 refine PB (fn := Try.f4) (sc := F4.c) ?_
 refine rS ?_
 simp only [L04_HeatProofs] at h0
 try simp only [F4.c, go_sem]
 refine AKev_bif h0 ?_ ?_ <;> intro c1 h0
 try simp only [c1, (by decide : inRange (0 : Int) 2 = some 0), go_sem]
 obtain ⟨x2, yx2, h0⟩ := bs h0
 refine zc0 (heat_Rests_ok k _ _ _ yx2) ?_ (by first | rfl | simp [AV.refsL, AV.refs, AV.scal, AV.leaf]) ?_
 try simp only [c1, go_sem]
 try simp only [c1, go_sem]
 obtain ⟨x3, yx3, h0⟩ := bs h0
 refine zc0 (R04_Rests_ok k _ _ _ yx3) ?_ (by first | rfl | simp [AV.refsL, AV.refs, AV.scal, AV.leaf]) ?_
 try simp only [c1, go_sem]
 try simp only [c1, go_sem]
 refine AKev_region T_ok follows_ok 1000 ?_
 try simp only [c1, go_sem]
 obtain ⟨x4, yx4, h0⟩ := bs h0
 refine DG_call0 1000 (heat_CheckProof_ok k _ _ _ _ _ _ yx4) ?_ (by first | rfl | simp [AV.refsL, AV.refs, AV.scal, AV.leaf]) ?_
 try simp only [c1, go_sem]
 try simp only [c1, go_sem]
 obtain ⟨x5, yx5, h0⟩ := bs h0
 refine DG_call0 1000 (R04_CheckProof_ok k _ _ _ _ _ yx5) ?_ (by first | rfl | simp [AV.refsL, AV.refs, AV.scal, AV.leaf]) ?_
 try simp only [c1, go_sem]
 try simp only [c1, go_sem]
 refine DG_bif h0 ?_ ?_ <;> intro c6 h0
 try simp only [c6, c1, go_sem]
 obtain ⟨x7, yx7, h0⟩ := bs h0
 refine DG_call0 1000 (R01_Same_ok k _ _ _ yx7) ?_ (by first | rfl | simp [AV.refsL, AV.refs, AV.scal, AV.leaf]) ?_
 try simp only [c1, c6, go_sem]
 try simp only [c1, c6, go_sem]
 refine DG_bif h0 ?_ ?_ <;> intro c8 h0
 try simp only [c8, c1, c6, go_sem]
 refine DG_bif h0 ?_ ?_ <;> intro c9 h0
 try simp only [c9, c1, c6, c8, go_sem]
 obtain ⟨x10, yx10, h0⟩ := bs h0
 refine DG_call0 1000 (L04_sane_ok k _ yx10) ?_ (by first | rfl | simp [AV.refsL, AV.refs, AV.scal, AV.leaf]) ?_
 try simp only [c1, c6, c8, c9, go_sem]
 try simp only [c1, c6, c8, c9, go_sem]
 refine DG_done ⟨rfl, run_sound T_ok 1000 _ _ ?_⟩
 try simp only [c1, c6, c8, c9, go_sem]
 obtain rfl := Option.some.inj h0
 refine AKev_ret rfl ?_
 try simp only [F4.rs, c1, c6, c8, c9, go_sem]
 try simp only [c9, c1, c6, c8, go_sem]
 refine DG_done ⟨rfl, run_sound T_ok 1000 _ _ ?_⟩
 try simp only [c1, c6, c8, c9, go_sem]
 obtain rfl := Option.some.inj h0
 refine AKev_ret rfl ?_
 try simp only [F4.rs, c1, c6, c8, c9, go_sem]
 try simp only [c8, c1, c6, go_sem]
 refine DG_done ⟨rfl, run_sound T_ok 1000 _ _ ?_⟩
 try simp only [c1, c6, c8, go_sem]
 obtain rfl := Option.some.inj h0
 refine AKev_ret rfl ?_
 try simp only [F4.rs, c1, c6, c8, go_sem]
 try simp only [c6, c1, go_sem]
 refine DG_done ⟨rfl, run_sound T_ok 1000 _ _ ?_⟩
 try simp only [c1, c6, go_sem]
 obtain rfl := Option.some.inj h0
 refine AKev_ret rfl ?_
 try simp only [F4.rs, c1, c6, go_sem]
 try simp only [c1, go_sem]
 obtain ⟨x11, yx11, h0⟩ := bs h0
 refine zc0 (heat_Rests_ok k _ _ _ yx11) ?_ (by first | rfl | simp [AV.refsL, AV.refs, AV.scal, AV.leaf]) ?_
 try simp only [c1, go_sem]
 try simp only [c1, go_sem]
 obtain ⟨x12, yx12, h0⟩ := bs h0
 refine zc0 (R04_Rests_ok k _ _ _ yx12) ?_ (by first | rfl | simp [AV.refsL, AV.refs, AV.scal, AV.leaf]) ?_
 try simp only [c1, go_sem]
 try simp only [c1, go_sem]
 refine AKev_region T_ok follows_ok 1000 ?_
 try simp only [c1, go_sem]
 obtain ⟨x13, yx13, h0⟩ := bs h0
 refine DG_call0 1000 (heat_CheckProof_ok k _ _ _ _ _ _ yx13) ?_ (by first | rfl | simp [AV.refsL, AV.refs, AV.scal, AV.leaf]) ?_
 try simp only [c1, go_sem]
 try simp only [c1, go_sem]
 obtain ⟨x14, yx14, h0⟩ := bs h0
 refine DG_call0 1000 (R04_CheckProof_ok k _ _ _ _ _ yx14) ?_ (by first | rfl | simp [AV.refsL, AV.refs, AV.scal, AV.leaf]) ?_
 try simp only [c1, go_sem]
 try simp only [c1, go_sem]
 refine DG_bif h0 ?_ ?_ <;> intro c15 h0
 try simp only [c15, c1, go_sem]
 obtain ⟨x16, yx16, h0⟩ := bs h0
 refine DG_call0 1000 (R01_Same_ok k _ _ _ yx16) ?_ (by first | rfl | simp [AV.refsL, AV.refs, AV.scal, AV.leaf]) ?_
 try simp only [c1, c15, go_sem]
 try simp only [c1, c15, go_sem]
 refine DG_bif h0 ?_ ?_ <;> intro c17 h0
 try simp only [c17, c1, c15, go_sem]
 refine DG_bif h0 ?_ ?_ <;> intro c18 h0
 try simp only [c18, c1, c15, c17, go_sem]
 obtain ⟨x19, yx19, h0⟩ := bs h0
 refine DG_call0 1000 (L04_sane_ok k _ yx19) ?_ (by first | rfl | simp [AV.refsL, AV.refs, AV.scal, AV.leaf]) ?_
 try simp only [c1, c15, c17, c18, go_sem]
 try simp only [c1, c15, c17, c18, go_sem]
 refine DG_done ⟨rfl, run_sound T_ok 1000 _ _ ?_⟩
 try simp only [c1, c15, c17, c18, go_sem]
 obtain rfl := Option.some.inj h0
 refine AKev_ret rfl ?_
 try simp only [F4.rs, c1, c15, c17, c18, go_sem]
 try simp only [c18, c1, c15, c17, go_sem]
 refine DG_done ⟨rfl, run_sound T_ok 1000 _ _ ?_⟩
 try simp only [c1, c15, c17, c18, go_sem]
 obtain rfl := Option.some.inj h0
 refine AKev_ret rfl ?_
 try simp only [F4.rs, c1, c15, c17, c18, go_sem]
 try simp only [c17, c1, c15, go_sem]
 refine DG_done ⟨rfl, run_sound T_ok 1000 _ _ ?_⟩
 try simp only [c1, c15, c17, go_sem]
 obtain rfl := Option.some.inj h0
 refine AKev_ret rfl ?_
 try simp only [F4.rs, c1, c15, c17, go_sem]
 try simp only [c15, c1, go_sem]
 refine DG_done ⟨rfl, run_sound T_ok 1000 _ _ ?_⟩
 try simp only [c1, c15, go_sem]
 obtain rfl := Option.some.inj h0
 refine AKev_ret rfl ?_
 try simp only [F4.rs, c1, c15, go_sem]
end Go.Abs
namespace Go.Abs
open Go Go.Proofs Go.RowKit
set_option maxRecDepth 20000
def qB : Nat := 8589934592
theorem qB_le : qB ≤ 140737488351232 := by decide
theorem qB_upto : qB = 8589934592 := rfl
theorem reads_3 : Reads qB Try.prog 3 eI i64ok := Reads.int Try.underlying3
theorem reads_23 : Reads qB Try.prog 23 (eL 1 eI) (fun l => l.length ≤ Go.maxLen ∧ l.length * 8 ≤ qB ∧ ∀ a ∈ l, i64ok a) := Reads.slice Try.underlying23 (by kernel_rfl) (by kernel_rfl) (by decide) reads_3
def R04_Raw.q (x : R04_Raw) : Prop := i64ok x.Mouths ∧ i64ok x.Places ∧ (fun l => l.length ≤ Go.maxLen ∧ l.length * 16 ≤ qB ∧ ∀ a ∈ l, (fun x : (A2 Int) => i64ok x.x0 ∧ i64ok x.x1) a) x.Falls ∧ (fun l => l.length ≤ Go.maxLen ∧ l.length * 8 ≤ qB ∧ ∀ a ∈ l, i64ok a) x.Heats ∧ (fun l => l.length ≤ Go.maxLen ∧ l.length * 32 ≤ qB ∧ ∀ a ∈ l, (fun x : (A4 Int) => i64ok x.x0 ∧ i64ok x.x1 ∧ i64ok x.x2 ∧ i64ok x.x3) a) x.Readings
def Range.q (x : Range) : Prop := i64ok x.Lo ∧ i64ok x.Hi
theorem reads_39 : Reads qB Try.prog 39 Range.c Range.q := (Reads.struct Try.underlying39 (by kernel_rfl) (ReadsL.cons (off := 0) (sz := 1) (off' := 1) (tot := 2) rfl (by kernel_rfl) rfl reads_3 (ReadsL.cons (off := 1) (sz := 1) (off' := 2) (tot := 2) rfl (by kernel_rfl) rfl reads_3 (ReadsL.nil (off := 2) (tot := 2) (by decide))))).as (fun p => ⟨p.1, p.2.1⟩) (fun _ => rfl) (fun _ h => ⟨h.1, h.2.1⟩)
theorem reads_40 : Reads qB Try.prog 40 (eL 2 Range.c) (fun l => l.length ≤ Go.maxLen ∧ l.length * 16 ≤ qB ∧ ∀ a ∈ l, Range.q a) := Reads.slice Try.underlying40 (by kernel_rfl) (by kernel_rfl) (by decide) reads_39
theorem reads_27 : Reads qB Try.prog 27 (eL 1 (eL 2 Range.c)) (fun l => l.length ≤ Go.maxLen ∧ l.length * 24 ≤ qB ∧ ∀ a ∈ l, (fun l => l.length ≤ Go.maxLen ∧ l.length * 16 ≤ qB ∧ ∀ a ∈ l, Range.q a) a) := Reads.slice Try.underlying27 (by kernel_rfl) (by kernel_rfl) (by decide) reads_40
def Kiln.q (x : Kiln) : Prop := (fun l => l.length ≤ Go.maxLen ∧ l.length * 24 ≤ qB ∧ ∀ a ∈ l, (fun l => l.length ≤ Go.maxLen ∧ l.length * 16 ≤ qB ∧ ∀ a ∈ l, Range.q a) a) x.Falls
theorem reads_29 : Reads qB Try.prog 29 Kiln.c Kiln.q := (Reads.struct Try.underlying29 (by kernel_rfl) (ReadsL.cons (off := 0) (sz := 1) (off' := 1) (tot := 1) rfl (by kernel_rfl) rfl reads_27 (ReadsL.nil (off := 1) (tot := 1) (by decide)))).as (fun p => ⟨p.1⟩) (fun _ => rfl) (fun _ h => h.1)
def Reading.q (x : Reading) : Prop := i64ok x.Source ∧ i64ok x.Place ∧ i64ok x.Kind ∧ i64ok x.Mark ∧ Range.q x.Heat
theorem reads_60 : Reads qB Try.prog 60 Reading.c Reading.q := (Reads.struct Try.underlying60 (by kernel_rfl) (ReadsL.cons (off := 0) (sz := 1) (off' := 1) (tot := 6) rfl (by kernel_rfl) rfl reads_3 (ReadsL.cons (off := 1) (sz := 1) (off' := 2) (tot := 6) rfl (by kernel_rfl) rfl reads_3 (ReadsL.cons (off := 2) (sz := 1) (off' := 3) (tot := 6) rfl (by kernel_rfl) rfl reads_3 (ReadsL.cons (off := 3) (sz := 1) (off' := 4) (tot := 6) rfl (by kernel_rfl) rfl reads_3 (ReadsL.cons (off := 4) (sz := 2) (off' := 6) (tot := 6) rfl (by kernel_rfl) rfl reads_39 (ReadsL.nil (off := 6) (tot := 6) (by decide)))))))).as (fun p => ⟨p.1, p.2.1, p.2.2.1, p.2.2.2.1, p.2.2.2.2.1⟩) (fun _ => rfl) (fun _ h => ⟨h.1, h.2.1, h.2.2.1, h.2.2.2.1, h.2.2.2.2.1⟩)
theorem reads_30 : Reads qB Try.prog 30 (eL 6 Reading.c) (fun l => l.length ≤ Go.maxLen ∧ l.length * 48 ≤ qB ∧ ∀ a ∈ l, Reading.q a) := Reads.slice Try.underlying30 (by kernel_rfl) (by kernel_rfl) (by decide) reads_60
def Firing.q (x : Firing) : Prop := Kiln.q x.Kiln ∧ (fun l => l.length ≤ Go.maxLen ∧ l.length * 48 ≤ qB ∧ ∀ a ∈ l, Reading.q a) x.Readings
theorem reads_32 : Reads qB Try.prog 32 Firing.c Firing.q := (Reads.struct Try.underlying32 (by kernel_rfl) (ReadsL.cons (off := 0) (sz := 1) (off' := 1) (tot := 2) rfl (by kernel_rfl) rfl reads_29 (ReadsL.cons (off := 1) (sz := 1) (off' := 2) (tot := 2) rfl (by kernel_rfl) rfl reads_30 (ReadsL.nil (off := 2) (tot := 2) (by decide))))).as (fun p => ⟨p.1, p.2.1⟩) (fun _ => rfl) (fun _ h => ⟨h.1, h.2.1⟩)
theorem reads_4 : Reads qB Try.prog 4 eB (fun _ => True) := Reads.bool Try.underlying4
def L04_Told.q (x : L04_Told) : Prop := i64ok x.Place ∧ i64ok x.N ∧ (fun _ => True) x.High
theorem reads_49 : Reads qB Try.prog 49 L04_Told.c L04_Told.q := (Reads.struct Try.underlying49 (by kernel_rfl) (ReadsL.cons (off := 0) (sz := 1) (off' := 1) (tot := 3) rfl (by kernel_rfl) rfl reads_3 (ReadsL.cons (off := 1) (sz := 1) (off' := 2) (tot := 3) rfl (by kernel_rfl) rfl reads_3 (ReadsL.cons (off := 2) (sz := 1) (off' := 3) (tot := 3) rfl (by kernel_rfl) rfl reads_4 (ReadsL.nil (off := 3) (tot := 3) (by decide)))))).as (fun p => ⟨p.1, p.2.1, p.2.2.1⟩) (fun _ => rfl) (fun _ h => ⟨h.1, h.2.1, h.2.2.1⟩)
def HeatProof.q (x : HeatProof) : Prop := i64ok x.Reading ∧ (fun l => l.length ≤ Go.maxLen ∧ l.length * 8 ≤ qB ∧ ∀ a ∈ l, i64ok a) x.By
theorem reads_51 : Reads qB Try.prog 51 HeatProof.c HeatProof.q := (Reads.struct Try.underlying51 (by kernel_rfl) (ReadsL.cons (off := 0) (sz := 1) (off' := 1) (tot := 2) rfl (by kernel_rfl) rfl reads_3 (ReadsL.cons (off := 1) (sz := 1) (off' := 2) (tot := 2) rfl (by kernel_rfl) rfl reads_23 (ReadsL.nil (off := 2) (tot := 2) (by decide))))).as (fun p => ⟨p.1, p.2.1⟩) (fun _ => rfl) (fun _ h => ⟨h.1, h.2.1⟩)
end Go.Abs
namespace Go.Abs
open Go
set_option linter.unusedVariables false
theorem at_getD {α : Type} (d : α) {l : List α} {i : Int} (h0 : 0 ≤ i) (h1 : i < l.length) : at? l i = some (l.getD i.toNat d) := by
 unfold at?
 rw [if_pos ⟨h0, by omega⟩]
 rw [List.getElem?_eq_getElem (by omega), List.getD_eq_getElem?_getD, List.getElem?_eq_getElem (by omega)]
 rfl
theorem at_nat {α : Type} (d : α) {l : List α} {i : Nat} (h1 : i < l.length) : at? l (i : Int) = some (l.getD i d) := by
 have := at_getD d (l := l) (i := (i : Int)) (by omega) (by omega)
 simpa using this
theorem getD_mem {α : Type} (d : α) {l : List α} {i : Nat} (h : i < l.length) : l.getD i d ∈ l := by
 rw [List.getD_eq_getElem?_getD, List.getElem?_eq_getElem h]
 exact List.getElem_mem h
theorem getD_none {α : Type} {d : α} {l : List α} {i : Nat} (h : l.length ≤ i) : l.getD i d = d := by
 rw [List.getD_eq_getElem?_getD, List.getElem?_eq_none h]; rfl
theorem getD_of {α : Type} (d : α) {l : List α} {i : Nat} {x : α} (h : l[i]? = some x) : l.getD i d = x := by
 rw [List.getD_eq_getElem?_getD, h]; rfl
theorem whl_foldN {S R τ : Type} {n : Nat} {body : τ → Option (Stp τ S R)} (mk : Int → S → τ) (f : S → Nat → S) (Inv : Nat → S → Prop) (hn : n ≤ 9223372036854775807) {k : Nat} (hk : n < k) {s0 : S} (h0 : Inv 0 s0)
  (h1 : ∀ i s, i < n → Inv i s → body (mk (i : Int) s) = some (.next (mk (w64 ((i : Int) + 1)) (f s i))) ∧ Inv (i + 1) (f s i)) (h2 : ∀ s, Inv n s → body (mk (n : Int) s) = some (.brk s)) :
  whl body k (mk 0 s0) = some (.brk ((List.range n).foldl f s0)) ∧ Inv n ((List.range n).foldl f s0) := by
 have h := whl_fold (l := List.range n) (body := body) mk f Inv (by simpa using hn) (k := k) (by simpa using hk) h0 (fun i x s hx hI => by
  have hi : i < n := by have := (List.getElem?_eq_some_iff.1 hx).1; simpa using this
  have e : x = i := by have := hx; rw [List.getElem?_range hi] at this; exact (Option.some.inj this).symm
  subst e
  exact h1 x s hi hI) (fun s hI => by have := h2 s (by simpa using hI); simpa using this)
 exact ⟨h.1, by simpa using h.2⟩
end Go.Abs
namespace Go.Abs
set_option linter.unusedVariables false
def mx (f : Nat → Int) : Nat → Int
 | 0 => f 0
 | n + 1 => max (mx f n) (f (n + 1))
theorem mx_le_iff (f : Nat → Int) (t : Int) : ∀ n, mx f n ≤ t ↔ ∀ j, j ≤ n → f j ≤ t
 | 0 => ⟨fun h j hj => by have h0 : j = 0 := Nat.le_zero.1 hj; subst h0; exact h, fun h => h 0 (Nat.le_refl _)⟩
 | n + 1 => by
  rw [mx, Int.max_le, mx_le_iff f t n]
  constructor
  ·rintro ⟨h1, h2⟩ j hj
   rcases Nat.lt_or_ge n j with h | h
   ·obtain rfl : j = n + 1 := by omega
    exact h2
   ·exact h1 j h
  ·exact fun h => ⟨fun j hj => h j (by omega), h _ (Nat.le_refl _)⟩
theorem le_mx_iff (f : Nat → Int) (t : Int) : ∀ n, t ≤ mx f n ↔ ∃ j, j ≤ n ∧ t ≤ f j
 | 0 => ⟨fun h => ⟨0, Nat.le_refl _, h⟩, fun ⟨j, hj, h⟩ => by have h0 : j = 0 := Nat.le_zero.1 hj; subst h0; exact h⟩
 | n + 1 => by
  rw [mx, show t ≤ max (mx f n) (f (n + 1)) ↔ t ≤ mx f n ∨ t ≤ f (n + 1) by omega, le_mx_iff f t n]
  constructor
  ·rintro (⟨j, h1, h2⟩ | h)
   ·exact ⟨j, by omega, h2⟩
   ·exact ⟨n + 1, Nat.le_refl _, h⟩
  ·rintro ⟨j, h1, h2⟩
   rcases Nat.lt_or_ge n j with h | h
   ·obtain rfl : j = n + 1 := by omega
    exact .inr h2
   ·exact .inl ⟨j, h, h2⟩
theorem eq_of_le_iff {a b : Int} (h : ∀ t, t ≤ a ↔ t ≤ b) : a = b := by
 have h1 := (h a).1 (Int.le_refl _)
 have h2 := (h b).2 (Int.le_refl _)
 omega
theorem eq_of_ge_iff {a b : Int} (h : ∀ t, a ≤ t ↔ b ≤ t) : a = b := by
 have h1 := (h a).1 (Int.le_refl _)
 have h2 := (h b).2 (Int.le_refl _)
 omega
structure Fur where
 m : Nat
 lo : Nat → Nat → Int
 hi : Nat → Nat → Int
 L : List (Nat × Int)
 M : List (Nat × Int)
namespace Fur
def Ok (f : Fur) : Prop := ∀ j p, 0 ≤ f.lo j p ∧ f.lo j p ≤ f.hi j p ∧ f.hi j p ≤ 3000
def U (f : Fur) (j : Nat) : Int := f.M.foldl (fun n x => min n (x.2 + f.hi j x.1)) 3000
theorem U_iff (f : Fur) (j : Nat) (t : Int) : t ≤ f.U j ↔ t ≤ 3000 ∧ ∀ x ∈ f.M, t ≤ x.2 + f.hi j x.1 := by
 have key : ∀ (M : List (Nat × Int)) (a : Int), t ≤ M.foldl (fun n x => min n (x.2 + f.hi j x.1)) a ↔ t ≤ a ∧ ∀ x ∈ M, t ≤ x.2 + f.hi j x.1 := by
  intro M
  induction M with
  | nil => simp
  | cons y M ih =>
   intro a
   rw [List.foldl_cons, ih, Int.le_min]
   simp only [List.forall_mem_cons, and_assoc]
 exact key _ _
def High (f : Fur) (q : Nat) (t : Int) : Prop := (∃ j, j ≤ f.m ∧ t + f.lo j q ≤ f.U j) ∧ ∀ y ∈ f.M, y.1 = q → t ≤ y.2
def Low (f : Fur) (q : Nat) (t : Int) : Prop :=
 (∀ j, j ≤ f.m → -f.hi j q ≤ t) ∧ (∀ x ∈ f.L, x.1 = q → x.2 ≤ t) ∧ ∀ x ∈ f.L, x.1 ≠ q → ∃ j, j ≤ f.m ∧ x.2 + f.lo j x.1 ≤ f.U j ∧ x.2 + f.lo j x.1 - f.hi j q ≤ t
def IsField (f : Fur) (u : Nat → Int) (d : Nat → Nat → Int) : Prop := ∀ j, j ≤ f.m → 0 ≤ u j ∧ u j ≤ 3000 ∧ ∀ p, f.lo j p ≤ d j p ∧ d j p ≤ f.hi j p
def heat (f : Fur) (u : Nat → Int) (d : Nat → Nat → Int) (p : Nat) : Int := mx (fun j => u j - d j p) f.m
def Agrees (f : Fur) (u : Nat → Int) (d : Nat → Nat → Int) : Prop :=
 (∀ x ∈ f.L, x.2 ≤ f.heat u d x.1) ∧ ∀ y ∈ f.M, f.heat u d y.1 ≤ y.2
theorem Agrees.u {f : Fur} {u d} (hF : f.IsField u d) (h : f.Agrees u d) (j : Nat) (hj : j ≤ f.m) : u j ≤ f.U j := by
 rw [U_iff]
 refine ⟨(hF j hj).2.1, fun x hx => ?_⟩
 have h1 := (mx_le_iff _ _ _).1 (h.2 x hx) j hj
 have h2 := (hF j hj).2.2 x.1
 omega
theorem Agrees.high {f : Fur} {u d} (hF : f.IsField u d) (h : f.Agrees u d) (p : Nat) : f.High p (f.heat u d p) := by
 refine ⟨?_, fun y hy e => e ▸ h.2 y hy⟩
 obtain ⟨j, h1, h2⟩ := (le_mx_iff _ _ _).1 (Int.le_refl (f.heat u d p))
 refine ⟨j, h1, ?_⟩
 have h3 := h.u hF j h1
 have h4 := (hF j h1).2.2 p
 omega
theorem Agrees.low {f : Fur} {u d} (hF : f.IsField u d) (h : f.Agrees u d) (p : Nat) : f.Low p (f.heat u d p) := by
 have hm := (mx_le_iff (fun j => u j - d j p) (f.heat u d p) f.m).1 (Int.le_refl _)
 refine ⟨fun j hj => ?_, fun x hx e => e ▸ h.1 x hx, fun x hx _ => ?_⟩
 ·have h1 := hm j hj
  have h2 := hF j hj
  have h3 := h2.2.2 p
  omega
 ·obtain ⟨j, h1, h2⟩ := (le_mx_iff _ _ _).1 (h.1 x hx)
  have h3 := h.u hF j h1
  have h4 := (hF j h1).2.2 x.1
  have h5 := (hF j h1).2.2 p
  have h6 := hm j h1
  exact ⟨j, h1, by omega, by omega⟩
end Fur
end Go.Abs
namespace Go.Abs
set_option linter.unusedVariables false
namespace Fur
def Small (f : Fur) (P : Nat) : Prop := (∀ x ∈ f.L, x.1 < P ∧ -3000 ≤ x.2 ∧ x.2 ≤ 3000) ∧ ∀ x ∈ f.M, x.1 < P ∧ -3000 ≤ x.2 ∧ x.2 ≤ 3000
structure Lims (f : Fur) (P : Nat) (a b : Nat → Int) : Prop where
 hk : f.Ok
 sm : f.Small P
 A : ∀ p t, p < P → (a p ≤ t ↔ -1000000 ≤ t ∧ ∀ x ∈ f.L, x.1 = p → x.2 ≤ t)
 B : ∀ p t, p < P → (t ≤ b p ↔ t ≤ 1000000 ∧ ∀ y ∈ f.M, y.1 = p → t ≤ y.2)
namespace Lims
variable {f : Fur} {P : Nat} {a b : Nat → Int}
theorem b_le (h : Lims f P a b) {p : Nat} (hp : p < P) : b p ≤ 1000000 := ((h.B p _ hp).1 (Int.le_refl _)).1
theorem b_lim (h : Lims f P a b) {y : Nat × Int} (hy : y ∈ f.M) : b y.1 ≤ y.2 := ((h.B y.1 _ (h.sm.2 y hy).1).1 (Int.le_refl _)).2 y hy rfl
theorem b_att (h : Lims f P a b) {p : Nat} (hp : p < P) (hn : b p ≠ 1000000) : ∃ x ∈ f.M, x.1 = p ∧ x.2 = b p := by
 by_cases hc : ∃ x ∈ f.M, x.1 = p ∧ x.2 = b p
 ·exact hc
 ·exfalso
  have h0 := h.b_le hp
  have : b p + 1 ≤ b p := by
   rw [h.B p _ hp]
   refine ⟨by omega, fun x hx e => ?_⟩
   have h1 := h.b_lim hx
   rw [e] at h1
   have h2 : x.2 ≠ b p := fun e2 => hc ⟨x, hx, e, e2⟩
   omega
  omega
theorem U_iff (h : Lims f P a b) (j : Nat) (t : Int) : t ≤ f.U j ↔ t ≤ 3000 ∧ ∀ p, p < P → b p < 1000000 → t ≤ b p + f.hi j p := by
 rw [Fur.U_iff]
 constructor
 ·rintro ⟨h1, h2⟩
  refine ⟨h1, fun p hp hb => ?_⟩
  obtain ⟨y, hy, e, e2⟩ := h.b_att hp (by omega)
  have := h2 y hy
  rw [e, e2] at this
  exact this
 ·rintro ⟨h1, h2⟩
  refine ⟨h1, fun y hy => ?_⟩
  have h3 := h.b_lim hy
  have h4 := h.sm.2 y hy
  have := h2 y.1 h4.1 (by omega)
  omega
end Lims
end Fur
end Go.Abs
namespace Go.Abs
open Go
set_option linter.unusedVariables false
def KK : Nat := 18446744073709551616
theorem KK_big {n : Nat} (h : n ≤ Go.maxLen) : n < KK := by unfold KK; unfold Go.maxLen at h; omega
def Kiln.s (a : Kiln) : Prop := a.Falls.length ≤ Go.maxLen ∧ ∀ x ∈ a.Falls, x.length ≤ Go.maxLen
def Firing.s (f : Firing) : Prop := Kiln.s f.Kiln ∧ f.Readings.length ≤ Go.maxLen
theorem Kiln.q.s {a : Kiln} (q : Kiln.q a) : Kiln.s a := ⟨q.1, fun x hx => (q.2.2 x hx).1⟩
theorem Firing.q.s {f : Firing} (q : Firing.q f) : Firing.s f := ⟨q.1.s, q.2.1⟩
theorem maxLen_le {n : Nat} (h : n ≤ Go.maxLen) : n ≤ 9223372036854775807 := by unfold Go.maxLen at h; omega
theorem sane_KK : L04_sane KK = some true := by unfold KK; decide +kernel
set_option maxRecDepth 10000
def inB (n lo hi : Int) : Bool := decide (lo ≤ n) && decide (n ≤ hi)
theorem heat_in_eq (k : Nat) (n lo hi : Int) : heat_in k n lo hi = some (inB n lo hi) := by
 unfold heat_in inB; cases decide (lo ≤ n) <;> rfl
theorem R01_In_eq (k : Nat) (n lo hi : Int) : R01_In k n lo hi = some (inB n lo hi) := by
 unfold R01_In inB; cases decide (lo ≤ n) <;> rfl
def rangeB (r : Range) (lo hi : Int) : Bool := decide (lo ≤ r.Lo) && (decide (r.Lo ≤ r.Hi) && decide (r.Hi ≤ hi))
theorem R01_Part_eq (k : Nat) (r : Range) (lo hi : Int) : R01_Part k r lo hi = some (rangeB r lo hi) := by
 unfold R01_Part rangeB; cases decide (lo ≤ r.Lo) <;> cases decide (r.Lo ≤ r.Hi) <;> rfl
def readB (places : Int) (r : Reading) : Bool :=
 inB r.Source 1 99999 && (inB r.Place 0 (w64 (places - 1)) &&
  (bif decide (r.Kind = (1 : Int)) then (inB r.Mark 1 2000 && (decide (r.Heat.Lo = (0 : Int)) && decide (r.Heat.Hi = (0 : Int))))
  else bif decide (r.Kind = (2 : Int)) then (inB r.Mark 1 2000 && (decide (r.Heat.Lo = (0 : Int)) && decide (r.Heat.Hi = (0 : Int))))
  else bif decide (r.Kind = (3 : Int)) then (decide (r.Mark = (0 : Int)) && rangeB r.Heat 1 2000) else false))
theorem heat_isReading_eq (k : Nat) (places : Int) (r : Reading) : heat_isReading k places r = some (readB places r) := by
 unfold heat_isReading readB rangeB
 simp only [heat_in_eq, Option.bind_some]
 cases inB r.Source 1 99999 <;> cases inB r.Place 0 (w64 (places - 1)) <;> cases decide (r.Kind = (1 : Int)) <;> cases decide (r.Kind = (2 : Int)) <;> cases decide (r.Kind = (3 : Int)) <;> cases inB r.Mark 1 2000 <;> cases decide (r.Mark = (0 : Int)) <;> cases decide ((1 : Int) ≤ r.Heat.Lo) <;> cases decide (r.Heat.Lo ≤ r.Heat.Hi) <;> rfl
theorem R04_isReading_eq (k : Nat) (k0 : Kiln) (r : Reading) (x3 : List Range) (h : k0.Falls[0]? = some x3) : R04_isReading k k0 r = some (readB (x3.length : Int) r) := by
 unfold R04_isReading readB
 have ha : at? k0.Falls 0 = some x3 := by have := at_of h; simpa using this
 simp only [R01_In_eq, R01_Part_eq, Option.bind_some, ha]
 cases inB r.Source 1 99999 <;> cases inB r.Place 0 (w64 (x3.length - 1)) <;> cases decide (r.Kind = (1 : Int)) <;> cases decide (r.Kind = (2 : Int)) <;> cases decide (r.Kind = (3 : Int)) <;> cases inB r.Mark 1 2000 <;> cases decide (r.Mark = (0 : Int)) <;> rfl
theorem findSome_bif {α R : Type} (p : α → Bool) (c : R) : ∀ l : List α, l.findSome? (fun x => bif p x then none else some c) = bif l.all p then none else some c
 | [] => rfl
 | x :: l => by
  rw [List.findSome?_cons, List.all_cons]
  cases h : p x with
  | true => simp [findSome_bif p c l]
  | false => simp
theorem lt_dec {i n : Nat} (h : i < n) : decide ((i : Int) < (n : Int)) = true := by simp; omega
theorem lt_dec_self (n : Nat) : decide ((n : Int) < (n : Int)) = false := by simp
theorem len_dec {α β : Type} (a : List α) (b : List β) : decide ((a.length : Int) = (b.length : Int)) = decide (a.length = b.length) := by
 by_cases h : a.length = b.length
 ·simp [h]
 ·have : ¬ ((a.length : Int) = (b.length : Int)) := by omega
  simp [h, this]
def kilnB (a : Kiln) : Bool := inB a.Falls.length 1 6 && (inB (a.Falls.headD []).length 1 24 && a.Falls.all fun l => decide (l.length = (a.Falls.headD []).length) && l.all fun r => rangeB r 0 3000)
theorem bad_eq (k : Nat) (r : Range) : heat_CheckKiln_1 k r = some (!rangeB r 0 3000) := by
 unfold heat_CheckKiln_1 rangeB
 have h1 : decide (r.Lo < (0 : Int)) = !decide (0 ≤ r.Lo) := by by_cases h : 0 ≤ r.Lo <;> simp [h] <;> omega
 have h2 : decide (r.Hi < r.Lo) = !decide (r.Lo ≤ r.Hi) := by by_cases h : r.Lo ≤ r.Hi <;> simp [h] <;> omega
 have h3 : decide ((3000 : Int) < r.Hi) = !decide (r.Hi ≤ 3000) := by by_cases h : r.Hi ≤ 3000 <;> simp [h] <;> omega
 rw [h1, h2, h3]
 cases decide (0 ≤ r.Lo) <;> cases decide (r.Lo ≤ r.Hi) <;> rfl
theorem contains_Range {l : List Range} (hl : l.length ≤ Go.maxLen) {f : Range → Option Bool} {p : Range → Bool} (hf : ∀ x, f x = some (p x)) : slices_ContainsFunc_api_Range KK l f = some (l.any p) := by
 unfold slices_ContainsFunc_api_Range slices_IndexFunc_api_Range
 rw [indexFunc_gen (body := slices_IndexFunc_api_Range.b0 KK f l) (p := p) (fun x _ => hf x) (maxLen_le hl) (KK_big hl) rfl]
 have : l.any p = (l.findIdx? p).isSome := by rw [List.findIdx?_isSome]
 rw [this]
 cases l.findIdx? p with
 | none => rfl
 | some i => simp
theorem heat_CheckKiln_eq (a : Kiln) (q : Kiln.s a) : heat_CheckKiln KK a = some (bif kilnB a then 0 else 40) := by
 obtain ⟨q1, q2⟩ := q
 unfold heat_CheckKiln kilnB
 simp only [heat_in_eq, Option.bind_some]
 cases h0 : inB (a.Falls.length : Int) 1 6 with
 | false => rfl
 | true =>
  obtain ⟨x3, hx⟩ : ∃ x3, a.Falls[0]? = some x3 := by
   have : 0 < a.Falls.length := by simp [inB] at h0; omega
   exact ⟨_, List.getElem?_eq_getElem this⟩
  have hd : a.Falls.headD [] = x3 := by cases hF : a.Falls with | nil => rw [hF] at hx; cases hx | cons y l => rw [hF] at hx; simpa using hx
  have ha : at? a.Falls 0 = some x3 := by have := at_of hx; simpa using this
  simp only [ha, hd, cond_true, Option.bind_some, Bool.true_and]
  cases h1 : inB (x3.length : Int) 1 24 with
  | false => rfl
  | true =>
   simp only [Bool.not_true, cond_false, Bool.true_and]
   rw [whl_each (l := a.Falls) (f := fun l => bif (decide (l.length = x3.length) && l.all fun r => rangeB r 0 3000) then none else some 40) (maxLen_le q1) (KK_big q1) ?_ ?_]
   ·rw [findSome_bif]
    cases a.Falls.all _ <;> rfl
   ·intro i x hx
    have hi : i < a.Falls.length := (List.getElem?_eq_some_iff.1 hx).1
    unfold heat_CheckKiln.b0
    rw [lt_dec hi, at_of hx]
    simp only [cond_true, Option.bind_some, len_dec]
    rw [contains_Range (q2 x (List.mem_of_getElem? hx)) (fun r => bad_eq KK r)]
    have : (x.any fun r => !rangeB r 0 3000) = !(x.all fun r => rangeB r 0 3000) := by simp [List.all_eq_not_any_not]
    rw [this]
    cases decide (x.length = x3.length) <;> cases (x.all fun r => rangeB r 0 3000) <;> rfl
   ·unfold heat_CheckKiln.b0
    rw [lt_dec_self]; rfl
theorem R04_CheckKiln_eq (a : Kiln) (q : Kiln.s a) : R04_CheckKiln KK a = some (bif kilnB a then 0 else 40) := by
 obtain ⟨q1, q2⟩ := q
 unfold R04_CheckKiln kilnB
 simp only [R01_In_eq, Option.bind_some]
 cases h0 : inB (a.Falls.length : Int) 1 6 with
 | false => rfl
 | true =>
  have hpos : 0 < a.Falls.length := by simp [inB] at h0; omega
  obtain ⟨x3, hx⟩ : ∃ x3, a.Falls[0]? = some x3 := ⟨_, List.getElem?_eq_getElem hpos⟩
  have hd : a.Falls.headD [] = x3 := by cases hF : a.Falls with | nil => rw [hF] at hx; cases hx | cons y l => rw [hF] at hx; simpa using hx
  have ha : at? a.Falls 0 = some x3 := by have := at_of hx; simpa using this
  simp only [ha, hd, Bool.not_true, cond_false, Option.bind_some, Bool.true_and]
  rw [whl_each (l := a.Falls) (f := fun l => bif (decide (l.length = x3.length) && (inB (x3.length : Int) 1 24 && l.all fun r => rangeB r 0 3000)) then none else some 40) (maxLen_le q1) (KK_big q1) ?_ ?_]
  ·rw [findSome_bif]
   have : (a.Falls.all fun l => decide (l.length = x3.length) && (inB (x3.length : Int) 1 24 && l.all fun r => rangeB r 0 3000)) = (inB (x3.length : Int) 1 24 && a.Falls.all fun l => decide (l.length = x3.length) && l.all fun r => rangeB r 0 3000) := by
    cases inB (x3.length : Int) 1 24 with
    | true => simp
    | false =>
     simp only [Bool.false_and, Bool.and_false]
     cases hF : a.Falls with
     | nil => rw [hF] at hpos; simp at hpos
     | cons y l => simp
   rw [this]
   cases (inB (x3.length : Int) 1 24 && a.Falls.all fun l => decide (l.length = x3.length) && l.all fun r => rangeB r 0 3000) <;> rfl
  ·intro i x hx'
   have hi : i < a.Falls.length := (List.getElem?_eq_some_iff.1 hx').1
   have hq := q2 x (List.mem_of_getElem? hx')
   unfold R04_CheckKiln.b0
   rw [lt_dec hi, at_of hx']
   simp only [cond_true, Option.bind_some, len_dec, R01_In_eq]
   cases hl : decide (x.length = x3.length) with
   | false => rfl
   | true =>
    simp only [cond_true, Bool.true_and]
    cases inB (x3.length : Int) 1 24 with
    | false => rfl
    | true =>
     simp only [Bool.not_true, cond_false, Bool.true_and]
     have hl' : x.length = x3.length := by simpa using hl
     rw [whl_each (l := x) (f := fun r => bif rangeB r 0 3000 then none else some 40) (maxLen_le hq) (KK_big hq) ?_ ?_]
     ·rw [findSome_bif]
      cases (x.all fun r => rangeB r 0 3000) <;> rfl
     ·intro j r hr
      have hj : j < x.length := (List.getElem?_eq_some_iff.1 hr).1
      unfold R04_CheckKiln.b1
      rw [← hl', lt_dec hj, at_of hr]
      simp only [cond_true, Option.bind_some, R01_Part_eq]
      cases rangeB r 0 3000 <;> rfl
     ·unfold R04_CheckKiln.b1
      rw [← hl', lt_dec_self]; rfl
  ·unfold R04_CheckKiln.b0
   rw [lt_dec_self]; rfl
theorem kilnB_head {a : Kiln} (h : kilnB a = true) : ∃ x3, a.Falls[0]? = some x3 ∧ at? a.Falls 0 = some x3 ∧ a.Falls.headD [] = x3 := by
 have hpos : 0 < a.Falls.length := by simp [kilnB, inB] at h; omega
 obtain ⟨x3, hx⟩ : ∃ x3, a.Falls[0]? = some x3 := ⟨_, List.getElem?_eq_getElem hpos⟩
 exact ⟨x3, hx, by have := at_of hx; simpa using this, by cases hF : a.Falls with | nil => rw [hF] at hx; cases hx | cons y l => rw [hF] at hx; simpa using hx⟩
def firingCode (f : Firing) : Int := bif kilnB f.Kiln then (bif decide ((60 : Int) < (f.Readings.length : Int)) then 2 else bif f.Readings.all (readB ((f.Kiln.Falls.headD []).length : Int)) then 0 else 41) else 40
theorem heat_Check_eq (f : Firing) (q : Firing.s f) : heat_Check KK f = some (firingCode f) := by
 obtain ⟨q1, q2⟩ := q
 unfold heat_Check firingCode
 rw [heat_CheckKiln_eq _ q1]
 cases h : kilnB f.Kiln with
 | false => rfl
 | true =>
  obtain ⟨x3, h1, h2, h3⟩ := kilnB_head h
  simp only [Option.bind_some, cond_true, h3]
  simp only [decide_true, Bool.not_true, cond_false]
  cases decide ((60 : Int) < (f.Readings.length : Int)) with
  | true => rfl
  | false =>
   simp only [cond_false]
   rw [whl_each (l := f.Readings) (f := fun r => bif readB (x3.length : Int) r then none else some 41) (maxLen_le q2) (KK_big q2) ?_ ?_]
   ·rw [findSome_bif]
    have : (f.Readings.all fun r => readB (x3.length : Int) r) = f.Readings.all (readB (x3.length : Int)) := rfl
    rw [this]
    cases f.Readings.all (readB (x3.length : Int)) <;> rfl
   ·intro i r hr
    have hi : i < f.Readings.length := (List.getElem?_eq_some_iff.1 hr).1
    unfold heat_Check.b0
    rw [lt_dec hi, at_of hr]
    simp only [cond_true, Option.bind_some, h2, heat_isReading_eq]
    cases readB (x3.length : Int) r <;> rfl
   ·unfold heat_Check.b0
    rw [lt_dec_self]; rfl
theorem R04_Check_eq (f : Firing) (q : Firing.s f) : R04_Check KK f = some (firingCode f) := by
 obtain ⟨q1, q2⟩ := q
 unfold R04_Check firingCode
 rw [R04_CheckKiln_eq _ q1]
 cases h : kilnB f.Kiln with
 | false => rfl
 | true =>
  obtain ⟨x3, h1, h2, h3⟩ := kilnB_head h
  simp only [Option.bind_some, cond_true, h3]
  simp only [decide_true, Bool.not_true, cond_false]
  cases decide ((60 : Int) < (f.Readings.length : Int)) with
  | true => rfl
  | false =>
   simp only [cond_false]
   rw [whl_each (l := f.Readings) (f := fun r => bif readB (x3.length : Int) r then none else some 41) (maxLen_le q2) (KK_big q2) ?_ ?_]
   ·rw [findSome_bif]
    have : (f.Readings.all fun r => readB (x3.length : Int) r) = f.Readings.all (readB (x3.length : Int)) := rfl
    rw [this]
    cases f.Readings.all (readB (x3.length : Int)) <;> rfl
   ·intro i r hr
    have hi : i < f.Readings.length := (List.getElem?_eq_some_iff.1 hr).1
    unfold R04_Check.b0
    rw [lt_dec hi, at_of hr]
    simp only [cond_true, Option.bind_some, R04_isReading_eq KK f.Kiln r x3 h1]
    cases readB (x3.length : Int) r <;> rfl
   ·unfold R04_Check.b0
    rw [lt_dec_self]; rfl
end Go.Abs
namespace Go.Abs
open Go
set_option linter.unusedVariables false
theorem R01_Same_refl (a : List Int) (q : a.length ≤ Go.maxLen) : R01_Same KK a a = some true := by
 unfold R01_Same
 simp only [decide_true, Bool.not_true, cond_false]
 rw [whl_each (l := a) (f := fun _ => (none : Option Bool)) (maxLen_le q) (KK_big q) ?_ ?_]
 ·have : a.findSome? (fun _ => (none : Option Bool)) = none := by induction a <;> simp_all
  rw [this]; rfl
 ·intro i x hx
  have hi : i < a.length := (List.getElem?_eq_some_iff.1 hx).1
  unfold R01_Same.b0
  rw [lt_dec hi, at_of hx]
  simp
 ·unfold R01_Same.b0
  rw [lt_dec_self]; rfl
theorem kilnB_small {a : Kiln} (h : kilnB a = true) : a.Falls.length ≤ 6 ∧ (a.Falls.headD []).length ≤ 24 ∧ ∀ x ∈ a.Falls, x.length = (a.Falls.headD []).length := by
 simp only [kilnB, inB, Bool.and_eq_true, decide_eq_true_eq, List.all_eq_true] at h
 obtain ⟨h1, h2, h3⟩ := h
 exact ⟨by omega, by omega, fun x hx => (h3 x hx).1⟩
theorem firing_small {f : Firing} (h : firingCode f = 0) : kilnB f.Kiln = true ∧ f.Readings.length ≤ 60 ∧ ∀ r ∈ f.Readings, readB ((f.Kiln.Falls.headD []).length : Int) r = true := by
 unfold firingCode at h
 cases h1 : kilnB f.Kiln with
 | false => rw [h1] at h; simp at h
 | true =>
  rw [h1] at h
  simp only [cond_true] at h
  by_cases h2 : (60 : Int) < (f.Readings.length : Int)
  ·simp [h2] at h
  ·simp only [h2, decide_false, cond_false] at h
   cases h3 : f.Readings.all (readB ((f.Kiln.Falls.headD []).length : Int)) with
   | false => rw [h3] at h; simp at h
   | true => exact ⟨rfl, by omega, fun r hr => List.all_eq_true.1 h3 r hr⟩
end Go.Abs
namespace Go.Abs
open Go
set_option linter.unusedVariables false
def insU (n : Int) : List Int → List Int
 | [] => [n]
 | y :: l => bif decide (y = n) then y :: l else bif decide (n < y) then n :: y :: l else y :: insU n l
theorem insU_mem (n : Int) : ∀ (l : List Int) (x : Int), x ∈ insU n l ↔ x = n ∨ x ∈ l
 | [], x => by simp [insU]
 | y :: l, x => by
  unfold insU
  by_cases h1 : y = n
  ·simp [h1]
  ·by_cases h2 : n < y
   ·simp [h1, h2]
   ·simp only [h1, h2, decide_false, cond_false, List.mem_cons, insU_mem n l]
    constructor
    ·rintro (h | h | h) <;> simp [h]
    ·rintro (h | h | h) <;> simp [h]
theorem insU_sorted (n : Int) : ∀ l : List Int, l.Pairwise (· < ·) → (insU n l).Pairwise (· < ·)
 | [], _ => by simp [insU]
 | y :: l, h => by
  have h0 := h
  rw [List.pairwise_cons] at h
  unfold insU
  by_cases h1 : y = n
  ·simp only [h1, decide_true, cond_true]; rw [← h1]; exact h0
  ·by_cases h2 : n < y
   ·simp only [h1, h2, decide_false, decide_true, cond_false, cond_true]
    rw [List.pairwise_cons]
    refine ⟨fun z hz => ?_, h0⟩
    rcases List.mem_cons.1 hz with rfl | hz
    ·exact h2
    ·have := h.1 z hz; omega
   ·simp only [h1, h2, decide_false, cond_false]
    rw [List.pairwise_cons]
    refine ⟨fun z hz => ?_, insU_sorted n l h.2⟩
    rcases (insU_mem n l z).1 hz with rfl | hz
    ·omega
    ·exact h.1 z hz
theorem insU_of_mem (n : Int) : ∀ l : List Int, l.Pairwise (· < ·) → n ∈ l → insU n l = l
 | [], _, h => by simp at h
 | y :: l, h, hm => by
  rw [List.pairwise_cons] at h
  unfold insU
  by_cases h1 : y = n
  ·simp [h1]
  ·rcases List.mem_cons.1 hm with rfl | hm
   ·exact absurd rfl h1
   ·have := h.1 n hm
    have h2 : ¬ n < y := by omega
    simp only [h1, h2, decide_false, cond_false]
    rw [insU_of_mem n l h.2 hm]
theorem insU_len (n : Int) : ∀ l : List Int, (insU n l).length ≤ l.length + 1
 | [] => by simp [insU]
 | y :: l => by
  unfold insU
  cases decide (y = n) <;> cases decide (n < y) <;> simp <;> exact insU_len n l
theorem rising_eq : ∀ {a b : List Int}, a.Pairwise (· < ·) → b.Pairwise (· < ·) → (∀ x, x ∈ a ↔ x ∈ b) → a = b
 | [], [], _, _, _ => rfl
 | [], y :: b, _, _, h => by have := (h y).2 (by simp); simp at this
 | x :: a, [], _, _, h => by have := (h x).1 (by simp); simp at this
 | x :: a, y :: b, ha, hb, h => by
  rw [List.pairwise_cons] at ha hb
  have hxy : x = y := by
   have h1 := (h x).1 (by simp)
   have h2 := (h y).2 (by simp)
   rcases List.mem_cons.1 h1 with e | e
   ·exact e
   ·rcases List.mem_cons.1 h2 with e' | e'
    ·exact e'.symm
    ·have := ha.1 y e'; have := hb.1 x e; omega
  subst hxy
  congr 1
  refine rising_eq ha.2 hb.2 fun z => ⟨fun hz => ?_, fun hz => ?_⟩
  ·rcases List.mem_cons.1 ((h z).1 (List.mem_cons_of_mem _ hz)) with e | e
   ·subst e; have := ha.1 z hz; omega
   ·exact e
  ·rcases List.mem_cons.1 ((h z).2 (List.mem_cons_of_mem _ hz)) with e | e
   ·subst e; have := hb.1 z hz; omega
   ·exact e
theorem drop_cons {α : Type} {l m : List α} {i : Nat} {x : α} (h : l.drop i = x :: m) : l[i]? = some x ∧ i < l.length ∧ l.drop (i + 1) = m := by
 have hx : l[i]? = some x := by
  have := congrArg (fun q => q[0]?) h
  simpa using this
 exact ⟨hx, (List.getElem?_eq_some_iff.1 hx).1, by rw [← List.drop_drop, h]; rfl⟩
theorem w64_succ {i n : Nat} (h : i < n) (hn : n ≤ 9223372036854775807) : w64 ((i : Int) + 1) = ((i + 1 : Nat) : Int) := by rw [w64_of (by omega) (by omega)]; omega
theorem R01_add_eq (l0 : List Int) (n : Int) (hs : l0.Pairwise (· < ·)) (hl : l0.length ≤ 8589934592) : R01_add KK l0 n = some (insU n l0) := by
 have hn : l0.length ≤ 9223372036854775807 := by omega
 have rest : ∀ (m : List Int) (i k : Nat) (l3 : List Int), l0.drop i = m → i + m.length = l0.length → m.length < k → (∀ x ∈ m, n < x) → l3.length = i + 1 →
   whl (R01_add.b0 KK l0 n) k (true, (i : Int), l3) = some (.brk (true, l3 ++ m)) := by
  intro m
  induction m with
  | nil =>
   intro i k l3 _ h3 h4 _ _
   cases k with
   | zero => omega
   | succ k =>
    have : i = l0.length := by simpa using h3
    subst this
    rw [whl]
    unfold R01_add.b0
    simp only [lt_dec_self, cond_false, List.append_nil]
  | cons x m ih =>
   intro i k l3 h1 h3 h4 h5 h6
   cases k with
   | zero => omega
   | succ k =>
    obtain ⟨hx, hi, hd⟩ := drop_cons h1
    simp only [List.length_cons] at h3 h4
    have hne : ¬ x = n := by have := h5 x (by simp); omega
    rw [whl]
    have : R01_add.b0 KK l0 n (true, (i : Int), l3) = some (.next (true, ((i + 1 : Nat) : Int), l3 ++ [x])) := by
     unfold R01_add.b0
     simp only [lt_dec hi, at_of hx, cond_true, Option.bind_some, hne, decide_false, cond_false, Bool.not_true]
     rw [push_of (by omega) (by omega), w64_succ hi hn]
     rfl
    rw [this]
    simp only
    rw [ih (i + 1) k (l3 ++ [x]) hd (by omega) (by omega) (fun y hy => h5 y (List.mem_cons_of_mem _ hy)) (by simp [h6])]
    simp
 have main : ∀ (m : List Int) (i k : Nat) (l3 : List Int), l0.drop i = m → i + m.length = l0.length → m.length < k → m.Pairwise (· < ·) → l3.length = i →
   (n ∈ m ∧ whl (R01_add.b0 KK l0 n) k (false, (i : Int), l3) = some (.ret l0)) ∨ (n ∉ m ∧ ∃ b l5, whl (R01_add.b0 KK l0 n) k (false, (i : Int), l3) = some (.brk (b, l5)) ∧ (bif b then l5 else l5 ++ [n]) = l3 ++ insU n m ∧ (b = false → l5.length = l0.length)) := by
  intro m
  induction m with
  | nil =>
   intro i k l3 _ h3 h4 _ h6
   cases k with
   | zero => omega
   | succ k =>
    have : i = l0.length := by simpa using h3
    subst this
    refine .inr ⟨by simp, false, l3, ?_, rfl, fun _ => h6⟩
    rw [whl]
    unfold R01_add.b0
    simp only [lt_dec_self, cond_false]
  | cons x m ih =>
   intro i k l3 h1 h3 h4 h5 h6
   cases k with
   | zero => omega
   | succ k =>
    obtain ⟨hx, hi, hd⟩ := drop_cons h1
    simp only [List.length_cons] at h3 h4
    rw [List.pairwise_cons] at h5
    rw [whl]
    by_cases he : x = n
    ·left
     refine ⟨by simp [he], ?_⟩
     unfold R01_add.b0
     simp only [lt_dec hi, at_of hx, cond_true, Option.bind_some, he, decide_true]
    ·by_cases hlt : n < x
     ·right
      have hnm : n ∉ x :: m := by
       intro hh
       rcases List.mem_cons.1 hh with rfl | hh
       ·exact he rfl
       ·have := h5.1 n hh; omega
      have : R01_add.b0 KK l0 n (false, (i : Int), l3) = some (.next (true, ((i + 1 : Nat) : Int), l3 ++ [n] ++ [x])) := by
       unfold R01_add.b0
       simp only [lt_dec hi, at_of hx, cond_true, Option.bind_some, he, hlt, decide_false, decide_true, cond_false, Bool.not_false]
       rw [push_of (by omega) (by omega)]
       simp only [Option.bind_some]
       rw [push_of (by simp; omega) (by simp; omega), w64_succ hi hn]
       rfl
      rw [this]
      simp only
      refine ⟨hnm, true, _, rest m (i + 1) k _ hd (by omega) (by omega) (fun y hy => by have := h5.1 y hy; omega) (by simp [h6]), ?_, by simp⟩
      unfold insU
      simp [he, hlt]
     ·have : R01_add.b0 KK l0 n (false, (i : Int), l3) = some (.next (false, ((i + 1 : Nat) : Int), l3 ++ [x])) := by
       unfold R01_add.b0
       simp only [lt_dec hi, at_of hx, cond_true, Option.bind_some, he, hlt, decide_false, cond_false, Bool.not_false]
       rw [push_of (by omega) (by omega), w64_succ hi hn]
       rfl
      rw [this]
      simp only
      have hins : insU n (x :: m) = x :: insU n m := by
       rw [insU]; simp [he, hlt]
      rcases ih (i + 1) k (l3 ++ [x]) hd (by omega) (by omega) h5.2 (by simp [h6]) with ⟨g1, g2⟩ | ⟨g1, b, l5, g2, g3, g4⟩
      ·exact .inl ⟨List.mem_cons_of_mem _ g1, g2⟩
      ·refine .inr ⟨?_, b, l5, g2, ?_, g4⟩
       ·intro hh
        rcases List.mem_cons.1 hh with rfl | hh
        ·exact he rfl
        ·exact g1 hh
       ·rw [g3, hins]; simp
 unfold R01_add
 have hk : l0.length < KK := by unfold KK; omega
 rcases main l0 0 KK [] rfl (by simp) hk hs rfl with ⟨g1, g2⟩ | ⟨g1, b, l5, g2, g3, g4⟩
 ·have g2' : whl (R01_add.b0 KK l0 n) KK (false, 0, []) = some (.ret l0) := g2
  rw [g2', insU_of_mem n l0 hs g1]; rfl
 ·have g2' : whl (R01_add.b0 KK l0 n) KK (false, 0, []) = some (.brk (b, l5)) := g2
  rw [g2']
  simp only [Option.bind_some]
  cases b with
  | true => simp only [Bool.not_true, cond_false]; simpa using g3
  | false =>
   have := g4 rfl
   simp only [Bool.not_false, cond_true]
   rw [push_of (by omega) (by omega)]
   simpa using g3
def usort (l : List Int) : List Int := l.foldl (fun s x => insU x s) []
theorem R01_Sorted_eq (l : List Int) (hl : l.length ≤ 8589934592) : R01_Sorted KK l = some (usort l) ∧ (usort l).Pairwise (· < ·) := by
 have h := whl_fold (l := l) (body := R01_Sorted.b0 KK l) (k := KK) (fun i s => (s, i)) (fun s x => insU x s) (fun i s => s.length ≤ i ∧ s.Pairwise (· < ·)) (s0 := []) (by omega) (by unfold KK; omega) ⟨by simp, by simp⟩ ?_ ?_
 ·refine ⟨?_, h.2.2⟩
  unfold R01_Sorted
  rw [h.1]; rfl
 ·intro i x s hx hI
  have hi : i < l.length := (List.getElem?_eq_some_iff.1 hx).1
  refine ⟨?_, by have := insU_len x s; omega, insU_sorted x s hI.2⟩
  unfold R01_Sorted.b0
  simp only [lt_dec hi, at_of hx, cond_true, Option.bind_some]
  rw [R01_add_eq s x hI.2 (by omega)]
  rfl
 ·intro s _
  unfold R01_Sorted.b0
  simp only [lt_dec_self]; rfl
theorem usort_mem (l : List Int) (x : Int) : x ∈ usort l ↔ x ∈ l := by
 have : ∀ (l s : List Int), x ∈ l.foldl (fun s x => insU x s) s ↔ x ∈ l ∨ x ∈ s := by
  intro l
  induction l with
  | nil => simp
  | cons y l ih => intro s; rw [List.foldl_cons, ih, insU_mem, List.mem_cons]; grind
 rw [usort, this]; simp
end Go.Abs
namespace Go.Abs
open Go
set_option linter.unusedVariables false
theorem at_part {α : Type} {l : List α} {a m j : Nat} {x : α} (h : l[j]? = some x) (h1 : a ≤ j) (h2 : j - a < m) : at? ((l.drop a).take m) ((j - a : Nat) : Int) = some x := by
 apply at_of
 rw [List.getElem?_take, if_pos h2, List.getElem?_drop, show a + (j - a) = j by omega]
 exact h
theorem set_of {α : Type} {l : List α} {i : Nat} {x : α} (h : i < l.length) : set? l (i : Int) x = some (l.set i x) := by
 unfold set?
 rw [if_pos ⟨by omega, by omega⟩]
 simp
theorem ls_of {n i : Nat} (h : i ≤ n) : ls? n (i : Int) = some () := by
 unfold ls?
 rw [if_pos ⟨by omega, by omega⟩]
theorem hs_of {n i : Nat} (h : i ≤ n) : hs? n (i : Int) = some () := by
 unfold hs?
 rw [if_pos ⟨by omega, by omega⟩]
theorem clr_take {α : Type} (l : List α) (i n : Nat) (z : α) (h : i ≤ l.length) : (clr l i n z).take i = l.take i := by
 unfold clr
 rw [List.take_append_of_le_length (by simp; omega), List.take_take, Nat.min_self]
theorem take_succ_of {α : Type} {l : List α} {i : Nat} {x : α} (h : l[i]? = some x) : l.take (i + 1) = l.take i ++ [x] := by
 rw [List.take_add_one, h]; rfl
theorem sorted_le {s : List Int} (hs : s.Pairwise (· ≤ ·)) {i j : Nat} {x y : Int} (hij : i ≤ j) (hx : s[i]? = some x) (hy : s[j]? = some y) : x ≤ y := by
 obtain ⟨h1, rfl⟩ := List.getElem?_eq_some_iff.1 hx
 obtain ⟨h2, rfl⟩ := List.getElem?_eq_some_iff.1 hy
 rcases Nat.lt_or_ge i j with h | h
 ·exact (List.pairwise_iff_getElem.1 hs) i j h1 h2 h
 ·have : i = j := by omega
  subst this; exact Int.le_refl _
theorem take_le {s : List Int} (hs : s.Pairwise (· ≤ ·)) {j : Nat} {x y : Int} (hx : x ∈ s.take j) (hy : s[j - 1]? = some y) : x ≤ y := by
 obtain ⟨i, hi, rfl⟩ := List.getElem_of_mem hx
 rw [List.getElem_take]
 simp only [List.length_take] at hi
 exact sorted_le hs (i := i) (j := j - 1) (by omega) (List.getElem?_eq_getElem (by omega)) hy
theorem compact_inner (s : List Int) (hs : s.Pairwise (· ≤ ·)) (hl : s.length ≤ 8589934592) (a : Nat) (ha : 1 ≤ a) (han : a < s.length) (hr : (s.take a).Pairwise (· < ·)) (he : s[a]? = s[a - 1]?) :
  ∃ (w : Nat) (l : List Int), whl (slices_Compact_int.b1 KK s a) KK ((a : Int), (1 : Int), s) = some (.brk ((w : Int), l)) ∧ w ≤ l.length ∧ (l.take w).Pairwise (· < ·) ∧ ∀ x, x ∈ l.take w ↔ x ∈ s := by
 have h := whl_ok (body := slices_Compact_int.b1 KK s a)
  (fun t => ∃ (w j : Nat) (l : List Int), t = ((w : Int), ((j - a : Nat) : Int), l) ∧ l.length = s.length ∧ a ≤ w ∧ w + 1 ≤ j ∧ j ≤ s.length ∧ (∀ m, j ≤ m + 1 → l[m]? = s[m]?) ∧ (l.take w).Pairwise (· < ·) ∧ ∀ x, x ∈ l.take w ↔ x ∈ s.take j)
  (fun r => ∃ (w : Nat) (l : List Int), r = .brk ((w : Int), l) ∧ w ≤ l.length ∧ (l.take w).Pairwise (· < ·) ∧ ∀ x, x ∈ l.take w ↔ x ∈ s)
  (fun t => s.length - (t.2.1.toNat + a)) ?_ KK ((a : Int), (1 : Int), s) ⟨a, a + 1, s, ?_, rfl, Nat.le_refl _, Nat.le_refl _, by omega, fun _ _ => rfl, hr, ?_⟩ (by unfold KK; omega)
 ·obtain ⟨r, h1, ⟨w, l, h2, h3⟩, _⟩ := h
  subst h2
  exact ⟨w, l, h1, h3⟩
 ·rintro t ⟨w, j, l, rfl, g1, g2, g3, g4, g5, g6, g7⟩
  by_cases hj : j = s.length
  ·right; left
   refine ⟨((w : Int), l), ?_, w, l, rfl, by omega, g6, ?_⟩
   ·unfold slices_Compact_int.b1
    have : decide (((j - a : Nat) : Int) < ((s.length - (a : Int).toNat : Nat) : Int)) = false := by subst hj; simp
    simp only [this, cond_false]
   ·intro x; rw [g7, hj, List.take_length]
  ·left
   obtain ⟨y, hy⟩ : ∃ y, s[j]? = some y := ⟨_, List.getElem?_eq_getElem (by omega)⟩
   obtain ⟨z, hz⟩ : ∃ z, s[j - 1]? = some z := ⟨_, List.getElem?_eq_getElem (by omega)⟩
   have d1 : decide (((j - a : Nat) : Int) < ((s.length - a : Nat) : Int)) = true := by simp; omega
   have d2 : w64 (((j - a : Nat) : Int) - 1) = ((j - 1 - a : Nat) : Int) := by rw [w64_of (by omega) (by omega)]; omega
   have d3 : w64 (((j - a : Nat) : Int) + 1) = ((j + 1 - a : Nat) : Int) := by rw [w64_of (by omega) (by omega)]; omega
   have e1 : at? ((l.drop a).take (s.length - a)) ((j - a : Nat) : Int) = some y := at_part (by rw [g5 j (by omega)]; exact hy) (by omega) (by omega)
   have e2 : at? ((l.drop a).take (s.length - a)) ((j - 1 - a : Nat) : Int) = some z := at_part (by rw [g5 (j - 1) (by omega)]; exact hz) (by omega) (by omega)
   have hw : w < l.length := by omega
   by_cases hyz : y = z
   ·refine ⟨((w : Int), ((j + 1 - a : Nat) : Int), l), ?_, ⟨w, j + 1, l, rfl, g1, g2, by omega, by omega, fun m hm => g5 m (by omega), g6, ?_⟩, ?_⟩
    ·unfold slices_Compact_int.b1
     simp only [d1, cond_true, Int.toNat_natCast, e1, d2, e2, Option.bind_some, hyz, decide_true, Bool.not_true, cond_false, d3]
    ·intro x
     rw [g7, take_succ_of hy, List.mem_append, List.mem_singleton]
     constructor
     ·exact .inl
     ·rintro (h | h)
      ·exact h
      ·rw [h, hyz]
       exact List.mem_of_getElem? (i := j - 1) (by rw [List.getElem?_take, if_pos (by omega)]; exact hz)
    ·simp only [Int.toNat_natCast]; omega
   ·have ew : at? l (w : Int) = some l[w] := at_of (List.getElem?_eq_getElem hw)
    have d4 : w64 ((w : Int) + 1) = ((w + 1 : Nat) : Int) := by rw [w64_of (by omega) (by omega)]; omega
    have tk : (l.set w y).take (w + 1) = l.take w ++ [y] := by
     rw [take_succ_of (x := y) (by rw [List.getElem?_set]; simp [hw])]
     rw [List.take_set_of_le (Nat.le_refl _)]
    refine ⟨(((w + 1 : Nat) : Int), ((j + 1 - a : Nat) : Int), l.set w y), ?_, ⟨w + 1, j + 1, l.set w y, rfl, by simp [g1], by omega, by omega, by omega, fun m hm => ?_, ?_, ?_⟩, ?_⟩
    ·unfold slices_Compact_int.b1
     simp only [d1, cond_true, Int.toNat_natCast, e1, d2, e2, Option.bind_some, hyz, decide_false, Bool.not_false, d3, ew, set_of hw, d4]
    ·rw [List.getElem?_set, if_neg (by omega)]; exact g5 m (by omega)
    ·rw [tk, List.pairwise_append]
     refine ⟨g6, by simp, fun x hx y' hy' => ?_⟩
     simp only [List.mem_singleton] at hy'
     subst hy'
     have h1 := take_le hs ((g7 x).1 hx) hz
     have h2 := sorted_le hs (i := j - 1) (j := j) (by omega) hz hy
     omega
    ·intro x
     rw [tk, take_succ_of hy, List.mem_append, List.mem_append, g7]
    ·simp only [Int.toNat_natCast]; omega
 ·have : a + 1 - a = 1 := by omega
  rw [this]; rfl
 ·intro x
  obtain ⟨y, hy⟩ : ∃ y, s[a]? = some y := ⟨_, List.getElem?_eq_getElem han⟩
  rw [take_succ_of hy, List.mem_append, List.mem_singleton]
  constructor
  ·exact .inl
  ·rintro (h | h)
   ·exact h
   ·rw [h]
    exact List.mem_of_getElem? (i := a - 1) (by rw [List.getElem?_take, if_pos (by omega), ← he]; exact hy)
theorem compact_eq (s : List Int) (hs : s.Pairwise (· ≤ ·)) (hl : s.length ≤ 8589934592) : ∃ r, slices_Compact_int KK s = some r ∧ r.Pairwise (· < ·) ∧ ∀ x, x ∈ r ↔ x ∈ s := by
 unfold slices_Compact_int
 by_cases h2 : ((s.length : Nat) : Int) < 2
 ·simp only [h2, decide_true, cond_true]
  refine ⟨s, rfl, ?_, fun _ => Iff.rfl⟩
  match s, h2 with
  | [], _ => exact List.Pairwise.nil
  | [x], _ => simp
  | x :: y :: l, h2 => simp at h2; omega
 ·simp only [h2, decide_false, cond_false]
  have h := whl_ok (body := slices_Compact_int.b0 KK s)
   (fun t => ∃ a : Nat, t = (a : Int) ∧ 1 ≤ a ∧ a ≤ s.length ∧ (s.take a).Pairwise (· < ·))
   (fun r => (r = .brk () ∧ s.Pairwise (· < ·)) ∨ ∃ l : List Int, r = .ret l ∧ l.Pairwise (· < ·) ∧ ∀ x, x ∈ l ↔ x ∈ s)
   (fun t => s.length - t.toNat) ?_ KK 1 ⟨1, rfl, Nat.le_refl _, by omega, ?_⟩ (by unfold KK; omega)
  ·obtain ⟨r, h1, h3 | ⟨l, h3, h4⟩, _⟩ := h
   ·rw [h1, h3.1]
    exact ⟨s, rfl, h3.2, fun _ => Iff.rfl⟩
   ·rw [h1, h3]
    exact ⟨l, rfl, h4⟩
  ·rintro t ⟨a, rfl, g1, g2, g3⟩
   by_cases ha : a = s.length
   ·right; left
    refine ⟨(), ?_, .inl ⟨rfl, ?_⟩⟩
    ·unfold slices_Compact_int.b0
     subst ha
     simp only [lt_dec_self, cond_false]
    ·rw [ha, List.take_length] at g3; exact g3
   ·obtain ⟨y, hy⟩ : ∃ y, s[a]? = some y := ⟨_, List.getElem?_eq_getElem (by omega)⟩
    obtain ⟨z, hz⟩ : ∃ z, s[a - 1]? = some z := ⟨_, List.getElem?_eq_getElem (by omega)⟩
    have d1 : decide ((a : Int) < ((s.length : Nat) : Int)) = true := lt_dec (by omega)
    have d2 : w64 ((a : Int) - 1) = ((a - 1 : Nat) : Int) := by rw [w64_of (by omega) (by omega)]; omega
    have d3 : w64 ((a : Int) + 1) = ((a + 1 : Nat) : Int) := by rw [w64_of (by omega) (by omega)]; omega
    by_cases hyz : y = z
    ·right; right
     obtain ⟨w, l, k1, k2, k3, k4⟩ := compact_inner s hs hl a g1 (by omega) g3 (by rw [hy, hz, hyz])
     refine ⟨l.take w, ?_, .inr ⟨_, rfl, k3, k4⟩⟩
     unfold slices_Compact_int.b0
     simp only [d1, cond_true, at_of hy, d2, at_of hz, Option.bind_some, hyz, decide_true, ls_of (show a ≤ s.length by omega), k1, ls_of k2, hs_of k2, Int.toNat_natCast, clr_take l w _ 0 k2]
    ·left
     refine ⟨((a + 1 : Nat) : Int), ?_, ⟨a + 1, rfl, by omega, by omega, ?_⟩, by simp only [Int.toNat_natCast]; omega⟩
     ·unfold slices_Compact_int.b0
      simp only [d1, cond_true, at_of hy, d2, at_of hz, Option.bind_some, hyz, decide_false, cond_false, d3]
     ·rw [take_succ_of hy, List.pairwise_append]
      refine ⟨g3, by simp, fun x hx y' hy' => ?_⟩
      simp only [List.mem_singleton] at hy'
      subst hy'
      have h1 := take_le hs hx hz
      have h2 := sorted_le hs (i := a - 1) (j := a) (by omega) hz hy
      omega
  ·match s, h2 with
   | [], h2 => simp at h2
   | x :: l, _ => simp
end Go.Abs
namespace Go.Abs
open Go
set_option linter.unusedVariables false
theorem heat_sources_eq (l : List Reading) (hl : l.length ≤ 8589934592) : heat_sources KK l = some (usort (l.map fun r => r.Source)) := by
 unfold heat_sources
 have h := (whl_fold (l := l) (body := heat_sources.b0 KK l) (k := KK) (fun i s => (i, s)) (fun s x => s ++ [x.Source]) (fun i s => s.length = i) (s0 := []) (by omega) (by unfold KK; omega) rfl ?_ ?_).1
 ·rw [h, foldl_map (fun r : Reading => r.Source)]
  simp only [List.nil_append, Option.bind_some]
  rw [room_of (by simp; omega) (by simp; omega)]
  simp only [Option.bind_some]
  obtain ⟨r, h1, h2, h3⟩ := compact_eq (srt (l.map fun r => r.Source)) (srt_sorted _) (by rw [srt_len]; simp; omega)
  rw [h1]
  have : r = usort (l.map fun r => r.Source) := rising_eq h2 (R01_Sorted_eq _ (by simp; omega)).2 fun x => by rw [h3, usort_mem]; exact (srt_perm _).mem_iff
  rw [this]; rfl
 ·intro i x s hx hI
  have hi : i < l.length := (List.getElem?_eq_some_iff.1 hx).1
  refine ⟨?_, by simp [hI]⟩
  unfold heat_sources.b0
  simp only [lt_dec hi, at_of hx, cond_true, Option.bind_some]
  rw [push_of (by omega) (by omega)]
  rfl
 ·intro s _
  unfold heat_sources.b0
  simp only [lt_dec_self]; rfl
end Go.Abs
namespace Go.Abs
open Go
set_option linter.unusedVariables false
theorem usort_len (l : List Int) : (usort l).length ≤ l.length := by
 have : ∀ (l s : List Int), (l.foldl (fun s x => insU x s) s).length ≤ l.length + s.length := by
  intro l
  induction l with
  | nil => simp
  | cons y l ih => intro s; rw [List.foldl_cons]; have := ih (insU y s); have := insU_len y s; simp only [List.length_cons]; omega
 have := this l []
 simpa [usort] using this
end Go.Abs
namespace Go.Abs
open Go
set_option linter.unusedVariables false
def R0 : Range := ⟨0, 0⟩
def Kiln.at (a : Kiln) (j p : Nat) : Range := (a.Falls.getD j []).getD p R0
def Kiln.P (a : Kiln) : Nat := (a.Falls.headD []).length
def lp (x : heat_limit) : Nat × Int := (x.place.toNat, x.heat)
def heat_furnace.fur (x : heat_furnace) : Fur := ⟨x.Firing.Kiln.Falls.length - 1, fun j p => (x.Firing.Kiln.at j p).Lo, fun j p => (x.Firing.Kiln.at j p).Hi, x.least.map lp, x.most.map lp⟩
def limOk (P : Nat) (x : heat_limit) : Prop := 0 ≤ x.place ∧ x.place < P ∧ -3000 ≤ x.heat ∧ x.heat ≤ 3000
structure heat_furnace.ok (x : heat_furnace) : Prop where
 k : kilnB x.Firing.Kiln = true
 ll : x.least.length ≤ 1000
 l : ∀ y ∈ x.least, limOk x.Firing.Kiln.P y
 ml : x.most.length ≤ 1000
 m : ∀ y ∈ x.most, limOk x.Firing.Kiln.P y
theorem kilnB_len {a : Kiln} (h : kilnB a = true) : 1 ≤ a.Falls.length ∧ a.Falls.length ≤ 6 ∧ 1 ≤ a.P ∧ a.P ≤ 24 := by
 simp only [kilnB, inB, Bool.and_eq_true, decide_eq_true_eq] at h
 have : a.P = (a.Falls.headD []).length := rfl
 omega
theorem kilnB_row {a : Kiln} (h : kilnB a = true) {j : Nat} (hj : j < a.Falls.length) : (a.Falls.getD j []).length = a.P := (kilnB_small h).2.2 _ (getD_mem [] hj)
theorem rangeB_iff {r : Range} : rangeB r 0 3000 = true ↔ 0 ≤ r.Lo ∧ r.Lo ≤ r.Hi ∧ r.Hi ≤ 3000 := by
 simp only [rangeB, Bool.and_eq_true, decide_eq_true_eq]
theorem kilnB_at {a : Kiln} (h : kilnB a = true) (j p : Nat) : 0 ≤ (a.at j p).Lo ∧ (a.at j p).Lo ≤ (a.at j p).Hi ∧ (a.at j p).Hi ≤ 3000 := by
 unfold Kiln.at
 by_cases hj : j < a.Falls.length
 ·by_cases hp : p < (a.Falls.getD j []).length
  ·have h1 := getD_mem R0 hp
   have h2 : rangeB ((a.Falls.getD j []).getD p R0) 0 3000 = true := by
    simp only [kilnB, Bool.and_eq_true, List.all_eq_true] at h
    exact (h.2.2 _ (getD_mem [] hj)).2 _ h1
   exact rangeB_iff.1 h2
  ·rw [getD_none (by omega)]
   decide
 ·rw [getD_none (l := a.Falls) (by omega)]
  simp [R0]
theorem at_row {a : Kiln} (h : kilnB a = true) {j : Nat} (hj : j < a.Falls.length) : at? a.Falls (j : Int) = some (a.Falls.getD j []) := at_nat [] hj
theorem at_cell {a : Kiln} (h : kilnB a = true) {j : Nat} (hj : j < a.Falls.length) {p : Int} (h0 : 0 ≤ p) (hp : p < a.P) : at? (a.Falls.getD j []) p = some (a.at j p.toNat) :=
 at_getD R0 h0 (by rw [kilnB_row h hj]; exact hp)
theorem at_cellN {a : Kiln} (h : kilnB a = true) {j : Nat} (hj : j < a.Falls.length) {p : Nat} (hp : p < a.P) : at? (a.Falls.getD j []) (p : Int) = some (a.at j p) :=
 at_nat R0 (by rw [kilnB_row h hj]; exact hp)
def bestStep (p : Int) (s : heat_limit × Bool) (y : heat_limit) : heat_limit × Bool := bif decide (y.place = p) then (bif s.2 then (bif decide (y.heat < s.1.heat) then (y, true) else s) else (y, true)) else s
def bestL (l : List heat_limit) (p : Int) : heat_limit × Bool := l.foldl (bestStep p) (⟨0, 0, 0⟩, false)
def reachB (x : heat_furnace) (p : Nat) (n : Int) : Bool := (List.range x.Firing.Kiln.Falls.length).any fun j => !decide (x.fur.U j < 0) && !decide (x.fur.U j - x.fur.lo j p < n)
def soundB (x : heat_furnace) : Bool := ((List.range x.Firing.Kiln.Falls.length).all fun j => !decide (x.fur.U j < 0)) &&
 x.least.all fun y => !((bestL x.most y.place).2 && decide ((bestL x.most y.place).1.heat < y.heat)) && reachB x y.place.toNat y.heat
end Go.Abs
namespace Go.Abs
open Go
set_option linter.unusedVariables false
def rd0 : Reading := ⟨0, 0, 0, 0, ⟨0, 0⟩⟩
def lo? (r : Reading) : Option Int := bif decide (r.Kind = (1 : Int)) then some r.Mark else bif decide (r.Kind = (3 : Int)) then some r.Heat.Lo else none
def hi? (r : Reading) : Option Int := bif decide (r.Kind = (2 : Int)) then some (w64 (r.Mark - 1)) else bif decide (r.Kind = (3 : Int)) then some r.Heat.Hi else none
def limOf (l : List Reading) (g : Reading → Option Int) (i : Nat) : Option heat_limit := (g (l.getD i rd0)).map fun n => ⟨(l.getD i rd0).Place, n, i⟩
def limsOf (l : List Reading) (g : Reading → Option Int) : List heat_limit := (List.range l.length).filterMap (limOf l g)
def nf (f : Firing) : heat_furnace := ⟨f, limsOf f.Readings lo?, limsOf f.Readings hi?⟩
theorem limsOf_mem {l : List Reading} {g : Reading → Option Int} {y : heat_limit} : y ∈ limsOf l g ↔ ∃ (i : Nat) (r : Reading), l[i]? = some r ∧ g r = some y.heat ∧ y.place = r.Place ∧ y.by_ = (i : Int) := by
 unfold limsOf
 rw [List.mem_filterMap]
 constructor
 ·rintro ⟨i, hi, h⟩
  simp only [List.mem_range] at hi
  have hx : l[i]? = some l[i] := List.getElem?_eq_getElem hi
  unfold limOf at h
  rw [getD_of rd0 hx] at h
  cases hg : g l[i] with
  | none => rw [hg] at h; cases h
  | some n => rw [hg] at h; cases h; exact ⟨i, l[i], hx, hg, rfl, rfl⟩
 ·rintro ⟨i, r, hx, h1, h2, h3⟩
  refine ⟨i, by simp only [List.mem_range]; exact (List.getElem?_eq_some_iff.1 hx).1, ?_⟩
  unfold limOf
  rw [getD_of rd0 hx, h1, Option.map_some, ← h2, ← h3]
theorem limsOf_len (l : List Reading) (g : Reading → Option Int) : (limsOf l g).length ≤ l.length := by
 have := List.length_filterMap_le (limOf l g) (List.range l.length)
 simpa [limsOf] using this
theorem limsOf_bounds {l : List Reading} {g : Reading → Option Int} {y : heat_limit} (h : y ∈ limsOf l g) : ∃ r ∈ l, g r = some y.heat ∧ y.place = r.Place := by
 obtain ⟨i, r, h1, h2, h3, _⟩ := limsOf_mem.1 h
 exact ⟨r, List.mem_of_getElem? h1, h2, h3⟩
theorem heat_least_eq (r : Reading) : heat_reading_least KK ⟨r⟩ = some ((lo? r).getD 0, (lo? r).isSome) := by
 unfold heat_reading_least lo?
 cases decide (r.Kind = (1 : Int)) <;> cases decide (r.Kind = (3 : Int)) <;> rfl
theorem heat_most_eq (r : Reading) : heat_reading_most KK ⟨r⟩ = some ((hi? r).getD 0, (hi? r).isSome) := by
 unfold heat_reading_most hi?
 cases decide (r.Kind = (2 : Int)) <;> cases decide (r.Kind = (3 : Int)) <;> rfl
def nfStep (l : List Reading) (s : List heat_limit × List heat_limit) (i : Nat) : List heat_limit × List heat_limit :=
 (s.1 ++ (limOf l lo? i).toList, s.2 ++ (limOf l hi? i).toList)
theorem nf_fold (l : List Reading) : ∀ (m : List Nat) (s : List heat_limit × List heat_limit), m.foldl (nfStep l) s = (s.1 ++ m.filterMap (limOf l lo?), s.2 ++ m.filterMap (limOf l hi?)) := by
 intro m
 induction m with
 | nil => intro s; simp
 | cons i m ih =>
  intro s
  rw [List.foldl_cons, ih, List.filterMap_cons, List.filterMap_cons]
  unfold nfStep
  cases limOf l lo? i <;> cases limOf l hi? i <;> simp
theorem heat_newFurnace_eq (f : Firing) (hl : f.Readings.length * 24 + 24 ≤ 140737488355328) : heat_newFurnace KK f = some (nf f) := by
 unfold heat_newFurnace
 have h1 := (whl_foldN (n := f.Readings.length) (body := heat_newFurnace.b0 KK f) (k := KK) (fun i (s : List heat_limit × List heat_limit) => (i, s.1, s.2)) (nfStep f.Readings) (fun i s => s.1.length ≤ i ∧ s.2.length ≤ i) (s0 := ([], [])) (by omega) (by unfold KK; omega) ⟨by simp, by simp⟩ ?_ ?_).1
 ·rw [h1, nf_fold]; rfl
 ·intro i s hi hI
  have hx : f.Readings[i]? = some f.Readings[i] := List.getElem?_eq_getElem hi
  have e1 : limOf f.Readings lo? i = (lo? f.Readings[i]).map fun n => ⟨f.Readings[i].Place, n, i⟩ := by unfold limOf; rw [getD_of rd0 hx]
  have e2 : limOf f.Readings hi? i = (hi? f.Readings[i]).map fun n => ⟨f.Readings[i].Place, n, i⟩ := by unfold limOf; rw [getD_of rd0 hx]
  obtain ⟨s1, s2⟩ := s
  simp only at hI
  refine ⟨?_, ?_⟩
  ·unfold heat_newFurnace.b0 nfStep
   rw [e1, e2]
   simp only [lt_dec hi, cond_true, at_of hx, Option.bind_some, heat_least_eq, heat_most_eq]
   cases h1 : lo? f.Readings[i] with
   | none =>
    cases h2 : hi? f.Readings[i] with
    | none => simp
    | some n2 =>
     simp only [Option.isSome_none, Option.isSome_some, cond_true, cond_false, Option.getD_some, Option.map_none, Option.map_some, Option.toList_none, Option.toList_some, List.append_nil]
     rw [push_of (by omega) (by omega)]; rfl
   | some n1 =>
    simp only [Option.isSome_some, cond_true, Option.getD_some]
    rw [push_of (by omega) (by omega)]
    cases h2 : hi? f.Readings[i] with
    | none => simp
    | some n2 =>
     simp only [Option.bind_some, Option.isSome_some, cond_true, Option.getD_some, Option.map_some, Option.toList_some]
     rw [push_of (by omega) (by omega)]; rfl
  ·unfold nfStep
   simp only [List.length_append]
   have : ∀ o : Option heat_limit, o.toList.length ≤ 1 := fun o => by cases o <;> simp
   have t1 := this (limOf f.Readings lo? i)
   have t2 := this (limOf f.Readings hi? i)
   exact ⟨by omega, by omega⟩
 ·intro s _
  unfold heat_newFurnace.b0
  simp only [lt_dec_self]; rfl
def rdOk (P : Nat) (r : Reading) : Prop := 0 ≤ r.Place ∧ r.Place < P ∧ (r.Kind = 1 ∨ r.Kind = 2 ∨ r.Kind = 3) ∧ (∀ n, lo? r = some n → -3000 ≤ n ∧ n ≤ 3000) ∧ ∀ n, hi? r = some n → -3000 ≤ n ∧ n ≤ 3000
structure Firing.ok (f : Firing) : Prop where
 k : kilnB f.Kiln = true
 l : f.Readings.length ≤ 100
 r : ∀ r ∈ f.Readings, rdOk f.Kiln.P r
theorem readB_ok {P : Nat} (hP : 1 ≤ P ∧ P ≤ 24) {r : Reading} (h : readB (P : Int) r = true) : rdOk P r := by
 unfold readB at h
 simp only [Bool.and_eq_true] at h
 obtain ⟨h1, h2, h3⟩ := h
 simp only [inB, Bool.and_eq_true, decide_eq_true_eq] at h2
 rw [w64_of (by omega) (by omega)] at h2
 refine ⟨by omega, by omega, ?_⟩
 unfold lo? hi?
 by_cases k1 : r.Kind = 1
 ·simp only [k1, decide_true, cond_true, Bool.and_eq_true, inB, decide_eq_true_eq] at h3
  refine ⟨.inl k1, fun n hn => ?_, fun n hn => ?_⟩
  ·simp only [k1, decide_true, cond_true, Option.some.injEq] at hn; omega
  ·simp [k1] at hn
 ·by_cases k2 : r.Kind = 2
  ·simp only [k2, decide_true, cond_true, cond_false, Bool.and_eq_true, inB, decide_eq_true_eq] at h3
   refine ⟨.inr (.inl k2), fun n hn => ?_, fun n hn => ?_⟩
   ·simp [k2] at hn
   ·simp only [k2, decide_true, cond_true, Option.some.injEq] at hn
    simp only [show decide ((2 : Int) = 1) = false by decide, cond_false, Bool.and_eq_true, decide_eq_true_eq] at h3
    rw [w64_of (by omega) (by omega)] at hn; omega
  ·by_cases k3 : r.Kind = 3
   ·simp only [k1, k2, k3, show decide ((3 : Int) = 1) = false by decide, show decide ((3 : Int) = 2) = false by decide, decide_true, cond_true, cond_false, Bool.and_eq_true, rangeB, decide_eq_true_eq] at h3
    refine ⟨.inr (.inr k3), fun n hn => ?_, fun n hn => ?_⟩
    ·simp only [k3, show decide ((3 : Int) = 1) = false by decide, decide_true, cond_true, cond_false, Option.some.injEq] at hn; omega
    ·simp only [k3, show decide ((3 : Int) = 2) = false by decide, decide_true, cond_true, cond_false, Option.some.injEq] at hn; omega
   ·simp [k1, k2, k3] at h3
theorem firing_ok {f : Firing} (h : firingCode f = 0) : f.ok := by
 obtain ⟨h1, h2, h3⟩ := firing_small h
 have hk := kilnB_len h1
 exact ⟨h1, by omega, fun r hr => readB_ok ⟨hk.2.2.1, hk.2.2.2⟩ (h3 r hr)⟩
theorem nf_ok {f : Firing} (h : f.ok) : (nf f).ok := by
 have h2 := h.l
 have a := limsOf_len f.Readings lo?
 have b := limsOf_len f.Readings hi?
 refine ⟨h.k, by show (limsOf f.Readings lo?).length ≤ 1000; omega, fun y hy => ?_, by show (limsOf f.Readings hi?).length ≤ 1000; omega, fun y hy => ?_⟩
 ·obtain ⟨r, hr, h3, h4⟩ := limsOf_bounds hy
  obtain ⟨g1, g2, g3, g4, g5⟩ := h.r r hr
  have := g4 _ h3
  refine ⟨by omega, ?_, this⟩
  rw [h4]; exact g2
 ·obtain ⟨r, hr, h3, h4⟩ := limsOf_bounds hy
  obtain ⟨g1, g2, g3, g4, g5⟩ := h.r r hr
  have := g5 _ h3
  refine ⟨by omega, ?_, this⟩
  rw [h4]; exact g2
theorem R04_Least_eq {P : Nat} {r : Reading} (h : rdOk P r) : R04_Least KK r = some ((lo? r).getD (-1000000), (hi? r).getD 1000000) := by
 unfold R04_Least lo? hi?
 rcases h.2.2.1 with e | e | e <;> rw [e] <;> rfl
end Go.Abs
namespace Go.Abs
open Go
set_option linter.unusedVariables false
end Go.Abs
namespace Go.Abs
open Go
set_option linter.unusedVariables false
theorem bound_same {f : Fur} {q : Nat} {r s : Range} (h1 : ∀ t, r.Lo ≤ t ↔ f.Low q t) (h2 : ∀ t, t ≤ r.Hi ↔ f.High q t) (h3 : ∀ t, s.Lo ≤ t ↔ f.Low q t) (h4 : ∀ t, t ≤ s.Hi ↔ f.High q t) : r = s := by
 have e1 : r.Lo = s.Lo := eq_of_ge_iff fun t => by rw [h1, h3]
 have e2 : r.Hi = s.Hi := eq_of_le_iff fun t => by rw [h2, h4]
 cases r; cases s; simp only at e1 e2; rw [e1, e2]
end Go.Abs
namespace Go.Abs
open Go
set_option linter.unusedVariables false
def Field.u (x : Field) (j : Nat) : Int := x.Mouths.getD j 0
def Field.d (x : Field) (j p : Nat) : Int := (x.Falls.getD j []).getD p 0
def Field.ht (x : Field) (m p : Nat) : Int := mx (fun j => x.u j - x.d j p) m
structure FieldOk (k : Kiln) (x : Field) : Prop where
 kv : kilnB k = true
 m : x.Mouths.length = k.Falls.length
 f : x.Falls.length = k.Falls.length
 row : ∀ j, j < k.Falls.length → (x.Falls.getD j []).length = k.P
 u : ∀ j, j < k.Falls.length → 0 ≤ x.u j ∧ x.u j ≤ 3000
 d : ∀ j p, j < k.Falls.length → (k.at j p).Lo ≤ x.d j p ∧ x.d j p ≤ (k.at j p).Hi
theorem FieldOk.bounds {k : Kiln} {x : Field} (h : FieldOk k x) {j : Nat} (p : Nat) (hj : j < k.Falls.length) : -3000 ≤ x.u j - x.d j p ∧ x.u j - x.d j p ≤ 3000 := by
 have h1 := h.u j hj
 have h2 := h.d j p hj
 have h3 := kilnB_at h.kv j p
 omega
theorem FieldOk.ht {k : Kiln} {x : Field} (h : FieldOk k x) (p : Nat) : -3000 ≤ x.ht (k.Falls.length - 1) p ∧ x.ht (k.Falls.length - 1) p ≤ 3000 := by
 have hk := kilnB_len h.kv
 unfold Field.ht
 rw [mx_le_iff, le_mx_iff]
 exact ⟨⟨0, Nat.zero_le _, (h.bounds p (by omega)).1⟩, fun j hj => (h.bounds p (by omega)).2⟩
end Go.Abs
namespace Go.Abs
open Go
set_option linter.unusedVariables false
def Firing.w (f : Firing) : Prop := f.Readings.length * 24 + 24 ≤ 140737488355328
theorem Firing.q.w {f : Firing} (q : Firing.q f) : Firing.w f := by
 have := q.2.2.1
 have := qB_le
 unfold Firing.w; omega
theorem firing_w {f : Firing} (h : f.ok) : Firing.w f := by have := h.l; unfold Firing.w; omega
def askCode (f : Firing) (p : Int) : Int := bif !decide (firingCode f = 0) then 42 else bif !inB p 0 ((f.Kiln.P : Int) - 1) then 43 else bif !soundB (nf f) then 44 else 0
theorem R04_asked_eq (f : Firing) (q : Firing.s f) (p : Int) : R04_asked KK f p = some (bif !decide (firingCode f = 0) then 42 else bif !inB p 0 ((f.Kiln.P : Int) - 1) then 43 else 0) := by
 unfold R04_asked
 rw [R04_Check_eq f q]
 simp only [Option.bind_some]
 by_cases h : firingCode f = 0
 ·have hok := firing_ok h
  have hk := kilnB_len hok.k
  obtain ⟨x3, g1, g2, g3⟩ := kilnB_head hok.k
  have hP : x3.length = f.Kiln.P := by unfold Kiln.P; rw [g3]
  simp only [h, decide_true, Bool.not_true, cond_false, g2, Option.bind_some, R01_In_eq, hP]
  rw [w64_of (n := (f.Kiln.P : Int) - 1) (by omega) (by omega)]
  cases inB p 0 ((f.Kiln.P : Int) - 1) <;> rfl
 ·simp only [h, decide_false, Bool.not_false, cond_true]
def boundR (f : Firing) (p : Int) (r : Range) : Range × Int := bif decide (askCode f p = 0) then (r, 0) else (⟨0, 0⟩, askCode f p)
def IsBound (f : Firing) (p : Int) (r : Range) : Prop := askCode f p = 0 → (∀ t, r.Lo ≤ t ↔ (nf f).fur.Low p.toNat t) ∧ ∀ t, t ≤ r.Hi ↔ (nf f).fur.High p.toNat t
theorem IsBound.one {f : Firing} {p : Int} {r s : Range} (h1 : IsBound f p r) (h2 : IsBound f p s) : boundR f p r = boundR f p s := by
 unfold boundR
 by_cases h : askCode f p = 0
 ·have a := h1 h
  have b := h2 h
  rw [bound_same a.1 a.2 b.1 b.2]
 ·simp only [h, decide_false, cond_false]
end Go.Abs
namespace Go.Abs
open Go
set_option linter.unusedVariables false
theorem kiln_P {k : Kiln} (h : kilnB k = true) : ∃ x3, at? k.Falls 0 = some x3 ∧ x3.length = k.P := by
 obtain ⟨x3, g1, g2, g3⟩ := kilnB_head h
 exact ⟨x3, g2, by unfold Kiln.P; rw [g3]⟩
theorem nf_len {f : Firing} (h : f.ok) : (nf f).least.length ≤ 100 ∧ (nf f).most.length ≤ 100 := by
 have h2 := h.l
 have a := limsOf_len f.Readings lo?
 have b := limsOf_len f.Readings hi?
 exact ⟨by show (limsOf f.Readings lo?).length ≤ 100; omega, by show (limsOf f.Readings hi?).length ≤ 100; omega⟩
def ringOf (w : Want) : Reading := ⟨1, w.Place, 3, 0, w.Heat⟩
def wf (f : Firing) (l : List Want) : Firing := ⟨f.Kiln, f.Readings ++ l.map ringOf⟩
end Go.Abs
namespace Go.Abs
open Go
set_option linter.unusedVariables false
end Go.Abs
namespace Go.Abs
open Go
set_option linter.unusedVariables false
theorem whl_foldM {S E R τ : Type} {n : Nat} {body : τ → Option (Stp τ E R)} (mk : Int → S → τ) (g : S → E) (f : S → Nat → Option S) (c : R) (Inv : Nat → S → Prop) (hn : n ≤ 9223372036854775807) {k : Nat} (hk : n < k) {s0 : S} (h0 : Inv 0 s0)
  (h1 : ∀ i s, i < n → Inv i s → body (mk (i : Int) s) = some (match f s i with | some s' => .next (mk (w64 ((i : Int) + 1)) s') | none => .ret c) ∧ ∀ s', f s i = some s' → Inv (i + 1) s') (h2 : ∀ s, Inv n s → body (mk (n : Int) s) = some (.brk (g s))) :
  whl body k (mk 0 s0) = some (match (List.range n).foldlM f s0 with | some s => .brk (g s) | none => .ret c) ∧ ∀ s, (List.range n).foldlM f s0 = some s → Inv n s := by
 have key : ∀ (d i k : Nat) (s : S), i + d = n → d < k → Inv i s → whl body k (mk (i : Int) s) = some (match (List.range' i d).foldlM f s with | some s => .brk (g s) | none => .ret c) ∧ ∀ s', (List.range' i d).foldlM f s = some s' → Inv n s' := by
  intro d
  induction d with
  | zero =>
   intro i k s hi hk hI
   cases k with
   | zero => omega
   | succ k =>
    have : i = n := by omega
    subst this
    refine ⟨?_, fun s' hs => ?_⟩
    ·rw [whl, h2 s hI]; rfl
    ·have : s = s' := Option.some.inj hs
     exact this ▸ hI
  | succ d ih =>
   intro i k s hi hk hI
   cases k with
   | zero => omega
   | succ k =>
    obtain ⟨g1, g2⟩ := h1 i s (by omega) hI
    rw [List.range'_succ, List.foldlM_cons, whl, g1]
    cases hf : f s i with
    | none => exact ⟨rfl, fun s' hs => by cases hs⟩
    | some s1 =>
     have : w64 ((i : Int) + 1) = ((i + 1 : Nat) : Int) := by rw [w64_of (by omega) (by omega)]; omega
     simp only [this]
     exact ih (i + 1) k s1 (by omega) (by omega) (g2 s1 hf)
 have := key n 0 k s0 (by omega) hk h0
 rw [List.range_eq_range']
 exact this
end Go.Abs
namespace Go.Abs
open Go
theorem whl_foldML {α S E R τ : Type} {l : List α} {body : τ → Option (Stp τ E R)} (mk : Int → S → τ) (g : S → E) (f : S → α → Option S) (c : R) (Inv : Nat → S → Prop) (hn : l.length ≤ 9223372036854775807) {k : Nat} (hk : l.length < k) {s0 : S} (h0 : Inv 0 s0)
  (h1 : ∀ (i : Nat) x s, l[i]? = some x → Inv i s → body (mk (i : Int) s) = some (match f s x with | some s' => .next (mk (w64 ((i : Int) + 1)) s') | none => .ret c) ∧ ∀ s', f s x = some s' → Inv (i + 1) s') (h2 : ∀ s, Inv l.length s → body (mk (l.length : Int) s) = some (.brk (g s))) :
  whl body k (mk 0 s0) = some (match l.foldlM f s0 with | some s => .brk (g s) | none => .ret c) ∧ ∀ s, l.foldlM f s0 = some s → Inv l.length s := by
 have key : ∀ (m : List α) (i k : Nat) (s : S), l.drop i = m → i + m.length = l.length → m.length < k → Inv i s → whl body k (mk (i : Int) s) = some (match m.foldlM f s with | some s => .brk (g s) | none => .ret c) ∧ ∀ s', m.foldlM f s = some s' → Inv l.length s' := by
  intro m
  induction m with
  | nil =>
   intro i k s _ h3 h4 hI
   cases k with
   | zero => omega
   | succ k =>
    have : i = l.length := by simpa using h3
    subst this
    refine ⟨by rw [whl, h2 s hI]; rfl, fun s' hs => ?_⟩
    have : s = s' := Option.some.inj hs
    exact this ▸ hI
  | cons x m ih =>
   intro i k s h5 h3 h4 hI
   cases k with
   | zero => omega
   | succ k =>
    simp only [List.length_cons] at h3 h4
    have hx : l[i]? = some x := by
     have := congrArg (fun q => q[0]?) h5
     simpa using this
    obtain ⟨h6, h7⟩ := h1 i x s hx hI
    rw [List.foldlM_cons, whl, h6]
    cases hf : f s x with
    | none => exact ⟨rfl, fun s' hs => by cases hs⟩
    | some s1 =>
     have : w64 ((i : Int) + 1) = ((i + 1 : Nat) : Int) := by rw [w64_of (by omega) (by omega)]; omega
     simp only [this]
     exact ih (i + 1) k s1 (by rw [← List.drop_drop, h5]; rfl) (by omega) (by omega) (h7 s1 hf)
 exact key l 0 k s0 rfl (by simp) hk h0
end Go.Abs
namespace Go.Abs
open Go
set_option linter.unusedVariables false
def hiAt (f : Firing) (i : Int) : Option heat_limit := if 0 ≤ i ∧ i < f.Readings.length then limOf f.Readings hi? i.toNat else none
def loAt (f : Firing) (i : Int) : Option heat_limit := if 0 ≤ i ∧ i < f.Readings.length then limOf f.Readings lo? i.toNat else none
theorem limOf_by {l : List Reading} {g : Reading → Option Int} {i : Nat} {y : heat_limit} (h : limOf l g i = some y) : y.by_ = (i : Int) ∧ y.place = (l.getD i rd0).Place ∧ g (l.getD i rd0) = some y.heat := by
 unfold limOf at h
 cases hg : g (l.getD i rd0) with
 | none => rw [hg] at h; cases h
 | some n => rw [hg] at h; cases h; exact ⟨rfl, rfl, rfl⟩
theorem find_lims (l : List Reading) (g : Reading → Option Int) (hl : l.length ≤ 9223372036854775807) (i : Int) :
  (match (limsOf l g).findIdx? (fun y => decide (y.by_ = i)) with | some k => at? (limsOf l g) (k : Int) | none => none) = if 0 ≤ i ∧ i < l.length then limOf l g i.toNat else none := by
 cases hf : (limsOf l g).findIdx? (fun y => decide (y.by_ = i)) with
 | none =>
  rw [List.findIdx?_eq_none_iff] at hf
  simp only
  split
  ·rename_i hi
   cases hy : limOf l g i.toNat with
   | none => rfl
   | some y =>
    exfalso
    have h1 := limOf_by hy
    have hm : y ∈ limsOf l g := List.mem_filterMap.2 ⟨i.toNat, by simp only [List.mem_range]; omega, hy⟩
    have := hf y hm
    simp only [decide_eq_false_iff_not] at this
    exact this (by rw [h1.1]; omega)
  ·rfl
 | some k =>
  rw [List.findIdx?_eq_some_iff_getElem] at hf
  obtain ⟨hk, h1, _⟩ := hf
  simp only [decide_eq_true_eq] at h1
  simp only
  rw [at_of (List.getElem?_eq_getElem hk)]
  have hm : (limsOf l g)[k] ∈ limsOf l g := List.getElem_mem hk
  obtain ⟨j, hj, hy⟩ := List.mem_filterMap.1 hm
  simp only [List.mem_range] at hj
  have h2 := limOf_by hy
  have hij : i = (j : Int) := by rw [← h1, h2.1]
  subst hij
  rw [if_pos (by omega), Int.toNat_natCast, hy]
theorem index_limit {l : List heat_limit} (hl : l.length ≤ 100000) {f : heat_limit → Option Bool} {p : heat_limit → Bool} (hf : ∀ x, f x = some (p x)) : slices_IndexFunc_heat_limit KK l f = some (match l.findIdx? p with | some i => (i : Int) | none => -1) := by
 unfold slices_IndexFunc_heat_limit
 rw [indexFunc_gen (body := slices_IndexFunc_heat_limit.b0 KK f l) (p := p) (fun x _ => hf x) (by omega) (by unfold KK; omega) rfl]
 cases l.findIdx? p <;> rfl
def lim0 : heat_limit := ⟨0, 0, 0⟩
theorem heat_told_eq {f : Firing} (h : f.ok) (i : Int) : heat_furnace_told KK (nf f) i = some ((hiAt f i).getD lim0, (hiAt f i).isSome) := by
 have hn := nf_len h
 have hl := h.l
 have := find_lims f.Readings hi? (by omega) i
 unfold heat_furnace_told
 rw [index_limit (f := fun q0 => heat_furnace_told_1 KK q0 i) (by omega) (p := fun y => decide (y.by_ = i)) (fun y => rfl)]
 unfold hiAt
 rw [← this]
 have e : (nf f).most = limsOf f.Readings hi? := rfl
 rw [e]
 cases hf : (limsOf f.Readings hi?).findIdx? (fun y => decide (y.by_ = i)) with
 | none => rfl
 | some k =>
  rw [List.findIdx?_eq_some_iff_getElem] at hf
  obtain ⟨hk, _⟩ := hf
  have : ¬ ((k : Int) < 0) := by omega
  simp only [Option.bind_some, this, decide_false, cond_false]
  rw [at_of (List.getElem?_eq_getElem hk)]
  rfl
theorem R04_index_eq (f : Firing) (i : Int) : R04_index KK f i = some (decide (0 ≤ i ∧ i < f.Readings.length)) := by
 unfold R04_index
 by_cases h : 0 ≤ i
 ·simp [h]
 ·simp [h]
theorem hiAt_ok {f : Firing} (h : f.ok) {i : Int} {y : heat_limit} (hy : hiAt f i = some y) : limOk f.Kiln.P y ∧ y ∈ (nf f).most ∧ y.by_ = i ∧ 0 ≤ i ∧ i < f.Readings.length := by
 unfold hiAt at hy
 split at hy
 ·rename_i hi
  have hm : y ∈ limsOf f.Readings hi? := List.mem_filterMap.2 ⟨i.toNat, by simp only [List.mem_range]; omega, hy⟩
  exact ⟨(nf_ok h).m y hm, hm, by rw [(limOf_by hy).1]; omega, hi⟩
 ·cases hy
theorem loAt_ok {f : Firing} (h : f.ok) {i : Int} {y : heat_limit} (hy : loAt f i = some y) : limOk f.Kiln.P y ∧ y ∈ (nf f).least ∧ y.by_ = i ∧ 0 ≤ i ∧ i < f.Readings.length := by
 unfold loAt at hy
 split at hy
 ·rename_i hi
  have hm : y ∈ limsOf f.Readings lo? := List.mem_filterMap.2 ⟨i.toNat, by simp only [List.mem_range]; omega, hy⟩
  exact ⟨(nf_ok h).l y hm, hm, by rw [(limOf_by hy).1]; omega, hi⟩
 ·cases hy
theorem R04_most_at {f : Firing} (h : f.ok) {i : Int} (hi : 0 ≤ i ∧ i < f.Readings.length) :
  ∃ r, at? f.Readings i = some r ∧ R04_Least KK r = some (((loAt f i).map (·.heat)).getD (-1000000), ((hiAt f i).map (·.heat)).getD 1000000) ∧ 0 ≤ r.Place ∧ r.Place < f.Kiln.P ∧ (∀ y, hiAt f i = some y → y.place = r.Place) ∧ (∀ y, loAt f i = some y → y.place = r.Place) ∧ rdOk f.Kiln.P r := by
 have hl : i.toNat < f.Readings.length := by omega
 have hx : f.Readings[i.toNat]? = some f.Readings[i.toNat] := List.getElem?_eq_getElem hl
 have hr := h.r _ (List.getElem_mem hl)
 have hii : ((i.toNat : Nat) : Int) = i := by omega
 have e1 := at_of hx
 rw [hii] at e1
 refine ⟨_, e1, ?_, hr.1, hr.2.1, fun y hy => ?_, fun y hy => ?_, hr⟩
 ·rw [R04_Least_eq hr]
  unfold hiAt loAt limOf
  rw [if_pos hi, if_pos hi, getD_of rd0 hx]
  cases lo? f.Readings[i.toNat] <;> cases hi? f.Readings[i.toNat] <;> rfl
 ·unfold hiAt at hy
  rw [if_pos hi] at hy
  have := (limOf_by hy).2.1
  rw [getD_of rd0 hx] at this; exact this
 ·unfold loAt at hy
  rw [if_pos hi] at hy
  have := (limOf_by hy).2.1
  rw [getD_of rd0 hx] at this; exact this
def uAt (f : Firing) (j : Nat) (b : Int) : Option Int := if b = -1 then some 3000 else (hiAt f b).map fun y => y.heat + (f.Kiln.at j y.place.toNat).Hi
def maxO (s : Option Int) (n : Int) : Int := match s with | none => n | some m => max m n
def highStep (f : Firing) (q : Nat) (l : List Int) (s : Option Int) (j : Nat) : Option (Option Int) := (uAt f j (l.getD j 0)).map fun u => some (maxO s (u - (f.Kiln.at j q).Lo))
def showHigh (f : Firing) (q : Nat) (p : HeatProof) : Option Int :=
 if p.Reading = -1 then (if p.By.length = f.Kiln.Falls.length then ((List.range f.Kiln.Falls.length).foldlM (highStep f q p.By) none).map (·.getD (-3000)) else none)
 else match hiAt f p.Reading with
  | some y => if y.place = (q : Int) ∧ p.By.length = 0 then some y.heat else none
  | none => none
theorem heat_showsHigh_eq {f : Firing} (h : f.ok) {q : Nat} (hq : q < f.Kiln.P) (p : HeatProof) : ∃ v, heat_furnace_showsHigh KK (nf f) (q : Int) p = some (v, (showHigh f q p).isSome) ∧ ∀ m, showHigh f q p = some m → v = m := by
 have hk := kilnB_len h.k
 unfold heat_furnace_showsHigh showHigh
 by_cases h1 : p.Reading = -1
 ·simp only [h1, decide_true, Bool.not_true, cond_false, if_true]
  by_cases h2 : p.By.length = f.Kiln.Falls.length
  ·have h2' : decide ((p.By.length : Int) = ((nf f).Firing.Kiln.Falls.length : Int)) = true := by rw [len_dec]; exact decide_eq_true h2
   simp only [h2', Bool.not_true, cond_false]
   rw [if_pos h2]
   obtain ⟨e1, e2⟩ := whl_foldM (n := f.Kiln.Falls.length) (body := heat_furnace_showsHigh.b0 KK (nf f) (q : Int) p) (k := KK) (fun i (s : Option Int) => (s.getD (-3000), i)) (fun s => s.getD (-3000)) (highStep f q p.By) ((0, false) : Int × Bool) (fun i s => (s = none ↔ i = 0)) (by omega) (by unfold KK; omega) (s0 := none) (by simp) (fun j s hj hI => by
    have hcell := kilnB_at h.k j q
    refine ⟨?_, fun s' hs => ?_⟩
    ·unfold heat_furnace_showsHigh.b0 highStep uAt
     have hfir : (nf f).Firing = f := rfl
     simp only [h2, lt_dec hj, cond_true, at_nat (0 : Int) (show j < p.By.length by omega), Option.bind_some, hfir, at_row h.k hj, at_cellN h.k hj hq, heat_told_eq h]
     have hstep : ∀ u : Int, -3000 ≤ u ∧ u ≤ 6000 → (bif !decide ((j : Int) = 0) then (bif decide (s.getD (-3000) < w64 (u - (f.Kiln.at j q).Lo)) then some (Stp.next (w64 (u - (f.Kiln.at j q).Lo), w64 ((j : Int) + 1))) else some (Stp.next (s.getD (-3000), w64 ((j : Int) + 1)))) else some (Stp.next (w64 (u - (f.Kiln.at j q).Lo), w64 ((j : Int) + 1)))) = (some (Stp.next ((some (maxO s (u - (f.Kiln.at j q).Lo))).getD (-3000), w64 ((j : Int) + 1))) : Option (Stp (Int × Int) Int (Int × Bool))) := by
      intro u hu
      rw [w64_of (n := u - (f.Kiln.at j q).Lo) (by omega) (by omega)]
      cases s with
      | none =>
       have : j = 0 := hI.1 rfl
       subst this
       rfl
      | some n =>
       have hj0 : ¬ ((j : Int) = 0) := by
        intro e
        have := hI.2 (by omega)
        cases this
       simp only [hj0, decide_false, Bool.not_false, cond_true, Option.getD_some, maxO]
       by_cases hc : n < u - (f.Kiln.at j q).Lo
       ·simp only [hc, decide_true, cond_true]; rw [Int.max_eq_right (by omega)]
       ·simp only [hc, decide_false, cond_false]; rw [Int.max_eq_left (by omega)]
     by_cases hb : p.By.getD j 0 = -1
     ·simp only [hb, decide_true, Bool.not_true, cond_false, if_true, Option.map_some]
      exact hstep 3000 (by omega)
     ·simp only [hb, decide_false, Bool.not_false, cond_true, if_false]
      cases hy : hiAt f (p.By.getD j 0) with
      | none => rfl
      | some y =>
       obtain ⟨⟨y1, y2, y3, y4⟩, _⟩ := hiAt_ok h hy
       have hc2 := kilnB_at h.k j y.place.toNat
       have hw := w64_of (n := y.heat + (f.Kiln.at j y.place.toNat).Hi) (by omega) (by omega)
       simp only [Option.isSome_some, Bool.not_true, cond_false, Option.getD_some, at_cell h.k hj y1 y2, Option.bind_some, Option.map_some, hw]
       exact hstep _ (by omega)
    ·unfold highStep at hs
     cases hu : uAt f j (p.By.getD j 0) with
     | none => rw [hu] at hs; cases hs
     | some u => rw [hu] at hs; cases hs; simp) (fun s _ => by
    unfold heat_furnace_showsHigh.b0
    simp only [h2, lt_dec_self]; rfl)
   rw [show ((-3000, 0) : Int × Int) = (((none : Option Int).getD (-3000), 0) : Int × Int) from rfl, e1]
   cases (List.range f.Kiln.Falls.length).foldlM (highStep f q p.By) none with
   | none => exact ⟨0, rfl, fun m hm => by cases hm⟩
   | some s => exact ⟨s.getD (-3000), rfl, fun m hm => by simpa using hm⟩
  ·have h2' : decide ((p.By.length : Int) = ((nf f).Firing.Kiln.Falls.length : Int)) = false := by rw [len_dec]; exact decide_eq_false h2
   simp only [h2', Bool.not_false, cond_true]
   rw [if_neg h2]
   exact ⟨0, rfl, fun m hm => by cases hm⟩
 ·simp only [h1, decide_false, Bool.not_false, cond_true, if_false, heat_told_eq h, Option.bind_some]
  cases hy : hiAt f p.Reading with
  | none => exact ⟨0, rfl, fun m hm => by cases hm⟩
  | some y =>
   simp only [Option.isSome_some, cond_true, Option.getD_some]
   by_cases hp : y.place = (q : Int)
   ·by_cases hb : p.By.length = 0
    ·refine ⟨y.heat, ?_, fun m hm => ?_⟩
     ·simp [hp, hb]
     ·simpa [hp, hb] using hm
    ·refine ⟨y.heat, ?_, fun m hm => ?_⟩
     ·have : ¬ ((p.By.length : Int) = 0) := by omega
      simp only [hp, hb, this, decide_true, decide_false, cond_true, and_false, if_false, Option.isSome_none]
     ·simp only [hp, hb, and_false, if_false] at hm; cases hm
   ·refine ⟨y.heat, ?_, fun m hm => ?_⟩
    ·simp only [hp, decide_false, cond_false, false_and, if_false, Option.isSome_none]
    ·simp only [hp, false_and, if_false] at hm; cases hm
theorem R04_shownHigh_eq {f : Firing} (h : f.ok) {q : Nat} (hq : q < f.Kiln.P) (p : HeatProof) : ∃ v, R04_shownHigh KK f (q : Int) p = some (v, (showHigh f q p).isSome) ∧ ∀ m, showHigh f q p = some m → v = m := by
 have hk := kilnB_len h.k
 unfold R04_shownHigh showHigh
 by_cases hb : p.By.length = 0
 ·have hb' : (p.By.length : Int) = 0 := by omega
  have hM : ¬ (p.By.length = f.Kiln.Falls.length) := by omega
  simp only [hb', decide_true, cond_true, R04_index_eq, Option.bind_some]
  by_cases hi : 0 ≤ p.Reading ∧ p.Reading < f.Readings.length
  ·have h1 : ¬ p.Reading = -1 := by omega
   obtain ⟨r, r1, r2, r3, r4, r5, r6, r7⟩ := R04_most_at h hi
   simp only [hi, and_self, decide_true, cond_true, r1, r2, Option.bind_some, h1, if_false]
   cases hy : hiAt f p.Reading with
   | none =>
    by_cases hp : r.Place = (q : Int)
    ·exact ⟨1000000, by simp [hp], fun m hm => by cases hm⟩
    ·exact ⟨0, by simp [hp], fun m hm => by cases hm⟩
   | some y =>
    have hpl := r5 y hy
    have hyb := (hiAt_ok h hy).1.2.2
    have hlt : y.heat < 1000000 := by omega
    by_cases hp : r.Place = (q : Int)
    ·refine ⟨y.heat, ?_, fun m hm => ?_⟩
     ·simp [hp, hpl, hb, hlt]
     ·simpa [hp, hpl, hb] using hm
    ·refine ⟨0, ?_, fun m hm => ?_⟩
     ·simp [hp, hpl]
     ·simp [hp, hpl] at hm
  ·have hn : hiAt f p.Reading = none := by unfold hiAt; rw [if_neg hi]
   refine ⟨0, ?_, fun m hm => ?_⟩
   ·simp only [hi, decide_false, cond_false]
    by_cases h1 : p.Reading = -1
    ·rw [if_pos h1, if_neg hM]; rfl
    ·rw [if_neg h1, hn]; rfl
   ·exfalso
    by_cases h1 : p.Reading = -1
    ·rw [if_pos h1, if_neg hM] at hm; cases hm
    ·rw [if_neg h1, hn] at hm; cases hm
 ·have hb' : ¬ ((p.By.length : Int) = 0) := by omega
  simp only [hb', decide_false, cond_false]
  by_cases h1 : p.Reading = -1
  ·simp only [h1, decide_true, cond_true, if_true]
   by_cases h2 : p.By.length = f.Kiln.Falls.length
   ·have h2' : decide ((p.By.length : Int) = (f.Kiln.Falls.length : Int)) = true := by rw [len_dec]; exact decide_eq_true h2
    simp only [h2', Bool.not_true, cond_false]
    rw [if_pos h2]
    obtain ⟨e1, e2⟩ := whl_foldM (n := f.Kiln.Falls.length) (body := R04_shownHigh.b0 KK f (q : Int) p) (k := KK) (fun i (s : Option Int) => (s.getD (-1000000), i)) (fun s => s.getD (-1000000)) (highStep f q p.By) ((0, false) : Int × Bool) (fun i s => (s = none ↔ i = 0)) (by omega) (by unfold KK; omega) (s0 := none) (by simp) (fun j s hj hI => by
     have hcell := kilnB_at h.k j q
     refine ⟨?_, fun s' hs => ?_⟩
     ·unfold R04_shownHigh.b0 highStep uAt
      simp only [lt_dec hj, cond_true, at_nat (0 : Int) (show j < p.By.length by omega), Option.bind_some, at_row h.k hj, at_cellN h.k hj hq, R04_index_eq]
      have hstep : ∀ u : Int, -3000 ≤ u ∧ u ≤ 6000 → (some (Stp.next (max (s.getD (-1000000)) (w64 (u - (f.Kiln.at j q).Lo)), w64 ((j : Int) + 1))) : Option (Stp (Int × Int) Int (Int × Bool))) = some (Stp.next ((some (maxO s (u - (f.Kiln.at j q).Lo))).getD (-1000000), w64 ((j : Int) + 1))) := by
       intro u hu
       rw [w64_of (n := u - (f.Kiln.at j q).Lo) (by omega) (by omega)]
       cases s with
       | none => simp only [Option.getD_none, Option.getD_some, maxO]; rw [Int.max_eq_right (by omega)]
       | some n => rfl
      by_cases hb : p.By.getD j 0 = -1
      ·simp only [hb, decide_true, Bool.not_true, cond_false, if_true, Option.map_some]
       exact hstep 3000 (by omega)
      ·simp only [hb, decide_false, Bool.not_false, cond_true, if_false]
       by_cases hi : 0 ≤ p.By.getD j 0 ∧ p.By.getD j 0 < f.Readings.length
       ·obtain ⟨r, r1, r2, r3, r4, r5, r6, r7⟩ := R04_most_at h hi
        simp only [hi, and_self, decide_true, Bool.not_true, cond_false, r1, r2, Option.bind_some]
        cases hy : hiAt f (p.By.getD j 0) with
        | none => rfl
        | some y =>
         obtain ⟨⟨y1, y2, y3, y4⟩, _⟩ := hiAt_ok h hy
         have hpl := r5 y hy
         have hc2 := kilnB_at h.k j y.place.toNat
         have hne : ¬ y.heat = 1000000 := by omega
         have hw := w64_of (n := y.heat + (f.Kiln.at j y.place.toNat).Hi) (by omega) (by omega)
         simp only [Option.map_some, Option.getD_some, hne, decide_false, cond_false, ← hpl, at_cell h.k hj y1 y2, Option.bind_some, hw]
         exact hstep _ (by omega)
       ·have hn : hiAt f (p.By.getD j 0) = none := by unfold hiAt; rw [if_neg hi]
        rw [hn]
        simp only [hi, decide_false, Bool.not_false, cond_true]; rfl
     ·unfold highStep at hs
      cases hu : uAt f j (p.By.getD j 0) with
      | none => rw [hu] at hs; cases hs
      | some u => rw [hu] at hs; cases hs; simp) (fun s _ => by
     unfold R04_shownHigh.b0
     simp only [lt_dec_self]; rfl)
    rw [show ((-1000000, 0) : Int × Int) = (((none : Option Int).getD (-1000000), 0) : Int × Int) from rfl, e1]
    cases hF : (List.range f.Kiln.Falls.length).foldlM (highStep f q p.By) none with
    | none => exact ⟨0, rfl, fun m hm => by cases hm⟩
    | some s =>
     have hI := e2 s hF
     cases s with
     | none => have := hI.1 rfl; omega
     | some n => exact ⟨n, rfl, fun m hm => by simpa using hm⟩
   ·have h2' : decide ((p.By.length : Int) = (f.Kiln.Falls.length : Int)) = false := by rw [len_dec]; exact decide_eq_false h2
    simp only [h2', Bool.not_false, cond_true]
    rw [if_neg h2]
    exact ⟨0, rfl, fun m hm => by cases hm⟩
  ·simp only [h1, decide_false, cond_false, if_false]
   refine ⟨0, ?_, fun m hm => ?_⟩
   ·cases hiAt f p.Reading with
    | none => rfl
    | some y => simp only [hb, and_false, if_false, Option.isSome_none]
   ·exfalso
    cases hy : hiAt f p.Reading with
    | none => rw [hy] at hm; cases hm
    | some y => rw [hy] at hm; simp only [hb, and_false, if_false] at hm; cases hm
def minO (s : Option Int) (n : Int) : Int := match s with | none => n | some m => min m n
def lowStep (f : Firing) (q : Nat) (y : heat_limit) (l : List Int) (s : Option Int) (j : Nat) : Option (Option Int) :=
 if l.getD j 0 = -1 then some (some (minO s (y.heat + (f.Kiln.at j y.place.toNat).Lo - (f.Kiln.at j q).Hi)))
 else if l.getD j 0 = -2 then (if y.heat + (f.Kiln.at j y.place.toNat).Lo ≤ 3000 then none else some s)
 else match hiAt f (l.getD j 0) with
  | some z => if y.heat + (f.Kiln.at j y.place.toNat).Lo ≤ z.heat + (f.Kiln.at j z.place.toNat).Hi then none else some s
  | none => none
def showLow (f : Firing) (q : Nat) (p : HeatProof) : Option (Option Int) :=
 if p.Reading = -2 then (if p.By.length = 1 ∧ 0 ≤ p.By.getD 0 0 ∧ p.By.getD 0 0 < f.Kiln.Falls.length then some (some (-(f.Kiln.at (p.By.getD 0 0).toNat q).Hi)) else none)
 else match loAt f p.Reading with
  | some y => if y.place = (q : Int) then (if p.By.length = 0 then some (some y.heat) else none)
   else if p.By.length = f.Kiln.Falls.length then (List.range f.Kiln.Falls.length).foldlM (lowStep f q y p.By) none else none
  | none => none
theorem heat_showsLow_eq {f : Firing} (h : f.ok) {q : Nat} (hq : q < f.Kiln.P) (p : HeatProof) : ∃ v e, heat_furnace_showsLow KK (nf f) (q : Int) p = some (v, e, (showLow f q p).isSome) ∧ ∀ m, showLow f q p = some m → e = m.isNone ∧ ∀ n, m = some n → v = n := by
 have hk := kilnB_len h.k
 have hfir : (nf f).Firing = f := rfl
 unfold heat_furnace_showsLow showLow
 by_cases h1 : p.Reading = -2
 ·simp only [h1, decide_true, cond_true, if_true]
  by_cases h2 : p.By.length = 1
  ·have h2' : (p.By.length : Int) = 1 := by omega
   have e0 : at? p.By (0 : Int) = some (p.By.getD 0 0) := at_nat 0 (l := p.By) (i := 0) (by omega)
   simp only [h2', decide_true, cond_true, e0, Option.bind_some, heat_in_eq, hfir]
   rw [w64_of (n := (f.Kiln.Falls.length : Int) - 1) (by omega) (by omega)]
   by_cases h3 : 0 ≤ p.By.getD 0 0 ∧ p.By.getD 0 0 < f.Kiln.Falls.length
   ·have hi : inB (p.By.getD 0 0) 0 ((f.Kiln.Falls.length : Int) - 1) = true := by simp only [inB, Bool.and_eq_true, decide_eq_true_eq]; omega
    have hjl : (p.By.getD 0 0).toNat < f.Kiln.Falls.length := by omega
    have hjj : (((p.By.getD 0 0).toNat : Nat) : Int) = p.By.getD 0 0 := by omega
    have e1 := at_row h.k hjl
    rw [hjj] at e1
    have hc := kilnB_at h.k (p.By.getD 0 0).toNat q
    rw [if_pos ⟨h2, h3⟩]
    simp only [hi, Bool.not_true, cond_false, e1, Option.bind_some, at_cellN h.k hjl hq]
    rw [w64_of (n := 0 - (f.Kiln.at (p.By.getD 0 0).toNat q).Hi) (by omega) (by omega)]
    refine ⟨_, _, rfl, fun m hm => ?_⟩
    simp only [Option.some.injEq] at hm
    subst hm
    exact ⟨rfl, fun n hn => by simp only [Option.some.injEq] at hn; omega⟩
   ·have hi : inB (p.By.getD 0 0) 0 ((f.Kiln.Falls.length : Int) - 1) = false := by
     simp only [inB, Bool.and_eq_false_iff, decide_eq_false_iff_not]; omega
    rw [if_neg (fun k => h3 k.2)]
    simp only [hi, Bool.not_false, cond_true]
    exact ⟨_, _, rfl, fun m hm => by cases hm⟩
  ·have h2' : ¬ ((p.By.length : Int) = 1) := by omega
   rw [if_neg (fun k => h2 k.1)]
   simp only [h2', decide_false, cond_false]
   exact ⟨_, _, rfl, fun m hm => by cases hm⟩
 ·simp only [h1, decide_false, cond_false, if_false]
  have hn := nf_len h
  have hl := h.l
  have hfind := find_lims f.Readings lo? (by omega) p.Reading
  rw [index_limit (f := fun q0 => heat_furnace_showsLow_1 KK q0 p) (by omega) (p := fun y => decide (y.by_ = p.Reading)) (fun y => rfl)]
  have e : (nf f).least = limsOf f.Readings lo? := rfl
  have hlo : loAt f p.Reading = if 0 ≤ p.Reading ∧ p.Reading < f.Readings.length then limOf f.Readings lo? p.Reading.toNat else none := rfl
  rw [← hfind] at hlo
  rw [e]
  cases hf : (limsOf f.Readings lo?).findIdx? (fun y => decide (y.by_ = p.Reading)) with
  | none =>
   rw [hf] at hlo
   rw [hlo]
   exact ⟨_, _, rfl, fun m hm => by cases hm⟩
  | some k =>
   rw [hf] at hlo
   rw [List.findIdx?_eq_some_iff_getElem] at hf
   obtain ⟨hk2, _⟩ := hf
   have : ¬ ((k : Int) < 0) := by omega
   have hak := at_of (List.getElem?_eq_getElem hk2)
   simp only [Option.bind_some, this, decide_false, cond_false]
   simp only [hak] at hlo ⊢
   generalize (limsOf f.Readings lo?)[k] = y at hlo hak
   obtain ⟨⟨y1, y2, y3, y4⟩, _⟩ := loAt_ok h hlo
   rw [hlo]
   simp only [Option.bind_some]
   by_cases hp : y.place = (q : Int)
   ·simp only [hp, decide_true, cond_true, if_true]
    by_cases hb : p.By.length = 0
    ·refine ⟨y.heat, false, by simp [hb], fun m hm => ?_⟩
     rw [if_pos hb] at hm
     simp only [Option.some.injEq] at hm
     subst hm
     exact ⟨rfl, fun n hn => by simpa using hn⟩
    ·have hb' : ¬ ((p.By.length : Int) = 0) := by omega
     refine ⟨y.heat, false, by simp only [hb, hb', decide_false, if_false, Option.isSome_none], fun m hm => ?_⟩
     rw [if_neg hb] at hm; cases hm
   ·simp only [hp, decide_false, cond_false, if_false]
    by_cases h2 : p.By.length = f.Kiln.Falls.length
    ·have h2' : decide ((p.By.length : Int) = ((nf f).Firing.Kiln.Falls.length : Int)) = true := by rw [len_dec]; exact decide_eq_true h2
     simp only [h2', Bool.not_true, cond_false]
     rw [if_pos h2]
     obtain ⟨e1, e2⟩ := whl_foldM (n := f.Kiln.Falls.length) (body := heat_furnace_showsLow.b0 KK (nf f) (q : Int) p y) (k := KK) (fun i (s : Option Int) => (s.getD 0, s.isNone, i)) (fun s => (s.getD 0, s.isNone)) (lowStep f q y p.By) ((0, false, false) : Int × Bool × Bool) (fun i s => True) (by omega) (by unfold KK; omega) (s0 := none) trivial (fun j s hj hI => by
      have hcell := kilnB_at h.k j q
      have hcell2 := kilnB_at h.k j y.place.toNat
      refine ⟨?_, fun s' hs => trivial⟩
      unfold heat_furnace_showsLow.b0 lowStep
      simp only [h2, lt_dec hj, cond_true, at_nat (0 : Int) (show j < p.By.length by omega), Option.bind_some, hfir, at_row h.k hj, at_cellN h.k hj hq, at_cell h.k hj y1 y2, heat_told_eq h]
      rw [w64_of (n := y.heat + (f.Kiln.at j y.place.toNat).Lo) (by omega) (by omega)]
      by_cases hb : p.By.getD j 0 = -1
      ·simp only [hb, decide_true, cond_true, if_true]
       rw [w64_of (n := y.heat + (f.Kiln.at j y.place.toNat).Lo - (f.Kiln.at j q).Hi) (by omega) (by omega)]
       cases s with
       | none => rfl
       | some n =>
        simp only [Option.isNone_some, Bool.not_false, cond_true, Option.getD_some, minO]
        by_cases hc : y.heat + (f.Kiln.at j y.place.toNat).Lo - (f.Kiln.at j q).Hi < n
        ·simp only [hc, decide_true, cond_true]; rw [Int.min_eq_right (by omega)]
        ·simp only [hc, decide_false, cond_false]; rw [Int.min_eq_left (by omega)]
      ·simp only [hb, decide_false, cond_false, if_false]
       by_cases hb2 : p.By.getD j 0 = -2
       ·simp only [hb2, decide_true, cond_true, if_true]
        by_cases hc : y.heat + (f.Kiln.at j y.place.toNat).Lo ≤ 3000
        ·simp only [hc, decide_true, cond_true, if_true]
        ·simp only [hc, decide_false, cond_false, if_false]
       ·simp only [hb2, decide_false, cond_false, if_false]
        cases hy : hiAt f (p.By.getD j 0) with
        | none => rfl
        | some z =>
         obtain ⟨⟨z1, z2, z3, z4⟩, _⟩ := hiAt_ok h hy
         have hc2 := kilnB_at h.k j z.place.toNat
         have hw := w64_of (n := z.heat + (f.Kiln.at j z.place.toNat).Hi) (by omega) (by omega)
         simp only [Option.isSome_some, cond_true, Option.getD_some, at_cell h.k hj z1 z2, Option.bind_some, hw]
         by_cases hc : y.heat + (f.Kiln.at j y.place.toNat).Lo ≤ z.heat + (f.Kiln.at j z.place.toNat).Hi
         ·simp only [hc, decide_true, cond_true, if_true]
         ·simp only [hc, decide_false, cond_false, if_false]) (fun s _ => by
      unfold heat_furnace_showsLow.b0
      simp only [h2, lt_dec_self]; rfl)
     rw [show ((0, true, 0) : Int × Bool × Int) = (((none : Option Int).getD 0, (none : Option Int).isNone, 0) : Int × Bool × Int) from rfl, e1]
     cases (List.range f.Kiln.Falls.length).foldlM (lowStep f q y p.By) none with
     | none => exact ⟨0, false, rfl, fun m hm => by cases hm⟩
     | some s =>
      refine ⟨s.getD 0, s.isNone, rfl, fun m hm => ?_⟩
      simp only [Option.some.injEq] at hm
      subst hm
      exact ⟨rfl, fun n hn => by rw [hn]; rfl⟩
    ·have h2' : decide ((p.By.length : Int) = ((nf f).Firing.Kiln.Falls.length : Int)) = false := by rw [len_dec]; exact decide_eq_false h2
     simp only [h2', Bool.not_false, cond_true]
     rw [if_neg h2]
     exact ⟨_, _, rfl, fun m hm => by cases hm⟩
theorem R04_cannot_eq {f : Firing} (h : f.ok) {j : Nat} (hj : j < f.Kiln.Falls.length) (c b : Int) (hb1 : ¬ b = -1) :
  R04_cannot KK f (j : Int) c b = some (if b = -2 then decide (3000 < c) else match hiAt f b with | some z => decide (z.heat + (f.Kiln.at j z.place.toNat).Hi < c) | none => false) := by
 unfold R04_cannot
 by_cases hb2 : b = -2
 ·simp only [hb2, decide_true, cond_true, if_true]
 ·simp only [hb2, decide_false, cond_false, if_false, R04_index_eq, Option.bind_some]
  by_cases hi : 0 ≤ b ∧ b < f.Readings.length
  ·obtain ⟨r, r1, r2, r3, r4, r5, r6, r7⟩ := R04_most_at h hi
   simp only [hi, and_self, decide_true, Bool.not_true, cond_false, r1, r2, Option.bind_some]
   cases hy : hiAt f b with
   | none => rfl
   | some z =>
    obtain ⟨⟨z1, z2, z3, z4⟩, _⟩ := hiAt_ok h hy
    have hpl := r5 z hy
    have hc2 := kilnB_at h.k j z.place.toNat
    have hlt : z.heat < 1000000 := by omega
    have hw := w64_of (n := z.heat + (f.Kiln.at j z.place.toNat).Hi) (by omega) (by omega)
    simp only [Option.map_some, Option.getD_some, hlt, decide_true, cond_true, ← hpl, at_row h.k hj, at_cell h.k hj z1 z2, Option.bind_some, hw]
  ·have hn : hiAt f b = none := by unfold hiAt; rw [if_neg hi]
   rw [hn]
   simp only [hi, decide_false, Bool.not_false, cond_true]
theorem R04_shownLow_eq {f : Firing} (h : f.ok) {q : Nat} (hq : q < f.Kiln.P) (p : HeatProof) : ∃ v, R04_shownLow KK f (q : Int) p = some (v, (showLow f q p).isSome) ∧ ∀ m, showLow f q p = some m → v = m.getD 9223372036854775807 := by
 have hk := kilnB_len h.k
 unfold R04_shownLow showLow
 by_cases h1 : p.Reading = -2
 ·simp only [h1, decide_true, cond_true, if_true]
  by_cases h2 : p.By.length = 1
  ·have h2' : (p.By.length : Int) = 1 := by omega
   have e0 : at? p.By (0 : Int) = some (p.By.getD 0 0) := at_nat 0 (l := p.By) (i := 0) (by omega)
   simp only [h2', decide_true, cond_true, e0, Option.bind_some]
   by_cases h3 : p.By.getD 0 0 < 0
   ·rw [if_neg (fun k => by omega)]
    simp only [h3, decide_true, Bool.not_true, cond_false]
    exact ⟨_, rfl, fun m hm => by cases hm⟩
   ·simp only [h3, decide_false, Bool.not_false, cond_true]
    by_cases h4 : (f.Kiln.Falls.length : Int) ≤ p.By.getD 0 0
    ·rw [if_neg (fun k => by omega)]
     simp only [h4, decide_true, cond_true]
     exact ⟨_, rfl, fun m hm => by cases hm⟩
    ·have hjl : (p.By.getD 0 0).toNat < f.Kiln.Falls.length := by omega
     have hjj : (((p.By.getD 0 0).toNat : Nat) : Int) = p.By.getD 0 0 := by omega
     have e1 := at_row h.k hjl
     rw [hjj] at e1
     have hc := kilnB_at h.k (p.By.getD 0 0).toNat q
     rw [if_pos ⟨h2, by omega, by omega⟩]
     simp only [h4, decide_false, cond_false, e1, Option.bind_some, at_cellN h.k hjl hq]
     rw [w64_of (n := 0 - (f.Kiln.at (p.By.getD 0 0).toNat q).Hi) (by omega) (by omega)]
     refine ⟨_, rfl, fun m hm => ?_⟩
     simp only [Option.some.injEq] at hm
     subst hm
     simp
  ·have h2' : ¬ ((p.By.length : Int) = 1) := by omega
   rw [if_neg (fun k => h2 k.1)]
   simp only [h2', decide_false, cond_false]
   exact ⟨_, rfl, fun m hm => by cases hm⟩
 ·simp only [h1, decide_false, cond_false, if_false, R04_index_eq, Option.bind_some]
  by_cases hi : 0 ≤ p.Reading ∧ p.Reading < f.Readings.length
  ·obtain ⟨r, r1, r2, r3, r4, r5, r6, r7⟩ := R04_most_at h hi
   simp only [hi, and_self, decide_true, Bool.not_true, cond_false, r1, r2, Option.bind_some]
   cases hy : loAt f p.Reading with
   | none => exact ⟨_, rfl, fun m hm => by cases hm⟩
   | some y =>
    obtain ⟨⟨y1, y2, y3, y4⟩, _⟩ := loAt_ok h hy
    have hpl := r6 y hy
    have hne : ¬ y.heat = -1000000 := by omega
    simp only [Option.map_some, Option.getD_some, hne, decide_false, cond_false, ← hpl]
    by_cases hb : p.By.length = 0
    ·have hb' : (p.By.length : Int) = 0 := by omega
     have hM : ¬ (p.By.length = f.Kiln.Falls.length) := by omega
     simp only [hb', decide_true, cond_true]
     by_cases hp : y.place = (q : Int)
     ·refine ⟨y.heat, by simp [hp, hb], fun m hm => ?_⟩
      rw [if_pos hp, if_pos hb] at hm
      simp only [Option.some.injEq] at hm
      subst hm; rfl
     ·refine ⟨y.heat, by rw [if_neg hp, if_neg hM, decide_eq_false hp]; rfl, fun m hm => ?_⟩
      rw [if_neg hp, if_neg hM] at hm; cases hm
    ·have hb' : ¬ ((p.By.length : Int) = 0) := by omega
     simp only [hb', decide_false, cond_false]
     by_cases hp : y.place = (q : Int)
     ·rw [if_pos hp, if_neg hb]
      simp only [hp, decide_true, Bool.not_true, cond_false]
      exact ⟨_, rfl, fun m hm => by cases hm⟩
     ·rw [if_neg hp]
      simp only [hp, decide_false, Bool.not_false, cond_true]
      by_cases h2 : p.By.length = f.Kiln.Falls.length
      ·have h2' : decide ((p.By.length : Int) = (f.Kiln.Falls.length : Int)) = true := by rw [len_dec]; exact decide_eq_true h2
       simp only [h2', Bool.not_true, cond_false]
       rw [if_pos h2]
       obtain ⟨e1, e2⟩ := whl_foldM (n := f.Kiln.Falls.length) (body := R04_shownLow.b0 KK f (q : Int) p r (y.heat, ((hiAt f p.Reading).map (·.heat)).getD 1000000)) (k := KK) (fun i (s : Option Int) => (s.getD 9223372036854775807, i)) (fun s => s.getD 9223372036854775807) (lowStep f q y p.By) ((0, false) : Int × Bool) (fun i s => True) (by omega) (by unfold KK; omega) (s0 := none) trivial (fun j s hj hI => by
        have hcell := kilnB_at h.k j q
        have hcell2 := kilnB_at h.k j y.place.toNat
        refine ⟨?_, fun s' hs => trivial⟩
        unfold R04_shownLow.b0 lowStep
        simp only [lt_dec hj, cond_true, at_nat (0 : Int) (show j < p.By.length by omega), Option.bind_some, at_row h.k hj, at_cellN h.k hj hq, ← hpl, at_cell h.k hj y1 y2]
        rw [w64_of (n := y.heat + (f.Kiln.at j y.place.toNat).Lo) (by omega) (by omega)]
        by_cases hb : p.By.getD j 0 = -1
        ·simp only [hb, decide_true, cond_true, if_true]
         rw [w64_of (n := y.heat + (f.Kiln.at j y.place.toNat).Lo - (f.Kiln.at j q).Hi) (by omega) (by omega)]
         cases s with
         | none => simp only [Option.getD_none, Option.getD_some, minO]; rw [Int.min_eq_right (by omega)]
         | some n => rfl
        ·simp only [hb, decide_false, cond_false, if_false, R04_cannot_eq h hj _ _ hb, Option.bind_some]
         by_cases hb2 : p.By.getD j 0 = -2
         ·simp only [hb2, if_true]
          by_cases hc : y.heat + (f.Kiln.at j y.place.toNat).Lo ≤ 3000
          ·have : ¬ (3000 : Int) < y.heat + (f.Kiln.at j y.place.toNat).Lo := by omega
           simp only [hc, this, decide_false, Bool.not_false, cond_true, if_true]
          ·have : (3000 : Int) < y.heat + (f.Kiln.at j y.place.toNat).Lo := by omega
           simp only [hc, this, decide_true, Bool.not_true, cond_false, if_false]
         ·simp only [hb2, if_false]
          cases hy : hiAt f (p.By.getD j 0) with
          | none => rfl
          | some z =>
           simp only
           by_cases hc : y.heat + (f.Kiln.at j y.place.toNat).Lo ≤ z.heat + (f.Kiln.at j z.place.toNat).Hi
           ·have : ¬ z.heat + (f.Kiln.at j z.place.toNat).Hi < y.heat + (f.Kiln.at j y.place.toNat).Lo := by omega
            simp only [hc, this, decide_false, Bool.not_false, cond_true, if_true]
           ·have : z.heat + (f.Kiln.at j z.place.toNat).Hi < y.heat + (f.Kiln.at j y.place.toNat).Lo := by omega
            simp only [hc, this, decide_true, Bool.not_true, cond_false, if_false]) (fun s _ => by
        unfold R04_shownLow.b0
        simp only [lt_dec_self]; rfl)
       rw [show ((9223372036854775807, 0) : Int × Int) = (((none : Option Int).getD 9223372036854775807, 0) : Int × Int) from rfl, e1]
       cases (List.range f.Kiln.Falls.length).foldlM (lowStep f q y p.By) none with
       | none => exact ⟨0, rfl, fun m hm => by cases hm⟩
       | some s =>
        refine ⟨_, rfl, fun m hm => ?_⟩
        simp only [Option.some.injEq] at hm
        subst hm; rfl
      ·have h2' : decide ((p.By.length : Int) = (f.Kiln.Falls.length : Int)) = false := by rw [len_dec]; exact decide_eq_false h2
       simp only [h2', Bool.not_false, cond_true]
       rw [if_neg h2]
       exact ⟨_, rfl, fun m hm => by cases hm⟩
  ·have hn : loAt f p.Reading = none := by unfold loAt; rw [if_neg hi]
   rw [hn]
   simp only [hi, decide_false, Bool.not_false, cond_true]
   exact ⟨_, rfl, fun m hm => by cases hm⟩
def proofCode (f : Firing) (q : Int) (high : Bool) (n : Int) (p : HeatProof) : Int :=
 bif !decide (firingCode f = 0) then 42 else bif !inB q 0 ((f.Kiln.P : Int) - 1) then 43 else
  bif high then (match showHigh f q.toNat p with | none => 46 | some m => if n < m then 47 else 0)
  else match showLow f q.toNat p with | none => 46 | some none => 0 | some (some m) => if m < n then 47 else 0
theorem heat_CheckProof_eq (f : Firing) (s : Firing.s f) (q : Int) (high : Bool) (n : Int) (p : HeatProof) : heat_CheckProof KK f q high n p = some (proofCode f q high n p) := by
 unfold heat_CheckProof proofCode
 rw [heat_Check_eq f s]
 simp only [Option.bind_some]
 by_cases h : firingCode f = 0
 ·have hok := firing_ok h
  have hk := kilnB_len hok.k
  obtain ⟨x3, g1, g2⟩ := kiln_P hok.k
  simp only [h, decide_true, Bool.not_true, cond_false, g1, g2, Option.bind_some, heat_in_eq]
  rw [w64_of (n := (f.Kiln.P : Int) - 1) (by omega) (by omega)]
  cases hi : inB q 0 ((f.Kiln.P : Int) - 1) with
  | false => rfl
  | true =>
   simp only [inB, Bool.and_eq_true, decide_eq_true_eq] at hi
   have hqq : ((q.toNat : Nat) : Int) = q := by omega
   obtain ⟨v1, a1, a2⟩ := heat_showsHigh_eq hok (q := q.toNat) (by omega) p
   obtain ⟨v2, e2, b1, b2⟩ := heat_showsLow_eq hok (q := q.toNat) (by omega) p
   rw [hqq] at a1 b1
   simp only [Bool.not_true, cond_false, heat_newFurnace_eq f (firing_w hok), Option.bind_some, a1, b1]
   cases high with
   | true =>
    simp only [Bool.not_true, cond_false, cond_true]
    cases hs : showHigh f q.toNat p with
    | none => rfl
    | some m =>
     have := a2 m hs
     subst this
     simp only [Option.isSome_some, Bool.not_true, cond_false]
     by_cases hc : v1 ≤ n
     ·have : ¬ n < v1 := by omega
      simp only [hc, this, decide_true, Bool.not_true, cond_false, if_false]
     ·have : n < v1 := by omega
      simp only [hc, this, decide_false, Bool.not_false, cond_true, if_true]
   | false =>
    simp only [Bool.not_false, cond_true, cond_false]
    cases hs : showLow f q.toNat p with
    | none => cases e2 <;> rfl
    | some m =>
     obtain ⟨b3, b4⟩ := b2 m hs
     subst b3
     cases m with
     | none => rfl
     | some m =>
      have := b4 m rfl
      subst this
      simp only [Option.isSome_some, Option.isNone_some, Bool.not_true, Bool.not_false, cond_true, cond_false]
      by_cases hc : n ≤ v2
      ·have : ¬ v2 < n := by omega
       simp only [hc, this, decide_true, Bool.not_true, cond_false, if_false]
      ·have : v2 < n := by omega
       simp only [hc, this, decide_false, Bool.not_false, cond_true, if_true]
 ·simp only [h, decide_false, Bool.not_false, cond_true]
theorem R04_CheckProof_eq (f : Firing) (s : Firing.s f) (q : Int) (high : Bool) (n : Int) (hn : i64ok n) (p : HeatProof) (x : A2 Int) (hx : x.x1 = n) (hh : decide (x.x0 = (1 : Int)) = high) : R04_CheckProof KK f q x p = some (proofCode f q high n p) := by
 unfold R04_CheckProof proofCode
 rw [R04_asked_eq f s]
 simp only [Option.bind_some]
 by_cases h : firingCode f = 0
 ·have hok := firing_ok h
  have hk := kilnB_len hok.k
  simp only [h, decide_true, Bool.not_true, cond_false]
  cases hi : inB q 0 ((f.Kiln.P : Int) - 1) with
  | false => rfl
  | true =>
   simp only [inB, Bool.and_eq_true, decide_eq_true_eq] at hi
   have hqq : ((q.toNat : Nat) : Int) = q := by omega
   obtain ⟨v1, a1, a2⟩ := R04_shownHigh_eq hok (q := q.toNat) (by omega) p
   obtain ⟨v2, b1, b2⟩ := R04_shownLow_eq hok (q := q.toNat) (by omega) p
   rw [hqq] at a1 b1
   simp only [Bool.not_true, cond_false, decide_true, hh, hx]
   cases high with
   | true =>
    simp only [cond_true, a1, Option.bind_some]
    cases hs : showHigh f q.toNat p with
    | none => rfl
    | some m =>
     have := a2 m hs
     subst this
     simp only [Option.isSome_some, Bool.not_true, cond_false]
     by_cases hc : n < v1
     ·simp only [hc, decide_true, cond_true, if_true]
     ·simp only [hc, decide_false, cond_false, if_false]
   | false =>
    simp only [cond_false, b1, Option.bind_some]
    cases hs : showLow f q.toNat p with
    | none => rfl
    | some m =>
     have := b2 m hs
     subst this
     simp only [Option.isSome_some, Bool.not_true, cond_false]
     cases m with
     | none =>
      have : ¬ (9223372036854775807 : Int) < n := by have := hn.2; omega
      simp only [Option.getD_none, this, decide_false, cond_false]
     | some m =>
      simp only [Option.getD_some]
      by_cases hc : m < n
      ·simp only [hc, decide_true, cond_true, if_true]
      ·simp only [hc, decide_false, cond_false, if_false]
 ·simp only [h, decide_false, Bool.not_false, cond_true]; rfl
end Go.Abs
namespace Go.Abs
open Go
set_option linter.unusedVariables false
theorem Fur.High.mono {f : Fur} {q : Nat} {s t : Int} (h : f.High q t) (hst : s ≤ t) : f.High q s := by
 obtain ⟨⟨j, h1, h2⟩, h3⟩ := h
 exact ⟨⟨j, h1, by omega⟩, fun y hy e => by have := h3 y hy e; omega⟩
end Go.Abs
