/-
  Part 5 of the proof: a machine over named blocks, what each function computes, and what follows. No condition.
-/
import Derived.Test.YtafmgcbfmifaeaaHTrueD
set_option linter.unusedVariables false
set_option linter.unusedSimpArgs false
set_option linter.all false
set_option maxRecDepth 20000
set_option maxHeartbeats 8000000
namespace Go.Abs
open Go.Proofs
def F54.s0 : SC :=
 (.seq
 (.reg [b2 10 .lss 3 9 8 3 0 []])
 (.seq
 (.cond (.tmp 10)
 .skip
 (.exit 0))
 (.seq
 (.block 1
 (.seq
 (.reg [ia 11 27 7 9 [],
 ld 12 40 11 [11],
 sg 5 12 40 [12]])
 (.dreg [fa 13 29 3 0 [],
 ld 14 27 13 [],
 mv 15 5 40 [],
 cf1 16 87 15 40 40 [],
 oq 17 (.buildSlice 27 1 #[(0, .tmp 16)]) 27 [],
 oq 18 (.call ⟨.builtin .append, #[.tmp 14, .tmp 17], #[27, 27]⟩) 27 [],
 fa 19 29 3 0 [],
 ⟨none, .store 27 (.tmp 19) (.tmp 18), 0, none, []⟩] [[], [0], [], [2], [2, 3], [0, 1, 2, 3, 4], [0, 1, 2, 3, 4, 5], [0, 1, 2, 3, 4, 5, 6]] [5, 13, 14, 15, 16, 17, 18, 19])))
 (.reg [bn 20 .add 3 9 1 3 3 [9],
 mv 9 20 3 [20]]))))
def F54.c : SC :=
 (.seq
 (.reg [oq 1 (.box 29 (.tmp 0)) 0 [0],
 oq 2 (.alloc 29) 0 []])
 (.seq
 (.reg [oq 3 (.alloc 29) 0 []])
 (.seq
 (.seq
 (.reg [fa 6 29 1 0 [1],
 ld 7 27 6 [6],
 ln 8 7 27 3 [],
 oq 9 (.move (.const (.int .i64 0))) 3 []])
 (.block 0
 (.loop F54.s0)))
 (.seq
 (.reg [ld 21 29 3 [3],
 ⟨none, .store 29 (.tmp 2) (.tmp 21), 0, none, [21]⟩])
 .ret))))
theorem F54.rs : Try.f54.results.toList = [.cell 2 29] := rfl
def heat_kilnCopy.b0 (k : Nat) (k0 : Kiln) : (Int × (List (List Range))) → Option (Stp (Int × (List (List Range))) ((List (List Range))) (Kiln)) := fun (s : Int × (List (List Range))) => match s with
 | (i1, l2) =>
   bif decide (i1 < (k0.Falls.length : Int)) then
    (at? k0.Falls i1).bind fun x5 =>
    (slices_Clone_api_Range k x5).bind fun x7 =>
    (push? 24 l2 x7).bind fun l8 =>
    some (.next (w64 (i1 + 1), l8))
   else
    some (.brk l2)
noncomputable def heat_kilnCopy.h0 (k0 : Kiln) : (Int × (List (List Range))) → St := fun (s : Int × (List (List Range))) => match s with
 | (i1, l2) => ⟨[(2, .ptr 0 0 0), (3, .ptr 0 2 0), (7, .sl 1 (List.map (eL 2 Range.c) k0.Falls)), (8, .int .i64 (k0.Falls.length : Int)), (9, .int .i64 i1)], [(0, .box [.loc 0 1 1 0 0 0]), (1, .arr 40 1 (List.map (eL 2 Range.c) [])), (2, .box [.loc 0 3 1 0 l2.length l2.length]), (3, .arr 40 1 (List.map (eL 2 Range.c) l2))], [], 4, Try.f54.ntmps⟩
noncomputable def heat_kilnCopy.x0 : (List (List Range)) → St := fun (l3 : (List (List Range))) => ⟨[(2, .ptr 0 0 0), (3, .ptr 0 2 0)], [(0, .box [.loc 0 1 1 0 0 0]), (1, .arr 40 1 (List.map (eL 2 Range.c) [])), (2, .box [.loc 0 3 1 0 l3.length l3.length]), (3, .arr 40 1 (List.map (eL 2 Range.c) l3))], [], 4, Try.f54.ntmps⟩
def heat_kilnCopy (k : Nat) (k0 : Kiln) : Option (Kiln) :=
 (whl (heat_kilnCopy.b0 k k0) k (0, [])).bind fun r9 => match r9 with
 | .next _ => none
 | .ret v_ => some v_
 | .brk l3 =>
  some (⟨l3⟩ : Kiln)
theorem heat_kilnCopy_ok (k : Nat) (k0 : Kiln) (r : Kiln) (h0 : heat_kilnCopy k k0 = some r) : PCall Try.prog 54 [.agg (Kiln.c k0)] (fun y => y = .agg (Kiln.c r)) := by
 refine PB (fn := Try.f54) (sc := F54.c) ?_
 refine rS ?_
 simp only [heat_kilnCopy] at h0
 try simp only [F54.c, go_sem]
 obtain ⟨r9, yr9, h0⟩ := bs h0
 refine AKev_loopS yr9 (heat_kilnCopy.h0 k0) (heat_kilnCopy.x0) ?_ ?_ ?_
 refine Weak.go [2, 3, 7, 8, 9] [16, 17, 32, 33] rfl ?_
 try simp only [heat_kilnCopy.h0, go_sem]
 rintro ⟨i1, l2⟩ x_1 Bk1 Br1 h1 hnext1 hbrk1 hret1
 refine rS ?_
 simp only [heat_kilnCopy.b0] at h1
 try simp only [F54.s0, heat_kilnCopy.h0, go_sem]
 refine AKev_bif h1 ?_ ?_ <;> intro c4 h1
 try simp only [c4, go_sem]
 obtain ⟨x5, yx5, h1⟩ := bs h1
 try simp only [aa yx5, c4, go_sem]
 refine AKev_region T_ok follows_ok 1000 ?_
 try simp only [c4, aa yx5, go_sem]
 obtain ⟨x7, yx7, h1⟩ := bs h1
 refine DG_give 1000 [] [] (slices_Clone_api_Range_ok k _ _ yx7) ?_ rfl ?_
 try simp only [gOK, List.length_map, c4, aa yx5, go_sem]
 try simp only [c4, aa yx5, go_sem]
 obtain ⟨l8, yl8, h1⟩ := bs h1
 have eyl8 := push_map (eL 2 Range.c) yl8
 have tyl8 := push_take (eL 2 Range.c) yl8
 have nyl8 := push_len yl8
 have myl8 := push_room yl8
 try simp only [c4, aa yx5, go_sem] at eyl8 tyl8 nyl8 myl8
 try simp only [myl8, eyl8, c4, aa yx5, nyl8, tyl8, go_sem]
 refine DG_done ⟨calm_of (by simp only [skel, List.reverse_cons, List.reverse_nil, List.nil_append, List.cons_append, List.map_cons, List.map_nil, List.append_nil]; rfl) (by first | decide +kernel | rfl), run_sound T_ok 1000 _ _ ?_⟩
 try simp only [c4, aa yx5, eyl8, nyl8, tyl8, go_sem]
 refine AKev_backB (hnext1 _ _ (Option.some.inj h1).symm ?_)
 refine Weak.go [2, 3, 7, 8, 9] [0, 1, 2, 3] rfl ?_
 try simp only [heat_kilnCopy.h0, c4, aa yx5, eyl8, nyl8, tyl8, go_sem]
 try simp only [c4, go_sem]
 refine AKev_backB (hbrk1 _ _ (Option.some.inj h1).symm ?_)
 refine Weak.go [2, 3] [0, 1, 2, 3] rfl ?_
 try simp only [heat_kilnCopy.x0, c4, go_sem]
 rintro l3 hr_
 subst hr_
 simp only at h0
 refine rS ?_
 try simp only [heat_kilnCopy.x0, go_sem]
 obtain rfl := Option.some.inj h0
 refine AKev_ret rfl ?_
 try simp only [F54.rs, go_sem]
def F55.c : SC :=
 (.seq
 (.reg [oq 2 (.assign (.const (.slice none 0 0))) 30 [2]])
 (.seq
 (.seq
 (.reg [mv 3 0 30 [],
 oq 4 (.binOp .eql 30 (.tmp 3) (.const (.slice none 0 0)) 30) 4 [3]])
 (.cond (.tmp 4)
 (.seq
 (.reg [oq 2 (.assign (.const (.slice none 0 0))) 30 []])
 .ret)
 .skip))
 (.seq
 (.reg [oq 5 (.buildSlice 30 0 #[]) 30 [],
 mv 6 0 30 [0],
 oq 7 (.call ⟨.builtin .append, #[.tmp 5, .tmp 6], #[30, 30]⟩) 30 [5, 6],
 sg 2 7 30 [7]])
 .ret)))
theorem F55.rs : Try.f55.results.toList = [.tmp 2] := rfl
def slices_Clone_api_Reading (k : Nat) (s0 : (List Reading)) : Option ((List Reading)) :=
 (room? s0.length 48).bind fun _ =>
 some s0
theorem slices_Clone_api_Reading_ok (k : Nat) (s0 : (List Reading)) (r : (List Reading)) (h0 : slices_Clone_api_Reading k s0 = some r) : GCall Try.prog 55 [.sl 6 (List.map Reading.c s0)] [] (fun y fr => y = .loc 0 0 6 0 r.length r.length ∧ fr = [(0, .arr 60 6 (List.map Reading.c r))]) := by
 have hr := GCall.own (et := 60) (sz := 6) (ls := List.map Reading.c r) (GCall.of_body T_ok (f := 55) (fn := Try.f55) (sc := F55.c) (args := [.sl 6 (List.map Reading.c s0)]) (fr0 := []) (by rfl) (by rfl) (by decide +kernel) (by rfl) (by decide +kernel) (Nat.le_of_ble_eq_true rfl) (fun H => ?_))
 ·simpa only [List.length_map] using hr
 refine run_sound T_ok 1000 _ _ ?_
 simp only [slices_Clone_api_Reading] at h0
 try simp only [F55.c, go_sem]
 refine ⟨fun he => ?_, ?_⟩
 ·refine run_sound T_ok 1000 _ _ ?_
  try simp only [go_sem]
  obtain ⟨u_, hu_, h0⟩ := bind_some h0
  obtain rfl := Option.some.inj h0
  refine AKev_gret rfl ?_
  simp only [he, F55.rs, oOK, Option.map_some, tupOf, List.length_nil, List.take_nil, go_sem]
  try simp
 ·refine run_sound T_ok 1000 _ _ ?_
  try simp only [go_sem]
  obtain ⟨u1, yu1, h0⟩ := bind_some h0
  try simp only [room_some yu1, go_sem]
  obtain rfl := Option.some.inj h0
  refine AKev_gret rfl ?_
  try simp only [F55.rs, oOK, Option.map_some, tupOf, cut0_map, cut_map, Nat.le_refl, List.take_length, go_sem]
def F110.s0 : SC :=
 (.seq
 (.reg [b2 9 .lss 3 8 7 3 0 []])
 (.seq
 (.cond (.tmp 9)
 .skip
 (.exit 0))
 (.seq
 (.block 1
 (.seq
 (.reg [mv 10 8 3 [],
 sg 5 10 3 [10]])
 (.seq
 (.reg [mv 11 1 152 [],
 mv 12 0 30 [],
 mv 13 5 3 [],
 ia 14 30 12 13 [12, 13],
 ld 15 60 14 [14],
 oq 16 (.call ⟨.value (.tmp 11), #[.tmp 15], #[60]⟩) 4 [11, 15]])
 (.cond (.tmp 16)
 (.seq
 (.reg [mv 17 5 3 [5],
 sg 4 17 3 [17]])
 .ret)
 .skip))))
 (.reg [bn 18 .add 3 8 1 3 3 [8],
 mv 8 18 3 [18]]))))
def F110.c : SC :=
 (.seq
 (.reg [sn 4 0 3 [4]])
 (.seq
 (.seq
 (.reg [mv 6 0 30 [],
 ln 7 6 30 3 [6],
 oq 8 (.move (.const (.int .i64 0))) 3 []])
 (.block 0
 (.loop F110.s0)))
 (.seq
 (.reg [sn 4 (-1) 3 []])
 .ret)))
theorem F110.rs : Try.f110.results.toList = [.tmp 4] := rfl
def slices_IndexFunc_api_Reading.b0 (k : Nat) (f1 : Reading → Option (Bool)) (s0 : (List Reading)) : Int → Option (Stp (Int) (Unit) (Int)) := fun (i1 : Int) =>
 bif decide (i1 < (s0.length : Int)) then
  (at? s0 i1).bind fun x3 =>
  (f1 x3).bind fun x4 =>
  bif x4 then
   some (.ret i1)
  else
   some (.next (w64 (i1 + 1)))
 else
  some (.brk ())
noncomputable def slices_IndexFunc_api_Reading.h0 (f1_f : Nat) (f1_c : List AV) (s0 : (List Reading)) : Int → St := fun (i1 : Int) => ⟨[(0, .sl 6 (List.map Reading.c s0)), (1, .fn (.func f1_f) [] f1_c), (7, .int .i64 (s0.length : Int)), (8, .int .i64 i1)], [], [], 1, Try.f110.ntmps⟩
noncomputable def slices_IndexFunc_api_Reading.x0 : Unit → St := fun (_ : Unit) => ⟨[], [], [], 1, Try.f110.ntmps⟩
def slices_IndexFunc_api_Reading (k : Nat) (s0 : (List Reading)) (f1 : Reading → Option (Bool)) : Option (Int) :=
 (whl (slices_IndexFunc_api_Reading.b0 k f1 s0) k 0).bind fun r6 => match r6 with
 | .next _ => none
 | .ret v_ => some v_
 | .brk _ =>
  some (-1)
theorem slices_IndexFunc_api_Reading_ok (k : Nat) (s0 : (List Reading)) (f1_f : Nat) (f1_c : List AV) (f1_i : Ice f1_c) (f1 : Reading → Option (Bool)) (f1_h : ∀ q0 qr, f1 q0 = some qr → PCall Try.prog f1_f (.agg (Reading.c q0) :: f1_c) (fun y => y = .bool qr)) (r : Int) (h0 : slices_IndexFunc_api_Reading k s0 f1 = some r) : PCall Try.prog 110 [.sl 6 (List.map Reading.c s0), .fn (.func f1_f) [] f1_c] (fun y => y = .int .i64 r) := by
 refine PB (fn := Try.f110) (sc := F110.c) ?_
 refine rS ?_
 simp only [slices_IndexFunc_api_Reading] at h0
 try simp only [F110.c, f1_i.sh, f1_i.frz, f1_i.br, f1_i.refs, f1_i.imp, f1_i.ren, f1_i.un, go_sem]
 obtain ⟨r6, yr6, h0⟩ := bs h0
 refine AKev_loopS yr6 (slices_IndexFunc_api_Reading.h0 f1_f f1_c s0) (slices_IndexFunc_api_Reading.x0) ?_ ?_ ?_
 refine Weak.go [0, 1, 7, 8] [] rfl ?_
 try simp only [slices_IndexFunc_api_Reading.h0, f1_i.sh, f1_i.frz, f1_i.br, f1_i.refs, f1_i.imp, f1_i.ren, f1_i.un, go_sem]
 rintro i1 x_1 Bk1 Br1 h1 hnext1 hbrk1 hret1
 refine rS ?_
 simp only [slices_IndexFunc_api_Reading.b0] at h1
 try simp only [F110.s0, slices_IndexFunc_api_Reading.h0, f1_i.sh, f1_i.frz, f1_i.br, f1_i.refs, f1_i.imp, f1_i.ren, f1_i.un, go_sem]
 refine AKev_bif h1 ?_ ?_ <;> intro c2 h1
 try simp only [c2, f1_i.sh, f1_i.frz, f1_i.br, f1_i.refs, f1_i.imp, f1_i.ren, f1_i.un, go_sem]
 obtain ⟨x3, yx3, h1⟩ := bs h1
 try simp only [aa yx3, f1_i.sh, f1_i.frz, f1_i.br, f1_i.refs, f1_i.imp, f1_i.ren, f1_i.un, c2, go_sem]
 obtain ⟨x4, yx4, h1⟩ := bs h1
 refine zc0 (f1_h _ _ yx4) ?_ (by first | rfl | simp [AV.refsL, AV.refs, AV.scal, AV.leaf, f1_i.refs]) ?_
 try simp only [f1_i.sh, f1_i.frz, f1_i.br, f1_i.refs, f1_i.imp, f1_i.ren, f1_i.un, c2, aa yx3, go_sem]
 try simp only [f1_i.sh, f1_i.frz, f1_i.br, f1_i.refs, f1_i.imp, f1_i.ren, f1_i.un, c2, aa yx3, go_sem]
 refine AKev_bif h1 ?_ ?_ <;> intro c5 h1
 try simp only [c5, f1_i.sh, f1_i.frz, f1_i.br, f1_i.refs, f1_i.imp, f1_i.ren, f1_i.un, c2, aa yx3, go_sem]
 obtain rfl := hret1 _ (Option.some.inj h1).symm
 simp only at h0
 obtain rfl := Option.some.inj h0
 refine AKev_ret rfl ?_
 try simp only [F110.rs, f1_i.sh, f1_i.frz, f1_i.br, f1_i.refs, f1_i.imp, f1_i.ren, f1_i.un, c2, aa yx3, c5, go_sem]
 try simp only [c5, f1_i.sh, f1_i.frz, f1_i.br, f1_i.refs, f1_i.imp, f1_i.ren, f1_i.un, c2, aa yx3, go_sem]
 refine AKev_backB (hnext1 _ _ (Option.some.inj h1).symm ?_)
 refine Weak.go [0, 1, 7, 8] [] rfl ?_
 try simp only [slices_IndexFunc_api_Reading.h0, f1_i.sh, f1_i.frz, f1_i.br, f1_i.refs, f1_i.imp, f1_i.ren, f1_i.un, c2, aa yx3, c5, go_sem]
 try simp only [c2, f1_i.sh, f1_i.frz, f1_i.br, f1_i.refs, f1_i.imp, f1_i.ren, f1_i.un, go_sem]
 refine AKev_backB (hbrk1 _ _ (Option.some.inj h1).symm ?_)
 refine Weak.go [] [] rfl ?_
 try simp only [slices_IndexFunc_api_Reading.x0, f1_i.sh, f1_i.frz, f1_i.br, f1_i.refs, f1_i.imp, f1_i.ren, f1_i.un, c2, go_sem]
 rintro _ hr_
 subst hr_
 simp only at h0
 refine rS ?_
 try simp only [slices_IndexFunc_api_Reading.x0, f1_i.sh, f1_i.frz, f1_i.br, f1_i.refs, f1_i.imp, f1_i.ren, f1_i.un, go_sem]
 obtain rfl := Option.some.inj h0
 refine AKev_ret rfl ?_
 try simp only [F110.rs, f1_i.sh, f1_i.frz, f1_i.br, f1_i.refs, f1_i.imp, f1_i.ren, f1_i.un, go_sem]
def F97.s0 : SC :=
 (.seq
 (.seq
 (.reg [mv 16 6 3 [],
 mv 17 0 30 [],
 ln 18 17 30 3 [17],
 b2 19 .lss 3 16 18 3 4 [16, 18]])
 (.cond (.tmp 19)
 .skip
 (.exit 0)))
 (.seq
 (.block 1
 (.seq
 (.reg [mv 22 0 30 [],
 mv 23 6 3 [],
 ia 24 30 22 23 [22, 23],
 ld 25 60 24 [24],
 oq 7 (.alloc 60) 0 [],
 ⟨none, .store 60 (.tmp 7) (.tmp 25), 0, none, [25]⟩])
 (.seq
 (.reg [mv 26 1 152 [],
 ld 27 60 7 [],
 oq 28 (.call ⟨.value (.tmp 26), #[.tmp 27], #[60]⟩) 4 [26, 27],
 oq 29 (.unOp .not 4 (.tmp 28)) 4 [28]])
 (.cond (.tmp 29)
 (.seq
 (.reg [mv 30 0 30 [],
 mv 31 5 3 [],
 ld 32 60 7 [7],
 ia 33 30 30 31 [30, 31],
 ⟨none, .store 60 (.tmp 33) (.tmp 32), 0, none, [32, 33]⟩])
 (.reg [mv 34 5 3 [5],
 bn 35 .add 3 34 1 3 3 [34],
 sg 5 35 3 [35]]))
 .skip))))
 (.reg [mv 20 6 3 [6],
 bn 21 .add 3 20 1 3 3 [20],
 sg 6 21 3 [21]])))
def F97.c : SC :=
 (.seq
 (.reg [oq 4 (.assign (.const (.slice none 0 0))) 30 [4]])
 (.seq
 (.reg [mv 8 0 30 [],
 mv 9 1 152 [],
 cf2 10 110 8 9 30 152 3 [8, 9],
 sg 5 10 3 [10]])
 (.seq
 (.seq
 (.reg [mv 11 5 3 [],
 bn 12 .eql 3 11 (-1) 3 4 [11]])
 (.cond (.tmp 12)
 (.seq
 (.reg [mv 13 0 30 [0],
 sg 4 13 30 [13]])
 .ret)
 .skip))
 (.seq
 (.seq
 (.reg [mv 14 5 3 [],
 bn 15 .add 3 14 1 3 3 [14],
 sg 6 15 3 [15]])
 (.block 0
 (.loop F97.s0)))
 (.seq
 (.reg [mv 36 0 30 [],
 mv 37 5 3 [],
 oq 38 (.slice 30 (.tmp 36) (some (.tmp 37)) none none) 30 [36, 37],
 ⟨none, .call ⟨.builtin .clear, #[.tmp 38], #[30]⟩, 0, none, [38]⟩])
 (.seq
 (.reg [mv 39 0 30 [0],
 mv 40 5 3 [5],
 oq 41 (.slice 30 (.tmp 39) none (some (.tmp 40)) none) 30 [39, 40],
 sg 4 41 30 [41]])
 .ret))))))
theorem F97.rs : Try.f97.results.toList = [.tmp 4] := rfl
def slices_DeleteFunc_api_Reading.b0 (k : Nat) (del1 : Reading → Option (Bool)) : (Int × Int × (List Reading)) → Option (Stp (Int × Int × (List Reading)) (Int × (List Reading)) ((List Reading))) := fun (s : Int × Int × (List Reading)) => match s with
 | (i3, i4, l5) =>
   bif decide (i4 < ((l5.length : Nat) : Int)) then
    (at? l5 i4).bind fun x9 =>
    (del1 x9).bind fun x10 =>
    bif (!x10) then
     (at? l5 i3).bind fun x12 =>
     (set? l5 i3 x9).bind fun l13 =>
     some (.next (w64 (i3 + 1), w64 (i4 + 1), l13))
    else
     some (.next (i3, w64 (i4 + 1), l5))
   else
    some (.brk (i3, l5))
noncomputable def slices_DeleteFunc_api_Reading.h0 (H : Heap) (del1_f : Nat) (del1_c : List AV) : (Int × Int × (List Reading)) → St := fun (s : Int × Int × (List Reading)) => match s with
 | (i3, i4, l5) => ⟨[(0, .loc 0 0 6 0 l5.length l5.length), (1, .fn (.func del1_f) [] del1_c), (5, .int .i64 i3), (6, .int .i64 i4)], [(0, .arr 60 6 (List.map Reading.c l5))], H, 1, Try.f97.ntmps⟩
noncomputable def slices_DeleteFunc_api_Reading.x0 (H : Heap) : (Int × (List Reading)) → St := fun (s : Int × (List Reading)) => match s with
 | (i6, l7) => ⟨[(0, .loc 0 0 6 0 l7.length l7.length), (5, .int .i64 i6)], [(0, .arr 60 6 (List.map Reading.c l7))], H, 1, Try.f97.ntmps⟩
def slices_DeleteFunc_api_Reading (k : Nat) (s0 : (List Reading)) (del1 : Reading → Option (Bool)) : Option ((List Reading)) :=
 (slices_IndexFunc_api_Reading k s0 del1).bind fun x1 =>
 bif decide (x1 = (-1 : Int)) then
  some s0
 else
  (whl (slices_DeleteFunc_api_Reading.b0 k del1) k (x1, w64 (x1 + 1), s0)).bind fun r14 => match r14 with
  | .next _ => none
  | .ret v_ => some v_
  | .brk (i6, l7) =>
   (ls? l7.length i6).bind fun _ =>
   (hs? l7.length i6).bind fun _ =>
   some ((clr l7 i6.toNat (l7.length - i6.toNat) (⟨0, 0, 0, 0, (⟨0, 0⟩ : Range)⟩ : Reading)).take i6.toNat)
theorem slices_DeleteFunc_api_Reading_ok (k : Nat) (s0 : (List Reading)) (del1_f : Nat) (del1_c : List AV) (del1_i : Ice del1_c) (del1 : Reading → Option (Bool)) (del1_h : ∀ q0 qr, del1 q0 = some qr → PCall Try.prog del1_f (.agg (Reading.c q0) :: del1_c) (fun y => y = .bool qr)) (r : (List Reading)) (h0 : slices_DeleteFunc_api_Reading k s0 del1 = some r) : GCall Try.prog 97 [.loc 0 0 6 0 s0.length s0.length, .fn (.func del1_f) [] del1_c] [(0, .arr 60 6 (List.map Reading.c s0))] (fun y fr => y = .loc 0 0 6 0 r.length r.length ∧ fr = [(0, .arr 60 6 (List.map Reading.c r))]) := by
 have hr := GCall.own (et := 60) (sz := 6) (ls := List.map Reading.c r) (GCall.of_body T_ok (f := 97) (fn := Try.f97) (sc := F97.c) (args := [.loc 0 0 6 0 s0.length s0.length, .fn (.func del1_f) [] del1_c]) (fr0 := [(0, .arr 60 6 (List.map Reading.c s0))]) (by rfl) (by rfl) (by decide +kernel) (by rfl) (by decide +kernel) (Nat.le_of_ble_eq_true rfl) (fun H => ?_))
 simpa only [List.length_map] using hr
 refine rS ?_
 simp only [slices_DeleteFunc_api_Reading] at h0
 try simp only [F97.c, del1_i.sh, del1_i.frz, del1_i.br, del1_i.refs, del1_i.imp, del1_i.ren, del1_i.un, go_sem]
 obtain ⟨x1, yx1, h0⟩ := bs h0
 refine zc0 (slices_IndexFunc_api_Reading_ok k _ del1_f del1_c del1_i del1 del1_h _ yx1) ?_ (by first | rfl | simp [AV.refsL, AV.refs, AV.scal, AV.leaf, del1_i.refs]) ?_
 try simp only [del1_i.sh, del1_i.frz, del1_i.br, del1_i.refs, del1_i.imp, del1_i.ren, del1_i.un, go_sem]
 try simp only [del1_i.sh, del1_i.frz, del1_i.br, del1_i.refs, del1_i.imp, del1_i.ren, del1_i.un, go_sem]
 refine AKev_bif h0 ?_ ?_ <;> intro c2 h0
 try simp only [c2, del1_i.sh, del1_i.frz, del1_i.br, del1_i.refs, del1_i.imp, del1_i.ren, del1_i.un, go_sem]
 obtain rfl := Option.some.inj h0
 refine AKev_gret rfl ?_
 try simp only [F97.rs, oOK, Option.map_some, tupOf, cut0_map, cut_map, Nat.le_refl, List.take_length, del1_i.sh, del1_i.frz, del1_i.br, del1_i.refs, del1_i.imp, del1_i.ren, del1_i.un, c2, go_sem]
 try simp only [c2, del1_i.sh, del1_i.frz, del1_i.br, del1_i.refs, del1_i.imp, del1_i.ren, del1_i.un, go_sem]
 obtain ⟨r14, yr14, h0⟩ := bs h0
 refine AKev_loopS yr14 (slices_DeleteFunc_api_Reading.h0 H del1_f del1_c) (slices_DeleteFunc_api_Reading.x0 H) ?_ ?_ ?_
 refine Weak.go [0, 1, 5, 6] [0] rfl ?_
 try simp only [slices_DeleteFunc_api_Reading.h0, del1_i.sh, del1_i.frz, del1_i.br, del1_i.refs, del1_i.imp, del1_i.ren, del1_i.un, c2, go_sem]
 rintro ⟨i3, i4, l5⟩ x_1 Bk1 Br1 h1 hnext1 hbrk1 hret1
 refine rS ?_
 simp only [slices_DeleteFunc_api_Reading.b0] at h1
 try simp only [F97.s0, slices_DeleteFunc_api_Reading.h0, del1_i.sh, del1_i.frz, del1_i.br, del1_i.refs, del1_i.imp, del1_i.ren, del1_i.un, c2, go_sem]
 refine AKev_bif h1 ?_ ?_ <;> intro c8 h1
 try simp only [c8, del1_i.sh, del1_i.frz, del1_i.br, del1_i.refs, del1_i.imp, del1_i.ren, del1_i.un, c2, go_sem]
 obtain ⟨x9, yx9, h1⟩ := bs h1
 try simp only [aa yx9, del1_i.sh, del1_i.frz, del1_i.br, del1_i.refs, del1_i.imp, del1_i.ren, del1_i.un, c2, c8, go_sem]
 obtain ⟨x10, yx10, h1⟩ := bs h1
 refine zc0 (del1_h _ _ yx10) ?_ (by first | rfl | simp [AV.refsL, AV.refs, AV.scal, AV.leaf, del1_i.refs]) ?_
 try simp only [del1_i.sh, del1_i.frz, del1_i.br, del1_i.refs, del1_i.imp, del1_i.ren, del1_i.un, c2, c8, aa yx9, go_sem]
 try simp only [del1_i.sh, del1_i.frz, del1_i.br, del1_i.refs, del1_i.imp, del1_i.ren, del1_i.un, c2, c8, aa yx9, go_sem]
 refine AKev_bif h1 ?_ ?_ <;> intro c11 h1
 have c11 := bnot_t c11
 try simp only [c11, del1_i.sh, del1_i.frz, del1_i.br, del1_i.refs, del1_i.imp, del1_i.ren, del1_i.un, c2, c8, aa yx9, go_sem]
 obtain ⟨x12, yx12, h1⟩ := bs h1
 try simp only [aa yx12, del1_i.sh, del1_i.frz, del1_i.br, del1_i.refs, del1_i.imp, del1_i.ren, del1_i.un, c2, c8, aa yx9, c11, go_sem]
 obtain ⟨l13, yl13, h1⟩ := bs h1
 have eyl13 := set_map Reading.c yl13
 simp only [go_sem] at eyl13
 try simp only [eyl13, del1_i.sh, del1_i.frz, del1_i.br, del1_i.refs, del1_i.imp, del1_i.ren, del1_i.un, c2, c8, aa yx9, c11, aa yx12, set_len yl13, set_take Reading.c yl13, go_sem]
 refine AKev_backB (hnext1 _ _ (Option.some.inj h1).symm ?_)
 refine Weak.go [0, 1, 5, 6] [0] rfl ?_
 try simp only [slices_DeleteFunc_api_Reading.h0, del1_i.sh, del1_i.frz, del1_i.br, del1_i.refs, del1_i.imp, del1_i.ren, del1_i.un, c2, c8, aa yx9, c11, aa yx12, eyl13, set_len yl13, set_take Reading.c yl13, go_sem]
 have c11 := bnot_f c11
 try simp only [c11, del1_i.sh, del1_i.frz, del1_i.br, del1_i.refs, del1_i.imp, del1_i.ren, del1_i.un, c2, c8, aa yx9, go_sem]
 refine AKev_backB (hnext1 _ _ (Option.some.inj h1).symm ?_)
 refine Weak.go [0, 1, 5, 6] [0] rfl ?_
 try simp only [slices_DeleteFunc_api_Reading.h0, del1_i.sh, del1_i.frz, del1_i.br, del1_i.refs, del1_i.imp, del1_i.ren, del1_i.un, c2, c8, aa yx9, c11, go_sem]
 try simp only [c8, del1_i.sh, del1_i.frz, del1_i.br, del1_i.refs, del1_i.imp, del1_i.ren, del1_i.un, c2, go_sem]
 refine AKev_backB (hbrk1 _ _ (Option.some.inj h1).symm ?_)
 refine Weak.go [0, 5] [0] rfl ?_
 try simp only [slices_DeleteFunc_api_Reading.x0, del1_i.sh, del1_i.frz, del1_i.br, del1_i.refs, del1_i.imp, del1_i.ren, del1_i.un, c2, c8, go_sem]
 rintro ⟨i6, l7⟩ hr_
 subst hr_
 simp only at h0
 refine rS ?_
 try simp only [slices_DeleteFunc_api_Reading.x0, del1_i.sh, del1_i.frz, del1_i.br, del1_i.refs, del1_i.imp, del1_i.ren, del1_i.un, c2, go_sem]
 obtain ⟨u15, yu15, h0⟩ := bs h0
 have lyu15 := ls_le yu15
 have eq16 := clr_map Reading.c l7 i6.toNat (l7.length - i6.toNat) (⟨0, 0, 0, 0, (⟨0, 0⟩ : Range)⟩ : Reading)
 have lq16 : (clr l7 i6.toNat (l7.length - i6.toNat) (⟨0, 0, 0, 0, (⟨0, 0⟩ : Range)⟩ : Reading)).length = l7.length := by rw [clr_len] <;> simp only [del1_i.sh, del1_i.frz, del1_i.br, del1_i.refs, del1_i.imp, del1_i.ren, del1_i.un, c2, lyu15, go_sem]
 try simp only [go_sem] at eq16
 try simp only [ls_bounds yu15, lyu15, eq16, del1_i.sh, del1_i.frz, del1_i.br, del1_i.refs, del1_i.imp, del1_i.ren, del1_i.un, c2, lq16, go_sem]
 obtain ⟨u17, yu17, h0⟩ := bs h0
 have lyu17 := hs_le yu17
 try simp only [hs_bounds yu17, lyu17, del1_i.sh, del1_i.frz, del1_i.br, del1_i.refs, del1_i.imp, del1_i.ren, del1_i.un, c2, lyu15, lq16, go_sem]
 obtain rfl := Option.some.inj h0
 refine AKev_gret rfl ?_
 try simp only [F97.rs, oOK, Option.map_some, tupOf, cut0_map, cut_map, Nat.le_refl, List.take_length, del1_i.sh, del1_i.frz, del1_i.br, del1_i.refs, del1_i.imp, del1_i.ren, del1_i.un, c2, lyu15, lq16, lyu17, go_sem]
def F98.c : SC :=
 (.seq
 (.reg [oq 2 (.box 60 (.tmp 0)) 0 [0],
 sb 3 false 4 [3]])
 (.seq
 (.reg [ld 4 122 1 [1],
 fa 5 60 2 0 [2],
 ld 6 3 5 [5],
 oq 7 (.call ⟨.value (.tmp 4), #[.tmp 6], #[3]⟩) 4 [4, 6],
 sg 3 7 4 [7]])
 .ret))
theorem F98.rs : Try.f98.results.toList = [.tmp 3] := rfl
def heat_without_1 (k : Nat) (r0 : Reading) (c1 : Int → Option (Bool)) : Option (Bool) :=
 (c1 r0.Source).bind fun x1 =>
 some x1
theorem heat_without_1_ok (k : Nat) (r0 : Reading) (c1_f : Nat) (c1_c : List AV) (c1_i : Ice c1_c) (c1 : Int → Option (Bool)) (c1_h : ∀ q0 qr, c1 q0 = some qr → PCall Try.prog c1_f (.int .i64 q0 :: c1_c) (fun y => y = .bool qr)) (r : Bool) (h0 : heat_without_1 k r0 c1 = some r) : PCall Try.prog 98 [.agg (Reading.c r0), .rptr 1 [[.fn (.func c1_f) [] c1_c]] 0 0] (fun y => y = .bool r) := by
 refine PB (fn := Try.f98) (sc := F98.c) ?_
 refine rS ?_
 simp only [heat_without_1] at h0
 try simp only [F98.c, c1_i.sh, c1_i.frz, c1_i.br, c1_i.refs, c1_i.imp, c1_i.ren, c1_i.un, go_sem]
 obtain ⟨x1, yx1, h0⟩ := bs h0
 refine zc0 (c1_h _ _ yx1) ?_ (by first | rfl | simp [AV.refsL, AV.refs, AV.scal, AV.leaf, c1_i.refs]) ?_
 try simp only [c1_i.sh, c1_i.frz, c1_i.br, c1_i.refs, c1_i.imp, c1_i.ren, c1_i.un, go_sem]
 try simp only [c1_i.sh, c1_i.frz, c1_i.br, c1_i.refs, c1_i.imp, c1_i.ren, c1_i.un, go_sem]
 obtain rfl := Option.some.inj h0
 refine AKev_ret rfl ?_
 try simp only [F98.rs, c1_i.sh, c1_i.frz, c1_i.br, c1_i.refs, c1_i.imp, c1_i.ren, c1_i.un, go_sem]
def F66.c : SC :=
 (.seq
 (.reg [oq 2 (.box 32 (.tmp 0)) 0 [0],
 oq 3 (.box 122 (.tmp 1)) 0 [1],
 oq 4 (.alloc 32) 0 []])
 (.seq
 (.dreg [fa 5 32 2 0 [],
 ld 6 29 5 [],
 cf1 7 54 6 29 29 [],
 fa 8 32 2 1 [],
 ld 9 30 8 [],
 cf1 10 55 9 30 30 [],
 oq 11 (.makeFunc (.func 98) #[] #[.tmp 3]) 152 [],
 cf2 12 97 10 11 30 152 30 [],
 oq 13 (.build 32 #[(0, .tmp 7), (1, .tmp 12)]) 32 [],
 ⟨none, .store 32 (.tmp 4) (.tmp 13), 0, none, []⟩] [[], [0], [0, 1], [], [3], [3, 4, 0, 1, 2], [], [3, 4, 0, 1, 2, 5, 6], [0, 1, 2, 3, 4, 5, 6, 7], [0, 1, 2, 3, 4, 5, 6, 7, 8]] [2, 3, 5, 6, 7, 8, 9, 10, 11, 12, 13])
 .ret))
theorem F66.rs : Try.f66.results.toList = [.cell 4 32] := rfl
def heat_without (k : Nat) (f0 : Firing) (gone1 : Int → Option (Bool)) : Option (Firing) :=
 (heat_kilnCopy k f0.Kiln).bind fun x1 =>
 (slices_Clone_api_Reading k f0.Readings).bind fun x3 =>
 (slices_DeleteFunc_api_Reading k x3 (fun q0 => heat_without_1 k q0 gone1)).bind fun x5 =>
 some (⟨x1, x5⟩ : Firing)
theorem heat_without_ok (k : Nat) (f0 : Firing) (gone1_f : Nat) (gone1_c : List AV) (gone1_i : Ice gone1_c) (gone1 : Int → Option (Bool)) (gone1_h : ∀ q0 qr, gone1 q0 = some qr → PCall Try.prog gone1_f (.int .i64 q0 :: gone1_c) (fun y => y = .bool qr)) (r : Firing) (h0 : heat_without k f0 gone1 = some r) : PCall Try.prog 66 [.agg (Firing.c f0), .fn (.func gone1_f) [] gone1_c] (fun y => y = .agg (Firing.c r)) := by
 refine PB (fn := Try.f66) (sc := F66.c) ?_
 refine rS ?_
 simp only [heat_without] at h0
 try simp only [F66.c, gone1_i.sh, gone1_i.frz, gone1_i.br, gone1_i.refs, gone1_i.imp, gone1_i.ren, gone1_i.un, go_sem]
 refine AKev_region T_ok follows_ok 1000 ?_
 try simp only [gone1_i.sh, gone1_i.frz, gone1_i.br, gone1_i.refs, gone1_i.imp, gone1_i.ren, gone1_i.un, go_sem]
 obtain ⟨x1, yx1, h0⟩ := bs h0
 refine DG_call0 1000 (heat_kilnCopy_ok k _ _ yx1) ?_ (by first | rfl | simp [AV.refsL, AV.refs, AV.scal, AV.leaf, gone1_i.refs]) ?_
 try simp only [gone1_i.sh, gone1_i.frz, gone1_i.br, gone1_i.refs, gone1_i.imp, gone1_i.ren, gone1_i.un, go_sem]
 try simp only [gone1_i.sh, gone1_i.frz, gone1_i.br, gone1_i.refs, gone1_i.imp, gone1_i.ren, gone1_i.un, go_sem]
 obtain ⟨x3, yx3, h0⟩ := bs h0
 refine DG_give 1000 [] [] (slices_Clone_api_Reading_ok k _ _ yx3) ?_ rfl ?_
 try simp only [gOK, List.length_map, gone1_i.sh, gone1_i.frz, gone1_i.br, gone1_i.refs, gone1_i.imp, gone1_i.ren, gone1_i.un, go_sem]
 try simp only [gone1_i.sh, gone1_i.frz, gone1_i.br, gone1_i.refs, gone1_i.imp, gone1_i.ren, gone1_i.un, go_sem]
 obtain ⟨x5, yx5, h0⟩ := bs h0
 refine DG_give 1000 [16] [128] (slices_DeleteFunc_api_Reading_ok k _ 98 [.rptr 1 [[.fn (.func gone1_f) [] gone1_c]] 0 0] ⟨fun _ => rfl, fun _ => rfl, fun _ _ => rfl, rfl, fun _ => rfl, fun _ => rfl, fun _ => rfl⟩ (fun q0 => heat_without_1 k q0 gone1) (fun q0 qr qh => heat_without_1_ok k q0 gone1_f gone1_c gone1_i gone1 gone1_h qr qh) _ yx5) ?_ rfl ?_
 try simp only [gOK, List.length_map, gone1_i.sh, gone1_i.frz, gone1_i.br, gone1_i.refs, gone1_i.imp, gone1_i.ren, gone1_i.un, go_sem]
 try simp only [gone1_i.sh, gone1_i.frz, gone1_i.br, gone1_i.refs, gone1_i.imp, gone1_i.ren, gone1_i.un, go_sem]
 refine DG_done ⟨calm_of (by simp only [skel, List.reverse_cons, List.reverse_nil, List.nil_append, List.cons_append, List.map_cons, List.map_nil, List.append_nil]; rfl) (by first | decide +kernel | rfl), run_sound T_ok 1000 _ _ ?_⟩
 try simp only [gone1_i.sh, gone1_i.frz, gone1_i.br, gone1_i.refs, gone1_i.imp, gone1_i.ren, gone1_i.un, go_sem]
 obtain rfl := Option.some.inj h0
 refine AKev_ret rfl ?_
 try simp only [F66.rs, gone1_i.sh, gone1_i.frz, gone1_i.br, gone1_i.refs, gone1_i.imp, gone1_i.ren, gone1_i.un, go_sem]
def F93.s0 : SC :=
 (.seq
 (.reg [b2 9 .lss 3 8 7 3 0 []])
 (.seq
 (.cond (.tmp 9)
 .skip
 (.exit 0))
 (.seq
 (.block 1
 (.seq
 (.reg [mv 10 8 3 [],
 sg 5 10 3 [10]])
 (.seq
 (.reg [mv 11 1 3 [],
 mv 12 0 23 [],
 mv 13 5 3 [],
 ia 14 23 12 13 [12, 13],
 ld 15 3 14 [14],
 b2 16 .eql 3 11 15 3 4 [11, 15]])
 (.cond (.tmp 16)
 (.seq
 (.reg [mv 17 5 3 [5],
 sg 4 17 3 [17]])
 .ret)
 .skip))))
 (.reg [bn 18 .add 3 8 1 3 3 [8],
 mv 8 18 3 [18]]))))
def F93.c : SC :=
 (.seq
 (.reg [sn 4 0 3 [4]])
 (.seq
 (.seq
 (.reg [mv 6 0 23 [],
 ln 7 6 23 3 [6],
 oq 8 (.move (.const (.int .i64 0))) 3 []])
 (.block 0
 (.loop F93.s0)))
 (.seq
 (.reg [sn 4 (-1) 3 []])
 .ret)))
theorem F93.rs : Try.f93.results.toList = [.tmp 4] := rfl
def slices_Index_int.b0 (k : Nat) (s0 : (List Int)) (v1 : Int) : Int → Option (Stp (Int) (Unit) (Int)) := fun (i1 : Int) =>
 bif decide (i1 < (s0.length : Int)) then
  (at? s0 i1).bind fun x3 =>
  bif decide (v1 = x3) then
   some (.ret i1)
  else
   some (.next (w64 (i1 + 1)))
 else
  some (.brk ())
noncomputable def slices_Index_int.h0 (s0 : (List Int)) (v1 : Int) : Int → St := fun (i1 : Int) => ⟨[(0, .sl 1 (List.map eI s0)), (1, .int .i64 v1), (7, .int .i64 (s0.length : Int)), (8, .int .i64 i1)], [], [], 1, Try.f93.ntmps⟩
noncomputable def slices_Index_int.x0 : Unit → St := fun (_ : Unit) => ⟨[], [], [], 1, Try.f93.ntmps⟩
def slices_Index_int (k : Nat) (s0 : (List Int)) (v1 : Int) : Option (Int) :=
 (whl (slices_Index_int.b0 k s0 v1) k 0).bind fun r5 => match r5 with
 | .next _ => none
 | .ret v_ => some v_
 | .brk _ =>
  some (-1)
theorem slices_Index_int_ok (k : Nat) (s0 : (List Int)) (v1 : Int) (r : Int) (h0 : slices_Index_int k s0 v1 = some r) : PCall Try.prog 93 [.sl 1 (List.map eI s0), .int .i64 v1] (fun y => y = .int .i64 r) := by
 refine PB (fn := Try.f93) (sc := F93.c) ?_
 refine rS ?_
 simp only [slices_Index_int] at h0
 try simp only [F93.c, go_sem]
 obtain ⟨r5, yr5, h0⟩ := bs h0
 refine AKev_loopS yr5 (slices_Index_int.h0 s0 v1) (slices_Index_int.x0) ?_ ?_ ?_
 refine Weak.go [0, 1, 7, 8] [] rfl ?_
 try simp only [slices_Index_int.h0, go_sem]
 rintro i1 x_1 Bk1 Br1 h1 hnext1 hbrk1 hret1
 refine rS ?_
 simp only [slices_Index_int.b0] at h1
 try simp only [F93.s0, slices_Index_int.h0, go_sem]
 refine AKev_bif h1 ?_ ?_ <;> intro c2 h1
 try simp only [c2, go_sem]
 obtain ⟨x3, yx3, h1⟩ := bs h1
 try simp only [aa yx3, c2, go_sem]
 refine AKev_bif h1 ?_ ?_ <;> intro c4 h1
 try simp only [c4, c2, aa yx3, go_sem]
 obtain rfl := hret1 _ (Option.some.inj h1).symm
 simp only at h0
 obtain rfl := Option.some.inj h0
 refine AKev_ret rfl ?_
 try simp only [F93.rs, c2, aa yx3, c4, go_sem]
 try simp only [c4, c2, aa yx3, go_sem]
 refine AKev_backB (hnext1 _ _ (Option.some.inj h1).symm ?_)
 refine Weak.go [0, 1, 7, 8] [] rfl ?_
 try simp only [slices_Index_int.h0, c2, aa yx3, c4, go_sem]
 try simp only [c2, go_sem]
 refine AKev_backB (hbrk1 _ _ (Option.some.inj h1).symm ?_)
 refine Weak.go [] [] rfl ?_
 try simp only [slices_Index_int.x0, c2, go_sem]
 rintro _ hr_
 subst hr_
 simp only at h0
 refine rS ?_
 try simp only [slices_Index_int.x0, go_sem]
 obtain rfl := Option.some.inj h0
 refine AKev_ret rfl ?_
 try simp only [F93.rs, go_sem]
def F60.c : SC :=
 (.seq
 (.reg [sb 4 false 4 [4]])
 (.seq
 (.reg [mv 5 0 23 [0],
 mv 6 1 3 [1],
 cf2 7 93 5 6 23 3 3 [5, 6],
 bn 8 .geq 3 7 0 3 4 [7],
 sg 4 8 4 [8]])
 .ret))
theorem F60.rs : Try.f60.results.toList = [.tmp 4] := rfl
def slices_Contains_int (k : Nat) (s0 : (List Int)) (v1 : Int) : Option (Bool) :=
 (slices_Index_int k s0 v1).bind fun x1 =>
 some (decide ((0 : Int) ≤ x1))
theorem slices_Contains_int_ok (k : Nat) (s0 : (List Int)) (v1 : Int) (r : Bool) (h0 : slices_Contains_int k s0 v1 = some r) : PCall Try.prog 60 [.sl 1 (List.map eI s0), .int .i64 v1] (fun y => y = .bool r) := by
 refine PB (fn := Try.f60) (sc := F60.c) ?_
 refine rS ?_
 simp only [slices_Contains_int] at h0
 try simp only [F60.c, go_sem]
 obtain ⟨x1, yx1, h0⟩ := bs h0
 refine zc0 (slices_Index_int_ok k _ _ _ yx1) ?_ (by first | rfl | simp [AV.refsL, AV.refs, AV.scal, AV.leaf]) ?_
 try simp only [go_sem]
 try simp only [go_sem]
 obtain rfl := Option.some.inj h0
 refine AKev_ret rfl ?_
 try simp only [F60.rs, go_sem]
def F92.c : SC :=
 (.seq
 (.reg [sb 3 false 4 [3]])
 (.seq
 (.reg [ld 4 23 1 [1],
 mv 5 0 3 [0],
 cf2 6 60 4 5 23 3 4 [4, 5],
 oq 7 (.unOp .not 4 (.tmp 6)) 4 [6],
 sg 3 7 4 [7]])
 .ret))
theorem F92.rs : Try.f92.results.toList = [.tmp 3] := rfl
def heat_only_1 (k : Nat) (n0 : Int) (c1 : (List Int)) : Option (Bool) :=
 (slices_Contains_int k c1 n0).bind fun x1 =>
 some (!x1)
theorem heat_only_1_ok (k : Nat) (n0 : Int) (c1 : (List Int)) (r : Bool) (h0 : heat_only_1 k n0 c1 = some r) : PCall Try.prog 92 [.int .i64 n0, .rptr 1 [(eL 1 eI) c1] 0 0] (fun y => y = .bool r) := by
 refine PB (fn := Try.f92) (sc := F92.c) ?_
 refine rS ?_
 simp only [heat_only_1] at h0
 try simp only [F92.c, go_sem]
 obtain ⟨x1, yx1, h0⟩ := bs h0
 refine zc0 (slices_Contains_int_ok k _ _ _ yx1) ?_ (by first | rfl | simp [AV.refsL, AV.refs, AV.scal, AV.leaf]) ?_
 try simp only [go_sem]
 try simp only [go_sem]
 obtain rfl := Option.some.inj h0
 refine AKev_ret rfl ?_
 try simp only [F92.rs, go_sem]
def F59.c : SC :=
 (.seq
 (.reg [oq 2 (.box 32 (.tmp 0)) 0 [0],
 oq 3 (.box 23 (.tmp 1)) 0 [1],
 oq 4 (.alloc 94) 0 []])
 (.seq
 (.reg [ld 5 32 2 [2],
 oq 6 (.makeFunc (.func 92) #[] #[.tmp 3]) 122 [3],
 cf2 7 66 5 6 32 122 32 [5, 6],
 cf1 8 47 7 32 94 [7],
 ⟨none, .store 94 (.tmp 4) (.tmp 8), 0, none, [8]⟩])
 .ret))
theorem F59.rs : Try.f59.results.toList = [.cell 4 94] := rfl
def heat_only (k : Nat) (f0 : Firing) (by1 : (List Int)) : Option (heat_furnace) :=
 (heat_without k f0 (fun q0 => heat_only_1 k q0 by1)).bind fun x1 =>
 (heat_newFurnace k x1).bind fun x2 =>
 some x2
theorem heat_only_ok (k : Nat) (f0 : Firing) (by1 : (List Int)) (r : heat_furnace) (h0 : heat_only k f0 by1 = some r) : PCall Try.prog 59 [.agg (Firing.c f0), .sl 1 (List.map eI by1)] (fun y => y = .agg (heat_furnace.c r)) := by
 refine PB (fn := Try.f59) (sc := F59.c) ?_
 refine rS ?_
 simp only [heat_only] at h0
 try simp only [F59.c, go_sem]
 obtain ⟨x1, yx1, h0⟩ := bs h0
 refine zcT [16] (heat_without_ok k _ 92 [.rptr 1 [(eL 1 eI) by1] 0 0] ⟨fun _ => rfl, fun _ => rfl, fun _ _ => rfl, rfl, fun _ => rfl, fun _ => rfl, fun _ => rfl⟩ (fun q0 => heat_only_1 k q0 by1) (fun q0 qr qh => heat_only_1_ok k q0 _ qr qh) _ yx1) ?_ ?_
 try simp only [go_sem]
 try simp only [go_sem]
 obtain ⟨x2, yx2, h0⟩ := bs h0
 refine zc0 (heat_newFurnace_ok k _ _ yx2) ?_ (by first | rfl | simp [AV.refsL, AV.refs, AV.scal, AV.leaf]) ?_
 try simp only [go_sem]
 try simp only [go_sem]
 obtain rfl := Option.some.inj h0
 refine AKev_ret rfl ?_
 try simp only [F59.rs, go_sem]
def F22.s0 : SC :=
 (.seq
 (.seq
 (.reg [mv 21 5 3 [],
 bn 22 .geq 3 21 0 3 4 [21]])
 (.cond (.tmp 22)
 .skip
 (.exit 1)))
 (.seq
 (.block 2
 (.seq
 (.reg [mv 25 4 23 [],
 cf1 26 58 25 23 23 [25],
 mv 27 5 3 [],
 mv 28 5 3 [],
 bn 29 .add 3 28 1 3 3 [28],
 oq 30 (.call ⟨.value (.func 57), #[.tmp 26, .tmp 27, .tmp 29], #[23, 3, 3]⟩) 23 [26, 27, 29],
 sg 6 30 23 [30]])
 (.seq
 (.reg [ld 31 32 1 [],
 mv 32 6 23 [],
 cf2 33 59 31 32 32 23 94 [31, 32],
 cf1 34 56 33 94 4 [33],
 oq 35 (.unOp .not 4 (.tmp 34)) 4 [34]])
 (.cond (.tmp 35)
 (.reg [mv 36 6 23 [6],
 sg 4 36 23 [36]])
 .skip))))
 (.reg [mv 23 5 3 [5],
 bn 24 .sub 3 23 1 3 3 [23],
 sg 5 24 3 [24]])))
def F22.c : SC :=
 (.seq
 (.reg [oq 1 (.box 32 (.tmp 0)) 0 [0],
 oq 2 (.assign (.const (.slice none 0 0))) 23 [2],
 sn 3 0 43 [3]])
 (.seq
 (.block 0
 (.seq
 (.reg [ld 8 32 1 [],
 cf1 9 41 8 32 43 [8],
 bn 10 .neq 43 9 0 43 4 [9],
 sg 7 10 4 [10]])
 (.cond (.tmp 7)
 (.seq
 (.reg [oq 2 (.assign (.const (.slice none 0 0))) 23 [],
 sn 3 42 43 []])
 .ret)
 (.seq
 (.reg [ld 12 32 1 [],
 cf1 13 47 12 32 94 [12],
 cf1 14 56 13 94 4 [13],
 sg 11 14 4 [14]])
 (.cond (.tmp 11)
 (.seq
 (.reg [oq 2 (.assign (.const (.slice none 0 0))) 23 [],
 sn 3 3 43 []])
 .ret)
 .skip)))))
 (.seq
 (.reg [fa 15 32 1 1 [],
 ld 16 30 15 [15],
 cf1 17 43 16 30 23 [16],
 sg 4 17 23 [17]])
 (.seq
 (.seq
 (.reg [mv 18 4 23 [],
 ln 19 18 23 3 [18],
 bn 20 .sub 3 19 1 3 3 [19],
 sg 5 20 3 [20]])
 (.block 1
 (.loop F22.s0)))
 (.seq
 (.reg [mv 37 4 23 [4],
 sg 2 37 23 [37],
 sn 3 0 43 []])
 .ret)))))
theorem F22.rs : Try.f22.results.toList = [.tmp 2, .tmp 3] := rfl
def heat_Conflict.b0 (k : Nat) (f0 : Firing) : ((List Int) × Int) → Option (Stp ((List Int) × Int) ((List Int)) ((List Int) × Int)) := fun (s : (List Int) × Int) => match s with
 | (l7, i8) =>
   bif decide ((0 : Int) ≤ i8) then
    (slices_Clone_int k l7).bind fun x12 =>
    (slices_Delete_int k x12 i8 (w64 (i8 + 1))).bind fun x14 =>
    (heat_only k f0 x14).bind fun x15 =>
    (heat_furnace_sound k x15).bind fun x16 =>
    bif (!x16) then
     some (.next (x14, w64 (i8 - 1)))
    else
     some (.next (l7, w64 (i8 - 1)))
   else
    some (.brk l7)
noncomputable def heat_Conflict.h0 (f0 : Firing) : ((List Int) × Int) → St := fun (s : (List Int) × Int) => match s with
 | (l7, i8) => ⟨[(1, .ptr 0 0 0), (4, .sl 1 (List.map eI l7)), (5, .int .i64 i8)], [(0, .box [.sl 1 (List.map (eL 2 Range.c) f0.Kiln.Falls), .sl 6 (List.map Reading.c f0.Readings)])], [], 1, Try.f22.ntmps⟩
noncomputable def heat_Conflict.x0 : (List Int) → St := fun (l9 : (List Int)) => ⟨[(4, .sl 1 (List.map eI l9))], [], [], 1, Try.f22.ntmps⟩
def heat_Conflict (k : Nat) (f0 : Firing) : Option ((List Int) × Int) :=
 (heat_Check k f0).bind fun x1 =>
 bif (!decide (x1 = (0 : Int))) then
  some ([], 42)
 else
  (heat_newFurnace k f0).bind fun x3 =>
  (heat_furnace_sound k x3).bind fun x4 =>
  bif x4 then
   some ([], 3)
  else
   (heat_sources k f0.Readings).bind fun x6 =>
   (whl (heat_Conflict.b0 k f0) k (x6, w64 ((x6.length : Int) - 1))).bind fun r18 => match r18 with
   | .next _ => none
   | .ret v_ => some v_
   | .brk l9 =>
    some (l9, 0)
theorem heat_Conflict_ok (k : Nat) (f0 : Firing) (r : (List Int) × Int) (h0 : heat_Conflict k f0 = some r) : PCall Try.prog 22 [.agg (Firing.c f0)] (fun y => y = .tup [.sl 1 (List.map eI r.1), .int .i64 r.2]) := by
 refine PB (fn := Try.f22) (sc := F22.c) ?_
 refine rS ?_
 simp only [heat_Conflict] at h0
 try simp only [F22.c, go_sem]
 obtain ⟨x1, yx1, h0⟩ := bs h0
 refine zc0 (heat_Check_ok k _ _ yx1) ?_ (by first | rfl | simp [AV.refsL, AV.refs, AV.scal, AV.leaf]) ?_
 try simp only [go_sem]
 try simp only [go_sem]
 refine AKev_bif h0 ?_ ?_ <;> intro c2 h0
 have c2 := bnot_t c2
 try simp only [c2, go_sem]
 obtain rfl := Option.some.inj h0
 refine AKev_ret rfl ?_
 try simp only [F22.rs, c2, go_sem]
 have c2 := bnot_f c2
 try simp only [c2, go_sem]
 obtain ⟨x3, yx3, h0⟩ := bs h0
 refine zc0 (heat_newFurnace_ok k _ _ yx3) ?_ (by first | rfl | simp [AV.refsL, AV.refs, AV.scal, AV.leaf]) ?_
 try simp only [c2, go_sem]
 try simp only [c2, go_sem]
 obtain ⟨x4, yx4, h0⟩ := bs h0
 refine zc0 (heat_furnace_sound_ok k _ _ yx4) ?_ (by first | rfl | simp [AV.refsL, AV.refs, AV.scal, AV.leaf]) ?_
 try simp only [c2, go_sem]
 try simp only [c2, go_sem]
 refine AKev_bif h0 ?_ ?_ <;> intro c5 h0
 try simp only [c5, c2, go_sem]
 obtain rfl := Option.some.inj h0
 refine AKev_ret rfl ?_
 try simp only [F22.rs, c2, c5, go_sem]
 try simp only [c5, c2, go_sem]
 obtain ⟨x6, yx6, h0⟩ := bs h0
 refine zc0 (heat_sources_ok k _ _ yx6) ?_ (by first | rfl | simp [AV.refsL, AV.refs, AV.scal, AV.leaf]) ?_
 try simp only [c2, c5, go_sem]
 try simp only [c2, c5, go_sem]
 obtain ⟨r18, yr18, h0⟩ := bs h0
 refine AKev_loopS yr18 (heat_Conflict.h0 f0) (heat_Conflict.x0) ?_ ?_ ?_
 refine Weak.go [1, 4, 5] [0] rfl ?_
 try simp only [heat_Conflict.h0, c2, c5, go_sem]
 rintro ⟨l7, i8⟩ x_1 Bk1 Br1 h1 hnext1 hbrk1 hret1
 refine rS ?_
 simp only [heat_Conflict.b0] at h1
 try simp only [F22.s0, heat_Conflict.h0, c2, c5, go_sem]
 refine AKev_bif h1 ?_ ?_ <;> intro c10 h1
 try simp only [c10, c2, c5, go_sem]
 obtain ⟨x12, yx12, h1⟩ := bs h1
 refine AKev_give T_ok 1000 [] [] (slices_Clone_int_ok k _ _ yx12) ?_ rfl ?_
 try simp only [gOK, List.length_map, c2, c5, c10, go_sem]
 try simp only [c2, c5, c10, go_sem]
 obtain ⟨x14, yx14, h1⟩ := bs h1
 refine AKev_giveF [] [49] (slices_Delete_int_ok k _ _ _ _ yx14) ?_ rfl ?_
 try simp only [gOK, List.length_map, c2, c5, c10, go_sem]
 try simp only [c2, c5, c10, go_sem]
 refine AK.fz 1000 T_ok 113 rfl (fun _ h => by cases h) ?_
 try simp only [c2, c5, c10, go_sem]
 obtain ⟨x15, yx15, h1⟩ := bs h1
 refine zc0 (heat_only_ok k _ _ _ yx15) ?_ (by first | rfl | simp [AV.refsL, AV.refs, AV.scal, AV.leaf]) ?_
 try simp only [c2, c5, c10, go_sem]
 try simp only [c2, c5, c10, go_sem]
 obtain ⟨x16, yx16, h1⟩ := bs h1
 refine zc0 (heat_furnace_sound_ok k _ _ yx16) ?_ (by first | rfl | simp [AV.refsL, AV.refs, AV.scal, AV.leaf]) ?_
 try simp only [c2, c5, c10, go_sem]
 try simp only [c2, c5, c10, go_sem]
 refine AKev_bif h1 ?_ ?_ <;> intro c17 h1
 have c17 := bnot_t c17
 try simp only [c17, c2, c5, c10, go_sem]
 refine AKev_backB (hnext1 _ _ (Option.some.inj h1).symm ?_)
 refine Weak.go [1, 4, 5] [0] rfl ?_
 try simp only [heat_Conflict.h0, c2, c5, c10, c17, go_sem]
 have c17 := bnot_f c17
 try simp only [c17, c2, c5, c10, go_sem]
 refine AKev_backB (hnext1 _ _ (Option.some.inj h1).symm ?_)
 refine Weak.go [1, 4, 5] [0] rfl ?_
 try simp only [heat_Conflict.h0, c2, c5, c10, c17, go_sem]
 try simp only [c10, c2, c5, go_sem]
 refine AKev_backB (hbrk1 _ _ (Option.some.inj h1).symm ?_)
 refine Weak.go [4] [] rfl ?_
 try simp only [heat_Conflict.x0, c2, c5, c10, go_sem]
 rintro l9 hr_
 subst hr_
 simp only at h0
 refine rS ?_
 try simp only [heat_Conflict.x0, c2, c5, go_sem]
 obtain rfl := Option.some.inj h0
 refine AKev_ret rfl ?_
 try simp only [F22.rs, c2, c5, go_sem]
def F101.c : SC :=
 (.seq
 (.reg [oq 2 (.assign (.const (.slice none 0 0))) 92 [2]])
 (.seq
 (.seq
 (.reg [mv 3 0 92 [],
 oq 4 (.binOp .eql 92 (.tmp 3) (.const (.slice none 0 0)) 92) 4 [3]])
 (.cond (.tmp 4)
 (.seq
 (.reg [oq 2 (.assign (.const (.slice none 0 0))) 92 []])
 .ret)
 .skip))
 (.seq
 (.reg [oq 5 (.buildSlice 92 0 #[]) 92 [],
 mv 6 0 92 [0],
 oq 7 (.call ⟨.builtin .append, #[.tmp 5, .tmp 6], #[92, 92]⟩) 92 [5, 6],
 sg 2 7 92 [7]])
 .ret)))
theorem F101.rs : Try.f101.results.toList = [.tmp 2] := rfl
def slices_Clone_heat_limit (k : Nat) (s0 : (List heat_limit)) : Option ((List heat_limit)) :=
 (room? s0.length 24).bind fun _ =>
 some s0
theorem slices_Clone_heat_limit_ok (k : Nat) (s0 : (List heat_limit)) (r : (List heat_limit)) (h0 : slices_Clone_heat_limit k s0 = some r) : GCall Try.prog 101 [.sl 3 (List.map heat_limit.c s0)] [] (fun y fr => y = .loc 0 0 3 0 r.length r.length ∧ fr = [(0, .arr 136 3 (List.map heat_limit.c r))]) := by
 have hr := GCall.own (et := 136) (sz := 3) (ls := List.map heat_limit.c r) (GCall.of_body T_ok (f := 101) (fn := Try.f101) (sc := F101.c) (args := [.sl 3 (List.map heat_limit.c s0)]) (fr0 := []) (by rfl) (by rfl) (by decide +kernel) (by rfl) (by decide +kernel) (Nat.le_of_ble_eq_true rfl) (fun H => ?_))
 ·simpa only [List.length_map] using hr
 refine run_sound T_ok 1000 _ _ ?_
 simp only [slices_Clone_heat_limit] at h0
 try simp only [F101.c, go_sem]
 refine ⟨fun he => ?_, ?_⟩
 ·refine run_sound T_ok 1000 _ _ ?_
  try simp only [go_sem]
  obtain ⟨u_, hu_, h0⟩ := bind_some h0
  obtain rfl := Option.some.inj h0
  refine AKev_gret rfl ?_
  simp only [he, F101.rs, oOK, Option.map_some, tupOf, List.length_nil, List.take_nil, go_sem]
  try simp
 ·refine run_sound T_ok 1000 _ _ ?_
  try simp only [go_sem]
  obtain ⟨u1, yu1, h0⟩ := bind_some h0
  try simp only [room_some yu1, go_sem]
  obtain rfl := Option.some.inj h0
  refine AKev_gret rfl ?_
  try simp only [F101.rs, oOK, Option.map_some, tupOf, cut0_map, cut_map, Nat.le_refl, List.take_length, go_sem]
def F72.c : SC :=
 (.seq
 (.reg [oq 3 (.box 94 (.tmp 0)) 0 [0],
 oq 5 (.box 39 (.tmp 2)) 0 [2],
 oq 6 (.alloc 94) 0 []])
 (.seq
 (.dreg [fa 7 94 3 1 [],
 ld 8 92 7 [],
 cf1 9 101 8 92 92 [],
 mv 10 1 3 [],
 fa 11 39 5 0 [],
 ld 12 3 11 [],
 oq 13 (.build 136 #[(0, .tmp 10), (1, .tmp 12), (2, .const (.int .i64 (-1)))]) 136 [],
 oq 14 (.buildSlice 92 1 #[(0, .tmp 13)]) 92 [],
 oq 15 (.call ⟨.builtin .append, #[.tmp 9, .tmp 14], #[92, 92]⟩) 92 [],
 fa 16 94 3 1 [],
 ⟨none, .store 92 (.tmp 16) (.tmp 15), 0, none, []⟩] [[], [0], [0, 1], [], [], [4], [3, 4, 5], [3, 4, 5, 6], [0, 1, 2, 3, 4, 5, 6, 7], [0, 1, 2, 3, 4, 5, 6, 7, 8], [0, 1, 2, 3, 4, 5, 6, 7, 8, 9]] [7, 8, 9, 10, 11, 12, 13, 14, 15, 16])
 (.seq
 (.dreg [fa 17 94 3 2 [],
 ld 18 92 17 [],
 cf1 19 101 18 92 92 [],
 mv 20 1 3 [],
 fa 21 39 5 1 [],
 ld 22 3 21 [],
 oq 23 (.build 136 #[(0, .tmp 20), (1, .tmp 22), (2, .const (.int .i64 (-1)))]) 136 [],
 oq 24 (.buildSlice 92 1 #[(0, .tmp 23)]) 92 [],
 oq 25 (.call ⟨.builtin .append, #[.tmp 19, .tmp 24], #[92, 92]⟩) 92 [],
 fa 26 94 3 2 [],
 ⟨none, .store 92 (.tmp 26) (.tmp 25), 0, none, []⟩] [[], [0], [0, 1], [], [], [4], [3, 4, 5], [3, 4, 5, 6], [0, 1, 2, 3, 4, 5, 6, 7], [0, 1, 2, 3, 4, 5, 6, 7, 8], [0, 1, 2, 3, 4, 5, 6, 7, 8, 9]] [1, 5, 17, 18, 19, 20, 21, 22, 23, 24, 25, 26])
 (.seq
 (.reg [ld 27 94 3 [3],
 ⟨none, .store 94 (.tmp 6) (.tmp 27), 0, none, [27]⟩])
 .ret))))
theorem F72.rs : Try.f72.results.toList = [.cell 6 94] := rfl
def heat_furnace_asked (k : Nat) (f0 : heat_furnace) (place1 : Int) (heat2 : Range) : Option (heat_furnace) :=
 (slices_Clone_heat_limit k f0.least).bind fun x2 =>
 (push? 24 x2 (⟨place1, heat2.Lo, -1⟩ : heat_limit)).bind fun l3 =>
 (slices_Clone_heat_limit k f0.most).bind fun x5 =>
 (push? 24 x5 (⟨place1, heat2.Hi, -1⟩ : heat_limit)).bind fun l6 =>
 some (⟨f0.Firing, l3, l6⟩ : heat_furnace)
theorem heat_furnace_asked_ok (k : Nat) (f0 : heat_furnace) (place1 : Int) (heat2 : Range) (r : heat_furnace) (h0 : heat_furnace_asked k f0 place1 heat2 = some r) : PCall Try.prog 72 [.agg (heat_furnace.c f0), .int .i64 place1, .agg (Range.c heat2)] (fun y => y = .agg (heat_furnace.c r)) := by
 refine PB (fn := Try.f72) (sc := F72.c) ?_
 refine rS ?_
 simp only [heat_furnace_asked] at h0
 try simp only [F72.c, go_sem]
 refine AKev_region T_ok follows_ok 1000 ?_
 try simp only [go_sem]
 obtain ⟨x2, yx2, h0⟩ := bs h0
 refine DG_give 1000 [] [] (slices_Clone_heat_limit_ok k _ _ yx2) ?_ rfl ?_
 try simp only [gOK, List.length_map, go_sem]
 try simp only [go_sem]
 obtain ⟨l3, yl3, h0⟩ := bs h0
 have eyl3 := push_map heat_limit.c yl3
 have tyl3 := push_take heat_limit.c yl3
 have nyl3 := push_len yl3
 have myl3 := push_room yl3
 try simp only [go_sem] at eyl3 tyl3 nyl3 myl3
 try simp only [myl3, eyl3, nyl3, tyl3, go_sem]
 refine DG_done ⟨calm_of (by simp only [skel, List.reverse_cons, List.reverse_nil, List.nil_append, List.cons_append, List.map_cons, List.map_nil, List.append_nil]; rfl) (by first | decide +kernel | rfl), run_sound T_ok 1000 _ _ ?_⟩
 try simp only [eyl3, nyl3, tyl3, go_sem]
 refine AKev_region T_ok follows_ok 1000 ?_
 try simp only [eyl3, nyl3, tyl3, go_sem]
 obtain ⟨x5, yx5, h0⟩ := bs h0
 refine DG_give 1000 [] [] (slices_Clone_heat_limit_ok k _ _ yx5) ?_ rfl ?_
 try simp only [gOK, List.length_map, eyl3, nyl3, tyl3, go_sem]
 try simp only [eyl3, nyl3, tyl3, go_sem]
 obtain ⟨l6, yl6, h0⟩ := bs h0
 have eyl6 := push_map heat_limit.c yl6
 have tyl6 := push_take heat_limit.c yl6
 have nyl6 := push_len yl6
 have myl6 := push_room yl6
 try simp only [eyl3, nyl3, tyl3, go_sem] at eyl6 tyl6 nyl6 myl6
 try simp only [myl6, eyl6, eyl3, nyl3, tyl3, nyl6, tyl6, go_sem]
 refine DG_done ⟨calm_of (by simp only [skel, List.reverse_cons, List.reverse_nil, List.nil_append, List.cons_append, List.map_cons, List.map_nil, List.append_nil]; rfl) (by first | decide +kernel | rfl), run_sound T_ok 1000 _ _ ?_⟩
 try simp only [eyl3, nyl3, tyl3, eyl6, nyl6, tyl6, go_sem]
 obtain rfl := Option.some.inj h0
 refine AKev_ret rfl ?_
 try simp only [F72.rs, eyl3, nyl3, tyl3, eyl6, nyl6, tyl6, go_sem]
def F102.c : SC :=
 (.seq
 (.reg [oq 2 (.box 79 (.tmp 0)) 0 [0],
 sb 3 false 4 [3]])
 (.seq
 (.dreg [fa 4 79 2 0 [],
 ld 5 3 4 [],
 fa 6 32 1 0 [],
 fa 7 29 6 0 [],
 ld 8 27 7 [],
 oq 9 (.indexAddr 27 (.tmp 8) (.const (.int .i64 0))) 0 [],
 ld 10 40 9 [],
 ln 11 10 40 3 [],
 bn 12 .sub 3 11 1 3 3 [],
 oq 13 (.call ⟨.value (.func 42), #[.tmp 5, .const (.int .i64 0), .tmp 12], #[3, 3, 3]⟩) 4 [],
 mv 14 13 4 [],
 og 15 (.fieldAddr 79 (.tmp 2) 1) 0 14 true [],
 og 16 (.fieldAddr 39 (.tmp 15) 0) 0 14 true [],
 og 17 (.load 3 (.tmp 16)) 3 14 true [],
 og 18 (.binOp .geq 3 (.tmp 17) (.const (.int .i64 (-3000))) 3) 4 14 true [],
 oq 19 (.pick (.tmp 14) (.tmp 18) (.const (.bool false))) 4 [],
 mv 20 19 4 [],
 og 21 (.fieldAddr 79 (.tmp 2) 1) 0 20 true [],
 og 22 (.fieldAddr 39 (.tmp 21) 0) 0 20 true [],
 og 23 (.load 3 (.tmp 22)) 3 20 true [],
 og 24 (.fieldAddr 79 (.tmp 2) 1) 0 20 true [],
 og 25 (.fieldAddr 39 (.tmp 24) 1) 0 20 true [],
 og 26 (.load 3 (.tmp 25)) 3 20 true [],
 og 27 (.binOp .leq 3 (.tmp 23) (.tmp 26) 3) 4 20 true [],
 oq 28 (.pick (.tmp 20) (.tmp 27) (.const (.bool false))) 4 [],
 mv 29 28 4 [],
 og 30 (.fieldAddr 79 (.tmp 2) 1) 0 29 true [],
 og 31 (.fieldAddr 39 (.tmp 30) 1) 0 29 true [],
 og 32 (.load 3 (.tmp 31)) 3 29 true [],
 og 33 (.binOp .leq 3 (.tmp 32) (.const (.int .i64 3000)) 3) 4 29 true [],
 oq 34 (.pick (.tmp 29) (.tmp 33) (.const (.bool false))) 4 [],
 sg 3 34 4 []] [[], [0], [], [2], [2, 3], [2, 3, 4], [2, 3, 4, 5], [2, 3, 4, 5, 6], [2, 3, 4, 5, 6, 7], [0, 1, 2, 3, 4, 5, 6, 7, 8], [0, 1, 2, 3, 4, 5, 6, 7, 8, 9], [0, 1, 2, 3, 4, 5, 6, 7, 8, 9, 10], [0, 1, 2, 3, 4, 5, 6, 7, 8, 9, 10, 11], [0, 1, 2, 3, 4, 5, 6, 7, 8, 9, 10, 11, 12], [0, 1, 2, 3, 4, 5, 6, 7, 8, 9, 10, 11, 12, 13], [0, 1, 2, 3, 4, 5, 6, 7, 8, 9, 10, 11, 12, 13, 14], [0, 1, 2, 3, 4, 5, 6, 7, 8, 9, 10, 11, 12, 13, 14, 15], [0, 1, 2, 3, 4, 5, 6, 7, 8, 9, 10, 11, 12, 13, 14, 15, 16], [0, 1, 2, 3, 4, 5, 6, 7, 8, 9, 10, 11, 12, 13, 14, 15, 16, 17], [0, 1, 2, 3, 4, 5, 6, 7, 8, 9, 10, 11, 12, 13, 14, 15, 16, 17, 18], [0, 1, 2, 3, 4, 5, 6, 7, 8, 9, 10, 11, 12, 13, 14, 15, 16], [0, 1, 2, 3, 4, 5, 6, 7, 8, 9, 10, 11, 12, 13, 14, 15, 16, 20], [0, 1, 2, 3, 4, 5, 6, 7, 8, 9, 10, 11, 12, 13, 14, 15, 16, 20, 21], [0, 1, 2, 3, 4, 5, 6, 7, 8, 9, 10, 11, 12, 13, 14, 15, 16, 17, 18, 19, 20, 21, 22], [0, 1, 2, 3, 4, 5, 6, 7, 8, 9, 10, 11, 12, 13, 14, 15, 16, 17, 18, 19, 20, 21, 22, 23], [0, 1, 2, 3, 4, 5, 6, 7, 8, 9, 10, 11, 12, 13, 14, 15, 16, 17, 18, 19, 20, 21, 22, 23, 24], [0, 1, 2, 3, 4, 5, 6, 7, 8, 9, 10, 11, 12, 13, 14, 15, 16, 17, 18, 19, 20, 21, 22, 23, 24, 25], [0, 1, 2, 3, 4, 5, 6, 7, 8, 9, 10, 11, 12, 13, 14, 15, 16, 17, 18, 19, 20, 21, 22, 23, 24, 25, 26], [0, 1, 2, 3, 4, 5, 6, 7, 8, 9, 10, 11, 12, 13, 14, 15, 16, 17, 18, 19, 20, 21, 22, 23, 24, 25, 26, 27], [0, 1, 2, 3, 4, 5, 6, 7, 8, 9, 10, 11, 12, 13, 14, 15, 16, 17, 18, 19, 20, 21, 22, 23, 24, 25, 26, 27, 28], [0, 1, 2, 3, 4, 5, 6, 7, 8, 9, 10, 11, 12, 13, 14, 15, 16, 17, 18, 19, 20, 21, 22, 23, 24, 25, 26, 27, 28, 29], [0, 1, 2, 3, 4, 5, 6, 7, 8, 9, 10, 11, 12, 13, 14, 15, 16, 17, 18, 19, 20, 21, 22, 23, 24, 25, 26, 27, 28, 29, 30]] [1, 2, 4, 5, 6, 7, 8, 9, 10, 11, 12, 13, 14, 15, 16, 17, 18, 19, 20, 21, 22, 23, 24, 25, 26, 27, 28, 29, 30, 31, 32, 33, 34])
 .ret))
theorem F102.rs : Try.f102.results.toList = [.tmp 3] := rfl
def heat_wanted_1 (k : Nat) (w0 : Want) (c1 : Firing) : Option (Bool) :=
 (at? c1.Kiln.Falls 0).bind fun x1 =>
 (heat_in k w0.Place 0 (w64 ((x1.length : Int) - 1))).bind fun x2 =>
 bif x2 then
  bif decide ((-3000 : Int) ≤ w0.Heat.Lo) then
   bif decide (w0.Heat.Lo ≤ w0.Heat.Hi) then
    some (decide (w0.Heat.Hi ≤ (3000 : Int)))
   else
    some false
  else
   some false
 else
  some false
theorem heat_wanted_1_ok (k : Nat) (w0 : Want) (c1 : Firing) (r : Bool) (h0 : heat_wanted_1 k w0 c1 = some r) : PCall Try.prog 102 [.agg (Want.c w0), .rptr 2 [Firing.c c1] 0 0] (fun y => y = .bool r) := by
 refine PB (fn := Try.f102) (sc := F102.c) ?_
 refine rS ?_
 simp only [heat_wanted_1] at h0
 try simp only [F102.c, go_sem]
 refine AKev_region T_ok follows_ok 1000 ?_
 try simp only [go_sem]
 obtain ⟨x1, yx1, h0⟩ := bs h0
 try simp only [aa yx1, go_sem]
 obtain ⟨x2, yx2, h0⟩ := bs h0
 refine DG_call0 1000 (heat_in_ok k _ _ _ _ yx2) ?_ (by first | rfl | simp [AV.refsL, AV.refs, AV.scal, AV.leaf]) ?_
 try simp only [aa yx1, go_sem]
 try simp only [aa yx1, go_sem]
 refine DG_bif h0 ?_ ?_ <;> intro c3 h0
 try simp only [c3, aa yx1, go_sem]
 refine DG_bif h0 ?_ ?_ <;> intro c4 h0
 try simp only [c4, aa yx1, c3, go_sem]
 refine DG_bif h0 ?_ ?_ <;> intro c5 h0
 try simp only [c5, aa yx1, c3, c4, go_sem]
 refine DG_done ⟨calm_of (by simp only [skel, List.reverse_cons, List.reverse_nil, List.nil_append, List.cons_append, List.map_cons, List.map_nil, List.append_nil]; rfl) (by first | decide +kernel | rfl), run_sound T_ok 1000 _ _ ?_⟩
 try simp only [aa yx1, c3, c4, c5, go_sem]
 obtain rfl := Option.some.inj h0
 refine AKev_ret rfl ?_
 try simp only [F102.rs, aa yx1, c3, c4, c5, go_sem]
 try simp only [c5, aa yx1, c3, c4, go_sem]
 refine DG_done ⟨calm_of (by simp only [skel, List.reverse_cons, List.reverse_nil, List.nil_append, List.cons_append, List.map_cons, List.map_nil, List.append_nil]; rfl) (by first | decide +kernel | rfl), run_sound T_ok 1000 _ _ ?_⟩
 try simp only [aa yx1, c3, c4, c5, go_sem]
 obtain rfl := Option.some.inj h0
 refine AKev_ret rfl ?_
 try simp only [F102.rs, aa yx1, c3, c4, c5, go_sem]
 try simp only [c4, aa yx1, c3, go_sem]
 refine DG_done ⟨calm_of (by simp only [skel, List.reverse_cons, List.reverse_nil, List.nil_append, List.cons_append, List.map_cons, List.map_nil, List.append_nil]; rfl) (by first | decide +kernel | rfl), run_sound T_ok 1000 _ _ ?_⟩
 try simp only [aa yx1, c3, c4, go_sem]
 obtain rfl := Option.some.inj h0
 refine AKev_ret rfl ?_
 try simp only [F102.rs, aa yx1, c3, c4, go_sem]
 try simp only [c3, aa yx1, go_sem]
 refine DG_done ⟨calm_of (by simp only [skel, List.reverse_cons, List.reverse_nil, List.nil_append, List.cons_append, List.map_cons, List.map_nil, List.append_nil]; rfl) (by first | decide +kernel | rfl), run_sound T_ok 1000 _ _ ?_⟩
 try simp only [aa yx1, c3, go_sem]
 obtain rfl := Option.some.inj h0
 refine AKev_ret rfl ?_
 try simp only [F102.rs, aa yx1, c3, go_sem]
def F111.s0 : SC :=
 (.seq
 (.reg [b2 9 .lss 3 8 7 3 0 []])
 (.seq
 (.cond (.tmp 9)
 .skip
 (.exit 0))
 (.seq
 (.block 1
 (.seq
 (.reg [mv 10 8 3 [],
 sg 5 10 3 [10]])
 (.seq
 (.reg [mv 11 1 156 [],
 mv 12 0 80 [],
 mv 13 5 3 [],
 ia 14 80 12 13 [12, 13],
 ld 15 79 14 [14],
 oq 16 (.call ⟨.value (.tmp 11), #[.tmp 15], #[79]⟩) 4 [11, 15]])
 (.cond (.tmp 16)
 (.seq
 (.reg [mv 17 5 3 [5],
 sg 4 17 3 [17]])
 .ret)
 .skip))))
 (.reg [bn 18 .add 3 8 1 3 3 [8],
 mv 8 18 3 [18]]))))
def F111.c : SC :=
 (.seq
 (.reg [sn 4 0 3 [4]])
 (.seq
 (.seq
 (.reg [mv 6 0 80 [],
 ln 7 6 80 3 [6],
 oq 8 (.move (.const (.int .i64 0))) 3 []])
 (.block 0
 (.loop F111.s0)))
 (.seq
 (.reg [sn 4 (-1) 3 []])
 .ret)))
theorem F111.rs : Try.f111.results.toList = [.tmp 4] := rfl
def slices_IndexFunc_api_Want.b0 (k : Nat) (f1 : Want → Option (Bool)) (s0 : (List Want)) : Int → Option (Stp (Int) (Unit) (Int)) := fun (i1 : Int) =>
 bif decide (i1 < (s0.length : Int)) then
  (at? s0 i1).bind fun x3 =>
  (f1 x3).bind fun x4 =>
  bif x4 then
   some (.ret i1)
  else
   some (.next (w64 (i1 + 1)))
 else
  some (.brk ())
noncomputable def slices_IndexFunc_api_Want.h0 (f1_f : Nat) (f1_c : List AV) (s0 : (List Want)) : Int → St := fun (i1 : Int) => ⟨[(0, .sl 3 (List.map Want.c s0)), (1, .fn (.func f1_f) [] f1_c), (7, .int .i64 (s0.length : Int)), (8, .int .i64 i1)], [], [], 1, Try.f111.ntmps⟩
noncomputable def slices_IndexFunc_api_Want.x0 : Unit → St := fun (_ : Unit) => ⟨[], [], [], 1, Try.f111.ntmps⟩
def slices_IndexFunc_api_Want (k : Nat) (s0 : (List Want)) (f1 : Want → Option (Bool)) : Option (Int) :=
 (whl (slices_IndexFunc_api_Want.b0 k f1 s0) k 0).bind fun r6 => match r6 with
 | .next _ => none
 | .ret v_ => some v_
 | .brk _ =>
  some (-1)
theorem slices_IndexFunc_api_Want_ok (k : Nat) (s0 : (List Want)) (f1_f : Nat) (f1_c : List AV) (f1_i : Ice f1_c) (f1 : Want → Option (Bool)) (f1_h : ∀ q0 qr, f1 q0 = some qr → PCall Try.prog f1_f (.agg (Want.c q0) :: f1_c) (fun y => y = .bool qr)) (r : Int) (h0 : slices_IndexFunc_api_Want k s0 f1 = some r) : PCall Try.prog 111 [.sl 3 (List.map Want.c s0), .fn (.func f1_f) [] f1_c] (fun y => y = .int .i64 r) := by
 refine PB (fn := Try.f111) (sc := F111.c) ?_
 refine rS ?_
 simp only [slices_IndexFunc_api_Want] at h0
 try simp only [F111.c, f1_i.sh, f1_i.frz, f1_i.br, f1_i.refs, f1_i.imp, f1_i.ren, f1_i.un, go_sem]
 obtain ⟨r6, yr6, h0⟩ := bs h0
 refine AKev_loopS yr6 (slices_IndexFunc_api_Want.h0 f1_f f1_c s0) (slices_IndexFunc_api_Want.x0) ?_ ?_ ?_
 refine Weak.go [0, 1, 7, 8] [] rfl ?_
 try simp only [slices_IndexFunc_api_Want.h0, f1_i.sh, f1_i.frz, f1_i.br, f1_i.refs, f1_i.imp, f1_i.ren, f1_i.un, go_sem]
 rintro i1 x_1 Bk1 Br1 h1 hnext1 hbrk1 hret1
 refine rS ?_
 simp only [slices_IndexFunc_api_Want.b0] at h1
 try simp only [F111.s0, slices_IndexFunc_api_Want.h0, f1_i.sh, f1_i.frz, f1_i.br, f1_i.refs, f1_i.imp, f1_i.ren, f1_i.un, go_sem]
 refine AKev_bif h1 ?_ ?_ <;> intro c2 h1
 try simp only [c2, f1_i.sh, f1_i.frz, f1_i.br, f1_i.refs, f1_i.imp, f1_i.ren, f1_i.un, go_sem]
 obtain ⟨x3, yx3, h1⟩ := bs h1
 try simp only [aa yx3, f1_i.sh, f1_i.frz, f1_i.br, f1_i.refs, f1_i.imp, f1_i.ren, f1_i.un, c2, go_sem]
 obtain ⟨x4, yx4, h1⟩ := bs h1
 refine zc0 (f1_h _ _ yx4) ?_ (by first | rfl | simp [AV.refsL, AV.refs, AV.scal, AV.leaf, f1_i.refs]) ?_
 try simp only [f1_i.sh, f1_i.frz, f1_i.br, f1_i.refs, f1_i.imp, f1_i.ren, f1_i.un, c2, aa yx3, go_sem]
 try simp only [f1_i.sh, f1_i.frz, f1_i.br, f1_i.refs, f1_i.imp, f1_i.ren, f1_i.un, c2, aa yx3, go_sem]
 refine AKev_bif h1 ?_ ?_ <;> intro c5 h1
 try simp only [c5, f1_i.sh, f1_i.frz, f1_i.br, f1_i.refs, f1_i.imp, f1_i.ren, f1_i.un, c2, aa yx3, go_sem]
 obtain rfl := hret1 _ (Option.some.inj h1).symm
 simp only at h0
 obtain rfl := Option.some.inj h0
 refine AKev_ret rfl ?_
 try simp only [F111.rs, f1_i.sh, f1_i.frz, f1_i.br, f1_i.refs, f1_i.imp, f1_i.ren, f1_i.un, c2, aa yx3, c5, go_sem]
 try simp only [c5, f1_i.sh, f1_i.frz, f1_i.br, f1_i.refs, f1_i.imp, f1_i.ren, f1_i.un, c2, aa yx3, go_sem]
 refine AKev_backB (hnext1 _ _ (Option.some.inj h1).symm ?_)
 refine Weak.go [0, 1, 7, 8] [] rfl ?_
 try simp only [slices_IndexFunc_api_Want.h0, f1_i.sh, f1_i.frz, f1_i.br, f1_i.refs, f1_i.imp, f1_i.ren, f1_i.un, c2, aa yx3, c5, go_sem]
 try simp only [c2, f1_i.sh, f1_i.frz, f1_i.br, f1_i.refs, f1_i.imp, f1_i.ren, f1_i.un, go_sem]
 refine AKev_backB (hbrk1 _ _ (Option.some.inj h1).symm ?_)
 refine Weak.go [] [] rfl ?_
 try simp only [slices_IndexFunc_api_Want.x0, f1_i.sh, f1_i.frz, f1_i.br, f1_i.refs, f1_i.imp, f1_i.ren, f1_i.un, c2, go_sem]
 rintro _ hr_
 subst hr_
 simp only at h0
 refine rS ?_
 try simp only [slices_IndexFunc_api_Want.x0, f1_i.sh, f1_i.frz, f1_i.br, f1_i.refs, f1_i.imp, f1_i.ren, f1_i.un, go_sem]
 obtain rfl := Option.some.inj h0
 refine AKev_ret rfl ?_
 try simp only [F111.rs, f1_i.sh, f1_i.frz, f1_i.br, f1_i.refs, f1_i.imp, f1_i.ren, f1_i.un, go_sem]
def F103.c : SC :=
 (.seq
 (.reg [sb 4 false 4 [4]])
 (.seq
 (.reg [mv 5 0 80 [0],
 mv 6 1 156 [1],
 cf2 7 111 5 6 80 156 3 [5, 6],
 bn 8 .geq 3 7 0 3 4 [7],
 sg 4 8 4 [8]])
 .ret))
theorem F103.rs : Try.f103.results.toList = [.tmp 4] := rfl
def slices_ContainsFunc_api_Want (k : Nat) (s0 : (List Want)) (f1 : Want → Option (Bool)) : Option (Bool) :=
 (slices_IndexFunc_api_Want k s0 f1).bind fun x1 =>
 some (decide ((0 : Int) ≤ x1))
theorem slices_ContainsFunc_api_Want_ok (k : Nat) (s0 : (List Want)) (f1_f : Nat) (f1_c : List AV) (f1_i : Ice f1_c) (f1 : Want → Option (Bool)) (f1_h : ∀ q0 qr, f1 q0 = some qr → PCall Try.prog f1_f (.agg (Want.c q0) :: f1_c) (fun y => y = .bool qr)) (r : Bool) (h0 : slices_ContainsFunc_api_Want k s0 f1 = some r) : PCall Try.prog 103 [.sl 3 (List.map Want.c s0), .fn (.func f1_f) [] f1_c] (fun y => y = .bool r) := by
 refine PB (fn := Try.f103) (sc := F103.c) ?_
 refine rS ?_
 simp only [slices_ContainsFunc_api_Want] at h0
 try simp only [F103.c, f1_i.sh, f1_i.frz, f1_i.br, f1_i.refs, f1_i.imp, f1_i.ren, f1_i.un, go_sem]
 obtain ⟨x1, yx1, h0⟩ := bs h0
 refine zc0 (slices_IndexFunc_api_Want_ok k _ f1_f f1_c f1_i f1 f1_h _ yx1) ?_ (by first | rfl | simp [AV.refsL, AV.refs, AV.scal, AV.leaf, f1_i.refs]) ?_
 try simp only [f1_i.sh, f1_i.frz, f1_i.br, f1_i.refs, f1_i.imp, f1_i.ren, f1_i.un, go_sem]
 try simp only [f1_i.sh, f1_i.frz, f1_i.br, f1_i.refs, f1_i.imp, f1_i.ren, f1_i.un, go_sem]
 obtain rfl := Option.some.inj h0
 refine AKev_ret rfl ?_
 try simp only [F103.rs, f1_i.sh, f1_i.frz, f1_i.br, f1_i.refs, f1_i.imp, f1_i.ren, f1_i.un, go_sem]
def F104.c : SC :=
 (.seq
 (.reg [oq 2 (.box 79 (.tmp 0)) 0 [0],
 sb 3 false 4 [3]])
 (.seq
 (.reg [ld 4 156 1 [1],
 ld 5 79 2 [2],
 oq 6 (.call ⟨.value (.tmp 4), #[.tmp 5], #[79]⟩) 4 [4, 5],
 oq 7 (.unOp .not 4 (.tmp 6)) 4 [6],
 sg 3 7 4 [7]])
 .ret))
theorem F104.rs : Try.f104.results.toList = [.tmp 3] := rfl
def heat_wanted_2 (k : Nat) (w0 : Want) (c1 : Want → Option (Bool)) : Option (Bool) :=
 (c1 w0).bind fun x1 =>
 some (!x1)
theorem heat_wanted_2_ok (k : Nat) (w0 : Want) (c1_f : Nat) (c1_c : List AV) (c1_i : Ice c1_c) (c1 : Want → Option (Bool)) (c1_h : ∀ q0 qr, c1 q0 = some qr → PCall Try.prog c1_f (.agg (Want.c q0) :: c1_c) (fun y => y = .bool qr)) (r : Bool) (h0 : heat_wanted_2 k w0 c1 = some r) : PCall Try.prog 104 [.agg (Want.c w0), .rptr 1 [[.fn (.func c1_f) [] c1_c]] 0 0] (fun y => y = .bool r) := by
 refine PB (fn := Try.f104) (sc := F104.c) ?_
 refine rS ?_
 simp only [heat_wanted_2] at h0
 try simp only [F104.c, c1_i.sh, c1_i.frz, c1_i.br, c1_i.refs, c1_i.imp, c1_i.ren, c1_i.un, go_sem]
 obtain ⟨x1, yx1, h0⟩ := bs h0
 refine zc0 (c1_h _ _ yx1) ?_ (by first | rfl | simp [AV.refsL, AV.refs, AV.scal, AV.leaf, c1_i.refs]) ?_
 try simp only [c1_i.sh, c1_i.frz, c1_i.br, c1_i.refs, c1_i.imp, c1_i.ren, c1_i.un, go_sem]
 try simp only [c1_i.sh, c1_i.frz, c1_i.br, c1_i.refs, c1_i.imp, c1_i.ren, c1_i.un, go_sem]
 obtain rfl := Option.some.inj h0
 refine AKev_ret rfl ?_
 try simp only [F104.rs, c1_i.sh, c1_i.frz, c1_i.br, c1_i.refs, c1_i.imp, c1_i.ren, c1_i.un, go_sem]
def F74.s0 : SC :=
 (.seq
 (.reg [b2 43 .lss 3 42 41 3 0 []])
 (.seq
 (.cond (.tmp 43)
 .skip
 (.exit 0))
 (.seq
 (.block 1
 (.seq
 (.reg [ia 44 80 40 42 [],
 ld 45 79 44 [44],
 oq 12 (.alloc 79) 0 [],
 ⟨none, .store 79 (.tmp 12) (.tmp 45), 0, none, [45]⟩])
 (.reg [ld 46 94 10 [],
 fa 47 79 12 0 [],
 ld 48 3 47 [47],
 fa 49 79 12 1 [12],
 ld 50 39 49 [49],
 oq 51 (.call ⟨.value (.func 72), #[.tmp 46, .tmp 48, .tmp 50], #[94, 3, 39]⟩) 94 [46, 48, 50],
 ⟨none, .store 94 (.tmp 10) (.tmp 51), 0, none, [51]⟩])))
 (.reg [bn 52 .add 3 42 1 3 3 [42],
 mv 42 52 3 [52]]))))
def F74.c : SC :=
 (.seq
 (.reg [oq 2 (.box 32 (.tmp 0)) 0 [0],
 oq 4 (.alloc 94) 0 [],
 oq 5 (.alloc 94) 0 [],
 sn 6 0 43 [6]])
 (.seq
 (.seq
 (.reg [ld 13 32 2 [],
 cf1 14 41 13 32 43 [13],
 bn 15 .neq 43 14 0 43 4 [14]])
 (.cond (.tmp 15)
 (.seq
 (.reg [oq 16 (.build 94 #[]) 94 [],
 oq 17 (.build 94 #[]) 94 [],
 ⟨none, .store 94 (.tmp 4) (.tmp 16), 0, none, [16]⟩,
 ⟨none, .store 94 (.tmp 5) (.tmp 17), 0, none, [17]⟩,
 sn 6 42 43 []])
 .ret)
 .skip))
 (.seq
 (.reg [oq 18 (.makeFunc (.func 102) #[] #[.tmp 2]) 156 [],
 oq 7 (.alloc 156) 0 [],
 ⟨none, .store 156 (.tmp 7) (.tmp 18), 0, none, [18]⟩])
 (.seq
 (.seq
 (.reg [mv 19 1 80 [],
 ln 20 19 80 3 [19],
 bn 21 .gtr 3 20 24 3 4 [20],
 mv 22 21 4 [21],
 og 23 (.move (.tmp 1)) 80 22 false [],
 og 24 (.makeFunc (.func 104) #[] #[.tmp 7]) 156 22 false [7],
 og 25 (.call ⟨.value (.func 103), #[.tmp 23, .tmp 24], #[80, 156]⟩) 4 22 false [23, 24],
 oq 26 (.pick (.tmp 22) (.const (.bool true)) (.tmp 25)) 4 [22, 25]])
 (.cond (.tmp 26)
 (.seq
 (.reg [oq 27 (.build 94 #[]) 94 [],
 oq 28 (.build 94 #[]) 94 [],
 ⟨none, .store 94 (.tmp 4) (.tmp 27), 0, none, [27]⟩,
 ⟨none, .store 94 (.tmp 5) (.tmp 28), 0, none, [28]⟩,
 sn 6 49 43 []])
 .ret)
 .skip))
 (.seq
 (.reg [ld 30 32 2 [2],
 oq 31 (.call ⟨.value (.func 36), #[.tmp 30, .const (.int .i64 0)], #[32, 3]⟩) 95 [30],
 mv 29 31 95 [31],
 xt 32 29 0 94 [],
 xt 33 29 1 43 [29],
 oq 8 (.alloc 94) 0 [],
 ⟨none, .store 94 (.tmp 8) (.tmp 32), 0, none, [32]⟩,
 sg 9 33 43 [33]])
 (.seq
 (.seq
 (.reg [mv 34 9 43 [],
 bn 35 .neq 43 34 0 43 4 [34]])
 (.cond (.tmp 35)
 (.seq
 (.reg [oq 36 (.build 94 #[]) 94 [],
 oq 37 (.build 94 #[]) 94 [],
 mv 38 9 43 [9],
 ⟨none, .store 94 (.tmp 4) (.tmp 36), 0, none, [36]⟩,
 ⟨none, .store 94 (.tmp 5) (.tmp 37), 0, none, [37]⟩,
 sg 6 38 43 [38]])
 .ret)
 .skip))
 (.seq
 (.reg [ld 39 94 8 [],
 oq 10 (.alloc 94) 0 [],
 ⟨none, .store 94 (.tmp 10) (.tmp 39), 0, none, [39]⟩])
 (.seq
 (.seq
 (.reg [mv 40 1 80 [1],
 ln 41 40 80 3 [],
 oq 42 (.move (.const (.int .i64 0))) 3 []])
 (.block 0
 (.loop F74.s0)))
 (.seq
 (.dreg [ld 53 94 8 [],
 ld 54 94 10 [],
 ⟨none, .store 94 (.tmp 4) (.tmp 53), 0, none, []⟩,
 ⟨none, .store 94 (.tmp 5) (.tmp 54), 0, none, []⟩,
 sn 6 0 43 []] [[], [], [0], [1, 0, 2], [1, 0, 2, 3]] [8, 10, 53, 54])
 .ret)))))))))
theorem F74.rs : Try.f74.results.toList = [.cell 4 94, .cell 5 94, .tmp 6] := rfl
def heat_wanted.b0 (k : Nat) (l1 : (List Want)) : (heat_furnace × Int) → Option (Stp (heat_furnace × Int) (heat_furnace) (heat_furnace × heat_furnace × Int)) := fun (s : heat_furnace × Int) => match s with
 | (s8, i9) =>
   bif decide (i9 < (l1.length : Int)) then
    (at? l1 i9).bind fun x12 =>
    (heat_furnace_asked k s8 x12.Place x12.Heat).bind fun x13 =>
    some (.next (x13, w64 (i9 + 1)))
   else
    some (.brk s8)
noncomputable def heat_wanted.h0 (l1 : (List Want)) (x6 : heat_furnace × Int) : (heat_furnace × Int) → St := fun (s : heat_furnace × Int) => match s with
 | (s8, i9) => ⟨[(4, .ptr 0 0 0), (5, .ptr 0 5 0), (8, .ptr 0 10 0), (10, .ptr 0 11 0), (40, .sl 3 (List.map Want.c l1)), (41, .int .i64 (l1.length : Int)), (42, .int .i64 i9)], [(0, .box [.loc 0 1 1 0 0 0, .loc 0 2 6 0 0 0, .loc 0 3 3 0 0 0, .loc 0 4 3 0 0 0]), (1, .arr 40 1 (List.map (eL 2 Range.c) [])), (2, .arr 60 6 (List.map Reading.c [])), (3, .arr 136 3 (List.map heat_limit.c [])), (4, .arr 136 3 (List.map heat_limit.c [])), (5, .box [.loc 0 6 1 0 0 0, .loc 0 7 6 0 0 0, .loc 0 8 3 0 0 0, .loc 0 9 3 0 0 0]), (6, .arr 40 1 (List.map (eL 2 Range.c) [])), (7, .arr 60 6 (List.map Reading.c [])), (8, .arr 136 3 (List.map heat_limit.c [])), (9, .arr 136 3 (List.map heat_limit.c [])), (10, .box [.sl 1 (List.map (eL 2 Range.c) x6.1.Firing.Kiln.Falls), .sl 6 (List.map Reading.c x6.1.Firing.Readings), .sl 3 (List.map heat_limit.c x6.1.least), .sl 3 (List.map heat_limit.c x6.1.most)]), (11, .box [.sl 1 (List.map (eL 2 Range.c) s8.Firing.Kiln.Falls), .sl 6 (List.map Reading.c s8.Firing.Readings), .sl 3 (List.map heat_limit.c s8.least), .sl 3 (List.map heat_limit.c s8.most)])], [], 12, Try.f74.ntmps⟩
noncomputable def heat_wanted.x0 (x6 : heat_furnace × Int) : heat_furnace → St := fun (s10 : heat_furnace) => ⟨[(4, .ptr 0 0 0), (5, .ptr 0 5 0), (8, .ptr 0 10 0), (10, .ptr 0 11 0)], [(0, .box [.loc 0 1 1 0 0 0, .loc 0 2 6 0 0 0, .loc 0 3 3 0 0 0, .loc 0 4 3 0 0 0]), (1, .arr 40 1 (List.map (eL 2 Range.c) [])), (2, .arr 60 6 (List.map Reading.c [])), (3, .arr 136 3 (List.map heat_limit.c [])), (4, .arr 136 3 (List.map heat_limit.c [])), (5, .box [.loc 0 6 1 0 0 0, .loc 0 7 6 0 0 0, .loc 0 8 3 0 0 0, .loc 0 9 3 0 0 0]), (6, .arr 40 1 (List.map (eL 2 Range.c) [])), (7, .arr 60 6 (List.map Reading.c [])), (8, .arr 136 3 (List.map heat_limit.c [])), (9, .arr 136 3 (List.map heat_limit.c [])), (10, .box [.sl 1 (List.map (eL 2 Range.c) x6.1.Firing.Kiln.Falls), .sl 6 (List.map Reading.c x6.1.Firing.Readings), .sl 3 (List.map heat_limit.c x6.1.least), .sl 3 (List.map heat_limit.c x6.1.most)]), (11, .box [.sl 1 (List.map (eL 2 Range.c) s10.Firing.Kiln.Falls), .sl 6 (List.map Reading.c s10.Firing.Readings), .sl 3 (List.map heat_limit.c s10.least), .sl 3 (List.map heat_limit.c s10.most)])], [], 12, Try.f74.ntmps⟩
def heat_wanted (k : Nat) (f0 : Firing) (l1 : (List Want)) : Option (heat_furnace × heat_furnace × Int) :=
 (heat_Check k f0).bind fun x1 =>
 bif (!decide (x1 = (0 : Int))) then
  some ((⟨(⟨(⟨[]⟩ : Kiln), []⟩ : Firing), [], []⟩ : heat_furnace), (⟨(⟨(⟨[]⟩ : Kiln), []⟩ : Firing), [], []⟩ : heat_furnace), 42)
 else
  bif (!decide ((24 : Int) < (l1.length : Int))) then
   (slices_ContainsFunc_api_Want k l1 (fun q0 => heat_wanted_2 k q0 (fun q0 => heat_wanted_1 k q0 f0))).bind fun x4 =>
   bif x4 then
    some ((⟨(⟨(⟨[]⟩ : Kiln), []⟩ : Firing), [], []⟩ : heat_furnace), (⟨(⟨(⟨[]⟩ : Kiln), []⟩ : Firing), [], []⟩ : heat_furnace), 49)
   else
    (heat_asks k f0 0).bind fun x6 =>
    bif (!decide (x6.2 = (0 : Int))) then
     some ((⟨(⟨(⟨[]⟩ : Kiln), []⟩ : Firing), [], []⟩ : heat_furnace), (⟨(⟨(⟨[]⟩ : Kiln), []⟩ : Firing), [], []⟩ : heat_furnace), x6.2)
    else
     (whl (heat_wanted.b0 k l1) k (x6.1, 0)).bind fun r14 => match r14 with
     | .next _ => none
     | .ret v_ => some v_
     | .brk s10 =>
      some (x6.1, s10, 0)
  else
   some ((⟨(⟨(⟨[]⟩ : Kiln), []⟩ : Firing), [], []⟩ : heat_furnace), (⟨(⟨(⟨[]⟩ : Kiln), []⟩ : Firing), [], []⟩ : heat_furnace), 49)
theorem heat_wanted_ok (k : Nat) (f0 : Firing) (l1 : (List Want)) (r : heat_furnace × heat_furnace × Int) (h0 : heat_wanted k f0 l1 = some r) : PCall Try.prog 74 [.agg (Firing.c f0), .sl 3 (List.map Want.c l1)] (fun y => y = .tup [.agg (heat_furnace.c r.1), .agg (heat_furnace.c r.2.1), .int .i64 r.2.2]) := by
 refine PB (fn := Try.f74) (sc := F74.c) ?_
 refine rS ?_
 simp only [heat_wanted] at h0
 try simp only [F74.c, go_sem]
 obtain ⟨x1, yx1, h0⟩ := bs h0
 refine zc0 (heat_Check_ok k _ _ yx1) ?_ (by first | rfl | simp [AV.refsL, AV.refs, AV.scal, AV.leaf]) ?_
 try simp only [go_sem]
 try simp only [go_sem]
 refine AKev_bif h0 ?_ ?_ <;> intro c2 h0
 have c2 := bnot_t c2
 try simp only [c2, go_sem]
 obtain rfl := Option.some.inj h0
 refine AKev_ret rfl ?_
 try simp only [F74.rs, c2, go_sem]
 have c2 := bnot_f c2
 try simp only [c2, go_sem]
 refine AKev_bif h0 ?_ ?_ <;> intro c3 h0
 have c3 := bnot_t c3
 try simp only [c3, c2, go_sem]
 obtain ⟨x4, yx4, h0⟩ := bs h0
 refine zcL (slices_ContainsFunc_api_Want_ok k _ 104 [.rptr 1 [[.fn (.func 102) [] [.rptr 2 [Firing.c f0] 0 0]]] 0 0] ⟨fun _ => rfl, fun _ => rfl, fun _ _ => rfl, rfl, fun _ => rfl, fun _ => rfl, fun _ => rfl⟩ (fun q0 => heat_wanted_2 k q0 (fun q0 => heat_wanted_1 k q0 f0)) (fun q0 qr qh => heat_wanted_2_ok k q0 102 [.rptr 2 [Firing.c f0] 0 0] ⟨fun _ => rfl, fun _ => rfl, fun _ _ => rfl, rfl, fun _ => rfl, fun _ => rfl, fun _ => rfl⟩ (fun q0 => heat_wanted_1 k q0 f0) (fun q0 qr qh => heat_wanted_1_ok k q0 _ qr qh) qr qh) _ yx4) ?_ (by first | rfl | simp [AV.refsL, AV.refs, AV.scal, AV.leaf]) ?_
 try simp only [c2, c3, go_sem]
 try simp only [c2, c3, go_sem]
 refine AKev_bif h0 ?_ ?_ <;> intro c5 h0
 try simp only [c5, c2, c3, go_sem]
 obtain rfl := Option.some.inj h0
 refine AKev_ret rfl ?_
 try simp only [F74.rs, c2, c3, c5, go_sem]
 try simp only [c5, c2, c3, go_sem]
 obtain ⟨x6, yx6, h0⟩ := bs h0
 refine zc0 (heat_asks_ok k _ _ _ yx6) ?_ (by first | rfl | simp [AV.refsL, AV.refs, AV.scal, AV.leaf]) ?_
 try simp only [c2, c3, c5, go_sem]
 try simp only [c2, c3, c5, go_sem]
 refine AKev_bif h0 ?_ ?_ <;> intro c7 h0
 have c7 := bnot_t c7
 try simp only [c7, c2, c3, c5, go_sem]
 obtain rfl := Option.some.inj h0
 refine AKev_ret rfl ?_
 try simp only [F74.rs, c2, c3, c5, c7, go_sem]
 have c7 := bnot_f c7
 try simp only [c7, c2, c3, c5, go_sem]
 obtain ⟨r14, yr14, h0⟩ := bs h0
 refine AKev_loopS yr14 (heat_wanted.h0 l1 x6) (heat_wanted.x0 x6) ?_ ?_ ?_
 refine Weak.go [4, 5, 8, 10, 40, 41, 42] [16, 17, 18, 19, 20, 32, 33, 34, 35, 36, 368, 464] rfl ?_
 try simp only [heat_wanted.h0, c2, c3, c5, c7, go_sem]
 rintro ⟨s8, i9⟩ x_1 Bk1 Br1 h1 hnext1 hbrk1 hret1
 refine rS ?_
 simp only [heat_wanted.b0] at h1
 try simp only [F74.s0, heat_wanted.h0, c2, c3, c5, c7, go_sem]
 refine AKev_bif h1 ?_ ?_ <;> intro c11 h1
 try simp only [c11, c2, c3, c5, c7, go_sem]
 obtain ⟨x12, yx12, h1⟩ := bs h1
 try simp only [aa yx12, c2, c3, c5, c7, c11, go_sem]
 obtain ⟨x13, yx13, h1⟩ := bs h1
 refine zc0 (heat_furnace_asked_ok k _ _ _ _ yx13) ?_ (by first | rfl | simp [AV.refsL, AV.refs, AV.scal, AV.leaf]) ?_
 try simp only [c2, c3, c5, c7, c11, aa yx12, go_sem]
 try simp only [c2, c3, c5, c7, c11, aa yx12, go_sem]
 refine AKev_backB (hnext1 _ _ (Option.some.inj h1).symm ?_)
 refine Weak.go [4, 5, 8, 10, 40, 41, 42] [0, 1, 2, 3, 4, 5, 6, 7, 8, 9, 10, 11] rfl ?_
 try simp only [heat_wanted.h0, c2, c3, c5, c7, c11, aa yx12, go_sem]
 try simp only [c11, c2, c3, c5, c7, go_sem]
 refine AKev_backB (hbrk1 _ _ (Option.some.inj h1).symm ?_)
 refine Weak.go [4, 5, 8, 10] [0, 1, 2, 3, 4, 5, 6, 7, 8, 9, 10, 11] rfl ?_
 try simp only [heat_wanted.x0, c2, c3, c5, c7, c11, go_sem]
 rintro s10 hr_
 subst hr_
 simp only at h0
 refine rS ?_
 try simp only [heat_wanted.x0, c2, c3, c5, c7, go_sem]
 refine AKev_region T_ok follows_ok 1000 ?_
 try simp only [c2, c3, c5, c7, go_sem]
 refine DG_done ⟨calm_of (by simp only [skel, List.reverse_cons, List.reverse_nil, List.nil_append, List.cons_append, List.map_cons, List.map_nil, List.append_nil]; rfl) (by first | decide +kernel | rfl), run_sound T_ok 1000 _ _ ?_⟩
 try simp only [c2, c3, c5, c7, go_sem]
 obtain rfl := Option.some.inj h0
 refine AKev_ret rfl ?_
 try simp only [F74.rs, c2, c3, c5, c7, go_sem]
 have c3 := bnot_f c3
 try simp only [c3, c2, go_sem]
 obtain rfl := Option.some.inj h0
 refine AKev_ret rfl ?_
 try simp only [F74.rs, c2, c3, go_sem]
def F33.s0 : SC :=
 (.seq
 (.reg [b2 28 .lss 3 27 26 3 0 []])
 (.seq
 (.cond (.tmp 28)
 .skip
 (.exit 0))
 (.seq
 (.block 1
 (.seq
 (.reg [ia 29 80 25 27 [],
 ld 30 79 29 [29],
 oq 10 (.alloc 79) 0 [],
 ⟨none, .store 79 (.tmp 10) (.tmp 30), 0, none, [30]⟩])
 (.seq
 (.reg [ld 31 94 6 [],
 fa 32 79 10 0 [],
 ld 33 3 32 [32],
 cf2 34 37 31 33 94 3 39 [31, 33],
 oq 11 (.alloc 39) 0 [],
 ⟨none, .store 39 (.tmp 11) (.tmp 34), 0, none, [34]⟩])
 (.seq
 (.reg [fa 35 39 11 0 [],
 ld 36 3 35 [35],
 fa 37 79 10 1 [],
 fa 38 39 37 0 [37],
 ld 39 3 38 [38],
 b2 40 .lss 3 36 39 3 4 [36, 39],
 mv 41 40 4 [40],
 og 42 (.fieldAddr 39 (.tmp 11) 1) 0 41 false [11],
 og 43 (.load 3 (.tmp 42)) 3 41 false [42],
 og 44 (.fieldAddr 79 (.tmp 10) 1) 0 41 false [10],
 og 45 (.fieldAddr 39 (.tmp 44) 1) 0 41 false [44],
 og 46 (.load 3 (.tmp 45)) 3 41 false [45],
 og 47 (.binOp .gtr 3 (.tmp 43) (.tmp 46) 3) 4 41 false [43, 46],
 oq 48 (.pick (.tmp 41) (.const (.bool true)) (.tmp 47)) 4 [41, 47]])
 (.cond (.tmp 48)
 (.seq
 (.reg [sn 4 2 3 [],
 sn 5 0 43 []])
 .ret)
 .skip)))))
 (.reg [bn 49 .add 3 27 1 3 3 [27],
 mv 27 49 3 [49]]))))
def F33.c : SC :=
 (.seq
 (.reg [oq 2 (.box 32 (.tmp 0)) 0 [0],
 sn 4 0 3 [4],
 sn 5 0 43 [5]])
 (.seq
 (.reg [ld 13 32 2 [2],
 mv 14 1 80 [],
 cf2 15 74 13 14 32 80 130 [13, 14],
 mv 12 15 130 [15],
 xt 16 12 0 94 [],
 xt 17 12 1 94 [],
 xt 18 12 2 43 [12],
 oq 6 (.alloc 94) 0 [],
 oq 7 (.alloc 94) 0 [],
 ⟨none, .store 94 (.tmp 6) (.tmp 16), 0, none, [16]⟩,
 ⟨none, .store 94 (.tmp 7) (.tmp 17), 0, none, [17]⟩,
 sg 8 18 43 [18]])
 (.seq
 (.seq
 (.reg [mv 19 8 43 [],
 bn 20 .neq 43 19 0 43 4 [19]])
 (.cond (.tmp 20)
 (.seq
 (.reg [mv 21 8 43 [8],
 sn 4 0 3 [],
 sg 5 21 43 [21]])
 .ret)
 .skip))
 (.seq
 (.seq
 (.reg [ld 22 94 7 [7],
 cf1 23 56 22 94 4 [22],
 oq 24 (.unOp .not 4 (.tmp 23)) 4 [23]])
 (.cond (.tmp 24)
 (.seq
 (.reg [sn 4 0 3 [],
 sn 5 0 43 []])
 .ret)
 .skip))
 (.seq
 (.seq
 (.reg [mv 25 1 80 [1],
 ln 26 25 80 3 [],
 oq 27 (.move (.const (.int .i64 0))) 3 []])
 (.block 0
 (.loop F33.s0)))
 (.seq
 (.reg [sn 4 1 3 [],
 sn 5 0 43 []])
 .ret))))))
theorem F33.rs : Try.f33.results.toList = [.tmp 4, .tmp 5] := rfl
def heat_Together.b0 (k : Nat) (l1 : (List Want)) (x1 : heat_furnace × heat_furnace × Int) : Int → Option (Stp (Int) (Unit) (Int × Int)) := fun (i5 : Int) =>
 bif decide (i5 < (l1.length : Int)) then
  (at? l1 i5).bind fun x7 =>
  (heat_furnace_bound k x1.1 x7.Place).bind fun x8 =>
  bif (!decide (x8.Lo < x7.Heat.Lo)) then
   bif decide (x7.Heat.Hi < x8.Hi) then
    some (.ret (2, 0))
   else
    some (.next (w64 (i5 + 1)))
  else
   some (.ret (2, 0))
 else
  some (.brk ())
noncomputable def heat_Together.h0 (l1 : (List Want)) (x1 : heat_furnace × heat_furnace × Int) : Int → St := fun (i5 : Int) => ⟨[(6, .ptr 0 0 0), (25, .sl 3 (List.map Want.c l1)), (26, .int .i64 (l1.length : Int)), (27, .int .i64 i5)], [(0, .box [.sl 1 (List.map (eL 2 Range.c) x1.1.Firing.Kiln.Falls), .sl 6 (List.map Reading.c x1.1.Firing.Readings), .sl 3 (List.map heat_limit.c x1.1.least), .sl 3 (List.map heat_limit.c x1.1.most)])], [], 1, Try.f33.ntmps⟩
noncomputable def heat_Together.x0 : Unit → St := fun (_ : Unit) => ⟨[], [], [], 1, Try.f33.ntmps⟩
def heat_Together (k : Nat) (f0 : Firing) (l1 : (List Want)) : Option (Int × Int) :=
 (heat_wanted k f0 l1).bind fun x1 =>
 bif (!decide (x1.2.2 = (0 : Int))) then
  some (0, x1.2.2)
 else
  (heat_furnace_sound k x1.2.1).bind fun x3 =>
  bif (!x3) then
   some (0, 0)
  else
   (whl (heat_Together.b0 k l1 x1) k 0).bind fun r11 => match r11 with
   | .next _ => none
   | .ret v_ => some v_
   | .brk _ =>
    some (1, 0)
theorem heat_Together_ok (k : Nat) (f0 : Firing) (l1 : (List Want)) (r : Int × Int) (h0 : heat_Together k f0 l1 = some r) : PCall Try.prog 33 [.agg (Firing.c f0), .sl 3 (List.map Want.c l1)] (fun y => y = .tup [.int .i64 r.1, .int .i64 r.2]) := by
 refine PB (fn := Try.f33) (sc := F33.c) ?_
 refine rS ?_
 simp only [heat_Together] at h0
 try simp only [F33.c, go_sem]
 obtain ⟨x1, yx1, h0⟩ := bs h0
 refine zc0 (heat_wanted_ok k _ _ _ yx1) ?_ (by first | rfl | simp [AV.refsL, AV.refs, AV.scal, AV.leaf]) ?_
 try simp only [go_sem]
 try simp only [go_sem]
 refine AKev_bif h0 ?_ ?_ <;> intro c2 h0
 have c2 := bnot_t c2
 try simp only [c2, go_sem]
 obtain rfl := Option.some.inj h0
 refine AKev_ret rfl ?_
 try simp only [F33.rs, c2, go_sem]
 have c2 := bnot_f c2
 try simp only [c2, go_sem]
 obtain ⟨x3, yx3, h0⟩ := bs h0
 refine zc0 (heat_furnace_sound_ok k _ _ yx3) ?_ (by first | rfl | simp [AV.refsL, AV.refs, AV.scal, AV.leaf]) ?_
 try simp only [c2, go_sem]
 try simp only [c2, go_sem]
 refine AKev_bif h0 ?_ ?_ <;> intro c4 h0
 have c4 := bnot_t c4
 try simp only [c4, c2, go_sem]
 obtain rfl := Option.some.inj h0
 refine AKev_ret rfl ?_
 try simp only [F33.rs, c2, c4, go_sem]
 have c4 := bnot_f c4
 try simp only [c4, c2, go_sem]
 obtain ⟨r11, yr11, h0⟩ := bs h0
 refine AKev_loopS yr11 (heat_Together.h0 l1 x1) (heat_Together.x0) ?_ ?_ ?_
 refine Weak.go [6, 25, 26, 27] [160] rfl ?_
 try simp only [heat_Together.h0, c2, c4, go_sem]
 rintro i5 x_1 Bk1 Br1 h1 hnext1 hbrk1 hret1
 refine rS ?_
 simp only [heat_Together.b0] at h1
 try simp only [F33.s0, heat_Together.h0, c2, c4, go_sem]
 refine AKev_bif h1 ?_ ?_ <;> intro c6 h1
 try simp only [c6, c2, c4, go_sem]
 obtain ⟨x7, yx7, h1⟩ := bs h1
 try simp only [aa yx7, c2, c4, c6, go_sem]
 obtain ⟨x8, yx8, h1⟩ := bs h1
 refine zc0 (heat_furnace_bound_ok k _ _ _ yx8) ?_ (by first | rfl | simp [AV.refsL, AV.refs, AV.scal, AV.leaf]) ?_
 try simp only [c2, c4, c6, aa yx7, go_sem]
 try simp only [c2, c4, c6, aa yx7, go_sem]
 refine AKev_bif h1 ?_ ?_ <;> intro c9 h1
 have c9 := bnot_t c9
 try simp only [c9, c2, c4, c6, aa yx7, go_sem]
 refine AKev_bif h1 ?_ ?_ <;> intro c10 h1
 try simp only [c10, c2, c4, c6, aa yx7, c9, go_sem]
 obtain rfl := hret1 _ (Option.some.inj h1).symm
 simp only at h0
 obtain rfl := Option.some.inj h0
 refine AKev_ret rfl ?_
 try simp only [F33.rs, c2, c4, c6, aa yx7, c9, c10, go_sem]
 try simp only [c10, c2, c4, c6, aa yx7, c9, go_sem]
 refine AKev_backB (hnext1 _ _ (Option.some.inj h1).symm ?_)
 refine Weak.go [6, 25, 26, 27] [0] rfl ?_
 try simp only [heat_Together.h0, c2, c4, c6, aa yx7, c9, c10, go_sem]
 have c9 := bnot_f c9
 try simp only [c9, c2, c4, c6, aa yx7, go_sem]
 obtain rfl := hret1 _ (Option.some.inj h1).symm
 simp only at h0
 obtain rfl := Option.some.inj h0
 refine AKev_ret rfl ?_
 try simp only [F33.rs, c2, c4, c6, aa yx7, c9, go_sem]
 try simp only [c6, c2, c4, go_sem]
 refine AKev_backB (hbrk1 _ _ (Option.some.inj h1).symm ?_)
 refine Weak.go [] [] rfl ?_
 try simp only [heat_Together.x0, c2, c4, c6, go_sem]
 rintro _ hr_
 subst hr_
 simp only at h0
 refine rS ?_
 try simp only [heat_Together.x0, c2, c4, go_sem]
 obtain rfl := Option.some.inj h0
 refine AKev_ret rfl ?_
 try simp only [F33.rs, c2, c4, go_sem]
def F32.c : SC :=
 (.seq
 (.reg [oq 3 (.box 32 (.tmp 0)) 0 [0],
 oq 5 (.box 39 (.tmp 2)) 0 [2],
 sn 6 0 3 [6],
 sn 7 0 43 [7]])
 (.seq
 (.block 0
 (.seq
 (.reg [ld 9 32 3 [],
 cf1 10 41 9 32 43 [9],
 bn 11 .neq 43 10 0 43 4 [10],
 sg 8 11 4 [11]])
 (.cond (.tmp 8)
 (.seq
 (.reg [sn 6 0 3 [],
 sn 7 42 43 []])
 .ret)
 (.seq
 (.reg [mv 13 1 3 [],
 fa 14 32 3 0 [],
 fa 15 29 14 0 [14],
 ld 16 27 15 [15],
 oq 17 (.indexAddr 27 (.tmp 16) (.const (.int .i64 0))) 0 [16],
 ld 18 40 17 [17],
 ln 19 18 40 3 [18],
 bn 20 .sub 3 19 1 3 3 [19],
 oq 21 (.call ⟨.value (.func 42), #[.tmp 13, .const (.int .i64 0), .tmp 20], #[3, 3, 3]⟩) 4 [13, 20],
 oq 22 (.unOp .not 4 (.tmp 21)) 4 [21],
 sg 12 22 4 [22]])
 (.cond (.tmp 12)
 (.seq
 (.reg [sn 6 0 3 [],
 sn 7 43 43 []])
 .ret)
 .skip)))))
 (.seq
 (.reg [ld 23 32 3 [3],
 mv 24 1 3 [1],
 ld 25 39 5 [5],
 oq 26 (.build 79 #[(0, .tmp 24), (1, .tmp 25)]) 79 [24, 25],
 oq 27 (.buildSlice 80 1 #[(0, .tmp 26)]) 80 [26],
 cf2 28 33 23 27 32 80 83 [23, 27],
 xt 29 28 0 3 [],
 xt 30 28 1 43 [28],
 sg 6 29 3 [29],
 sg 7 30 43 [30]])
 .ret)))
theorem F32.rs : Try.f32.results.toList = [.tmp 6, .tmp 7] := rfl
def heat_Verdict (k : Nat) (f0 : Firing) (place1 : Int) (want2 : Range) : Option (Int × Int) :=
 (heat_Check k f0).bind fun x1 =>
 bif (!decide (x1 = (0 : Int))) then
  some (0, 42)
 else
  (at? f0.Kiln.Falls 0).bind fun x3 =>
  (heat_in k place1 0 (w64 ((x3.length : Int) - 1))).bind fun x4 =>
  bif (!x4) then
   some (0, 43)
  else
   (heat_Together k f0 [(⟨place1, want2⟩ : Want)]).bind fun x6 =>
   some (x6.1, x6.2)
theorem heat_Verdict_ok (k : Nat) (f0 : Firing) (place1 : Int) (want2 : Range) (r : Int × Int) (h0 : heat_Verdict k f0 place1 want2 = some r) : PCall Try.prog 32 [.agg (Firing.c f0), .int .i64 place1, .agg (Range.c want2)] (fun y => y = .tup [.int .i64 r.1, .int .i64 r.2]) := by
 refine PB (fn := Try.f32) (sc := F32.c) ?_
 refine rS ?_
 simp only [heat_Verdict] at h0
 try simp only [F32.c, go_sem]
 obtain ⟨x1, yx1, h0⟩ := bs h0
 refine zc0 (heat_Check_ok k _ _ yx1) ?_ (by first | rfl | simp [AV.refsL, AV.refs, AV.scal, AV.leaf]) ?_
 try simp only [go_sem]
 try simp only [go_sem]
 refine AKev_bif h0 ?_ ?_ <;> intro c2 h0
 have c2 := bnot_t c2
 try simp only [c2, go_sem]
 obtain rfl := Option.some.inj h0
 refine AKev_ret rfl ?_
 try simp only [F32.rs, c2, go_sem]
 have c2 := bnot_f c2
 try simp only [c2, go_sem]
 obtain ⟨x3, yx3, h0⟩ := bs h0
 try simp only [aa yx3, c2, go_sem]
 obtain ⟨x4, yx4, h0⟩ := bs h0
 refine zc0 (heat_in_ok k _ _ _ _ yx4) ?_ (by first | rfl | simp [AV.refsL, AV.refs, AV.scal, AV.leaf]) ?_
 try simp only [c2, aa yx3, go_sem]
 try simp only [c2, aa yx3, go_sem]
 refine AKev_bif h0 ?_ ?_ <;> intro c5 h0
 have c5 := bnot_t c5
 try simp only [c5, c2, aa yx3, go_sem]
 obtain rfl := Option.some.inj h0
 refine AKev_ret rfl ?_
 try simp only [F32.rs, c2, aa yx3, c5, go_sem]
 have c5 := bnot_f c5
 try simp only [c5, c2, aa yx3, go_sem]
 obtain ⟨x6, yx6, h0⟩ := bs h0
 refine zc0 (heat_Together_ok k _ _ _ yx6) ?_ (by first | rfl | simp [AV.refsL, AV.refs, AV.scal, AV.leaf]) ?_
 try simp only [c2, aa yx3, c5, go_sem]
 try simp only [c2, aa yx3, c5, go_sem]
 obtain rfl := Option.some.inj h0
 refine AKev_ret rfl ?_
 try simp only [F32.rs, c2, aa yx3, c5, go_sem]
def F73.s1 : SC :=
 (.seq
 (.reg [b2 39 .lss 3 38 37 3 0 []])
 (.seq
 (.cond (.tmp 39)
 .skip
 (.exit 2))
 (.seq
 (.block 3
 (.seq
 (.reg [mv 40 38 3 [],
 ia 41 40 36 38 [],
 ld 42 39 41 [41],
 oq 10 (.alloc 39) 0 [],
 sg 9 40 3 [40],
 ⟨none, .store 39 (.tmp 10) (.tmp 42), 0, none, [42]⟩])
 (.seq
 (.reg [fa 43 39 10 0 [10],
 ld 44 3 43 [43],
 sg 11 44 3 [44]])
 (.seq
 (.seq
 (.reg [fa 46 94 1 2 [],
 ld 47 92 46 [46],
 mv 48 9 3 [9],
 oq 49 (.call ⟨.value (.func 89), #[.tmp 47, .tmp 48, .func 90], #[92, 3, 147]⟩) 137 [47, 48],
 mv 45 49 137 [49],
 xt 50 45 0 136 [],
 xt 51 45 1 4 [45],
 oq 12 (.alloc 136) 0 [],
 ⟨none, .store 136 (.tmp 12) (.tmp 50), 0, none, [50]⟩,
 sg 13 51 4 [51]])
 (.seq
 (.reg [mv 52 13 4 [13]])
 (.cond (.tmp 52)
 (.reg [mv 53 11 3 [11],
 mv 54 6 3 [],
 fa 55 136 12 1 [12],
 ld 56 3 55 [55],
 b2 57 .sub 3 54 56 3 3 [54, 56],
 oq 58 (.call ⟨.builtin .max, #[.tmp 53, .tmp 57], #[3, 3]⟩) 3 [53, 57],
 sg 11 58 3 [58]])
 .skip)))
 (.reg [mv 59 8 23 [8],
 mv 60 11 3 [11],
 oq 61 (.buildSlice 23 1 #[(0, .tmp 60)]) 23 [60],
 oq 62 (.call ⟨.builtin .append, #[.tmp 59, .tmp 61], #[23, 23]⟩) 23 [59, 61],
 sg 8 62 23 [62]])))))
 (.reg [bn 63 .add 3 38 1 3 3 [38],
 mv 38 63 3 [63]]))))
def F73.s0 : SC :=
 (.seq
 (.reg [b2 20 .lss 3 19 18 3 0 []])
 (.seq
 (.cond (.tmp 20)
 .skip
 (.exit 0))
 (.seq
 (.block 1
 (.seq
 (.reg [mv 21 19 3 [],
 ia 22 27 17 19 [],
 ld 23 40 22 [22],
 sg 4 21 3 [21],
 sg 5 23 40 [23]])
 (.seq
 (.reg [ld 25 94 1 [],
 mv 26 4 3 [4],
 cf2 27 88 25 26 94 3 141 [25, 26],
 mv 24 27 141 [27],
 xt 28 24 0 3 [],
 xt 29 24 1 3 [24],
 sg 6 28 3 [28],
 sg 7 29 3 [7, 29]])
 (.seq
 (.reg [fa 30 35 3 0 [],
 ld 31 23 30 [30],
 mv 32 6 3 [],
 oq 33 (.buildSlice 23 1 #[(0, .tmp 32)]) 23 [32],
 oq 34 (.call ⟨.builtin .append, #[.tmp 31, .tmp 33], #[23, 23]⟩) 23 [31, 33],
 fa 35 35 3 0 [],
 ⟨none, .store 23 (.tmp 35) (.tmp 34), 0, none, [34, 35]⟩])
 (.seq
 (.reg [oq 8 (.assign (.const (.slice none 0 0))) 23 []])
 (.seq
 (.seq
 (.reg [mv 36 5 40 [5],
 ln 37 36 40 3 [],
 oq 38 (.move (.const (.int .i64 0))) 3 []])
 (.block 2
 (.loop F73.s1)))
 (.reg [fa 64 35 3 1 [],
 ld 65 33 64 [64],
 mv 66 8 23 [8],
 oq 67 (.buildSlice 33 1 #[(0, .tmp 66)]) 33 [66],
 oq 68 (.call ⟨.builtin .append, #[.tmp 65, .tmp 67], #[33, 33]⟩) 33 [65, 67],
 fa 69 35 3 1 [],
 ⟨none, .store 33 (.tmp 69) (.tmp 68), 0, none, [68, 69]⟩])))))))
 (.reg [bn 70 .add 3 19 1 3 3 [19],
 mv 19 70 3 [70]]))))
def F73.c : SC :=
 (.seq
 (.reg [oq 1 (.box 94 (.tmp 0)) 0 [0],
 oq 2 (.alloc 35) 0 []])
 (.seq
 (.reg [oq 3 (.alloc 35) 0 []])
 (.seq
 (.seq
 (.reg [fa 14 94 1 0 [],
 fa 15 32 14 0 [14],
 fa 16 29 15 0 [15],
 ld 17 27 16 [16],
 ln 18 17 27 3 [],
 oq 19 (.move (.const (.int .i64 0))) 3 []])
 (.block 0
 (.loop F73.s0)))
 (.seq
 (.reg [ld 71 35 3 [3],
 ⟨none, .store 35 (.tmp 2) (.tmp 71), 0, none, [71]⟩])
 .ret))))
theorem F73.rs : Try.f73.results.toList = [.cell 2 35] := rfl
def heat_furnace_greatest.b1 (k : Nat) (f0 : heat_furnace) (x7 : (List Range)) (x8 : Int × Int) : (Int × (List Int)) → Option (Stp (Int × (List Int)) ((List Int)) (Field)) := fun (s : Int × (List Int)) => match s with
 | (i10, l11) =>
   bif decide (i10 < (x7.length : Int)) then
    (at? x7 i10).bind fun x14 =>
    (heat_best k f0.most i10 (fun q0 q1 => heat_less k q0 q1)).bind fun x15 =>
    bif x15.2 then
     (push? 8 l11 (max x14.Lo (w64 (x8.1 - x15.1.heat)))).bind fun l17 =>
     some (.next (w64 (i10 + 1), l17))
    else
     (push? 8 l11 x14.Lo).bind fun l18 =>
     some (.next (w64 (i10 + 1), l18))
   else
    some (.brk l11)
def heat_furnace_greatest.b0 (k : Nat) (f0 : heat_furnace) : (Int × (List Int) × (List (List Int))) → Option (Stp (Int × (List Int) × (List (List Int))) ((List Int) × (List (List Int))) (Field)) := fun (s : Int × (List Int) × (List (List Int))) => match s with
 | (i1, l2, l3) =>
   bif decide (i1 < (f0.Firing.Kiln.Falls.length : Int)) then
    (at? f0.Firing.Kiln.Falls i1).bind fun x7 =>
    (heat_furnace_hottest k f0 i1).bind fun x8 =>
    (push? 8 l2 x8.1).bind fun l9 =>
    (whl (heat_furnace_greatest.b1 k f0 x7 x8) k (0, [])).bind fun r19 => match r19 with
    | .next _ => none
    | .ret v_ => some (.ret v_)
    | .brk l12 =>
     (push? 24 l3 l12).bind fun l20 =>
     some (.next (w64 (i1 + 1), l9, l20))
   else
    some (.brk (l2, l3))
noncomputable def heat_furnace_greatest.h1 (f0 : heat_furnace) (i1 : Int) (l2 : (List Int)) (l3 : (List (List Int))) (x7 : (List Range)) (x8 : Int × Int) (l9 : List Int) : (Int × (List Int)) → St := fun (s : Int × (List Int)) => match s with
 | (i10, l11) => ⟨[(1, .ptr 0 0 0), (2, .ptr 0 1 0), (3, .ptr 0 4 0), (6, .int .i64 x8.1), (8, .loc 0 7 1 0 l11.length l11.length), (17, .sl 1 (List.map (eL 2 Range.c) f0.Firing.Kiln.Falls)), (18, .int .i64 (f0.Firing.Kiln.Falls.length : Int)), (19, .int .i64 i1), (36, .sl 2 (List.map Range.c x7)), (37, .int .i64 (x7.length : Int)), (38, .int .i64 i10)], [(0, .box [.sl 1 (List.map (eL 2 Range.c) f0.Firing.Kiln.Falls), .sl 6 (List.map Reading.c f0.Firing.Readings), .sl 3 (List.map heat_limit.c f0.least), .sl 3 (List.map heat_limit.c f0.most)]), (1, .box [.loc 0 2 1 0 0 0, .loc 0 3 1 0 0 0]), (2, .arr 3 1 (List.map eI [])), (3, .arr 23 1 (List.map (eL 1 eI) [])), (4, .box [.loc 0 5 1 0 (l2.length + 1) (l2.length + 1), .loc 0 6 1 0 l3.length l3.length]), (5, .arr 3 1 (List.map eI l9)), (6, .arr 23 1 (List.map (eL 1 eI) l3)), (7, .arr 3 1 (List.map eI l11))], [], 8, Try.f73.ntmps⟩
noncomputable def heat_furnace_greatest.x1 (f0 : heat_furnace) (i1 : Int) (l2 : (List Int)) (l3 : (List (List Int))) (l9 : List Int) : (List Int) → St := fun (l12 : (List Int)) => ⟨[(1, .ptr 0 0 0), (2, .ptr 0 1 0), (3, .ptr 0 4 0), (8, .loc 0 7 1 0 l12.length l12.length), (17, .sl 1 (List.map (eL 2 Range.c) f0.Firing.Kiln.Falls)), (18, .int .i64 (f0.Firing.Kiln.Falls.length : Int)), (19, .int .i64 i1)], [(0, .box [.sl 1 (List.map (eL 2 Range.c) f0.Firing.Kiln.Falls), .sl 6 (List.map Reading.c f0.Firing.Readings), .sl 3 (List.map heat_limit.c f0.least), .sl 3 (List.map heat_limit.c f0.most)]), (1, .box [.loc 0 2 1 0 0 0, .loc 0 3 1 0 0 0]), (2, .arr 3 1 (List.map eI [])), (3, .arr 23 1 (List.map (eL 1 eI) [])), (4, .box [.loc 0 5 1 0 (l2.length + 1) (l2.length + 1), .loc 0 6 1 0 l3.length l3.length]), (5, .arr 3 1 (List.map eI l9)), (6, .arr 23 1 (List.map (eL 1 eI) l3)), (7, .arr 3 1 (List.map eI l12))], [], 8, Try.f73.ntmps⟩
noncomputable def heat_furnace_greatest.h0 (f0 : heat_furnace) : (Int × (List Int) × (List (List Int))) → St := fun (s : Int × (List Int) × (List (List Int))) => match s with
 | (i1, l2, l3) => ⟨[(1, .ptr 0 0 0), (2, .ptr 0 1 0), (3, .ptr 0 4 0), (17, .sl 1 (List.map (eL 2 Range.c) f0.Firing.Kiln.Falls)), (18, .int .i64 (f0.Firing.Kiln.Falls.length : Int)), (19, .int .i64 i1)], [(0, .box [.sl 1 (List.map (eL 2 Range.c) f0.Firing.Kiln.Falls), .sl 6 (List.map Reading.c f0.Firing.Readings), .sl 3 (List.map heat_limit.c f0.least), .sl 3 (List.map heat_limit.c f0.most)]), (1, .box [.loc 0 2 1 0 0 0, .loc 0 3 1 0 0 0]), (2, .arr 3 1 (List.map eI [])), (3, .arr 23 1 (List.map (eL 1 eI) [])), (4, .box [.loc 0 5 1 0 l2.length l2.length, .loc 0 6 1 0 l3.length l3.length]), (5, .arr 3 1 (List.map eI l2)), (6, .arr 23 1 (List.map (eL 1 eI) l3))], [], 7, Try.f73.ntmps⟩
noncomputable def heat_furnace_greatest.x0 : ((List Int) × (List (List Int))) → St := fun (s : (List Int) × (List (List Int))) => match s with
 | (l4, l5) => ⟨[(2, .ptr 0 0 0), (3, .ptr 0 3 0)], [(0, .box [.loc 0 1 1 0 0 0, .loc 0 2 1 0 0 0]), (1, .arr 3 1 (List.map eI [])), (2, .arr 23 1 (List.map (eL 1 eI) [])), (3, .box [.loc 0 4 1 0 l4.length l4.length, .loc 0 5 1 0 l5.length l5.length]), (4, .arr 3 1 (List.map eI l4)), (5, .arr 23 1 (List.map (eL 1 eI) l5))], [], 6, Try.f73.ntmps⟩
def heat_furnace_greatest (k : Nat) (f0 : heat_furnace) : Option (Field) :=
 (whl (heat_furnace_greatest.b0 k f0) k (0, [], [])).bind fun r21 => match r21 with
 | .next _ => none
 | .ret v_ => some v_
 | .brk (l4, l5) =>
  some (⟨l4, l5⟩ : Field)
theorem heat_furnace_greatest_ok (k : Nat) (f0 : heat_furnace) (r : Field) (h0 : heat_furnace_greatest k f0 = some r) : PCall Try.prog 73 [.agg (heat_furnace.c f0)] (fun y => y = .agg (Field.c r)) := by
 refine PB (fn := Try.f73) (sc := F73.c) ?_
 refine rS ?_
 simp only [heat_furnace_greatest] at h0
 try simp only [F73.c, go_sem]
 obtain ⟨r21, yr21, h0⟩ := bs h0
 refine AKev_loopS yr21 (heat_furnace_greatest.h0 f0) (heat_furnace_greatest.x0) ?_ ?_ ?_
 refine Weak.go [1, 2, 3, 17, 18, 19] [0, 16, 17, 18, 32, 33, 34] rfl ?_
 try simp only [heat_furnace_greatest.h0, go_sem]
 rintro ⟨i1, l2, l3⟩ x_1 Bk1 Br1 h1 hnext1 hbrk1 hret1
 refine rS ?_
 simp only [heat_furnace_greatest.b0] at h1
 try simp only [F73.s0, heat_furnace_greatest.h0, go_sem]
 refine AKev_bif h1 ?_ ?_ <;> intro c6 h1
 try simp only [c6, go_sem]
 obtain ⟨x7, yx7, h1⟩ := bs h1
 try simp only [aa yx7, c6, go_sem]
 obtain ⟨x8, yx8, h1⟩ := bs h1
 refine zc0 (heat_furnace_hottest_ok k _ _ _ yx8) ?_ (by first | rfl | simp [AV.refsL, AV.refs, AV.scal, AV.leaf]) ?_
 try simp only [c6, aa yx7, go_sem]
 try simp only [c6, aa yx7, go_sem]
 obtain ⟨l9, yl9, h1⟩ := bs h1
 have eyl9 := push_map eI yl9
 have tyl9 := push_take eI yl9
 have nyl9 := push_len yl9
 have myl9 := push_room yl9
 try simp only [c6, aa yx7, go_sem] at eyl9 tyl9 nyl9 myl9
 try simp only [myl9, eyl9, c6, aa yx7, nyl9, tyl9, go_sem]
 obtain ⟨r19, yr19, h1⟩ := bs h1
 refine AKev_loopS yr19 (heat_furnace_greatest.h1 f0 i1 l2 l3 x7 x8 l9) (heat_furnace_greatest.x1 f0 i1 l2 l3 l9) ?_ ?_ ?_
 refine Weak.go [1, 2, 3, 6, 8, 17, 18, 19, 36, 37, 38] [0, 1, 2, 3, 4, 5, 6, 343] rfl ?_
 try simp only [heat_furnace_greatest.h1, c6, aa yx7, eyl9, nyl9, tyl9, go_sem]
 rintro ⟨i10, l11⟩ x_2 Bk2 Br2 h2 hnext2 hbrk2 hret2
 refine rS ?_
 simp only [heat_furnace_greatest.b1] at h2
 try simp only [F73.s1, heat_furnace_greatest.h1, c6, aa yx7, eyl9, nyl9, tyl9, go_sem]
 refine AKev_bif h2 ?_ ?_ <;> intro c13 h2
 try simp only [c13, c6, aa yx7, eyl9, nyl9, tyl9, go_sem]
 obtain ⟨x14, yx14, h2⟩ := bs h2
 try simp only [aa yx14, c6, aa yx7, eyl9, nyl9, tyl9, c13, go_sem]
 obtain ⟨x15, yx15, h2⟩ := bs h2
 refine zc0 (heat_best_ok k _ _ 90 [] ⟨fun _ => rfl, fun _ => rfl, fun _ _ => rfl, rfl, fun _ => rfl, fun _ => rfl, fun _ => rfl⟩ (fun q0 q1 => heat_less k q0 q1) (fun q0 q1 qr qh => heat_less_ok k q0 q1 qr qh) _ yx15) ?_ (by first | rfl | simp [AV.refsL, AV.refs, AV.scal, AV.leaf]) ?_
 try simp only [c6, aa yx7, eyl9, nyl9, tyl9, c13, aa yx14, go_sem]
 try simp only [c6, aa yx7, eyl9, nyl9, tyl9, c13, aa yx14, go_sem]
 refine AKev_bif h2 ?_ ?_ <;> intro c16 h2
 try simp only [c16, c6, aa yx7, eyl9, nyl9, tyl9, c13, aa yx14, go_sem]
 obtain ⟨l17, yl17, h2⟩ := bs h2
 have eyl17 := push_map eI yl17
 have tyl17 := push_take eI yl17
 have nyl17 := push_len yl17
 have myl17 := push_room yl17
 try simp only [c6, aa yx7, eyl9, nyl9, tyl9, c13, aa yx14, c16, go_sem] at eyl17 tyl17 nyl17 myl17
 try simp only [myl17, eyl17, c6, aa yx7, eyl9, nyl9, tyl9, c13, aa yx14, c16, nyl17, tyl17, go_sem]
 refine AKev_backB (hnext2 _ _ (Option.some.inj h2).symm ?_)
 refine Weak.go [1, 2, 3, 6, 8, 17, 18, 19, 36, 37, 38] [0, 1, 2, 3, 4, 5, 6, 7] rfl ?_
 try simp only [heat_furnace_greatest.h1, c6, aa yx7, eyl9, nyl9, tyl9, c13, aa yx14, c16, eyl17, nyl17, tyl17, go_sem]
 try simp only [c16, c6, aa yx7, eyl9, nyl9, tyl9, c13, aa yx14, go_sem]
 obtain ⟨l18, yl18, h2⟩ := bs h2
 have eyl18 := push_map eI yl18
 have tyl18 := push_take eI yl18
 have nyl18 := push_len yl18
 have myl18 := push_room yl18
 try simp only [c6, aa yx7, eyl9, nyl9, tyl9, c13, aa yx14, c16, go_sem] at eyl18 tyl18 nyl18 myl18
 try simp only [myl18, eyl18, c6, aa yx7, eyl9, nyl9, tyl9, c13, aa yx14, c16, nyl18, tyl18, go_sem]
 refine AKev_backB (hnext2 _ _ (Option.some.inj h2).symm ?_)
 refine Weak.go [1, 2, 3, 6, 8, 17, 18, 19, 36, 37, 38] [0, 1, 2, 3, 4, 5, 6, 7] rfl ?_
 try simp only [heat_furnace_greatest.h1, c6, aa yx7, eyl9, nyl9, tyl9, c13, aa yx14, c16, eyl18, nyl18, tyl18, go_sem]
 try simp only [c13, c6, aa yx7, eyl9, nyl9, tyl9, go_sem]
 refine AKev_backB (hbrk2 _ _ (Option.some.inj h2).symm ?_)
 refine Weak.go [1, 2, 3, 8, 17, 18, 19] [0, 1, 2, 3, 4, 5, 6, 7] rfl ?_
 try simp only [heat_furnace_greatest.x1, c6, aa yx7, eyl9, nyl9, tyl9, c13, go_sem]
 rintro l12 hr_
 subst hr_
 simp only at h1
 refine rS ?_
 try simp only [heat_furnace_greatest.x1, c6, aa yx7, eyl9, nyl9, tyl9, go_sem]
 obtain ⟨l20, yl20, h1⟩ := bs h1
 have eyl20 := push_map (eL 1 eI) yl20
 have tyl20 := push_take (eL 1 eI) yl20
 have nyl20 := push_len yl20
 have myl20 := push_room yl20
 try simp only [c6, aa yx7, eyl9, nyl9, tyl9, go_sem] at eyl20 tyl20 nyl20 myl20
 try simp only [myl20, eyl20, c6, aa yx7, eyl9, nyl9, tyl9, nyl20, tyl20, go_sem]
 refine AKev_backB (hnext1 _ _ (Option.some.inj h1).symm ?_)
 refine Weak.go [1, 2, 3, 17, 18, 19] [0, 1, 2, 3, 4, 5, 6] rfl ?_
 try simp only [heat_furnace_greatest.h0, c6, aa yx7, eyl9, nyl9, tyl9, eyl20, nyl20, tyl20, go_sem]
 try simp only [c6, go_sem]
 refine AKev_backB (hbrk1 _ _ (Option.some.inj h1).symm ?_)
 refine Weak.go [2, 3] [1, 2, 3, 4, 5, 6] rfl ?_
 try simp only [heat_furnace_greatest.x0, c6, go_sem]
 rintro ⟨l4, l5⟩ hr_
 subst hr_
 simp only at h0
 refine rS ?_
 try simp only [heat_furnace_greatest.x0, go_sem]
 obtain rfl := Option.some.inj h0
 refine AKev_ret rfl ?_
 try simp only [F73.rs, go_sem]
def F38.c : SC :=
 (.seq
 (.reg [oq 1 (.box 32 (.tmp 0)) 0 [0],
 oq 2 (.assign (.const (.slice none 0 0))) 23 [2],
 sn 3 0 43 [3]])
 (.seq
 (.reg [ld 7 32 1 [1],
 oq 8 (.call ⟨.value (.func 36), #[.tmp 7, .const (.int .i64 0)], #[32, 3]⟩) 95 [7],
 mv 6 8 95 [8],
 xt 9 6 0 94 [],
 xt 10 6 1 43 [6],
 oq 4 (.alloc 94) 0 [],
 ⟨none, .store 94 (.tmp 4) (.tmp 9), 0, none, [9]⟩,
 sg 5 10 43 [10]])
 (.seq
 (.seq
 (.reg [mv 11 5 43 [],
 bn 12 .neq 43 11 0 43 4 [11]])
 (.cond (.tmp 12)
 (.seq
 (.reg [mv 13 5 43 [5],
 oq 2 (.assign (.const (.slice none 0 0))) 23 [],
 sg 3 13 43 [13]])
 .ret)
 .skip))
 (.seq
 (.reg [ld 14 94 4 [4],
 cf1 15 73 14 94 35 [14],
 oq 16 (.field 35 (.tmp 15) 0) 23 [15],
 sg 2 16 23 [16],
 sn 3 0 43 []])
 .ret))))
theorem F38.rs : Try.f38.results.toList = [.tmp 2, .tmp 3] := rfl
def heat_Hottest (k : Nat) (f0 : Firing) : Option ((List Int) × Int) :=
 (heat_asks k f0 0).bind fun x1 =>
 bif (!decide (x1.2 = (0 : Int))) then
  some ([], x1.2)
 else
  (heat_furnace_greatest k x1.1).bind fun x3 =>
  some (x3.Mouths, 0)
theorem heat_Hottest_ok (k : Nat) (f0 : Firing) (r : (List Int) × Int) (h0 : heat_Hottest k f0 = some r) : PCall Try.prog 38 [.agg (Firing.c f0)] (fun y => y = .tup [.sl 1 (List.map eI r.1), .int .i64 r.2]) := by
 refine PB (fn := Try.f38) (sc := F38.c) ?_
 refine rS ?_
 simp only [heat_Hottest] at h0
 try simp only [F38.c, go_sem]
 obtain ⟨x1, yx1, h0⟩ := bs h0
 refine zc0 (heat_asks_ok k _ _ _ yx1) ?_ (by first | rfl | simp [AV.refsL, AV.refs, AV.scal, AV.leaf]) ?_
 try simp only [go_sem]
 try simp only [go_sem]
 refine AKev_bif h0 ?_ ?_ <;> intro c2 h0
 have c2 := bnot_t c2
 try simp only [c2, go_sem]
 obtain rfl := Option.some.inj h0
 refine AKev_ret rfl ?_
 try simp only [F38.rs, c2, go_sem]
 have c2 := bnot_f c2
 try simp only [c2, go_sem]
 obtain ⟨x3, yx3, h0⟩ := bs h0
 refine zc0 (heat_furnace_greatest_ok k _ _ yx3) ?_ (by first | rfl | simp [AV.refsL, AV.refs, AV.scal, AV.leaf]) ?_
 try simp only [c2, go_sem]
 try simp only [c2, go_sem]
 obtain rfl := Option.some.inj h0
 refine AKev_ret rfl ?_
 try simp only [F38.rs, c2, go_sem]
def F40.c : SC :=
 (.seq
 (.reg [oq 0 (.alloc 29) 0 []])
 (.seq
 (.reg [oq 4 (.build 39 #[(0, .const (.int .i64 100)), (1, .const (.int .i64 200))]) 39 [],
 oq 1 (.alloc 39) 0 [],
 ⟨none, .store 39 (.tmp 1) (.tmp 4), 0, none, [4]⟩])
 (.seq
 (.reg [oq 5 (.build 39 #[(0, .const (.int .i64 300)), (1, .const (.int .i64 400))]) 39 [],
 oq 2 (.alloc 39) 0 [],
 ⟨none, .store 39 (.tmp 2) (.tmp 5), 0, none, [5]⟩])
 (.seq
 (.reg [oq 6 (.build 39 #[(0, .const (.int .i64 600)), (1, .const (.int .i64 800))]) 39 [],
 oq 3 (.alloc 39) 0 [],
 ⟨none, .store 39 (.tmp 3) (.tmp 6), 0, none, [6]⟩])
 (.seq
 (.reg [ld 7 39 1 [],
 ld 8 39 2 [],
 ld 9 39 3 [],
 oq 10 (.buildSlice 40 3 #[(0, .tmp 7), (1, .tmp 8), (2, .tmp 9)]) 40 [7, 8, 9],
 ld 11 39 3 [3],
 ld 12 39 2 [2],
 ld 13 39 1 [1],
 oq 14 (.buildSlice 40 3 #[(0, .tmp 11), (1, .tmp 12), (2, .tmp 13)]) 40 [11, 12, 13],
 oq 15 (.buildSlice 27 2 #[(0, .tmp 10), (1, .tmp 14)]) 27 [10, 14],
 oq 16 (.build 29 #[(0, .tmp 15)]) 29 [15],
 ⟨none, .store 29 (.tmp 0) (.tmp 16), 0, none, [16]⟩])
 .ret)))))
theorem F40.rs : Try.f40.results.toList = [.cell 0 29] := rfl
def L04_kiln (k : Nat) : Option (Kiln) :=
 some (⟨[[(⟨100, 200⟩ : Range), (⟨300, 400⟩ : Range), (⟨600, 800⟩ : Range)], [(⟨600, 800⟩ : Range), (⟨300, 400⟩ : Range), (⟨100, 200⟩ : Range)]]⟩ : Kiln)
theorem L04_kiln_ok (k : Nat) (r : Kiln) (h0 : L04_kiln k = some r) : PCall Try.prog 40 [] (fun y => y = .agg (Kiln.c r)) := by
 refine PB (fn := Try.f40) (sc := F40.c) ?_
 refine rS ?_
 simp only [L04_kiln] at h0
 try simp only [F40.c, go_sem]
 obtain rfl := Option.some.inj h0
 refine AKev_ret rfl ?_
 try simp only [F40.rs, go_sem]
def F39.c : SC :=
 (.seq
 (.reg [oq 0 (.alloc 32) 0 []])
 (.seq
 (.reg [oq 1 (.call ⟨.value (.func 40), #[], #[]⟩) 29 [],
 oq 2 (.build 60 #[(0, .const (.int .i64 1)), (2, .const (.int .i64 1)), (3, .const (.int .i64 1000))]) 60 [],
 oq 3 (.build 60 #[(0, .const (.int .i64 2)), (2, .const (.int .i64 2)), (3, .const (.int .i64 1101))]) 60 [],
 oq 4 (.build 60 #[(0, .const (.int .i64 3)), (1, .const (.int .i64 2)), (2, .const (.int .i64 2)), (3, .const (.int .i64 901))]) 60 [],
 oq 5 (.buildSlice 30 3 #[(0, .tmp 2), (1, .tmp 3), (2, .tmp 4)]) 30 [2, 3, 4],
 oq 6 (.build 32 #[(0, .tmp 1), (1, .tmp 5)]) 32 [1, 5],
 ⟨none, .store 32 (.tmp 0) (.tmp 6), 0, none, [6]⟩])
 .ret))
theorem F39.rs : Try.f39.results.toList = [.cell 0 32] := rfl
def L04_firing_o (k : Nat) : Option (Firing) :=
 (L04_kiln k).bind fun x1 =>
 some (⟨x1, [(⟨1, 0, 1, 1000, (⟨0, 0⟩ : Range)⟩ : Reading), (⟨2, 0, 2, 1101, (⟨0, 0⟩ : Range)⟩ : Reading), (⟨3, 2, 2, 901, (⟨0, 0⟩ : Range)⟩ : Reading)]⟩ : Firing)
theorem L04_firing_o_ok (k : Nat) (r : Firing) (h0 : L04_firing_o k = some r) : GCall Try.prog 39 [] [] (fun y fr => y = .agg [.sl 1 (List.map (eL 2 Range.c) r.Kiln.Falls), .loc 0 0 6 0 r.Readings.length r.Readings.length] ∧ fr = [(0, .arr 60 6 (List.map Reading.c r.Readings))]) := by
 refine GCall.of_body T_ok (f := 39) (fn := Try.f39) (sc := F39.c) (by rfl) (by rfl) (by decide +kernel) (by rfl) (by decide +kernel) (Nat.le_of_ble_eq_true rfl) (fun H => ?_)
 refine rS ?_
 simp only [L04_firing_o] at h0
 try simp only [F39.c, go_sem]
 obtain ⟨x1, yx1, h0⟩ := bs h0
 refine zc0 (L04_kiln_ok k _ yx1) ?_ (by first | rfl | simp [AV.refsL, AV.refs, AV.scal, AV.leaf]) ?_
 try simp only [go_sem]
 try simp only [go_sem]
 obtain rfl := Option.some.inj h0
 refine AKev_gown [96] (by simp) rfl rfl ?_
 try simp only [F39.rs, gwOK, tupOf, Option.bind_some, go_sem]
def F14.c : SC :=
 (.seq
 (.reg [sb 0 false 4 [0]])
 (.seq
 (.reg [oq 12 (.call ⟨.value (.func 39), #[], #[]⟩) 32 [],
 cf1 13 38 12 32 53 [12],
 mv 11 13 53 [13],
 xt 14 11 0 23 [],
 xt 15 11 1 43 [11],
 sg 1 14 23 [14],
 sg 2 15 43 [15]])
 (.seq
 (.reg [oq 17 (.call ⟨.value (.func 39), #[], #[]⟩) 32 [],
 oq 18 (.call ⟨.value (.func 13), #[.tmp 17, .const (.int .i64 1)], #[32, 3]⟩) 44 [17],
 mv 16 18 44 [18],
 xt 19 16 0 39 [],
 xt 20 16 1 43 [16],
 oq 3 (.alloc 39) 0 [],
 ⟨none, .store 39 (.tmp 3) (.tmp 19), 0, none, [19]⟩,
 sg 4 20 43 [20]])
 (.seq
 (.reg [oq 22 (.call ⟨.value (.func 39), #[], #[]⟩) 32 [],
 oq 23 (.build 39 #[(0, .const (.int .i64 900)), (1, .const (.int .i64 950))]) 39 [],
 oq 24 (.call ⟨.value (.func 32), #[.tmp 22, .const (.int .i64 1), .tmp 23], #[32, 3, 39]⟩) 83 [22, 23],
 mv 21 24 83 [24],
 xt 25 21 0 3 [],
 xt 26 21 1 43 [21],
 sg 5 25 3 [25],
 sg 6 26 43 [26]])
 (.seq
 (.reg [oq 28 (.call ⟨.value (.func 40), #[], #[]⟩) 29 [],
 oq 29 (.call ⟨.value (.func 39), #[], #[]⟩) 32 [],
 oq 30 (.field 32 (.tmp 29) 1) 30 [29],
 oq 31 (.build 60 #[(0, .const (.int .i64 4)), (1, .const (.int .i64 1)), (2, .const (.int .i64 2)), (3, .const (.int .i64 600))]) 60 [],
 oq 32 (.buildSlice 30 1 #[(0, .tmp 31)]) 30 [31],
 oq 33 (.call ⟨.builtin .append, #[.tmp 30, .tmp 32], #[30, 30]⟩) 30 [30, 32],
 oq 34 (.build 32 #[(0, .tmp 28), (1, .tmp 33)]) 32 [28, 33],
 cf1 35 22 34 32 53 [34],
 mv 27 35 53 [35],
 xt 36 27 0 23 [],
 xt 37 27 1 43 [27],
 sg 7 36 23 [36],
 sg 8 37 43 [37]])
 (.seq
 (.reg [oq 38 (.call ⟨.value (.func 39), #[], #[]⟩) 32 [],
 oq 39 (.buildSlice 23 2 #[(0, .const (.int .i64 (-1))), (1, .const (.int .i64 2))]) 23 [],
 oq 40 (.build 51 #[(0, .const (.int .i64 0)), (1, .tmp 39)]) 51 [39],
 oq 41 (.call ⟨.value (.func 17), #[.tmp 38, .const (.int .i64 1), .const (.bool false), .const (.int .i64 700), .tmp 40], #[32, 3, 4, 3, 51]⟩) 43 [38, 40],
 sg 9 41 43 [41]])
 (.seq
 (.reg [mv 42 2 43 [2],
 bn 43 .eql 43 42 0 43 4 [42],
 mv 44 43 4 [43],
 og 45 (.move (.tmp 4)) 43 44 true [4],
 og 46 (.binOp .eql 43 (.tmp 45) (.const (.int .i64 0)) 43) 4 44 true [45],
 oq 47 (.pick (.tmp 44) (.tmp 46) (.const (.bool false))) 4 [44, 46],
 mv 48 47 4 [47],
 og 49 (.move (.tmp 6)) 43 48 true [6],
 og 50 (.binOp .eql 43 (.tmp 49) (.const (.int .i64 0)) 43) 4 48 true [49],
 oq 51 (.pick (.tmp 48) (.tmp 50) (.const (.bool false))) 4 [48, 50],
 mv 52 51 4 [51],
 og 53 (.move (.tmp 8)) 43 52 true [8],
 og 54 (.binOp .eql 43 (.tmp 53) (.const (.int .i64 0)) 43) 4 52 true [53],
 oq 55 (.pick (.tmp 52) (.tmp 54) (.const (.bool false))) 4 [52, 54],
 mv 56 55 4 [55],
 og 57 (.move (.tmp 9)) 43 56 true [9],
 og 58 (.binOp .eql 43 (.tmp 57) (.const (.int .i64 0)) 43) 4 56 true [57],
 oq 59 (.pick (.tmp 56) (.tmp 58) (.const (.bool false))) 4 [56, 58],
 sg 10 59 4 [59]])
 (.seq
 (.reg [mv 60 10 4 [10],
 mv 61 60 4 [60],
 og 62 (.move (.tmp 1)) 23 61 true [1],
 og 63 (.buildSlice 23 2 #[(0, .const (.int .i64 1300)), (1, .const (.int .i64 1100))]) 23 61 true [],
 og 64 (.call ⟨.value (.func 19), #[.tmp 62, .tmp 63], #[23, 23]⟩) 4 61 true [62, 63],
 oq 65 (.pick (.tmp 61) (.tmp 64) (.const (.bool false))) 4 [61, 64],
 mv 66 65 4 [65],
 og 67 (.load 39 (.tmp 3)) 39 66 true [3],
 og 68 (.build 39 #[(0, .const (.int .i64 700)), (1, .const (.int .i64 1000))]) 39 66 true [],
 og 69 (.binOp .eql 39 (.tmp 67) (.tmp 68) 39) 4 66 true [67, 68],
 oq 70 (.pick (.tmp 66) (.tmp 69) (.const (.bool false))) 4 [66, 69],
 mv 71 70 4 [70],
 og 72 (.move (.tmp 5)) 3 71 true [5],
 og 73 (.binOp .eql 3 (.tmp 72) (.const (.int .i64 2)) 3) 4 71 true [72],
 oq 74 (.pick (.tmp 71) (.tmp 73) (.const (.bool false))) 4 [71, 73],
 mv 75 74 4 [74],
 og 76 (.move (.tmp 7)) 23 75 true [7],
 og 77 (.buildSlice 23 2 #[(0, .const (.int .i64 1)), (1, .const (.int .i64 4))]) 23 75 true [],
 og 78 (.call ⟨.value (.func 19), #[.tmp 76, .tmp 77], #[23, 23]⟩) 4 75 true [76, 77],
 oq 79 (.pick (.tmp 75) (.tmp 78) (.const (.bool false))) 4 [75, 78],
 sg 0 79 4 [79]])
 .ret))))))))
theorem F14.rs : Try.f14.results.toList = [.tmp 0] := rfl
def L04_sane (k : Nat) : Option (Bool) :=
 (L04_firing_o k).bind fun x2 =>
 (heat_Hottest k x2).bind fun x3 =>
 (L04_firing_o k).bind fun x5 =>
 (heat_Bound k x5 1).bind fun x6 =>
 (L04_firing_o k).bind fun x8 =>
 (heat_Verdict k x8 1 (⟨900, 950⟩ : Range)).bind fun x9 =>
 (L04_kiln k).bind fun x10 =>
 (L04_firing_o k).bind fun x12 =>
 (push? 48 x12.Readings (⟨4, 1, 2, 600, (⟨0, 0⟩ : Range)⟩ : Reading)).bind fun l13 =>
 (heat_Conflict k (⟨x10, l13⟩ : Firing)).bind fun x14 =>
 (L04_firing_o k).bind fun x16 =>
 (heat_CheckProof k x16 1 false 700 (⟨0, [-1, 2]⟩ : HeatProof)).bind fun x17 =>
 bif decide (x3.2 = (0 : Int)) then
  bif decide (x6.2 = (0 : Int)) then
   bif decide (x9.2 = (0 : Int)) then
    bif decide (x14.2 = (0 : Int)) then
     bif decide (x17 = (0 : Int)) then
      (R01_Same k x3.1 [1300, 1100]).bind fun x23 =>
      bif x23 then
       bif (decide (x6.1.Lo = (700 : Int)) && decide (x6.1.Hi = (1000 : Int))) then
        bif decide (x9.1 = (2 : Int)) then
         (R01_Same k x14.1 [1, 4]).bind fun x27 =>
         some x27
        else
         some false
       else
        some false
      else
       some false
     else
      some false
    else
     some false
   else
    some false
  else
   some false
 else
  some false
theorem L04_sane_ok (k : Nat) (r : Bool) (h0 : L04_sane k = some r) : PCall Try.prog 14 [] (fun y => y = .bool r) := by
 refine PB (fn := Try.f14) (sc := F14.c) ?_
 refine rS ?_
 simp only [L04_sane] at h0
 try simp only [F14.c, go_sem]
 obtain ⟨x2, yx2, h0⟩ := bs h0
 refine AKev_giveF [] [] (L04_firing_o_ok k _ yx2) ?_ rfl ?_
 try simp only [gOK, go_sem]
 try simp only [go_sem]
 refine rS ?_
 try simp only [go_sem]
 obtain ⟨x3, yx3, h0⟩ := bs h0
 refine zcT [16] (heat_Hottest_ok k _ _ yx3) ?_ ?_
 try simp only [go_sem]
 try simp only [go_sem]
 obtain ⟨x5, yx5, h0⟩ := bs h0
 refine AKev_giveF [] [] (L04_firing_o_ok k _ yx5) ?_ rfl ?_
 try simp only [gOK, go_sem]
 try simp only [go_sem]
 refine rS ?_
 try simp only [go_sem]
 obtain ⟨x6, yx6, h0⟩ := bs h0
 refine zcT [128] (heat_Bound_ok k _ _ _ yx6) ?_ ?_
 try simp only [go_sem]
 try simp only [go_sem]
 obtain ⟨x8, yx8, h0⟩ := bs h0
 refine AKev_giveF [] [] (L04_firing_o_ok k _ yx8) ?_ rfl ?_
 try simp only [gOK, go_sem]
 try simp only [go_sem]
 refine rS ?_
 try simp only [go_sem]
 obtain ⟨x9, yx9, h0⟩ := bs h0
 refine zc0 (heat_Verdict_ok k _ _ _ _ yx9) ?_ (by first | rfl | simp [AV.refsL, AV.refs, AV.scal, AV.leaf]) ?_
 try simp only [go_sem]
 try simp only [go_sem]
 obtain ⟨x10, yx10, h0⟩ := bs h0
 refine zc0 (L04_kiln_ok k _ yx10) ?_ (by first | rfl | simp [AV.refsL, AV.refs, AV.scal, AV.leaf]) ?_
 try simp only [go_sem]
 try simp only [go_sem]
 obtain ⟨x12, yx12, h0⟩ := bs h0
 refine AKev_giveF [] [] (L04_firing_o_ok k _ yx12) ?_ rfl ?_
 try simp only [gOK, go_sem]
 try simp only [go_sem]
 refine rS ?_
 try simp only [go_sem]
 obtain ⟨l13, yl13, h0⟩ := bs h0
 have eyl13 := push_map Reading.c yl13
 have tyl13 := push_take Reading.c yl13
 have nyl13 := push_len yl13
 have myl13 := push_room yl13
 try simp only [go_sem] at eyl13 tyl13 nyl13 myl13
 try simp only [myl13, eyl13, nyl13, tyl13, go_sem]
 obtain ⟨x14, yx14, h0⟩ := bs h0
 refine zcT [400] (heat_Conflict_ok k _ _ yx14) ?_ ?_
 try simp only [eyl13, nyl13, tyl13, go_sem]
 try simp only [eyl13, nyl13, tyl13, go_sem]
 obtain ⟨x16, yx16, h0⟩ := bs h0
 refine AKev_giveF [] [] (L04_firing_o_ok k _ yx16) ?_ rfl ?_
 try simp only [gOK, eyl13, nyl13, tyl13, go_sem]
 try simp only [eyl13, nyl13, tyl13, go_sem]
 refine rS ?_
 try simp only [eyl13, nyl13, tyl13, go_sem]
 obtain ⟨x17, yx17, h0⟩ := bs h0
 refine zc0 (heat_CheckProof_ok k _ _ _ _ _ _ yx17) ?_ (by first | rfl | simp [AV.refsL, AV.refs, AV.scal, AV.leaf]) ?_
 try simp only [eyl13, nyl13, tyl13, go_sem]
 try simp only [eyl13, nyl13, tyl13, go_sem]
 refine AKev_bif h0 ?_ ?_ <;> intro c18 h0
 try simp only [c18, eyl13, nyl13, tyl13, go_sem]
 refine AKev_bif h0 ?_ ?_ <;> intro c19 h0
 try simp only [c19, eyl13, nyl13, tyl13, c18, go_sem]
 refine AKev_bif h0 ?_ ?_ <;> intro c20 h0
 try simp only [c20, eyl13, nyl13, tyl13, c18, c19, go_sem]
 refine AKev_bif h0 ?_ ?_ <;> intro c21 h0
 try simp only [c21, eyl13, nyl13, tyl13, c18, c19, c20, go_sem]
 refine AKev_bif h0 ?_ ?_ <;> intro c22 h0
 try simp only [c22, eyl13, nyl13, tyl13, c18, c19, c20, c21, go_sem]
 obtain ⟨x23, yx23, h0⟩ := bs h0
 refine zc0 (R01_Same_ok k _ _ _ yx23) ?_ (by first | rfl | simp [AV.refsL, AV.refs, AV.scal, AV.leaf]) ?_
 try simp only [eyl13, nyl13, tyl13, c18, c19, c20, c21, c22, go_sem]
 try simp only [eyl13, nyl13, tyl13, c18, c19, c20, c21, c22, go_sem]
 refine AKev_bif h0 ?_ ?_ <;> intro c24 h0
 try simp only [c24, eyl13, nyl13, tyl13, c18, c19, c20, c21, c22, go_sem]
 refine AKev_bif h0 ?_ ?_ <;> intro c25 h0
 try simp only [c25, eyl13, nyl13, tyl13, c18, c19, c20, c21, c22, c24, go_sem]
 refine AKev_bif h0 ?_ ?_ <;> intro c26 h0
 try simp only [c26, eyl13, nyl13, tyl13, c18, c19, c20, c21, c22, c24, c25, go_sem]
 obtain ⟨x27, yx27, h0⟩ := bs h0
 refine zc0 (R01_Same_ok k _ _ _ yx27) ?_ (by first | rfl | simp [AV.refsL, AV.refs, AV.scal, AV.leaf]) ?_
 try simp only [eyl13, nyl13, tyl13, c18, c19, c20, c21, c22, c24, c25, c26, go_sem]
 try simp only [eyl13, nyl13, tyl13, c18, c19, c20, c21, c22, c24, c25, c26, go_sem]
 obtain rfl := Option.some.inj h0
 refine AKev_ret rfl ?_
 try simp only [F14.rs, eyl13, nyl13, tyl13, c18, c19, c20, c21, c22, c24, c25, c26, go_sem]
 try simp only [c26, eyl13, nyl13, tyl13, c18, c19, c20, c21, c22, c24, c25, go_sem]
 obtain rfl := Option.some.inj h0
 refine AKev_ret rfl ?_
 try simp only [F14.rs, eyl13, nyl13, tyl13, c18, c19, c20, c21, c22, c24, c25, c26, go_sem]
 try simp only [c25, eyl13, nyl13, tyl13, c18, c19, c20, c21, c22, c24, go_sem]
 obtain rfl := Option.some.inj h0
 refine AKev_ret rfl ?_
 try simp only [F14.rs, eyl13, nyl13, tyl13, c18, c19, c20, c21, c22, c24, c25, go_sem]
 try simp only [c24, eyl13, nyl13, tyl13, c18, c19, c20, c21, c22, go_sem]
 obtain rfl := Option.some.inj h0
 refine AKev_ret rfl ?_
 try simp only [F14.rs, eyl13, nyl13, tyl13, c18, c19, c20, c21, c22, c24, go_sem]
 try simp only [c22, eyl13, nyl13, tyl13, c18, c19, c20, c21, go_sem]
 obtain rfl := Option.some.inj h0
 refine AKev_ret rfl ?_
 try simp only [F14.rs, eyl13, nyl13, tyl13, c18, c19, c20, c21, c22, go_sem]
 try simp only [c21, eyl13, nyl13, tyl13, c18, c19, c20, go_sem]
 obtain rfl := Option.some.inj h0
 refine AKev_ret rfl ?_
 try simp only [F14.rs, eyl13, nyl13, tyl13, c18, c19, c20, c21, go_sem]
 try simp only [c20, eyl13, nyl13, tyl13, c18, c19, go_sem]
 obtain rfl := Option.some.inj h0
 refine AKev_ret rfl ?_
 try simp only [F14.rs, eyl13, nyl13, tyl13, c18, c19, c20, go_sem]
 try simp only [c19, eyl13, nyl13, tyl13, c18, go_sem]
 obtain rfl := Option.some.inj h0
 refine AKev_ret rfl ?_
 try simp only [F14.rs, eyl13, nyl13, tyl13, c18, c19, go_sem]
 try simp only [c18, eyl13, nyl13, tyl13, go_sem]
 obtain rfl := Option.some.inj h0
 refine AKev_ret rfl ?_
 try simp only [F14.rs, eyl13, nyl13, tyl13, c18, go_sem]
def F62.s1 : SC :=
 (.seq
 (.reg [b2 54 .lss 3 53 52 3 0 []])
 (.seq
 (.cond (.tmp 54)
 .skip
 (.exit 2))
 (.seq
 (.block 3
 (.seq
 (.reg [mv 55 53 3 [],
 ia 56 40 51 53 [],
 ld 57 39 56 [56],
 oq 8 (.alloc 39) 0 [],
 sg 7 55 3 [55],
 ⟨none, .store 39 (.tmp 8) (.tmp 57), 0, none, [57]⟩])
 (.seq
 (.dreg [fa 58 35 3 1 [],
 ld 59 33 58 [],
 mv 60 5 3 [],
 ia 61 33 59 60 [],
 ld 62 23 61 [],
 mv 63 7 3 [],
 ia 64 23 62 63 [],
 ld 65 3 64 [],
 fa 66 39 8 0 [],
 ld 67 3 66 [],
 fa 68 39 8 1 [],
 ld 69 3 68 [],
 oq 70 (.call ⟨.value (.func 42), #[.tmp 65, .tmp 67, .tmp 69], #[3, 3, 3]⟩) 4 [],
 oq 71 (.unOp .not 4 (.tmp 70)) 4 []] [[], [0], [], [0, 1, 2], [0, 1, 2, 3], [], [0, 1, 2, 3, 4, 5], [0, 1, 2, 3, 4, 5, 6], [], [8], [], [10], [0, 1, 2, 3, 4, 5, 6, 7, 8, 9, 10, 11], [0, 1, 2, 3, 4, 5, 6, 7, 8, 9, 10, 11, 12]] [7, 8, 58, 59, 60, 61, 62, 63, 64, 65, 66, 67, 68, 69, 70])
 (.cond (.tmp 71)
 (.seq
 (.reg [sb 4 false 4 []])
 .ret)
 .skip))))
 (.reg [bn 72 .add 3 53 1 3 3 [53],
 mv 53 72 3 [72]]))))
def F62.s0 : SC :=
 (.seq
 (.reg [b2 29 .lss 3 28 27 3 0 []])
 (.seq
 (.cond (.tmp 29)
 .skip
 (.exit 0))
 (.seq
 (.block 1
 (.seq
 (.reg [mv 30 28 3 [],
 ia 31 27 26 28 [],
 ld 32 40 31 [31],
 sg 5 30 3 [30],
 sg 6 32 40 [32]])
 (.seq
 (.seq
 (.reg [fa 33 35 3 0 [],
 ld 34 23 33 [33],
 mv 35 5 3 [],
 ia 36 23 34 35 [34, 35],
 ld 37 3 36 [36],
 oq 38 (.call ⟨.value (.func 42), #[.tmp 37, .const (.int .i64 0), .const (.int .i64 3000)], #[3, 3, 3]⟩) 4 [37],
 oq 39 (.unOp .not 4 (.tmp 38)) 4 [38],
 mv 40 39 4 [39],
 og 41 (.fieldAddr 35 (.tmp 3) 1) 0 40 false [],
 og 42 (.load 33 (.tmp 41)) 33 40 false [41],
 og 43 (.move (.tmp 5)) 3 40 false [],
 og 44 (.indexAddr 33 (.tmp 42) (.tmp 43)) 0 40 false [42, 43],
 og 45 (.load 23 (.tmp 44)) 23 40 false [44],
 og 46 (.call ⟨.builtin .len, #[.tmp 45], #[23]⟩) 3 40 false [45],
 og 47 (.move (.tmp 6)) 40 40 false [],
 og 48 (.call ⟨.builtin .len, #[.tmp 47], #[40]⟩) 3 40 false [47],
 og 49 (.binOp .neq 3 (.tmp 46) (.tmp 48) 3) 4 40 false [46, 48],
 oq 50 (.pick (.tmp 40) (.const (.bool true)) (.tmp 49)) 4 [40, 49]])
 (.cond (.tmp 50)
 (.seq
 (.reg [sb 4 false 4 []])
 .ret)
 .skip))
 (.seq
 (.reg [mv 51 6 40 [6],
 ln 52 51 40 3 [],
 oq 53 (.move (.const (.int .i64 0))) 3 []])
 (.block 2
 (.loop F62.s1))))))
 (.reg [bn 73 .add 3 28 1 3 3 [28],
 mv 28 73 3 [73]]))))
def F62.c : SC :=
 (.seq
 (.reg [oq 2 (.box 29 (.tmp 0)) 0 [0],
 oq 3 (.box 35 (.tmp 1)) 0 [1],
 sb 4 false 4 [4]])
 (.seq
 (.seq
 (.reg [fa 9 35 3 0 [],
 ld 10 23 9 [9],
 ln 11 10 23 3 [10],
 fa 12 29 2 0 [],
 ld 13 27 12 [12],
 ln 14 13 27 3 [13],
 b2 15 .neq 3 11 14 3 4 [11, 14],
 mv 16 15 4 [15],
 og 17 (.fieldAddr 35 (.tmp 3) 1) 0 16 false [],
 og 18 (.load 33 (.tmp 17)) 33 16 false [17],
 og 19 (.call ⟨.builtin .len, #[.tmp 18], #[33]⟩) 3 16 false [18],
 og 20 (.fieldAddr 29 (.tmp 2) 0) 0 16 false [],
 og 21 (.load 27 (.tmp 20)) 27 16 false [20],
 og 22 (.call ⟨.builtin .len, #[.tmp 21], #[27]⟩) 3 16 false [21],
 og 23 (.binOp .neq 3 (.tmp 19) (.tmp 22) 3) 4 16 false [19, 22],
 oq 24 (.pick (.tmp 16) (.const (.bool true)) (.tmp 23)) 4 [16, 23]])
 (.cond (.tmp 24)
 (.seq
 (.reg [sb 4 false 4 []])
 .ret)
 .skip))
 (.seq
 (.seq
 (.reg [fa 25 29 2 0 [2],
 ld 26 27 25 [25],
 ln 27 26 27 3 [],
 oq 28 (.move (.const (.int .i64 0))) 3 []])
 (.block 0
 (.loop F62.s0)))
 (.seq
 (.reg [sb 4 true 4 []])
 .ret))))
theorem F62.rs : Try.f62.results.toList = [.tmp 4] := rfl
def heat_isField.b1 (k : Nat) (x5 : (List Range)) (x9 : (List Int)) : Int → Option (Stp (Int) (Unit) (Bool)) := fun (i11 : Int) =>
 bif decide (i11 < (x5.length : Int)) then
  (at? x5 i11).bind fun x13 =>
  (at? x9 i11).bind fun x14 =>
  (heat_in k x14 x13.Lo x13.Hi).bind fun x15 =>
  bif (!x15) then
   some (.ret false)
  else
   some (.next (w64 (i11 + 1)))
 else
  some (.brk ())
def heat_isField.b0 (k : Nat) (k0 : Kiln) (x1 : Field) : Int → Option (Stp (Int) (Unit) (Bool)) := fun (i3 : Int) =>
 bif decide (i3 < (k0.Falls.length : Int)) then
  (at? k0.Falls i3).bind fun x5 =>
  (at? x1.Mouths i3).bind fun x6 =>
  (heat_in k x6 0 3000).bind fun x7 =>
  bif x7 then
   (at? x1.Falls i3).bind fun x9 =>
   bif (!decide ((x9.length : Int) = (x5.length : Int))) then
    some (.ret false)
   else
    (whl (heat_isField.b1 k x5 x9) k 0).bind fun r17 => match r17 with
    | .next _ => none
    | .ret v_ => some (.ret v_)
    | .brk _ =>
     some (.next (w64 (i3 + 1)))
  else
   some (.ret false)
 else
  some (.brk ())
noncomputable def heat_isField.h1 (k0 : Kiln) (x1 : Field) (i3 : Int) (x5 : (List Range)) : Int → St := fun (i11 : Int) => ⟨[(3, .ptr 0 0 0), (5, .int .i64 i3), (26, .sl 1 (List.map (eL 2 Range.c) k0.Falls)), (27, .int .i64 (k0.Falls.length : Int)), (28, .int .i64 i3), (51, .sl 2 (List.map Range.c x5)), (52, .int .i64 (x5.length : Int)), (53, .int .i64 i11)], [(0, .box [.sl 1 (List.map eI x1.Mouths), .sl 1 (List.map (eL 1 eI) x1.Falls)])], [], 1, Try.f62.ntmps⟩
noncomputable def heat_isField.x1 (k0 : Kiln) (x1 : Field) (i3 : Int) : Unit → St := fun (_ : Unit) => ⟨[(3, .ptr 0 0 0), (26, .sl 1 (List.map (eL 2 Range.c) k0.Falls)), (27, .int .i64 (k0.Falls.length : Int)), (28, .int .i64 i3)], [(0, .box [.sl 1 (List.map eI x1.Mouths), .sl 1 (List.map (eL 1 eI) x1.Falls)])], [], 1, Try.f62.ntmps⟩
noncomputable def heat_isField.h0 (k0 : Kiln) (x1 : Field) : Int → St := fun (i3 : Int) => ⟨[(3, .ptr 0 0 0), (26, .sl 1 (List.map (eL 2 Range.c) k0.Falls)), (27, .int .i64 (k0.Falls.length : Int)), (28, .int .i64 i3)], [(0, .box [.sl 1 (List.map eI x1.Mouths), .sl 1 (List.map (eL 1 eI) x1.Falls)])], [], 1, Try.f62.ntmps⟩
noncomputable def heat_isField.x0 : Unit → St := fun (_ : Unit) => ⟨[], [], [], 1, Try.f62.ntmps⟩
def heat_isField (k : Nat) (k0 : Kiln) (x1 : Field) : Option (Bool) :=
 bif decide ((x1.Mouths.length : Int) = (k0.Falls.length : Int)) then
  bif (!decide ((x1.Falls.length : Int) = (k0.Falls.length : Int))) then
   some false
  else
   (whl (heat_isField.b0 k k0 x1) k 0).bind fun r18 => match r18 with
   | .next _ => none
   | .ret v_ => some v_
   | .brk _ =>
    some true
 else
  some false
theorem heat_isField_ok (k : Nat) (k0 : Kiln) (x1 : Field) (r : Bool) (h0 : heat_isField k k0 x1 = some r) : PCall Try.prog 62 [.agg (Kiln.c k0), .agg (Field.c x1)] (fun y => y = .bool r) := by
 refine PB (fn := Try.f62) (sc := F62.c) ?_
 refine rS ?_
 simp only [heat_isField] at h0
 try simp only [F62.c, go_sem]
 refine AKev_bif h0 ?_ ?_ <;> intro c1 h0
 try simp only [c1, go_sem]
 refine AKev_bif h0 ?_ ?_ <;> intro c2 h0
 have c2 := bnot_t c2
 try simp only [c2, c1, go_sem]
 obtain rfl := Option.some.inj h0
 refine AKev_ret rfl ?_
 try simp only [F62.rs, c1, c2, go_sem]
 have c2 := bnot_f c2
 try simp only [c2, c1, go_sem]
 obtain ⟨r18, yr18, h0⟩ := bs h0
 refine AKev_loopS yr18 (heat_isField.h0 k0 x1) (heat_isField.x0) ?_ ?_ ?_
 refine Weak.go [3, 26, 27, 28] [16] rfl ?_
 try simp only [heat_isField.h0, c1, c2, go_sem]
 rintro i3 x_1 Bk1 Br1 h1 hnext1 hbrk1 hret1
 refine rS ?_
 simp only [heat_isField.b0] at h1
 try simp only [F62.s0, heat_isField.h0, c1, c2, go_sem]
 refine AKev_bif h1 ?_ ?_ <;> intro c4 h1
 try simp only [c4, c1, c2, go_sem]
 obtain ⟨x5, yx5, h1⟩ := bs h1
 try simp only [aa yx5, c1, c2, c4, go_sem]
 obtain ⟨x6, yx6, h1⟩ := bs h1
 try simp only [aa yx6, c1, c2, c4, aa yx5, go_sem]
 obtain ⟨x7, yx7, h1⟩ := bs h1
 refine zc0 (heat_in_ok k _ _ _ _ yx7) ?_ (by first | rfl | simp [AV.refsL, AV.refs, AV.scal, AV.leaf]) ?_
 try simp only [c1, c2, c4, aa yx5, aa yx6, go_sem]
 try simp only [c1, c2, c4, aa yx5, aa yx6, go_sem]
 refine AKev_bif h1 ?_ ?_ <;> intro c8 h1
 try simp only [c8, c1, c2, c4, aa yx5, aa yx6, go_sem]
 obtain ⟨x9, yx9, h1⟩ := bs h1
 try simp only [aa yx9, c1, c2, c4, aa yx5, aa yx6, c8, go_sem]
 refine AKev_bif h1 ?_ ?_ <;> intro c10 h1
 have c10 := bnot_t c10
 try simp only [c10, c1, c2, c4, aa yx5, aa yx6, c8, aa yx9, go_sem]
 obtain rfl := hret1 _ (Option.some.inj h1).symm
 simp only at h0
 obtain rfl := Option.some.inj h0
 refine AKev_ret rfl ?_
 try simp only [F62.rs, c1, c2, c4, aa yx5, aa yx6, c8, aa yx9, c10, go_sem]
 have c10 := bnot_f c10
 try simp only [c10, c1, c2, c4, aa yx5, aa yx6, c8, aa yx9, go_sem]
 obtain ⟨r17, yr17, h1⟩ := bs h1
 refine AKev_loopS yr17 (heat_isField.h1 k0 x1 i3 x5) (heat_isField.x1 k0 x1 i3) ?_ ?_ ?_
 refine Weak.go [3, 5, 26, 27, 28, 51, 52, 53] [0] rfl ?_
 try simp only [heat_isField.h1, c1, c2, c4, aa yx5, aa yx6, c8, aa yx9, c10, go_sem]
 rintro i11 x_2 Bk2 Br2 h2 hnext2 hbrk2 hret2
 refine rS ?_
 simp only [heat_isField.b1] at h2
 try simp only [F62.s1, heat_isField.h1, c1, c2, c4, aa yx5, aa yx6, c8, aa yx9, c10, go_sem]
 refine AKev_bif h2 ?_ ?_ <;> intro c12 h2
 try simp only [c12, c1, c2, c4, aa yx5, aa yx6, c8, aa yx9, c10, go_sem]
 obtain ⟨x13, yx13, h2⟩ := bs h2
 try simp only [aa yx13, c1, c2, c4, aa yx5, aa yx6, c8, aa yx9, c10, c12, go_sem]
 refine AKev_region T_ok follows_ok 1000 ?_
 try simp only [aa yx9, c1, c2, c4, aa yx5, aa yx6, c8, c10, c12, aa yx13, go_sem]
 obtain ⟨x14, yx14, h2⟩ := bs h2
 try simp only [aa yx14, c1, c2, c4, aa yx5, aa yx6, c8, aa yx9, c10, c12, aa yx13, go_sem]
 obtain ⟨x15, yx15, h2⟩ := bs h2
 refine DG_call0 1000 (heat_in_ok k _ _ _ _ yx15) ?_ (by first | rfl | simp [AV.refsL, AV.refs, AV.scal, AV.leaf]) ?_
 try simp only [c1, c2, c4, aa yx5, aa yx6, c8, aa yx9, c10, c12, aa yx13, aa yx14, go_sem]
 try simp only [c1, c2, c4, aa yx5, aa yx6, c8, aa yx9, c10, c12, aa yx13, aa yx14, go_sem]
 refine DG_done ⟨calm_of (by simp only [skel, List.reverse_cons, List.reverse_nil, List.nil_append, List.cons_append, List.map_cons, List.map_nil, List.append_nil]; rfl) (by first | decide +kernel | rfl), run_sound T_ok 1000 _ _ ?_⟩
 try simp only [c1, c2, c4, aa yx5, aa yx6, c8, aa yx9, c10, c12, aa yx13, aa yx14, go_sem]
 refine AKev_bif h2 ?_ ?_ <;> intro c16 h2
 have c16 := bnot_t c16
 try simp only [c16, c1, c2, c4, aa yx5, aa yx6, c8, aa yx9, c10, c12, aa yx13, aa yx14, go_sem]
 obtain rfl := hret2 _ (Option.some.inj h2).symm
 simp only at h1
 obtain rfl := hret1 _ (Option.some.inj h1).symm
 simp only at h0
 obtain rfl := Option.some.inj h0
 refine AKev_ret rfl ?_
 try simp only [F62.rs, c1, c2, c4, aa yx5, aa yx6, c8, aa yx9, c10, c12, aa yx13, aa yx14, c16, go_sem]
 have c16 := bnot_f c16
 try simp only [c16, c1, c2, c4, aa yx5, aa yx6, c8, aa yx9, c10, c12, aa yx13, aa yx14, go_sem]
 refine AKev_backB (hnext2 _ _ (Option.some.inj h2).symm ?_)
 refine Weak.go [3, 5, 26, 27, 28, 51, 52, 53] [0] rfl ?_
 try simp only [heat_isField.h1, c1, c2, c4, aa yx5, aa yx6, c8, aa yx9, c10, c12, aa yx13, aa yx14, c16, go_sem]
 try simp only [c12, c1, c2, c4, aa yx5, aa yx6, c8, aa yx9, c10, go_sem]
 refine AKev_backB (hbrk2 _ _ (Option.some.inj h2).symm ?_)
 refine Weak.go [3, 26, 27, 28] [0] rfl ?_
 try simp only [heat_isField.x1, c1, c2, c4, aa yx5, aa yx6, c8, aa yx9, c10, c12, go_sem]
 rintro _ hr_
 subst hr_
 simp only at h1
 refine rS ?_
 try simp only [heat_isField.x1, c1, c2, c4, aa yx5, aa yx6, c8, aa yx9, c10, go_sem]
 refine AKev_backB (hnext1 _ _ (Option.some.inj h1).symm ?_)
 refine Weak.go [3, 26, 27, 28] [0] rfl ?_
 try simp only [heat_isField.h0, c1, c2, c4, aa yx5, aa yx6, c8, aa yx9, c10, go_sem]
 try simp only [c8, c1, c2, c4, aa yx5, aa yx6, go_sem]
 obtain rfl := hret1 _ (Option.some.inj h1).symm
 simp only at h0
 obtain rfl := Option.some.inj h0
 refine AKev_ret rfl ?_
 try simp only [F62.rs, c1, c2, c4, aa yx5, aa yx6, c8, go_sem]
 try simp only [c4, c1, c2, go_sem]
 refine AKev_backB (hbrk1 _ _ (Option.some.inj h1).symm ?_)
 refine Weak.go [] [] rfl ?_
 try simp only [heat_isField.x0, c1, c2, c4, go_sem]
 rintro _ hr_
 subst hr_
 simp only at h0
 refine rS ?_
 try simp only [heat_isField.x0, c1, c2, go_sem]
 obtain rfl := Option.some.inj h0
 refine AKev_ret rfl ?_
 try simp only [F62.rs, c1, c2, go_sem]
 try simp only [c1, go_sem]
 obtain rfl := Option.some.inj h0
 refine AKev_ret rfl ?_
 try simp only [F62.rs, c1, go_sem]
def F63.s1 : SC :=
 (.seq
 (.reg [b2 31 .lss 3 30 29 3 0 []])
 (.seq
 (.cond (.tmp 31)
 .skip
 (.exit 2))
 (.seq
 (.block 3
 (.seq
 (.reg [mv 32 30 3 [],
 sg 6 32 3 [32]])
 (.dreg [mv 33 5 3 [],
 fa 34 35 1 0 [],
 ld 35 23 34 [],
 mv 36 6 3 [],
 ia 37 23 35 36 [],
 ld 38 3 37 [],
 fa 39 35 1 1 [],
 ld 40 33 39 [],
 mv 41 6 3 [],
 ia 42 33 40 41 [],
 ld 43 23 42 [],
 mv 44 4 3 [],
 ia 45 23 43 44 [],
 ld 46 3 45 [],
 b2 47 .sub 3 38 46 3 3 [],
 oq 48 (.call ⟨.builtin .max, #[.tmp 33, .tmp 47], #[3, 3]⟩) 3 [],
 sg 5 48 3 []] [[], [], [1], [], [1, 2, 3], [1, 2, 3, 4], [], [6], [], [6, 7, 8], [6, 7, 8, 9], [], [6, 7, 8, 9, 10, 11], [6, 7, 8, 9, 10, 11, 12], [1, 2, 3, 4, 5, 6, 7, 8, 9, 10, 11, 12, 13], [0, 1, 2, 3, 4, 5, 6, 7, 8, 9, 10, 11, 12, 13, 14], [0, 1, 2, 3, 4, 5, 6, 7, 8, 9, 10, 11, 12, 13, 14, 15]] [6, 33, 34, 35, 36, 37, 38, 39, 40, 41, 42, 43, 44, 45, 46, 47, 48])))
 (.reg [bn 49 .add 3 30 1 3 3 [30],
 mv 30 49 3 [49]]))))
def F63.s0 : SC :=
 (.seq
 (.reg [b2 13 .lss 3 12 11 3 0 []])
 (.seq
 (.cond (.tmp 13)
 .skip
 (.exit 0))
 (.seq
 (.block 1
 (.seq
 (.reg [mv 14 12 3 [],
 sg 4 14 3 [14]])
 (.seq
 (.dreg [fa 15 35 1 0 [],
 ld 16 23 15 [],
 oq 17 (.indexAddr 23 (.tmp 16) (.const (.int .i64 0))) 0 [],
 ld 18 3 17 [],
 fa 19 35 1 1 [],
 ld 20 33 19 [],
 oq 21 (.indexAddr 33 (.tmp 20) (.const (.int .i64 0))) 0 [],
 ld 22 23 21 [],
 mv 23 4 3 [],
 ia 24 23 22 23 [],
 ld 25 3 24 [],
 b2 26 .sub 3 18 25 3 3 [],
 sg 5 26 3 []] [[], [0], [0, 1], [0, 1, 2], [], [4], [4, 5], [4, 5, 6], [], [4, 5, 6, 7, 8], [4, 5, 6, 7, 8, 9], [0, 1, 2, 3, 4, 5, 6, 7, 8, 9, 10], [0, 1, 2, 3, 4, 5, 6, 7, 8, 9, 10, 11]] [15, 16, 17, 18, 19, 20, 21, 22, 23, 24, 25, 26])
 (.seq
 (.seq
 (.reg [fa 27 35 1 0 [],
 ld 28 23 27 [27],
 ln 29 28 23 3 [28],
 oq 30 (.move (.const (.int .i64 0))) 3 []])
 (.block 2
 (.loop F63.s1)))
 (.reg [mv 50 3 23 [3],
 mv 51 5 3 [5],
 oq 52 (.buildSlice 23 1 #[(0, .tmp 51)]) 23 [51],
 oq 53 (.call ⟨.builtin .append, #[.tmp 50, .tmp 52], #[23, 23]⟩) 23 [50, 52],
 sg 3 53 23 [53]])))))
 (.reg [bn 54 .add 3 12 1 3 3 [12],
 mv 12 54 3 [54]]))))
def F63.c : SC :=
 (.seq
 (.reg [oq 1 (.box 35 (.tmp 0)) 0 [0],
 oq 2 (.assign (.const (.slice none 0 0))) 23 [2]])
 (.seq
 (.reg [oq 3 (.assign (.const (.slice none 0 0))) 23 []])
 (.seq
 (.seq
 (.reg [fa 7 35 1 1 [],
 ld 8 33 7 [7],
 oq 9 (.indexAddr 33 (.tmp 8) (.const (.int .i64 0))) 0 [8],
 ld 10 23 9 [9],
 ln 11 10 23 3 [10],
 oq 12 (.move (.const (.int .i64 0))) 3 []])
 (.block 0
 (.loop F63.s0)))
 (.seq
 (.reg [mv 55 3 23 [3],
 sg 2 55 23 [55]])
 .ret))))
theorem F63.rs : Try.f63.results.toList = [.tmp 2] := rfl
def heat_heats.b1 (k : Nat) (x0 : Field) (i2 : Int) : (Int × Int) → Option (Stp (Int × Int) (Int) ((List Int))) := fun (s : Int × Int) => match s with
 | (i8, i9) =>
   bif decide (i9 < (x0.Mouths.length : Int)) then
    (at? x0.Mouths i9).bind fun x12 =>
    (at? x0.Falls i9).bind fun x13 =>
    (at? x13 i2).bind fun x14 =>
    some (.next (max i8 (w64 (x12 - x14)), w64 (i9 + 1)))
   else
    some (.brk i8)
def heat_heats.b0 (k : Nat) (x0 : Field) (x1 : (List Int)) : (Int × (List Int)) → Option (Stp (Int × (List Int)) ((List Int)) ((List Int))) := fun (s : Int × (List Int)) => match s with
 | (i2, l3) =>
   bif decide (i2 < (x1.length : Int)) then
    (at? x0.Mouths 0).bind fun x6 =>
    (at? x1 i2).bind fun x7 =>
    (whl (heat_heats.b1 k x0 i2) k (w64 (x6 - x7), 0)).bind fun r15 => match r15 with
    | .next _ => none
    | .ret v_ => some (.ret v_)
    | .brk i10 =>
     (push? 8 l3 i10).bind fun l16 =>
     some (.next (w64 (i2 + 1), l16))
   else
    some (.brk l3)
noncomputable def heat_heats.h1 (x0 : Field) (x1 : (List Int)) (i2 : Int) (l3 : (List Int)) : (Int × Int) → St := fun (s : Int × Int) => match s with
 | (i8, i9) => ⟨[(1, .ptr 0 0 0), (3, .loc 0 1 1 0 l3.length l3.length), (4, .int .i64 i2), (5, .int .i64 i8), (11, .int .i64 (x1.length : Int)), (12, .int .i64 i2), (29, .int .i64 (x0.Mouths.length : Int)), (30, .int .i64 i9)], [(0, .box [.sl 1 (List.map eI x0.Mouths), .sl 1 (List.map (eL 1 eI) x0.Falls)]), (1, .arr 3 1 (List.map eI l3))], [], 2, Try.f63.ntmps⟩
noncomputable def heat_heats.x1 (x0 : Field) (x1 : (List Int)) (i2 : Int) (l3 : (List Int)) : Int → St := fun (i10 : Int) => ⟨[(1, .ptr 0 0 0), (3, .loc 0 1 1 0 l3.length l3.length), (5, .int .i64 i10), (11, .int .i64 (x1.length : Int)), (12, .int .i64 i2)], [(0, .box [.sl 1 (List.map eI x0.Mouths), .sl 1 (List.map (eL 1 eI) x0.Falls)]), (1, .arr 3 1 (List.map eI l3))], [], 2, Try.f63.ntmps⟩
noncomputable def heat_heats.h0 (x0 : Field) (x1 : (List Int)) : (Int × (List Int)) → St := fun (s : Int × (List Int)) => match s with
 | (i2, l3) => ⟨[(1, .ptr 0 0 0), (3, .loc 0 1 1 0 l3.length l3.length), (11, .int .i64 (x1.length : Int)), (12, .int .i64 i2)], [(0, .box [.sl 1 (List.map eI x0.Mouths), .sl 1 (List.map (eL 1 eI) x0.Falls)]), (1, .arr 3 1 (List.map eI l3))], [], 2, Try.f63.ntmps⟩
noncomputable def heat_heats.x0 : (List Int) → St := fun (l4 : (List Int)) => ⟨[(3, .loc 0 0 1 0 l4.length l4.length)], [(0, .arr 3 1 (List.map eI l4))], [], 1, Try.f63.ntmps⟩
def heat_heats (k : Nat) (x0 : Field) : Option ((List Int)) :=
 (at? x0.Falls 0).bind fun x1 =>
 (whl (heat_heats.b0 k x0 x1) k (0, [])).bind fun r17 => match r17 with
 | .next _ => none
 | .ret v_ => some v_
 | .brk l4 =>
  some l4
theorem heat_heats_ok (k : Nat) (x0 : Field) (r : (List Int)) (h0 : heat_heats k x0 = some r) : PCall Try.prog 63 [.agg (Field.c x0)] (fun y => y = .sl 1 (List.map eI r)) := by
 refine PB (fn := Try.f63) (sc := F63.c) ?_
 refine rS ?_
 simp only [heat_heats] at h0
 try simp only [F63.c, go_sem]
 obtain ⟨x1, yx1, h0⟩ := bs h0
 try simp only [aa yx1, go_sem]
 obtain ⟨r17, yr17, h0⟩ := bs h0
 refine AKev_loopS yr17 (heat_heats.h0 x0 x1) (heat_heats.x0) ?_ ?_ ?_
 refine Weak.go [1, 3, 11, 12] [0, 32] rfl ?_
 try simp only [heat_heats.h0, aa yx1, go_sem]
 rintro ⟨i2, l3⟩ x_1 Bk1 Br1 h1 hnext1 hbrk1 hret1
 refine rS ?_
 simp only [heat_heats.b0] at h1
 try simp only [F63.s0, heat_heats.h0, aa yx1, go_sem]
 refine AKev_bif h1 ?_ ?_ <;> intro c5 h1
 try simp only [c5, aa yx1, go_sem]
 refine AKev_region T_ok follows_ok 1000 ?_
 try simp only [aa yx1, c5, go_sem]
 obtain ⟨x6, yx6, h1⟩ := bs h1
 try simp only [aa yx6, aa yx1, c5, go_sem]
 obtain ⟨x7, yx7, h1⟩ := bs h1
 try simp only [aa yx7, aa yx1, c5, aa yx6, go_sem]
 refine DG_done ⟨calm_of (by simp only [skel, List.reverse_cons, List.reverse_nil, List.nil_append, List.cons_append, List.map_cons, List.map_nil, List.append_nil]; rfl) (by first | decide +kernel | rfl), run_sound T_ok 1000 _ _ ?_⟩
 try simp only [aa yx1, c5, aa yx6, aa yx7, go_sem]
 obtain ⟨r15, yr15, h1⟩ := bs h1
 refine AKev_loopS yr15 (heat_heats.h1 x0 x1 i2 l3) (heat_heats.x1 x0 x1 i2 l3) ?_ ?_ ?_
 refine Weak.go [1, 3, 4, 5, 11, 12, 29, 30] [0, 1] rfl ?_
 try simp only [heat_heats.h1, aa yx1, c5, aa yx6, aa yx7, go_sem]
 rintro ⟨i8, i9⟩ x_2 Bk2 Br2 h2 hnext2 hbrk2 hret2
 refine rS ?_
 simp only [heat_heats.b1] at h2
 try simp only [F63.s1, heat_heats.h1, aa yx1, c5, aa yx6, aa yx7, go_sem]
 refine AKev_bif h2 ?_ ?_ <;> intro c11 h2
 try simp only [c11, aa yx1, c5, aa yx6, aa yx7, go_sem]
 refine AKev_region T_ok follows_ok 1000 ?_
 try simp only [aa yx1, c5, aa yx6, aa yx7, c11, go_sem]
 obtain ⟨x12, yx12, h2⟩ := bs h2
 try simp only [aa yx12, aa yx1, c5, aa yx6, aa yx7, c11, go_sem]
 obtain ⟨x13, yx13, h2⟩ := bs h2
 try simp only [aa yx13, aa yx1, c5, aa yx6, aa yx7, c11, aa yx12, go_sem]
 obtain ⟨x14, yx14, h2⟩ := bs h2
 try simp only [aa yx14, aa yx1, c5, aa yx6, aa yx7, c11, aa yx12, aa yx13, go_sem]
 refine DG_done ⟨calm_of (by simp only [skel, List.reverse_cons, List.reverse_nil, List.nil_append, List.cons_append, List.map_cons, List.map_nil, List.append_nil]; rfl) (by first | decide +kernel | rfl), run_sound T_ok 1000 _ _ ?_⟩
 try simp only [aa yx1, c5, aa yx6, aa yx7, c11, aa yx12, aa yx13, aa yx14, go_sem]
 refine AKev_backB (hnext2 _ _ (Option.some.inj h2).symm ?_)
 refine Weak.go [1, 3, 4, 5, 11, 12, 29, 30] [0, 1] rfl ?_
 try simp only [heat_heats.h1, aa yx1, c5, aa yx6, aa yx7, c11, aa yx12, aa yx13, aa yx14, go_sem]
 try simp only [c11, aa yx1, c5, aa yx6, aa yx7, go_sem]
 refine AKev_backB (hbrk2 _ _ (Option.some.inj h2).symm ?_)
 refine Weak.go [1, 3, 5, 11, 12] [0, 1] rfl ?_
 try simp only [heat_heats.x1, aa yx1, c5, aa yx6, aa yx7, c11, go_sem]
 rintro i10 hr_
 subst hr_
 simp only at h1
 refine rS ?_
 try simp only [heat_heats.x1, aa yx1, c5, aa yx6, aa yx7, go_sem]
 obtain ⟨l16, yl16, h1⟩ := bs h1
 have eyl16 := push_map eI yl16
 have tyl16 := push_take eI yl16
 have nyl16 := push_len yl16
 have myl16 := push_room yl16
 try simp only [aa yx1, c5, aa yx6, aa yx7, go_sem] at eyl16 tyl16 nyl16 myl16
 try simp only [myl16, eyl16, aa yx1, c5, aa yx6, aa yx7, nyl16, tyl16, go_sem]
 refine AKev_backB (hnext1 _ _ (Option.some.inj h1).symm ?_)
 refine Weak.go [1, 3, 11, 12] [0, 1] rfl ?_
 try simp only [heat_heats.h0, aa yx1, c5, aa yx6, aa yx7, eyl16, nyl16, tyl16, go_sem]
 try simp only [c5, aa yx1, go_sem]
 refine AKev_backB (hbrk1 _ _ (Option.some.inj h1).symm ?_)
 refine Weak.go [3] [1] rfl ?_
 try simp only [heat_heats.x0, aa yx1, c5, go_sem]
 rintro l4 hr_
 subst hr_
 simp only at h0
 refine rS ?_
 try simp only [heat_heats.x0, aa yx1, go_sem]
 obtain rfl := Option.some.inj h0
 refine AKev_ret rfl ?_
 try simp only [F63.rs, aa yx1, go_sem]
def F25.c : SC :=
 (.seq
 (.reg [oq 2 (.box 29 (.tmp 0)) 0 [0],
 oq 3 (.box 35 (.tmp 1)) 0 [1],
 oq 4 (.assign (.const (.slice none 0 0))) 23 [4],
 sn 5 0 43 [5]])
 (.seq
 (.block 0
 (.seq
 (.reg [ld 7 29 2 [],
 cf1 8 61 7 29 43 [7],
 bn 9 .neq 43 8 0 43 4 [8],
 sg 6 9 4 [9]])
 (.cond (.tmp 6)
 (.seq
 (.reg [oq 4 (.assign (.const (.slice none 0 0))) 23 [],
 sn 5 40 43 []])
 .ret)
 (.seq
 (.reg [ld 11 29 2 [2],
 ld 12 35 3 [],
 cf2 13 62 11 12 29 35 4 [11, 12],
 oq 14 (.unOp .not 4 (.tmp 13)) 4 [13],
 sg 10 14 4 [14]])
 (.cond (.tmp 10)
 (.seq
 (.reg [oq 4 (.assign (.const (.slice none 0 0))) 23 [],
 sn 5 45 43 []])
 .ret)
 .skip)))))
 (.seq
 (.reg [ld 15 35 3 [3],
 cf1 16 63 15 35 23 [15],
 sg 4 16 23 [16],
 sn 5 0 43 []])
 .ret)))
theorem F25.rs : Try.f25.results.toList = [.tmp 4, .tmp 5] := rfl
def heat_Heats (k : Nat) (k0 : Kiln) (x1 : Field) : Option ((List Int) × Int) :=
 (heat_CheckKiln k k0).bind fun x2 =>
 bif (!decide (x2 = (0 : Int))) then
  some ([], 40)
 else
  (heat_isField k k0 x1).bind fun x4 =>
  bif (!x4) then
   some ([], 45)
  else
   (heat_heats k x1).bind fun x6 =>
   some (x6, 0)
theorem heat_Heats_ok (k : Nat) (k0 : Kiln) (x1 : Field) (r : (List Int) × Int) (h0 : heat_Heats k k0 x1 = some r) : PCall Try.prog 25 [.agg (Kiln.c k0), .agg (Field.c x1)] (fun y => y = .tup [.sl 1 (List.map eI r.1), .int .i64 r.2]) := by
 refine PB (fn := Try.f25) (sc := F25.c) ?_
 refine rS ?_
 simp only [heat_Heats] at h0
 try simp only [F25.c, go_sem]
 obtain ⟨x2, yx2, h0⟩ := bs h0
 refine zc0 (heat_CheckKiln_ok k _ _ yx2) ?_ (by first | rfl | simp [AV.refsL, AV.refs, AV.scal, AV.leaf]) ?_
 try simp only [go_sem]
 try simp only [go_sem]
 refine AKev_bif h0 ?_ ?_ <;> intro c3 h0
 have c3 := bnot_t c3
 try simp only [c3, go_sem]
 obtain rfl := Option.some.inj h0
 refine AKev_ret rfl ?_
 try simp only [F25.rs, c3, go_sem]
 have c3 := bnot_f c3
 try simp only [c3, go_sem]
 obtain ⟨x4, yx4, h0⟩ := bs h0
 refine zc0 (heat_isField_ok k _ _ _ yx4) ?_ (by first | rfl | simp [AV.refsL, AV.refs, AV.scal, AV.leaf]) ?_
 try simp only [c3, go_sem]
 try simp only [c3, go_sem]
 refine AKev_bif h0 ?_ ?_ <;> intro c5 h0
 have c5 := bnot_t c5
 try simp only [c5, c3, go_sem]
 obtain rfl := Option.some.inj h0
 refine AKev_ret rfl ?_
 try simp only [F25.rs, c3, c5, go_sem]
 have c5 := bnot_f c5
 try simp only [c5, c3, go_sem]
 obtain ⟨x6, yx6, h0⟩ := bs h0
 refine zc0 (heat_heats_ok k _ _ yx6) ?_ (by first | rfl | simp [AV.refsL, AV.refs, AV.scal, AV.leaf]) ?_
 try simp only [c3, c5, go_sem]
 try simp only [c3, c5, go_sem]
 obtain rfl := Option.some.inj h0
 refine AKev_ret rfl ?_
 try simp only [F25.rs, c3, c5, go_sem]
def F29.s0 : SC :=
 (.seq
 (.reg [b2 28 .lss 3 27 26 3 0 []])
 (.seq
 (.cond (.tmp 28)
 .skip
 (.exit 1))
 (.seq
 (.block 2
 (.seq
 (.reg [ia 29 30 25 27 [],
 ld 30 60 29 [29],
 oq 7 (.alloc 60) 0 [],
 ⟨none, .store 60 (.tmp 7) (.tmp 30), 0, none, [30]⟩])
 (.seq
 (.reg [ld 32 60 7 [],
 oq 33 (.build 124 #[(0, .tmp 32)]) 124 [32],
 cf1 34 69 33 124 106 [33],
 mv 31 34 106 [34],
 xt 35 31 0 3 [],
 xt 36 31 1 4 [31],
 sg 8 35 3 [35],
 sg 9 36 4 [36]])
 (.seq
 (.reg [ld 38 60 7 [],
 oq 39 (.build 124 #[(0, .tmp 38)]) 124 [38],
 cf1 40 70 39 124 106 [39],
 mv 37 40 106 [40],
 xt 41 37 0 3 [],
 xt 42 37 1 4 [37],
 sg 10 41 3 [41],
 sg 11 42 4 [42]])
 (.seq
 (.reg [mv 43 9 4 [9],
 mv 44 43 4 [43],
 og 45 (.move (.tmp 5)) 23 44 true [],
 og 46 (.fieldAddr 60 (.tmp 7) 1) 0 44 true [],
 og 47 (.load 3 (.tmp 46)) 3 44 true [46],
 og 48 (.indexAddr 23 (.tmp 45) (.tmp 47)) 0 44 true [45, 47],
 og 49 (.load 3 (.tmp 48)) 3 44 true [48],
 og 50 (.move (.tmp 8)) 3 44 true [8],
 og 51 (.binOp .lss 3 (.tmp 49) (.tmp 50) 3) 4 44 true [49, 50],
 oq 52 (.pick (.tmp 44) (.tmp 51) (.const (.bool false))) 4 [44, 51],
 mv 53 52 4 [52],
 og 54 (.move (.tmp 11)) 4 53 false [11],
 og 55 (.move (.tmp 54)) 4 53 false [54],
 og 56 (.move (.tmp 5)) 23 55 true [],
 og 57 (.fieldAddr 60 (.tmp 7) 1) 0 55 true [7],
 og 58 (.load 3 (.tmp 57)) 3 55 true [57],
 og 59 (.indexAddr 23 (.tmp 56) (.tmp 58)) 0 55 true [56, 58],
 og 60 (.load 3 (.tmp 59)) 3 55 true [59],
 og 61 (.move (.tmp 10)) 3 55 true [10],
 og 62 (.binOp .gtr 3 (.tmp 60) (.tmp 61) 3) 4 55 true [60, 61],
 og 63 (.pick (.tmp 55) (.tmp 62) (.const (.bool false))) 4 53 false [55, 62],
 oq 64 (.pick (.tmp 53) (.const (.bool true)) (.tmp 63)) 4 [53, 63]])
 (.cond (.tmp 64)
 (.seq
 (.reg [sn 4 45 43 []])
 .ret)
 .skip))))))
 (.reg [bn 65 .add 3 27 1 3 3 [27],
 mv 27 65 3 [65]]))))
def F29.c : SC :=
 (.seq
 (.reg [oq 2 (.box 32 (.tmp 0)) 0 [0],
 oq 3 (.box 35 (.tmp 1)) 0 [1],
 sn 4 0 43 [4]])
 (.seq
 (.block 0
 (.seq
 (.reg [ld 13 32 2 [],
 cf1 14 41 13 32 43 [13],
 bn 15 .neq 43 14 0 43 4 [14],
 sg 12 15 4 [15]])
 (.cond (.tmp 12)
 (.seq
 (.reg [sn 4 42 43 []])
 .ret)
 (.seq
 (.reg [fa 17 32 2 0 [],
 ld 18 29 17 [17],
 ld 19 35 3 [],
 cf2 20 62 18 19 29 35 4 [18, 19],
 oq 21 (.unOp .not 4 (.tmp 20)) 4 [20],
 sg 16 21 4 [21]])
 (.cond (.tmp 16)
 (.seq
 (.reg [sn 4 45 43 []])
 .ret)
 .skip)))))
 (.seq
 (.reg [ld 22 35 3 [3],
 cf1 23 63 22 35 23 [22],
 sg 5 23 23 [23]])
 (.seq
 (.seq
 (.reg [fa 24 32 2 1 [2],
 ld 25 30 24 [24],
 ln 26 25 30 3 [],
 oq 27 (.move (.const (.int .i64 0))) 3 []])
 (.block 1
 (.loop F29.s0)))
 (.seq
 (.reg [sn 4 0 43 []])
 .ret)))))
theorem F29.rs : Try.f29.results.toList = [.tmp 4] := rfl
def heat_CheckField.b0 (k : Nat) (f0 : Firing) (x6 : (List Int)) : Int → Option (Stp (Int) (Unit) (Int)) := fun (i7 : Int) =>
 bif decide (i7 < (f0.Readings.length : Int)) then
  (at? f0.Readings i7).bind fun x9 =>
  (heat_reading_least k (⟨x9⟩ : heat_reading)).bind fun x10 =>
  (heat_reading_most k (⟨x9⟩ : heat_reading)).bind fun x11 =>
  bif x10.2 then
   (at? x6 x9.Place).bind fun x13 =>
   bif (!decide (x13 < x10.1)) then
    bif x11.2 then
     bif decide (x11.1 < x13) then
      some (.ret 45)
     else
      some (.next (w64 (i7 + 1)))
    else
     some (.next (w64 (i7 + 1)))
   else
    some (.ret 45)
  else
   bif x11.2 then
    (at? x6 x9.Place).bind fun x18 =>
    bif decide (x11.1 < x18) then
     some (.ret 45)
    else
     some (.next (w64 (i7 + 1)))
   else
    some (.next (w64 (i7 + 1)))
 else
  some (.brk ())
noncomputable def heat_CheckField.h0 (f0 : Firing) (x6 : (List Int)) : Int → St := fun (i7 : Int) => ⟨[(5, .sl 1 (List.map eI x6)), (25, .sl 6 (List.map Reading.c f0.Readings)), (26, .int .i64 (f0.Readings.length : Int)), (27, .int .i64 i7)], [], [], 1, Try.f29.ntmps⟩
noncomputable def heat_CheckField.x0 : Unit → St := fun (_ : Unit) => ⟨[], [], [], 1, Try.f29.ntmps⟩
def heat_CheckField (k : Nat) (f0 : Firing) (x1 : Field) : Option (Int) :=
 (heat_Check k f0).bind fun x2 =>
 bif (!decide (x2 = (0 : Int))) then
  some 42
 else
  (heat_isField k f0.Kiln x1).bind fun x4 =>
  bif (!x4) then
   some 45
  else
   (heat_heats k x1).bind fun x6 =>
   (whl (heat_CheckField.b0 k f0 x6) k 0).bind fun r20 => match r20 with
   | .next _ => none
   | .ret v_ => some v_
   | .brk _ =>
    some 0
theorem heat_CheckField_ok (k : Nat) (f0 : Firing) (x1 : Field) (r : Int) (h0 : heat_CheckField k f0 x1 = some r) : PCall Try.prog 29 [.agg (Firing.c f0), .agg (Field.c x1)] (fun y => y = .int .i64 r) := by
 refine PB (fn := Try.f29) (sc := F29.c) ?_
 refine rS ?_
 simp only [heat_CheckField] at h0
 try simp only [F29.c, go_sem]
 obtain ⟨x2, yx2, h0⟩ := bs h0
 refine zc0 (heat_Check_ok k _ _ yx2) ?_ (by first | rfl | simp [AV.refsL, AV.refs, AV.scal, AV.leaf]) ?_
 try simp only [go_sem]
 try simp only [go_sem]
 refine AKev_bif h0 ?_ ?_ <;> intro c3 h0
 have c3 := bnot_t c3
 try simp only [c3, go_sem]
 obtain rfl := Option.some.inj h0
 refine AKev_ret rfl ?_
 try simp only [F29.rs, c3, go_sem]
 have c3 := bnot_f c3
 try simp only [c3, go_sem]
 obtain ⟨x4, yx4, h0⟩ := bs h0
 refine zc0 (heat_isField_ok k _ _ _ yx4) ?_ (by first | rfl | simp [AV.refsL, AV.refs, AV.scal, AV.leaf]) ?_
 try simp only [c3, go_sem]
 try simp only [c3, go_sem]
 refine AKev_bif h0 ?_ ?_ <;> intro c5 h0
 have c5 := bnot_t c5
 try simp only [c5, c3, go_sem]
 obtain rfl := Option.some.inj h0
 refine AKev_ret rfl ?_
 try simp only [F29.rs, c3, c5, go_sem]
 have c5 := bnot_f c5
 try simp only [c5, c3, go_sem]
 obtain ⟨x6, yx6, h0⟩ := bs h0
 refine zc0 (heat_heats_ok k _ _ yx6) ?_ (by first | rfl | simp [AV.refsL, AV.refs, AV.scal, AV.leaf]) ?_
 try simp only [c3, c5, go_sem]
 try simp only [c3, c5, go_sem]
 obtain ⟨r20, yr20, h0⟩ := bs h0
 refine AKev_loopS yr20 (heat_CheckField.h0 f0 x6) (heat_CheckField.x0) ?_ ?_ ?_
 refine Weak.go [5, 25, 26, 27] [] rfl ?_
 try simp only [heat_CheckField.h0, c3, c5, go_sem]
 rintro i7 x_1 Bk1 Br1 h1 hnext1 hbrk1 hret1
 refine rS ?_
 simp only [heat_CheckField.b0] at h1
 try simp only [F29.s0, heat_CheckField.h0, c3, c5, go_sem]
 refine AKev_bif h1 ?_ ?_ <;> intro c8 h1
 try simp only [c8, c3, c5, go_sem]
 obtain ⟨x9, yx9, h1⟩ := bs h1
 try simp only [aa yx9, c3, c5, c8, go_sem]
 obtain ⟨x10, yx10, h1⟩ := bs h1
 refine zc0 (heat_reading_least_ok k _ _ yx10) ?_ (by first | rfl | simp [AV.refsL, AV.refs, AV.scal, AV.leaf]) ?_
 try simp only [c3, c5, c8, aa yx9, go_sem]
 try simp only [c3, c5, c8, aa yx9, go_sem]
 obtain ⟨x11, yx11, h1⟩ := bs h1
 refine zc0 (heat_reading_most_ok k _ _ yx11) ?_ (by first | rfl | simp [AV.refsL, AV.refs, AV.scal, AV.leaf]) ?_
 try simp only [c3, c5, c8, aa yx9, go_sem]
 try simp only [c3, c5, c8, aa yx9, go_sem]
 refine AKev_bif h1 ?_ ?_ <;> intro c12 h1
 try simp only [c12, c3, c5, c8, aa yx9, go_sem]
 obtain ⟨x13, yx13, h1⟩ := bs h1
 try simp only [aa yx13, c3, c5, c8, aa yx9, c12, go_sem]
 refine AKev_bif h1 ?_ ?_ <;> intro c14 h1
 have c14 := bnot_t c14
 try simp only [c14, c3, c5, c8, aa yx9, c12, aa yx13, go_sem]
 refine AKev_bif h1 ?_ ?_ <;> intro c15 h1
 try simp only [c15, aa yx13, c3, c5, c8, aa yx9, c12, c14, go_sem]
 refine AKev_bif h1 ?_ ?_ <;> intro c16 h1
 try simp only [c16, c3, c5, c8, aa yx9, c12, aa yx13, c14, c15, go_sem]
 obtain rfl := hret1 _ (Option.some.inj h1).symm
 simp only at h0
 obtain rfl := Option.some.inj h0
 refine AKev_ret rfl ?_
 try simp only [F29.rs, c3, c5, c8, aa yx9, c12, aa yx13, c14, c15, c16, go_sem]
 try simp only [c16, c3, c5, c8, aa yx9, c12, aa yx13, c14, c15, go_sem]
 refine AKev_backB (hnext1 _ _ (Option.some.inj h1).symm ?_)
 refine Weak.go [5, 25, 26, 27] [] rfl ?_
 try simp only [heat_CheckField.h0, c3, c5, c8, aa yx9, c12, aa yx13, c14, c15, c16, go_sem]
 try simp only [c15, c3, c5, c8, aa yx9, c12, aa yx13, c14, go_sem]
 refine AKev_backB (hnext1 _ _ (Option.some.inj h1).symm ?_)
 refine Weak.go [5, 25, 26, 27] [] rfl ?_
 try simp only [heat_CheckField.h0, c3, c5, c8, aa yx9, c12, aa yx13, c14, c15, go_sem]
 have c14 := bnot_f c14
 try simp only [c14, c3, c5, c8, aa yx9, c12, aa yx13, go_sem]
 obtain rfl := hret1 _ (Option.some.inj h1).symm
 simp only at h0
 obtain rfl := Option.some.inj h0
 refine AKev_ret rfl ?_
 try simp only [F29.rs, c3, c5, c8, aa yx9, c12, aa yx13, c14, go_sem]
 try simp only [c12, c3, c5, c8, aa yx9, go_sem]
 refine AKev_bif h1 ?_ ?_ <;> intro c17 h1
 try simp only [c17, c3, c5, c8, aa yx9, c12, go_sem]
 obtain ⟨x18, yx18, h1⟩ := bs h1
 try simp only [aa yx18, c3, c5, c8, aa yx9, c12, c17, go_sem]
 refine AKev_bif h1 ?_ ?_ <;> intro c19 h1
 try simp only [c19, c3, c5, c8, aa yx9, c12, c17, aa yx18, go_sem]
 obtain rfl := hret1 _ (Option.some.inj h1).symm
 simp only at h0
 obtain rfl := Option.some.inj h0
 refine AKev_ret rfl ?_
 try simp only [F29.rs, c3, c5, c8, aa yx9, c12, c17, aa yx18, c19, go_sem]
 try simp only [c19, c3, c5, c8, aa yx9, c12, c17, aa yx18, go_sem]
 refine AKev_backB (hnext1 _ _ (Option.some.inj h1).symm ?_)
 refine Weak.go [5, 25, 26, 27] [] rfl ?_
 try simp only [heat_CheckField.h0, c3, c5, c8, aa yx9, c12, c17, aa yx18, c19, go_sem]
 try simp only [c17, c3, c5, c8, aa yx9, c12, go_sem]
 refine AKev_backB (hnext1 _ _ (Option.some.inj h1).symm ?_)
 refine Weak.go [5, 25, 26, 27] [] rfl ?_
 try simp only [heat_CheckField.h0, c3, c5, c8, aa yx9, c12, c17, go_sem]
 try simp only [c8, c3, c5, go_sem]
 refine AKev_backB (hbrk1 _ _ (Option.some.inj h1).symm ?_)
 refine Weak.go [] [] rfl ?_
 try simp only [heat_CheckField.x0, c3, c5, c8, go_sem]
 rintro _ hr_
 subst hr_
 simp only at h0
 refine rS ?_
 try simp only [heat_CheckField.x0, c3, c5, go_sem]
 obtain rfl := Option.some.inj h0
 refine AKev_ret rfl ?_
 try simp only [F29.rs, c3, c5, go_sem]
def F30.c : SC :=
 (.seq
 (.reg [oq 3 (.box 32 (.tmp 0)) 0 [0],
 oq 6 (.alloc 35) 0 [],
 sn 7 0 43 [7]])
 (.seq
 (.reg [ld 13 32 3 [3],
 mv 14 1 3 [],
 cf2 15 36 13 14 32 3 95 [13, 14],
 mv 12 15 95 [15],
 xt 16 12 0 94 [],
 xt 17 12 1 43 [12],
 oq 8 (.alloc 94) 0 [],
 ⟨none, .store 94 (.tmp 8) (.tmp 16), 0, none, [16]⟩,
 sg 9 17 43 [17]])
 (.seq
 (.seq
 (.reg [mv 18 9 43 [],
 bn 19 .neq 43 18 0 43 4 [18]])
 (.cond (.tmp 19)
 (.seq
 (.reg [oq 20 (.build 35 #[]) 35 [],
 mv 21 9 43 [9],
 ⟨none, .store 35 (.tmp 6) (.tmp 20), 0, none, [20]⟩,
 sg 7 21 43 [21]])
 .ret)
 .skip))
 (.seq
 (.seq
 (.reg [mv 22 2 4 [2],
 oq 23 (.unOp .not 4 (.tmp 22)) 4 [22]])
 (.cond (.tmp 23)
 (.seq
 (.reg [ld 25 94 8 [],
 mv 26 1 3 [],
 cf2 27 71 25 26 94 3 126 [25, 26],
 mv 24 27 126 [27],
 xt 28 24 0 3 [],
 xt 29 24 1 51 [24],
 oq 11 (.alloc 51) 0 [],
 sg 10 28 3 [28],
 ⟨none, .store 51 (.tmp 11) (.tmp 29), 0, none, [11, 29]⟩])
 (.reg [ld 30 94 8 [],
 mv 31 1 3 [1],
 mv 32 10 3 [],
 mv 33 10 3 [10],
 oq 34 (.build 39 #[(0, .tmp 32), (1, .tmp 33)]) 39 [32, 33],
 oq 35 (.call ⟨.value (.func 72), #[.tmp 30, .tmp 31, .tmp 34], #[94, 3, 39]⟩) 94 [30, 31, 34],
 ⟨none, .store 94 (.tmp 8) (.tmp 35), 0, none, [35]⟩]))
 .skip))
 (.seq
 (.reg [ld 36 94 8 [8],
 cf1 37 73 36 94 35 [36],
 ⟨none, .store 35 (.tmp 6) (.tmp 37), 0, none, [37]⟩,
 sn 7 0 43 []])
 .ret)))))
theorem F30.rs : Try.f30.results.toList = [.cell 6 35, .tmp 7] := rfl
def heat_Attain (k : Nat) (f0 : Firing) (place1 : Int) (high2 : Bool) : Option (Field × Int) :=
 (heat_asks k f0 place1).bind fun x1 =>
 bif (!decide (x1.2 = (0 : Int))) then
  some ((⟨[], []⟩ : Field), x1.2)
 else
  bif (!high2) then
   (heat_furnace_lowest k x1.1 place1).bind fun x4 =>
   (heat_furnace_asked k x1.1 place1 (⟨x4.1, x4.1⟩ : Range)).bind fun x5 =>
   (heat_furnace_greatest k x5).bind fun x6 =>
   some (x6, 0)
  else
   (heat_furnace_greatest k x1.1).bind fun x7 =>
   some (x7, 0)
theorem heat_Attain_ok (k : Nat) (f0 : Firing) (place1 : Int) (high2 : Bool) (r : Field × Int) (h0 : heat_Attain k f0 place1 high2 = some r) : PCall Try.prog 30 [.agg (Firing.c f0), .int .i64 place1, .bool high2] (fun y => y = .tup [.agg (Field.c r.1), .int .i64 r.2]) := by
 refine PB (fn := Try.f30) (sc := F30.c) ?_
 refine rS ?_
 simp only [heat_Attain] at h0
 try simp only [F30.c, go_sem]
 obtain ⟨x1, yx1, h0⟩ := bs h0
 refine zc0 (heat_asks_ok k _ _ _ yx1) ?_ (by first | rfl | simp [AV.refsL, AV.refs, AV.scal, AV.leaf]) ?_
 try simp only [go_sem]
 try simp only [go_sem]
 refine AKev_bif h0 ?_ ?_ <;> intro c2 h0
 have c2 := bnot_t c2
 try simp only [c2, go_sem]
 obtain rfl := Option.some.inj h0
 refine AKev_ret rfl ?_
 try simp only [F30.rs, c2, go_sem]
 have c2 := bnot_f c2
 try simp only [c2, go_sem]
 refine AKev_bif h0 ?_ ?_ <;> intro c3 h0
 have c3 := bnot_t c3
 try simp only [c3, c2, go_sem]
 obtain ⟨x4, yx4, h0⟩ := bs h0
 refine zc0 (heat_furnace_lowest_ok k _ _ _ yx4) ?_ (by first | rfl | simp [AV.refsL, AV.refs, AV.scal, AV.leaf]) ?_
 try simp only [c2, c3, go_sem]
 try simp only [c2, c3, go_sem]
 obtain ⟨x5, yx5, h0⟩ := bs h0
 refine zc0 (heat_furnace_asked_ok k _ _ _ _ yx5) ?_ (by first | rfl | simp [AV.refsL, AV.refs, AV.scal, AV.leaf]) ?_
 try simp only [c2, c3, go_sem]
 try simp only [c2, c3, go_sem]
 obtain ⟨x6, yx6, h0⟩ := bs h0
 refine zc0 (heat_furnace_greatest_ok k _ _ yx6) ?_ (by first | rfl | simp [AV.refsL, AV.refs, AV.scal, AV.leaf]) ?_
 try simp only [c2, c3, go_sem]
 try simp only [c2, c3, go_sem]
 obtain rfl := Option.some.inj h0
 refine AKev_ret rfl ?_
 try simp only [F30.rs, c2, c3, go_sem]
 have c3 := bnot_f c3
 try simp only [c3, c2, go_sem]
 obtain ⟨x7, yx7, h0⟩ := bs h0
 refine zc0 (heat_furnace_greatest_ok k _ _ yx7) ?_ (by first | rfl | simp [AV.refsL, AV.refs, AV.scal, AV.leaf]) ?_
 try simp only [c2, c3, go_sem]
 try simp only [c2, c3, go_sem]
 obtain rfl := Option.some.inj h0
 refine AKev_ret rfl ?_
 try simp only [F30.rs, c2, c3, go_sem]
def F31.c : SC :=
 (.seq
 (.reg [oq 2 (.box 32 (.tmp 0)) 0 [0],
 oq 4 (.alloc 35) 0 [],
 sn 5 0 43 [5]])
 (.seq
 (.reg [ld 10 32 2 [2],
 mv 11 1 80 [1],
 cf2 12 74 10 11 32 80 130 [10, 11],
 mv 9 12 130 [12],
 xt 13 9 0 94 [],
 xt 14 9 1 94 [],
 xt 15 9 2 43 [9],
 oq 6 (.alloc 94) 0 [],
 oq 7 (.alloc 94) 0 [],
 ⟨none, .store 94 (.tmp 6) (.tmp 13), 0, none, [6, 13]⟩,
 ⟨none, .store 94 (.tmp 7) (.tmp 14), 0, none, [14]⟩,
 sg 8 15 43 [15]])
 (.seq
 (.seq
 (.reg [mv 16 8 43 [],
 bn 17 .neq 43 16 0 43 4 [16]])
 (.cond (.tmp 17)
 (.seq
 (.reg [oq 18 (.build 35 #[]) 35 [],
 mv 19 8 43 [8],
 ⟨none, .store 35 (.tmp 4) (.tmp 18), 0, none, [18]⟩,
 sg 5 19 43 [19]])
 .ret)
 .skip))
 (.seq
 (.seq
 (.reg [ld 20 94 7 [],
 cf1 21 56 20 94 4 [20],
 oq 22 (.unOp .not 4 (.tmp 21)) 4 [21]])
 (.cond (.tmp 22)
 (.seq
 (.reg [oq 23 (.build 35 #[]) 35 [],
 ⟨none, .store 35 (.tmp 4) (.tmp 23), 0, none, [23]⟩,
 sn 5 3 43 []])
 .ret)
 .skip))
 (.seq
 (.reg [ld 24 94 7 [7],
 cf1 25 73 24 94 35 [24],
 ⟨none, .store 35 (.tmp 4) (.tmp 25), 0, none, [25]⟩,
 sn 5 0 43 []])
 .ret)))))
theorem F31.rs : Try.f31.results.toList = [.cell 4 35, .tmp 5] := rfl
def heat_Show (k : Nat) (f0 : Firing) (l1 : (List Want)) : Option (Field × Int) :=
 (heat_wanted k f0 l1).bind fun x1 =>
 bif (!decide (x1.2.2 = (0 : Int))) then
  some ((⟨[], []⟩ : Field), x1.2.2)
 else
  (heat_furnace_sound k x1.2.1).bind fun x3 =>
  bif (!x3) then
   some ((⟨[], []⟩ : Field), 3)
  else
   (heat_furnace_greatest k x1.2.1).bind fun x5 =>
   some (x5, 0)
theorem heat_Show_ok (k : Nat) (f0 : Firing) (l1 : (List Want)) (r : Field × Int) (h0 : heat_Show k f0 l1 = some r) : PCall Try.prog 31 [.agg (Firing.c f0), .sl 3 (List.map Want.c l1)] (fun y => y = .tup [.agg (Field.c r.1), .int .i64 r.2]) := by
 refine PB (fn := Try.f31) (sc := F31.c) ?_
 refine rS ?_
 simp only [heat_Show] at h0
 try simp only [F31.c, go_sem]
 obtain ⟨x1, yx1, h0⟩ := bs h0
 refine zc0 (heat_wanted_ok k _ _ _ yx1) ?_ (by first | rfl | simp [AV.refsL, AV.refs, AV.scal, AV.leaf]) ?_
 try simp only [go_sem]
 try simp only [go_sem]
 refine AKev_bif h0 ?_ ?_ <;> intro c2 h0
 have c2 := bnot_t c2
 try simp only [c2, go_sem]
 obtain rfl := Option.some.inj h0
 refine AKev_ret rfl ?_
 try simp only [F31.rs, c2, go_sem]
 have c2 := bnot_f c2
 try simp only [c2, go_sem]
 obtain ⟨x3, yx3, h0⟩ := bs h0
 refine zc0 (heat_furnace_sound_ok k _ _ yx3) ?_ (by first | rfl | simp [AV.refsL, AV.refs, AV.scal, AV.leaf]) ?_
 try simp only [c2, go_sem]
 try simp only [c2, go_sem]
 refine AKev_bif h0 ?_ ?_ <;> intro c4 h0
 have c4 := bnot_t c4
 try simp only [c4, c2, go_sem]
 obtain rfl := Option.some.inj h0
 refine AKev_ret rfl ?_
 try simp only [F31.rs, c2, c4, go_sem]
 have c4 := bnot_f c4
 try simp only [c4, c2, go_sem]
 obtain ⟨x5, yx5, h0⟩ := bs h0
 refine zc0 (heat_furnace_greatest_ok k _ _ yx5) ?_ (by first | rfl | simp [AV.refsL, AV.refs, AV.scal, AV.leaf]) ?_
 try simp only [c2, c4, go_sem]
 try simp only [c2, c4, go_sem]
 obtain rfl := Option.some.inj h0
 refine AKev_ret rfl ?_
 try simp only [F31.rs, c2, c4, go_sem]
end Go.Abs
