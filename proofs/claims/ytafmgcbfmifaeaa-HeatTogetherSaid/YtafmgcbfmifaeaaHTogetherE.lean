/-
  Part 5 of the proof: a machine over named blocks, what each function computes, and what follows. No condition.
-/
import Derived.Test.YtafmgcbfmifaeaaHTogetherD
set_option linter.unusedVariables false
set_option linter.unusedSimpArgs false
set_option linter.all false
set_option maxRecDepth 20000
set_option maxHeartbeats 8000000
namespace Go.Abs
open Go.Proofs
def F110.s0 : SC :=
 (.seq
 (.reg [b2 9 .lss 3 8 7 3 0 []])
 (.seq
 (.cond (.tmp 9)
 .skip
 (.exit 0))
 (.seq
 (.block 1
 (.seq
 (.reg [mv 10 8 3 [],
 sg 5 10 3 [10]])
 (.seq
 (.reg [mv 11 1 152 [],
 mv 12 0 30 [],
 mv 13 5 3 [],
 ia 14 30 12 13 [12, 13],
 ld 15 60 14 [14],
 oq 16 (.call ⟨.value (.tmp 11), #[.tmp 15], #[60]⟩) 4 [11, 15]])
 (.cond (.tmp 16)
 (.seq
 (.reg [mv 17 5 3 [5],
 sg 4 17 3 [17]])
 .ret)
 .skip))))
 (.reg [bn 18 .add 3 8 1 3 3 [8],
 mv 8 18 3 [18]]))))
def F110.c : SC :=
 (.seq
 (.reg [sn 4 0 3 [4]])
 (.seq
 (.seq
 (.reg [mv 6 0 30 [],
 ln 7 6 30 3 [6],
 oq 8 (.move (.const (.int .i64 0))) 3 []])
 (.block 0
 (.loop F110.s0)))
 (.seq
 (.reg [sn 4 (-1) 3 []])
 .ret)))
theorem F110.rs : Try.f110.results.toList = [.tmp 4] := rfl
def slices_IndexFunc_api_Reading.b0 (k : Nat) (f1 : Reading → Option (Bool)) (s0 : (List Reading)) : Int → Option (Stp (Int) (Unit) (Int)) := fun (i1 : Int) =>
 bif decide (i1 < (s0.length : Int)) then
  (at? s0 i1).bind fun x3 =>
  (f1 x3).bind fun x4 =>
  bif x4 then
   some (.ret i1)
  else
   some (.next (w64 (i1 + 1)))
 else
  some (.brk ())
noncomputable def slices_IndexFunc_api_Reading.h0 (f1_f : Nat) (f1_c : List AV) (s0 : (List Reading)) : Int → St := fun (i1 : Int) => ⟨[(0, .sl 6 (List.map Reading.c s0)), (1, .fn (.func f1_f) [] f1_c), (7, .int .i64 (s0.length : Int)), (8, .int .i64 i1)], [], [], 1, Try.f110.ntmps⟩
noncomputable def slices_IndexFunc_api_Reading.x0 : Unit → St := fun (_ : Unit) => ⟨[], [], [], 1, Try.f110.ntmps⟩
def slices_IndexFunc_api_Reading (k : Nat) (s0 : (List Reading)) (f1 : Reading → Option (Bool)) : Option (Int) :=
 (whl (slices_IndexFunc_api_Reading.b0 k f1 s0) k 0).bind fun r6 => match r6 with
 | .next _ => none
 | .ret v_ => some v_
 | .brk _ =>
  some (-1)
theorem slices_IndexFunc_api_Reading_ok (k : Nat) (s0 : (List Reading)) (f1_f : Nat) (f1_c : List AV) (f1_i : Ice f1_c) (f1 : Reading → Option (Bool)) (f1_h : ∀ q0 qr, f1 q0 = some qr → PCall Try.prog f1_f (.agg (Reading.c q0) :: f1_c) (fun y => y = .bool qr)) (r : Int) (h0 : slices_IndexFunc_api_Reading k s0 f1 = some r) : PCall Try.prog 110 [.sl 6 (List.map Reading.c s0), .fn (.func f1_f) [] f1_c] (fun y => y = .int .i64 r) := by
 refine PB (fn := Try.f110) (sc := F110.c) ?_
 refine rS ?_
 simp only [slices_IndexFunc_api_Reading] at h0
 try simp only [F110.c, f1_i.sh, f1_i.frz, f1_i.br, f1_i.refs, f1_i.imp, f1_i.ren, f1_i.un, go_sem]
 obtain ⟨r6, yr6, h0⟩ := bs h0
 refine AKev_loopS yr6 (slices_IndexFunc_api_Reading.h0 f1_f f1_c s0) (slices_IndexFunc_api_Reading.x0) ?_ ?_ ?_
 refine Weak.go [0, 1, 7, 8] [] rfl ?_
 try simp only [slices_IndexFunc_api_Reading.h0, f1_i.sh, f1_i.frz, f1_i.br, f1_i.refs, f1_i.imp, f1_i.ren, f1_i.un, go_sem]
 rintro i1 x_1 Bk1 Br1 h1 hnext1 hbrk1 hret1
 refine rS ?_
 simp only [slices_IndexFunc_api_Reading.b0] at h1
 try simp only [F110.s0, slices_IndexFunc_api_Reading.h0, f1_i.sh, f1_i.frz, f1_i.br, f1_i.refs, f1_i.imp, f1_i.ren, f1_i.un, go_sem]
 refine AKev_bif h1 ?_ ?_ <;> intro c2 h1
 try simp only [c2, f1_i.sh, f1_i.frz, f1_i.br, f1_i.refs, f1_i.imp, f1_i.ren, f1_i.un, go_sem]
 obtain ⟨x3, yx3, h1⟩ := bs h1
 try simp only [aa yx3, f1_i.sh, f1_i.frz, f1_i.br, f1_i.refs, f1_i.imp, f1_i.ren, f1_i.un, c2, go_sem]
 obtain ⟨x4, yx4, h1⟩ := bs h1
 refine zc0 (f1_h _ _ yx4) ?_ (by first | rfl | simp [AV.refsL, AV.refs, AV.scal, AV.leaf, f1_i.refs]) ?_
 try simp only [f1_i.sh, f1_i.frz, f1_i.br, f1_i.refs, f1_i.imp, f1_i.ren, f1_i.un, c2, aa yx3, go_sem]
 try simp only [f1_i.sh, f1_i.frz, f1_i.br, f1_i.refs, f1_i.imp, f1_i.ren, f1_i.un, c2, aa yx3, go_sem]
 refine AKev_bif h1 ?_ ?_ <;> intro c5 h1
 try simp only [c5, f1_i.sh, f1_i.frz, f1_i.br, f1_i.refs, f1_i.imp, f1_i.ren, f1_i.un, c2, aa yx3, go_sem]
 obtain rfl := hret1 _ (Option.some.inj h1).symm
 simp only at h0
 obtain rfl := Option.some.inj h0
 refine AKev_ret rfl ?_
 try simp only [F110.rs, f1_i.sh, f1_i.frz, f1_i.br, f1_i.refs, f1_i.imp, f1_i.ren, f1_i.un, c2, aa yx3, c5, go_sem]
 try simp only [c5, f1_i.sh, f1_i.frz, f1_i.br, f1_i.refs, f1_i.imp, f1_i.ren, f1_i.un, c2, aa yx3, go_sem]
 refine AKev_backB (hnext1 _ _ (Option.some.inj h1).symm ?_)
 refine Weak.go [0, 1, 7, 8] [] rfl ?_
 try simp only [slices_IndexFunc_api_Reading.h0, f1_i.sh, f1_i.frz, f1_i.br, f1_i.refs, f1_i.imp, f1_i.ren, f1_i.un, c2, aa yx3, c5, go_sem]
 try simp only [c2, f1_i.sh, f1_i.frz, f1_i.br, f1_i.refs, f1_i.imp, f1_i.ren, f1_i.un, go_sem]
 refine AKev_backB (hbrk1 _ _ (Option.some.inj h1).symm ?_)
 refine Weak.go [] [] rfl ?_
 try simp only [slices_IndexFunc_api_Reading.x0, f1_i.sh, f1_i.frz, f1_i.br, f1_i.refs, f1_i.imp, f1_i.ren, f1_i.un, c2, go_sem]
 rintro _ hr_
 subst hr_
 simp only at h0
 refine rS ?_
 try simp only [slices_IndexFunc_api_Reading.x0, f1_i.sh, f1_i.frz, f1_i.br, f1_i.refs, f1_i.imp, f1_i.ren, f1_i.un, go_sem]
 obtain rfl := Option.some.inj h0
 refine AKev_ret rfl ?_
 try simp only [F110.rs, f1_i.sh, f1_i.frz, f1_i.br, f1_i.refs, f1_i.imp, f1_i.ren, f1_i.un, go_sem]
def F97.s0 : SC :=
 (.seq
 (.seq
 (.reg [mv 16 6 3 [],
 mv 17 0 30 [],
 ln 18 17 30 3 [17],
 b2 19 .lss 3 16 18 3 4 [16, 18]])
 (.cond (.tmp 19)
 .skip
 (.exit 0)))
 (.seq
 (.block 1
 (.seq
 (.reg [mv 22 0 30 [],
 mv 23 6 3 [],
 ia 24 30 22 23 [22, 23],
 ld 25 60 24 [24],
 oq 7 (.alloc 60) 0 [],
 ⟨none, .store 60 (.tmp 7) (.tmp 25), 0, none, [25]⟩])
 (.seq
 (.reg [mv 26 1 152 [],
 ld 27 60 7 [],
 oq 28 (.call ⟨.value (.tmp 26), #[.tmp 27], #[60]⟩) 4 [26, 27],
 oq 29 (.unOp .not 4 (.tmp 28)) 4 [28]])
 (.cond (.tmp 29)
 (.seq
 (.reg [mv 30 0 30 [],
 mv 31 5 3 [],
 ld 32 60 7 [7],
 ia 33 30 30 31 [30, 31],
 ⟨none, .store 60 (.tmp 33) (.tmp 32), 0, none, [32, 33]⟩])
 (.reg [mv 34 5 3 [5],
 bn 35 .add 3 34 1 3 3 [34],
 sg 5 35 3 [35]]))
 .skip))))
 (.reg [mv 20 6 3 [6],
 bn 21 .add 3 20 1 3 3 [20],
 sg 6 21 3 [21]])))
def F97.c : SC :=
 (.seq
 (.reg [oq 4 (.assign (.const (.slice none 0 0))) 30 [4]])
 (.seq
 (.reg [mv 8 0 30 [],
 mv 9 1 152 [],
 cf2 10 110 8 9 30 152 3 [8, 9],
 sg 5 10 3 [10]])
 (.seq
 (.seq
 (.reg [mv 11 5 3 [],
 bn 12 .eql 3 11 (-1) 3 4 [11]])
 (.cond (.tmp 12)
 (.seq
 (.reg [mv 13 0 30 [0],
 sg 4 13 30 [13]])
 .ret)
 .skip))
 (.seq
 (.seq
 (.reg [mv 14 5 3 [],
 bn 15 .add 3 14 1 3 3 [14],
 sg 6 15 3 [15]])
 (.block 0
 (.loop F97.s0)))
 (.seq
 (.reg [mv 36 0 30 [],
 mv 37 5 3 [],
 oq 38 (.slice 30 (.tmp 36) (some (.tmp 37)) none none) 30 [36, 37],
 ⟨none, .call ⟨.builtin .clear, #[.tmp 38], #[30]⟩, 0, none, [38]⟩])
 (.seq
 (.reg [mv 39 0 30 [0],
 mv 40 5 3 [5],
 oq 41 (.slice 30 (.tmp 39) none (some (.tmp 40)) none) 30 [39, 40],
 sg 4 41 30 [41]])
 .ret))))))
theorem F97.rs : Try.f97.results.toList = [.tmp 4] := rfl
def slices_DeleteFunc_api_Reading.b0 (k : Nat) (del1 : Reading → Option (Bool)) : (Int × Int × (List Reading)) → Option (Stp (Int × Int × (List Reading)) (Int × (List Reading)) ((List Reading))) := fun (s : Int × Int × (List Reading)) => match s with
 | (i3, i4, l5) =>
   bif decide (i4 < ((l5.length : Nat) : Int)) then
    (at? l5 i4).bind fun x9 =>
    (del1 x9).bind fun x10 =>
    bif (!x10) then
     (at? l5 i3).bind fun x12 =>
     (set? l5 i3 x9).bind fun l13 =>
     some (.next (w64 (i3 + 1), w64 (i4 + 1), l13))
    else
     some (.next (i3, w64 (i4 + 1), l5))
   else
    some (.brk (i3, l5))
noncomputable def slices_DeleteFunc_api_Reading.h0 (H : Heap) (del1_f : Nat) (del1_c : List AV) : (Int × Int × (List Reading)) → St := fun (s : Int × Int × (List Reading)) => match s with
 | (i3, i4, l5) => ⟨[(0, .loc 0 0 6 0 l5.length l5.length), (1, .fn (.func del1_f) [] del1_c), (5, .int .i64 i3), (6, .int .i64 i4)], [(0, .arr 60 6 (List.map Reading.c l5))], H, 1, Try.f97.ntmps⟩
noncomputable def slices_DeleteFunc_api_Reading.x0 (H : Heap) : (Int × (List Reading)) → St := fun (s : Int × (List Reading)) => match s with
 | (i6, l7) => ⟨[(0, .loc 0 0 6 0 l7.length l7.length), (5, .int .i64 i6)], [(0, .arr 60 6 (List.map Reading.c l7))], H, 1, Try.f97.ntmps⟩
def slices_DeleteFunc_api_Reading (k : Nat) (s0 : (List Reading)) (del1 : Reading → Option (Bool)) : Option ((List Reading)) :=
 (slices_IndexFunc_api_Reading k s0 del1).bind fun x1 =>
 bif decide (x1 = (-1 : Int)) then
  some s0
 else
  (whl (slices_DeleteFunc_api_Reading.b0 k del1) k (x1, w64 (x1 + 1), s0)).bind fun r14 => match r14 with
  | .next _ => none
  | .ret v_ => some v_
  | .brk (i6, l7) =>
   (ls? l7.length i6).bind fun _ =>
   (hs? l7.length i6).bind fun _ =>
   some ((clr l7 i6.toNat (l7.length - i6.toNat) (⟨0, 0, 0, 0, (⟨0, 0⟩ : Range)⟩ : Reading)).take i6.toNat)
theorem slices_DeleteFunc_api_Reading_ok (k : Nat) (s0 : (List Reading)) (del1_f : Nat) (del1_c : List AV) (del1_i : Ice del1_c) (del1 : Reading → Option (Bool)) (del1_h : ∀ q0 qr, del1 q0 = some qr → PCall Try.prog del1_f (.agg (Reading.c q0) :: del1_c) (fun y => y = .bool qr)) (r : (List Reading)) (h0 : slices_DeleteFunc_api_Reading k s0 del1 = some r) : GCall Try.prog 97 [.loc 0 0 6 0 s0.length s0.length, .fn (.func del1_f) [] del1_c] [(0, .arr 60 6 (List.map Reading.c s0))] (fun y fr => y = .loc 0 0 6 0 r.length r.length ∧ fr = [(0, .arr 60 6 (List.map Reading.c r))]) := by
 have hr := GCall.own (et := 60) (sz := 6) (ls := List.map Reading.c r) (GCall.of_body T_ok (f := 97) (fn := Try.f97) (sc := F97.c) (args := [.loc 0 0 6 0 s0.length s0.length, .fn (.func del1_f) [] del1_c]) (fr0 := [(0, .arr 60 6 (List.map Reading.c s0))]) (by rfl) (by rfl) (by decide +kernel) (by rfl) (by decide +kernel) (Nat.le_of_ble_eq_true rfl) (fun H => ?_))
 simpa only [List.length_map] using hr
 refine rS ?_
 simp only [slices_DeleteFunc_api_Reading] at h0
 try simp only [F97.c, del1_i.sh, del1_i.frz, del1_i.br, del1_i.refs, del1_i.imp, del1_i.ren, del1_i.un, go_sem]
 obtain ⟨x1, yx1, h0⟩ := bs h0
 refine zc0 (slices_IndexFunc_api_Reading_ok k _ del1_f del1_c del1_i del1 del1_h _ yx1) ?_ (by first | rfl | simp [AV.refsL, AV.refs, AV.scal, AV.leaf, del1_i.refs]) ?_
 try simp only [del1_i.sh, del1_i.frz, del1_i.br, del1_i.refs, del1_i.imp, del1_i.ren, del1_i.un, go_sem]
 try simp only [del1_i.sh, del1_i.frz, del1_i.br, del1_i.refs, del1_i.imp, del1_i.ren, del1_i.un, go_sem]
 refine AKev_bif h0 ?_ ?_ <;> intro c2 h0
 try simp only [c2, del1_i.sh, del1_i.frz, del1_i.br, del1_i.refs, del1_i.imp, del1_i.ren, del1_i.un, go_sem]
 obtain rfl := Option.some.inj h0
 refine AKev_gret rfl ?_
 try simp only [F97.rs, oOK, Option.map_some, tupOf, cut0_map, cut_map, Nat.le_refl, List.take_length, del1_i.sh, del1_i.frz, del1_i.br, del1_i.refs, del1_i.imp, del1_i.ren, del1_i.un, c2, go_sem]
 try simp only [c2, del1_i.sh, del1_i.frz, del1_i.br, del1_i.refs, del1_i.imp, del1_i.ren, del1_i.un, go_sem]
 obtain ⟨r14, yr14, h0⟩ := bs h0
 refine AKev_loopS yr14 (slices_DeleteFunc_api_Reading.h0 H del1_f del1_c) (slices_DeleteFunc_api_Reading.x0 H) ?_ ?_ ?_
 refine Weak.go [0, 1, 5, 6] [0] rfl ?_
 try simp only [slices_DeleteFunc_api_Reading.h0, del1_i.sh, del1_i.frz, del1_i.br, del1_i.refs, del1_i.imp, del1_i.ren, del1_i.un, c2, go_sem]
 rintro ⟨i3, i4, l5⟩ x_1 Bk1 Br1 h1 hnext1 hbrk1 hret1
 refine rS ?_
 simp only [slices_DeleteFunc_api_Reading.b0] at h1
 try simp only [F97.s0, slices_DeleteFunc_api_Reading.h0, del1_i.sh, del1_i.frz, del1_i.br, del1_i.refs, del1_i.imp, del1_i.ren, del1_i.un, c2, go_sem]
 refine AKev_bif h1 ?_ ?_ <;> intro c8 h1
 try simp only [c8, del1_i.sh, del1_i.frz, del1_i.br, del1_i.refs, del1_i.imp, del1_i.ren, del1_i.un, c2, go_sem]
 obtain ⟨x9, yx9, h1⟩ := bs h1
 try simp only [aa yx9, del1_i.sh, del1_i.frz, del1_i.br, del1_i.refs, del1_i.imp, del1_i.ren, del1_i.un, c2, c8, go_sem]
 obtain ⟨x10, yx10, h1⟩ := bs h1
 refine zc0 (del1_h _ _ yx10) ?_ (by first | rfl | simp [AV.refsL, AV.refs, AV.scal, AV.leaf, del1_i.refs]) ?_
 try simp only [del1_i.sh, del1_i.frz, del1_i.br, del1_i.refs, del1_i.imp, del1_i.ren, del1_i.un, c2, c8, aa yx9, go_sem]
 try simp only [del1_i.sh, del1_i.frz, del1_i.br, del1_i.refs, del1_i.imp, del1_i.ren, del1_i.un, c2, c8, aa yx9, go_sem]
 refine AKev_bif h1 ?_ ?_ <;> intro c11 h1
 have c11 := bnot_t c11
 try simp only [c11, del1_i.sh, del1_i.frz, del1_i.br, del1_i.refs, del1_i.imp, del1_i.ren, del1_i.un, c2, c8, aa yx9, go_sem]
 obtain ⟨x12, yx12, h1⟩ := bs h1
 try simp only [aa yx12, del1_i.sh, del1_i.frz, del1_i.br, del1_i.refs, del1_i.imp, del1_i.ren, del1_i.un, c2, c8, aa yx9, c11, go_sem]
 obtain ⟨l13, yl13, h1⟩ := bs h1
 have eyl13 := set_map Reading.c yl13
 simp only [go_sem] at eyl13
 try simp only [eyl13, del1_i.sh, del1_i.frz, del1_i.br, del1_i.refs, del1_i.imp, del1_i.ren, del1_i.un, c2, c8, aa yx9, c11, aa yx12, set_len yl13, set_take Reading.c yl13, go_sem]
 refine AKev_backB (hnext1 _ _ (Option.some.inj h1).symm ?_)
 refine Weak.go [0, 1, 5, 6] [0] rfl ?_
 try simp only [slices_DeleteFunc_api_Reading.h0, del1_i.sh, del1_i.frz, del1_i.br, del1_i.refs, del1_i.imp, del1_i.ren, del1_i.un, c2, c8, aa yx9, c11, aa yx12, eyl13, set_len yl13, set_take Reading.c yl13, go_sem]
 have c11 := bnot_f c11
 try simp only [c11, del1_i.sh, del1_i.frz, del1_i.br, del1_i.refs, del1_i.imp, del1_i.ren, del1_i.un, c2, c8, aa yx9, go_sem]
 refine AKev_backB (hnext1 _ _ (Option.some.inj h1).symm ?_)
 refine Weak.go [0, 1, 5, 6] [0] rfl ?_
 try simp only [slices_DeleteFunc_api_Reading.h0, del1_i.sh, del1_i.frz, del1_i.br, del1_i.refs, del1_i.imp, del1_i.ren, del1_i.un, c2, c8, aa yx9, c11, go_sem]
 try simp only [c8, del1_i.sh, del1_i.frz, del1_i.br, del1_i.refs, del1_i.imp, del1_i.ren, del1_i.un, c2, go_sem]
 refine AKev_backB (hbrk1 _ _ (Option.some.inj h1).symm ?_)
 refine Weak.go [0, 5] [0] rfl ?_
 try simp only [slices_DeleteFunc_api_Reading.x0, del1_i.sh, del1_i.frz, del1_i.br, del1_i.refs, del1_i.imp, del1_i.ren, del1_i.un, c2, c8, go_sem]
 rintro ⟨i6, l7⟩ hr_
 subst hr_
 simp only at h0
 refine rS ?_
 try simp only [slices_DeleteFunc_api_Reading.x0, del1_i.sh, del1_i.frz, del1_i.br, del1_i.refs, del1_i.imp, del1_i.ren, del1_i.un, c2, go_sem]
 obtain ⟨u15, yu15, h0⟩ := bs h0
 have lyu15 := ls_le yu15
 have eq16 := clr_map Reading.c l7 i6.toNat (l7.length - i6.toNat) (⟨0, 0, 0, 0, (⟨0, 0⟩ : Range)⟩ : Reading)
 have lq16 : (clr l7 i6.toNat (l7.length - i6.toNat) (⟨0, 0, 0, 0, (⟨0, 0⟩ : Range)⟩ : Reading)).length = l7.length := by rw [clr_len] <;> simp only [del1_i.sh, del1_i.frz, del1_i.br, del1_i.refs, del1_i.imp, del1_i.ren, del1_i.un, c2, lyu15, go_sem]
 try simp only [go_sem] at eq16
 try simp only [ls_bounds yu15, lyu15, eq16, del1_i.sh, del1_i.frz, del1_i.br, del1_i.refs, del1_i.imp, del1_i.ren, del1_i.un, c2, lq16, go_sem]
 obtain ⟨u17, yu17, h0⟩ := bs h0
 have lyu17 := hs_le yu17
 try simp only [hs_bounds yu17, lyu17, del1_i.sh, del1_i.frz, del1_i.br, del1_i.refs, del1_i.imp, del1_i.ren, del1_i.un, c2, lyu15, lq16, go_sem]
 obtain rfl := Option.some.inj h0
 refine AKev_gret rfl ?_
 try simp only [F97.rs, oOK, Option.map_some, tupOf, cut0_map, cut_map, Nat.le_refl, List.take_length, del1_i.sh, del1_i.frz, del1_i.br, del1_i.refs, del1_i.imp, del1_i.ren, del1_i.un, c2, lyu15, lq16, lyu17, go_sem]
def F98.c : SC :=
 (.seq
 (.reg [oq 2 (.box 60 (.tmp 0)) 0 [0],
 sb 3 false 4 [3]])
 (.seq
 (.reg [ld 4 122 1 [1],
 fa 5 60 2 0 [2],
 ld 6 3 5 [5],
 oq 7 (.call ⟨.value (.tmp 4), #[.tmp 6], #[3]⟩) 4 [4, 6],
 sg 3 7 4 [7]])
 .ret))
theorem F98.rs : Try.f98.results.toList = [.tmp 3] := rfl
def heat_without_1 (k : Nat) (r0 : Reading) (c1 : Int → Option (Bool)) : Option (Bool) :=
 (c1 r0.Source).bind fun x1 =>
 some x1
theorem heat_without_1_ok (k : Nat) (r0 : Reading) (c1_f : Nat) (c1_c : List AV) (c1_i : Ice c1_c) (c1 : Int → Option (Bool)) (c1_h : ∀ q0 qr, c1 q0 = some qr → PCall Try.prog c1_f (.int .i64 q0 :: c1_c) (fun y => y = .bool qr)) (r : Bool) (h0 : heat_without_1 k r0 c1 = some r) : PCall Try.prog 98 [.agg (Reading.c r0), .rptr 1 [[.fn (.func c1_f) [] c1_c]] 0 0] (fun y => y = .bool r) := by
 refine PB (fn := Try.f98) (sc := F98.c) ?_
 refine rS ?_
 simp only [heat_without_1] at h0
 try simp only [F98.c, c1_i.sh, c1_i.frz, c1_i.br, c1_i.refs, c1_i.imp, c1_i.ren, c1_i.un, go_sem]
 obtain ⟨x1, yx1, h0⟩ := bs h0
 refine zc0 (c1_h _ _ yx1) ?_ (by first | rfl | simp [AV.refsL, AV.refs, AV.scal, AV.leaf, c1_i.refs]) ?_
 try simp only [c1_i.sh, c1_i.frz, c1_i.br, c1_i.refs, c1_i.imp, c1_i.ren, c1_i.un, go_sem]
 try simp only [c1_i.sh, c1_i.frz, c1_i.br, c1_i.refs, c1_i.imp, c1_i.ren, c1_i.un, go_sem]
 obtain rfl := Option.some.inj h0
 refine AKev_ret rfl ?_
 try simp only [F98.rs, c1_i.sh, c1_i.frz, c1_i.br, c1_i.refs, c1_i.imp, c1_i.ren, c1_i.un, go_sem]
def F66.c : SC :=
 (.seq
 (.reg [oq 2 (.box 32 (.tmp 0)) 0 [0],
 oq 3 (.box 122 (.tmp 1)) 0 [1],
 oq 4 (.alloc 32) 0 []])
 (.seq
 (.dreg [fa 5 32 2 0 [],
 ld 6 29 5 [],
 cf1 7 54 6 29 29 [],
 fa 8 32 2 1 [],
 ld 9 30 8 [],
 cf1 10 55 9 30 30 [],
 oq 11 (.makeFunc (.func 98) #[] #[.tmp 3]) 152 [],
 cf2 12 97 10 11 30 152 30 [],
 oq 13 (.build 32 #[(0, .tmp 7), (1, .tmp 12)]) 32 [],
 ⟨none, .store 32 (.tmp 4) (.tmp 13), 0, none, []⟩] [[], [0], [0, 1], [], [3], [3, 4, 0, 1, 2], [], [3, 4, 0, 1, 2, 5, 6], [0, 1, 2, 3, 4, 5, 6, 7], [0, 1, 2, 3, 4, 5, 6, 7, 8]] [2, 3, 5, 6, 7, 8, 9, 10, 11, 12, 13])
 .ret))
theorem F66.rs : Try.f66.results.toList = [.cell 4 32] := rfl
def heat_without (k : Nat) (f0 : Firing) (gone1 : Int → Option (Bool)) : Option (Firing) :=
 (heat_kilnCopy k f0.Kiln).bind fun x1 =>
 (slices_Clone_api_Reading k f0.Readings).bind fun x3 =>
 (slices_DeleteFunc_api_Reading k x3 (fun q0 => heat_without_1 k q0 gone1)).bind fun x5 =>
 some (⟨x1, x5⟩ : Firing)
theorem heat_without_ok (k : Nat) (f0 : Firing) (gone1_f : Nat) (gone1_c : List AV) (gone1_i : Ice gone1_c) (gone1 : Int → Option (Bool)) (gone1_h : ∀ q0 qr, gone1 q0 = some qr → PCall Try.prog gone1_f (.int .i64 q0 :: gone1_c) (fun y => y = .bool qr)) (r : Firing) (h0 : heat_without k f0 gone1 = some r) : PCall Try.prog 66 [.agg (Firing.c f0), .fn (.func gone1_f) [] gone1_c] (fun y => y = .agg (Firing.c r)) := by
 refine PB (fn := Try.f66) (sc := F66.c) ?_
 refine rS ?_
 simp only [heat_without] at h0
 try simp only [F66.c, gone1_i.sh, gone1_i.frz, gone1_i.br, gone1_i.refs, gone1_i.imp, gone1_i.ren, gone1_i.un, go_sem]
 refine AKev_region T_ok follows_ok 1000 ?_
 try simp only [gone1_i.sh, gone1_i.frz, gone1_i.br, gone1_i.refs, gone1_i.imp, gone1_i.ren, gone1_i.un, go_sem]
 obtain ⟨x1, yx1, h0⟩ := bs h0
 refine DG_call0 1000 (heat_kilnCopy_ok k _ _ yx1) ?_ (by first | rfl | simp [AV.refsL, AV.refs, AV.scal, AV.leaf, gone1_i.refs]) ?_
 try simp only [gone1_i.sh, gone1_i.frz, gone1_i.br, gone1_i.refs, gone1_i.imp, gone1_i.ren, gone1_i.un, go_sem]
 try simp only [gone1_i.sh, gone1_i.frz, gone1_i.br, gone1_i.refs, gone1_i.imp, gone1_i.ren, gone1_i.un, go_sem]
 obtain ⟨x3, yx3, h0⟩ := bs h0
 refine DG_give 1000 [] [] (slices_Clone_api_Reading_ok k _ _ yx3) ?_ rfl ?_
 try simp only [gOK, List.length_map, gone1_i.sh, gone1_i.frz, gone1_i.br, gone1_i.refs, gone1_i.imp, gone1_i.ren, gone1_i.un, go_sem]
 try simp only [gone1_i.sh, gone1_i.frz, gone1_i.br, gone1_i.refs, gone1_i.imp, gone1_i.ren, gone1_i.un, go_sem]
 obtain ⟨x5, yx5, h0⟩ := bs h0
 refine DG_give 1000 [16] [128] (slices_DeleteFunc_api_Reading_ok k _ 98 [.rptr 1 [[.fn (.func gone1_f) [] gone1_c]] 0 0] ⟨fun _ => rfl, fun _ => rfl, fun _ _ => rfl, rfl, fun _ => rfl, fun _ => rfl, fun _ => rfl⟩ (fun q0 => heat_without_1 k q0 gone1) (fun q0 qr qh => heat_without_1_ok k q0 gone1_f gone1_c gone1_i gone1 gone1_h qr qh) _ yx5) ?_ rfl ?_
 try simp only [gOK, List.length_map, gone1_i.sh, gone1_i.frz, gone1_i.br, gone1_i.refs, gone1_i.imp, gone1_i.ren, gone1_i.un, go_sem]
 try simp only [gone1_i.sh, gone1_i.frz, gone1_i.br, gone1_i.refs, gone1_i.imp, gone1_i.ren, gone1_i.un, go_sem]
 refine DG_done ⟨rfl, run_sound T_ok 1000 _ _ ?_⟩
 try simp only [gone1_i.sh, gone1_i.frz, gone1_i.br, gone1_i.refs, gone1_i.imp, gone1_i.ren, gone1_i.un, go_sem]
 obtain rfl := Option.some.inj h0
 refine AKev_ret rfl ?_
 try simp only [F66.rs, gone1_i.sh, gone1_i.frz, gone1_i.br, gone1_i.refs, gone1_i.imp, gone1_i.ren, gone1_i.un, go_sem]
def F93.s0 : SC :=
 (.seq
 (.reg [b2 9 .lss 3 8 7 3 0 []])
 (.seq
 (.cond (.tmp 9)
 .skip
 (.exit 0))
 (.seq
 (.block 1
 (.seq
 (.reg [mv 10 8 3 [],
 sg 5 10 3 [10]])
 (.seq
 (.reg [mv 11 1 3 [],
 mv 12 0 23 [],
 mv 13 5 3 [],
 ia 14 23 12 13 [12, 13],
 ld 15 3 14 [14],
 b2 16 .eql 3 11 15 3 4 [11, 15]])
 (.cond (.tmp 16)
 (.seq
 (.reg [mv 17 5 3 [5],
 sg 4 17 3 [17]])
 .ret)
 .skip))))
 (.reg [bn 18 .add 3 8 1 3 3 [8],
 mv 8 18 3 [18]]))))
def F93.c : SC :=
 (.seq
 (.reg [sn 4 0 3 [4]])
 (.seq
 (.seq
 (.reg [mv 6 0 23 [],
 ln 7 6 23 3 [6],
 oq 8 (.move (.const (.int .i64 0))) 3 []])
 (.block 0
 (.loop F93.s0)))
 (.seq
 (.reg [sn 4 (-1) 3 []])
 .ret)))
theorem F93.rs : Try.f93.results.toList = [.tmp 4] := rfl
def slices_Index_int.b0 (k : Nat) (s0 : (List Int)) (v1 : Int) : Int → Option (Stp (Int) (Unit) (Int)) := fun (i1 : Int) =>
 bif decide (i1 < (s0.length : Int)) then
  (at? s0 i1).bind fun x3 =>
  bif decide (v1 = x3) then
   some (.ret i1)
  else
   some (.next (w64 (i1 + 1)))
 else
  some (.brk ())
noncomputable def slices_Index_int.h0 (s0 : (List Int)) (v1 : Int) : Int → St := fun (i1 : Int) => ⟨[(0, .sl 1 (List.map eI s0)), (1, .int .i64 v1), (7, .int .i64 (s0.length : Int)), (8, .int .i64 i1)], [], [], 1, Try.f93.ntmps⟩
noncomputable def slices_Index_int.x0 : Unit → St := fun (_ : Unit) => ⟨[], [], [], 1, Try.f93.ntmps⟩
def slices_Index_int (k : Nat) (s0 : (List Int)) (v1 : Int) : Option (Int) :=
 (whl (slices_Index_int.b0 k s0 v1) k 0).bind fun r5 => match r5 with
 | .next _ => none
 | .ret v_ => some v_
 | .brk _ =>
  some (-1)
theorem slices_Index_int_ok (k : Nat) (s0 : (List Int)) (v1 : Int) (r : Int) (h0 : slices_Index_int k s0 v1 = some r) : PCall Try.prog 93 [.sl 1 (List.map eI s0), .int .i64 v1] (fun y => y = .int .i64 r) := by
 refine PB (fn := Try.f93) (sc := F93.c) ?_
 refine rS ?_
 simp only [slices_Index_int] at h0
 try simp only [F93.c, go_sem]
 obtain ⟨r5, yr5, h0⟩ := bs h0
 refine AKev_loopS yr5 (slices_Index_int.h0 s0 v1) (slices_Index_int.x0) ?_ ?_ ?_
 refine Weak.go [0, 1, 7, 8] [] rfl ?_
 try simp only [slices_Index_int.h0, go_sem]
 rintro i1 x_1 Bk1 Br1 h1 hnext1 hbrk1 hret1
 refine rS ?_
 simp only [slices_Index_int.b0] at h1
 try simp only [F93.s0, slices_Index_int.h0, go_sem]
 refine AKev_bif h1 ?_ ?_ <;> intro c2 h1
 try simp only [c2, go_sem]
 obtain ⟨x3, yx3, h1⟩ := bs h1
 try simp only [aa yx3, c2, go_sem]
 refine AKev_bif h1 ?_ ?_ <;> intro c4 h1
 try simp only [c4, c2, aa yx3, go_sem]
 obtain rfl := hret1 _ (Option.some.inj h1).symm
 simp only at h0
 obtain rfl := Option.some.inj h0
 refine AKev_ret rfl ?_
 try simp only [F93.rs, c2, aa yx3, c4, go_sem]
 try simp only [c4, c2, aa yx3, go_sem]
 refine AKev_backB (hnext1 _ _ (Option.some.inj h1).symm ?_)
 refine Weak.go [0, 1, 7, 8] [] rfl ?_
 try simp only [slices_Index_int.h0, c2, aa yx3, c4, go_sem]
 try simp only [c2, go_sem]
 refine AKev_backB (hbrk1 _ _ (Option.some.inj h1).symm ?_)
 refine Weak.go [] [] rfl ?_
 try simp only [slices_Index_int.x0, c2, go_sem]
 rintro _ hr_
 subst hr_
 simp only at h0
 refine rS ?_
 try simp only [slices_Index_int.x0, go_sem]
 obtain rfl := Option.some.inj h0
 refine AKev_ret rfl ?_
 try simp only [F93.rs, go_sem]
def F60.c : SC :=
 (.seq
 (.reg [sb 4 false 4 [4]])
 (.seq
 (.reg [mv 5 0 23 [0],
 mv 6 1 3 [1],
 cf2 7 93 5 6 23 3 3 [5, 6],
 bn 8 .geq 3 7 0 3 4 [7],
 sg 4 8 4 [8]])
 .ret))
theorem F60.rs : Try.f60.results.toList = [.tmp 4] := rfl
def slices_Contains_int (k : Nat) (s0 : (List Int)) (v1 : Int) : Option (Bool) :=
 (slices_Index_int k s0 v1).bind fun x1 =>
 some (decide ((0 : Int) ≤ x1))
theorem slices_Contains_int_ok (k : Nat) (s0 : (List Int)) (v1 : Int) (r : Bool) (h0 : slices_Contains_int k s0 v1 = some r) : PCall Try.prog 60 [.sl 1 (List.map eI s0), .int .i64 v1] (fun y => y = .bool r) := by
 refine PB (fn := Try.f60) (sc := F60.c) ?_
 refine rS ?_
 simp only [slices_Contains_int] at h0
 try simp only [F60.c, go_sem]
 obtain ⟨x1, yx1, h0⟩ := bs h0
 refine zc0 (slices_Index_int_ok k _ _ _ yx1) ?_ (by first | rfl | simp [AV.refsL, AV.refs, AV.scal, AV.leaf]) ?_
 try simp only [go_sem]
 try simp only [go_sem]
 obtain rfl := Option.some.inj h0
 refine AKev_ret rfl ?_
 try simp only [F60.rs, go_sem]
def F92.c : SC :=
 (.seq
 (.reg [sb 3 false 4 [3]])
 (.seq
 (.reg [ld 4 23 1 [1],
 mv 5 0 3 [0],
 cf2 6 60 4 5 23 3 4 [4, 5],
 oq 7 (.unOp .not 4 (.tmp 6)) 4 [6],
 sg 3 7 4 [7]])
 .ret))
theorem F92.rs : Try.f92.results.toList = [.tmp 3] := rfl
def heat_only_1 (k : Nat) (n0 : Int) (c1 : (List Int)) : Option (Bool) :=
 (slices_Contains_int k c1 n0).bind fun x1 =>
 some (!x1)
theorem heat_only_1_ok (k : Nat) (n0 : Int) (c1 : (List Int)) (r : Bool) (h0 : heat_only_1 k n0 c1 = some r) : PCall Try.prog 92 [.int .i64 n0, .rptr 1 [(eL 1 eI) c1] 0 0] (fun y => y = .bool r) := by
 refine PB (fn := Try.f92) (sc := F92.c) ?_
 refine rS ?_
 simp only [heat_only_1] at h0
 try simp only [F92.c, go_sem]
 obtain ⟨x1, yx1, h0⟩ := bs h0
 refine zc0 (slices_Contains_int_ok k _ _ _ yx1) ?_ (by first | rfl | simp [AV.refsL, AV.refs, AV.scal, AV.leaf]) ?_
 try simp only [go_sem]
 try simp only [go_sem]
 obtain rfl := Option.some.inj h0
 refine AKev_ret rfl ?_
 try simp only [F92.rs, go_sem]
def F59.c : SC :=
 (.seq
 (.reg [oq 2 (.box 32 (.tmp 0)) 0 [0],
 oq 3 (.box 23 (.tmp 1)) 0 [1],
 oq 4 (.alloc 94) 0 []])
 (.seq
 (.reg [ld 5 32 2 [2],
 oq 6 (.makeFunc (.func 92) #[] #[.tmp 3]) 122 [3],
 cf2 7 66 5 6 32 122 32 [5, 6],
 cf1 8 47 7 32 94 [7],
 ⟨none, .store 94 (.tmp 4) (.tmp 8), 0, none, [8]⟩])
 .ret))
theorem F59.rs : Try.f59.results.toList = [.cell 4 94] := rfl
def heat_only (k : Nat) (f0 : Firing) (by1 : (List Int)) : Option (heat_furnace) :=
 (heat_without k f0 (fun q0 => heat_only_1 k q0 by1)).bind fun x1 =>
 (heat_newFurnace k x1).bind fun x2 =>
 some x2
theorem heat_only_ok (k : Nat) (f0 : Firing) (by1 : (List Int)) (r : heat_furnace) (h0 : heat_only k f0 by1 = some r) : PCall Try.prog 59 [.agg (Firing.c f0), .sl 1 (List.map eI by1)] (fun y => y = .agg (heat_furnace.c r)) := by
 refine PB (fn := Try.f59) (sc := F59.c) ?_
 refine rS ?_
 simp only [heat_only] at h0
 try simp only [F59.c, go_sem]
 obtain ⟨x1, yx1, h0⟩ := bs h0
 refine zcT [16] (heat_without_ok k _ 92 [.rptr 1 [(eL 1 eI) by1] 0 0] ⟨fun _ => rfl, fun _ => rfl, fun _ _ => rfl, rfl, fun _ => rfl, fun _ => rfl, fun _ => rfl⟩ (fun q0 => heat_only_1 k q0 by1) (fun q0 qr qh => heat_only_1_ok k q0 _ qr qh) _ yx1) ?_ ?_
 try simp only [go_sem]
 try simp only [go_sem]
 obtain ⟨x2, yx2, h0⟩ := bs h0
 refine zc0 (heat_newFurnace_ok k _ _ yx2) ?_ (by first | rfl | simp [AV.refsL, AV.refs, AV.scal, AV.leaf]) ?_
 try simp only [go_sem]
 try simp only [go_sem]
 obtain rfl := Option.some.inj h0
 refine AKev_ret rfl ?_
 try simp only [F59.rs, go_sem]
def F22.s0 : SC :=
 (.seq
 (.seq
 (.reg [mv 21 5 3 [],
 bn 22 .geq 3 21 0 3 4 [21]])
 (.cond (.tmp 22)
 .skip
 (.exit 1)))
 (.seq
 (.block 2
 (.seq
 (.reg [mv 25 4 23 [],
 cf1 26 58 25 23 23 [25],
 mv 27 5 3 [],
 mv 28 5 3 [],
 bn 29 .add 3 28 1 3 3 [28],
 oq 30 (.call ⟨.value (.func 57), #[.tmp 26, .tmp 27, .tmp 29], #[23, 3, 3]⟩) 23 [26, 27, 29],
 sg 6 30 23 [30]])
 (.seq
 (.reg [ld 31 32 1 [],
 mv 32 6 23 [],
 cf2 33 59 31 32 32 23 94 [31, 32],
 cf1 34 56 33 94 4 [33],
 oq 35 (.unOp .not 4 (.tmp 34)) 4 [34]])
 (.cond (.tmp 35)
 (.reg [mv 36 6 23 [6],
 sg 4 36 23 [36]])
 .skip))))
 (.reg [mv 23 5 3 [5],
 bn 24 .sub 3 23 1 3 3 [23],
 sg 5 24 3 [24]])))
def F22.c : SC :=
 (.seq
 (.reg [oq 1 (.box 32 (.tmp 0)) 0 [0],
 oq 2 (.assign (.const (.slice none 0 0))) 23 [2],
 sn 3 0 43 [3]])
 (.seq
 (.block 0
 (.seq
 (.reg [ld 8 32 1 [],
 cf1 9 41 8 32 43 [8],
 bn 10 .neq 43 9 0 43 4 [9],
 sg 7 10 4 [10]])
 (.cond (.tmp 7)
 (.seq
 (.reg [oq 2 (.assign (.const (.slice none 0 0))) 23 [],
 sn 3 42 43 []])
 .ret)
 (.seq
 (.reg [ld 12 32 1 [],
 cf1 13 47 12 32 94 [12],
 cf1 14 56 13 94 4 [13],
 sg 11 14 4 [14]])
 (.cond (.tmp 11)
 (.seq
 (.reg [oq 2 (.assign (.const (.slice none 0 0))) 23 [],
 sn 3 3 43 []])
 .ret)
 .skip)))))
 (.seq
 (.reg [fa 15 32 1 1 [],
 ld 16 30 15 [15],
 cf1 17 43 16 30 23 [16],
 sg 4 17 23 [17]])
 (.seq
 (.seq
 (.reg [mv 18 4 23 [],
 ln 19 18 23 3 [18],
 bn 20 .sub 3 19 1 3 3 [19],
 sg 5 20 3 [20]])
 (.block 1
 (.loop F22.s0)))
 (.seq
 (.reg [mv 37 4 23 [4],
 sg 2 37 23 [37],
 sn 3 0 43 []])
 .ret)))))
theorem F22.rs : Try.f22.results.toList = [.tmp 2, .tmp 3] := rfl
def heat_Conflict.b0 (k : Nat) (f0 : Firing) : ((List Int) × Int) → Option (Stp ((List Int) × Int) ((List Int)) ((List Int) × Int)) := fun (s : (List Int) × Int) => match s with
 | (l7, i8) =>
   bif decide ((0 : Int) ≤ i8) then
    (slices_Clone_int k l7).bind fun x12 =>
    (slices_Delete_int k x12 i8 (w64 (i8 + 1))).bind fun x14 =>
    (heat_only k f0 x14).bind fun x15 =>
    (heat_furnace_sound k x15).bind fun x16 =>
    bif (!x16) then
     some (.next (x14, w64 (i8 - 1)))
    else
     some (.next (l7, w64 (i8 - 1)))
   else
    some (.brk l7)
noncomputable def heat_Conflict.h0 (f0 : Firing) : ((List Int) × Int) → St := fun (s : (List Int) × Int) => match s with
 | (l7, i8) => ⟨[(1, .ptr 0 0 0), (4, .sl 1 (List.map eI l7)), (5, .int .i64 i8)], [(0, .box [.sl 1 (List.map (eL 2 Range.c) f0.Kiln.Falls), .sl 6 (List.map Reading.c f0.Readings)])], [], 1, Try.f22.ntmps⟩
noncomputable def heat_Conflict.x0 : (List Int) → St := fun (l9 : (List Int)) => ⟨[(4, .sl 1 (List.map eI l9))], [], [], 1, Try.f22.ntmps⟩
def heat_Conflict (k : Nat) (f0 : Firing) : Option ((List Int) × Int) :=
 (heat_Check k f0).bind fun x1 =>
 bif (!decide (x1 = (0 : Int))) then
  some ([], 42)
 else
  (heat_newFurnace k f0).bind fun x3 =>
  (heat_furnace_sound k x3).bind fun x4 =>
  bif x4 then
   some ([], 3)
  else
   (heat_sources k f0.Readings).bind fun x6 =>
   (whl (heat_Conflict.b0 k f0) k (x6, w64 ((x6.length : Int) - 1))).bind fun r18 => match r18 with
   | .next _ => none
   | .ret v_ => some v_
   | .brk l9 =>
    some (l9, 0)
theorem heat_Conflict_ok (k : Nat) (f0 : Firing) (r : (List Int) × Int) (h0 : heat_Conflict k f0 = some r) : PCall Try.prog 22 [.agg (Firing.c f0)] (fun y => y = .tup [.sl 1 (List.map eI r.1), .int .i64 r.2]) := by
 refine PB (fn := Try.f22) (sc := F22.c) ?_
 refine rS ?_
 simp only [heat_Conflict] at h0
 try simp only [F22.c, go_sem]
 obtain ⟨x1, yx1, h0⟩ := bs h0
 refine zc0 (heat_Check_ok k _ _ yx1) ?_ (by first | rfl | simp [AV.refsL, AV.refs, AV.scal, AV.leaf]) ?_
 try simp only [go_sem]
 try simp only [go_sem]
 refine AKev_bif h0 ?_ ?_ <;> intro c2 h0
 have c2 := bnot_t c2
 try simp only [c2, go_sem]
 obtain rfl := Option.some.inj h0
 refine AKev_ret rfl ?_
 try simp only [F22.rs, c2, go_sem]
 have c2 := bnot_f c2
 try simp only [c2, go_sem]
 obtain ⟨x3, yx3, h0⟩ := bs h0
 refine zc0 (heat_newFurnace_ok k _ _ yx3) ?_ (by first | rfl | simp [AV.refsL, AV.refs, AV.scal, AV.leaf]) ?_
 try simp only [c2, go_sem]
 try simp only [c2, go_sem]
 obtain ⟨x4, yx4, h0⟩ := bs h0
 refine zc0 (heat_furnace_sound_ok k _ _ yx4) ?_ (by first | rfl | simp [AV.refsL, AV.refs, AV.scal, AV.leaf]) ?_
 try simp only [c2, go_sem]
 try simp only [c2, go_sem]
 refine AKev_bif h0 ?_ ?_ <;> intro c5 h0
 try simp only [c5, c2, go_sem]
 obtain rfl := Option.some.inj h0
 refine AKev_ret rfl ?_
 try simp only [F22.rs, c2, c5, go_sem]
 try simp only [c5, c2, go_sem]
 obtain ⟨x6, yx6, h0⟩ := bs h0
 refine zc0 (heat_sources_ok k _ _ yx6) ?_ (by first | rfl | simp [AV.refsL, AV.refs, AV.scal, AV.leaf]) ?_
 try simp only [c2, c5, go_sem]
 try simp only [c2, c5, go_sem]
 obtain ⟨r18, yr18, h0⟩ := bs h0
 refine AKev_loopS yr18 (heat_Conflict.h0 f0) (heat_Conflict.x0) ?_ ?_ ?_
 refine Weak.go [1, 4, 5] [0] rfl ?_
 try simp only [heat_Conflict.h0, c2, c5, go_sem]
 rintro ⟨l7, i8⟩ x_1 Bk1 Br1 h1 hnext1 hbrk1 hret1
 refine rS ?_
 simp only [heat_Conflict.b0] at h1
 try simp only [F22.s0, heat_Conflict.h0, c2, c5, go_sem]
 refine AKev_bif h1 ?_ ?_ <;> intro c10 h1
 try simp only [c10, c2, c5, go_sem]
 obtain ⟨x12, yx12, h1⟩ := bs h1
 refine AKev_give T_ok 1000 [] [] (slices_Clone_int_ok k _ _ yx12) ?_ rfl ?_
 try simp only [gOK, List.length_map, c2, c5, c10, go_sem]
 try simp only [c2, c5, c10, go_sem]
 obtain ⟨x14, yx14, h1⟩ := bs h1
 refine AKev_giveF [] [49] (slices_Delete_int_ok k _ _ _ _ yx14) ?_ rfl ?_
 try simp only [gOK, List.length_map, c2, c5, c10, go_sem]
 try simp only [c2, c5, c10, go_sem]
 refine AK.fz 1000 T_ok 113 rfl (fun _ h => by cases h) ?_
 try simp only [c2, c5, c10, go_sem]
 obtain ⟨x15, yx15, h1⟩ := bs h1
 refine zc0 (heat_only_ok k _ _ _ yx15) ?_ (by first | rfl | simp [AV.refsL, AV.refs, AV.scal, AV.leaf]) ?_
 try simp only [c2, c5, c10, go_sem]
 try simp only [c2, c5, c10, go_sem]
 obtain ⟨x16, yx16, h1⟩ := bs h1
 refine zc0 (heat_furnace_sound_ok k _ _ yx16) ?_ (by first | rfl | simp [AV.refsL, AV.refs, AV.scal, AV.leaf]) ?_
 try simp only [c2, c5, c10, go_sem]
 try simp only [c2, c5, c10, go_sem]
 refine AKev_bif h1 ?_ ?_ <;> intro c17 h1
 have c17 := bnot_t c17
 try simp only [c17, c2, c5, c10, go_sem]
 refine AKev_backB (hnext1 _ _ (Option.some.inj h1).symm ?_)
 refine Weak.go [1, 4, 5] [0] rfl ?_
 try simp only [heat_Conflict.h0, c2, c5, c10, c17, go_sem]
 have c17 := bnot_f c17
 try simp only [c17, c2, c5, c10, go_sem]
 refine AKev_backB (hnext1 _ _ (Option.some.inj h1).symm ?_)
 refine Weak.go [1, 4, 5] [0] rfl ?_
 try simp only [heat_Conflict.h0, c2, c5, c10, c17, go_sem]
 try simp only [c10, c2, c5, go_sem]
 refine AKev_backB (hbrk1 _ _ (Option.some.inj h1).symm ?_)
 refine Weak.go [4] [] rfl ?_
 try simp only [heat_Conflict.x0, c2, c5, c10, go_sem]
 rintro l9 hr_
 subst hr_
 simp only at h0
 refine rS ?_
 try simp only [heat_Conflict.x0, c2, c5, go_sem]
 obtain rfl := Option.some.inj h0
 refine AKev_ret rfl ?_
 try simp only [F22.rs, c2, c5, go_sem]
def F101.c : SC :=
 (.seq
 (.reg [oq 2 (.assign (.const (.slice none 0 0))) 92 [2]])
 (.seq
 (.seq
 (.reg [mv 3 0 92 [],
 oq 4 (.binOp .eql 92 (.tmp 3) (.const (.slice none 0 0)) 92) 4 [3]])
 (.cond (.tmp 4)
 (.seq
 (.reg [oq 2 (.assign (.const (.slice none 0 0))) 92 []])
 .ret)
 .skip))
 (.seq
 (.reg [oq 5 (.buildSlice 92 0 #[]) 92 [],
 mv 6 0 92 [0],
 oq 7 (.call ⟨.builtin .append, #[.tmp 5, .tmp 6], #[92, 92]⟩) 92 [5, 6],
 sg 2 7 92 [7]])
 .ret)))
theorem F101.rs : Try.f101.results.toList = [.tmp 2] := rfl
def slices_Clone_heat_limit (k : Nat) (s0 : (List heat_limit)) : Option ((List heat_limit)) :=
 (room? s0.length 24).bind fun _ =>
 some s0
theorem slices_Clone_heat_limit_ok (k : Nat) (s0 : (List heat_limit)) (r : (List heat_limit)) (h0 : slices_Clone_heat_limit k s0 = some r) : GCall Try.prog 101 [.sl 3 (List.map heat_limit.c s0)] [] (fun y fr => y = .loc 0 0 3 0 r.length r.length ∧ fr = [(0, .arr 136 3 (List.map heat_limit.c r))]) := by
 have hr := GCall.own (et := 136) (sz := 3) (ls := List.map heat_limit.c r) (GCall.of_body T_ok (f := 101) (fn := Try.f101) (sc := F101.c) (args := [.sl 3 (List.map heat_limit.c s0)]) (fr0 := []) (by rfl) (by rfl) (by decide +kernel) (by rfl) (by decide +kernel) (Nat.le_of_ble_eq_true rfl) (fun H => ?_))
 ·simpa only [List.length_map] using hr
 refine run_sound T_ok 1000 _ _ ?_
 simp only [slices_Clone_heat_limit] at h0
 try simp only [F101.c, go_sem]
 refine ⟨fun he => ?_, ?_⟩
 ·refine run_sound T_ok 1000 _ _ ?_
  try simp only [go_sem]
  obtain ⟨u_, hu_, h0⟩ := bind_some h0
  obtain rfl := Option.some.inj h0
  refine AKev_gret rfl ?_
  simp only [he, F101.rs, oOK, Option.map_some, tupOf, List.length_nil, List.take_nil, go_sem]
  try simp
 ·refine run_sound T_ok 1000 _ _ ?_
  try simp only [go_sem]
  obtain ⟨u1, yu1, h0⟩ := bind_some h0
  try simp only [room_some yu1, go_sem]
  obtain rfl := Option.some.inj h0
  refine AKev_gret rfl ?_
  try simp only [F101.rs, oOK, Option.map_some, tupOf, cut0_map, cut_map, Nat.le_refl, List.take_length, go_sem]
def F72.c : SC :=
 (.seq
 (.reg [oq 3 (.box 94 (.tmp 0)) 0 [0],
 oq 5 (.box 39 (.tmp 2)) 0 [2],
 oq 6 (.alloc 94) 0 []])
 (.seq
 (.dreg [fa 7 94 3 1 [],
 ld 8 92 7 [],
 cf1 9 101 8 92 92 [],
 mv 10 1 3 [],
 fa 11 39 5 0 [],
 ld 12 3 11 [],
 oq 13 (.build 136 #[(0, .tmp 10), (1, .tmp 12), (2, .const (.int .i64 (-1)))]) 136 [],
 oq 14 (.buildSlice 92 1 #[(0, .tmp 13)]) 92 [],
 oq 15 (.call ⟨.builtin .append, #[.tmp 9, .tmp 14], #[92, 92]⟩) 92 [],
 fa 16 94 3 1 [],
 ⟨none, .store 92 (.tmp 16) (.tmp 15), 0, none, []⟩] [[], [0], [0, 1], [], [], [4], [3, 4, 5], [3, 4, 5, 6], [0, 1, 2, 3, 4, 5, 6, 7], [0, 1, 2, 3, 4, 5, 6, 7, 8], [0, 1, 2, 3, 4, 5, 6, 7, 8, 9]] [7, 8, 9, 10, 11, 12, 13, 14, 15, 16])
 (.seq
 (.dreg [fa 17 94 3 2 [],
 ld 18 92 17 [],
 cf1 19 101 18 92 92 [],
 mv 20 1 3 [],
 fa 21 39 5 1 [],
 ld 22 3 21 [],
 oq 23 (.build 136 #[(0, .tmp 20), (1, .tmp 22), (2, .const (.int .i64 (-1)))]) 136 [],
 oq 24 (.buildSlice 92 1 #[(0, .tmp 23)]) 92 [],
 oq 25 (.call ⟨.builtin .append, #[.tmp 19, .tmp 24], #[92, 92]⟩) 92 [],
 fa 26 94 3 2 [],
 ⟨none, .store 92 (.tmp 26) (.tmp 25), 0, none, []⟩] [[], [0], [0, 1], [], [], [4], [3, 4, 5], [3, 4, 5, 6], [0, 1, 2, 3, 4, 5, 6, 7], [0, 1, 2, 3, 4, 5, 6, 7, 8], [0, 1, 2, 3, 4, 5, 6, 7, 8, 9]] [1, 5, 17, 18, 19, 20, 21, 22, 23, 24, 25, 26])
 (.seq
 (.reg [ld 27 94 3 [3],
 ⟨none, .store 94 (.tmp 6) (.tmp 27), 0, none, [27]⟩])
 .ret))))
theorem F72.rs : Try.f72.results.toList = [.cell 6 94] := rfl
def heat_furnace_asked (k : Nat) (f0 : heat_furnace) (place1 : Int) (heat2 : Range) : Option (heat_furnace) :=
 (slices_Clone_heat_limit k f0.least).bind fun x2 =>
 (push? 24 x2 (⟨place1, heat2.Lo, -1⟩ : heat_limit)).bind fun l3 =>
 (slices_Clone_heat_limit k f0.most).bind fun x5 =>
 (push? 24 x5 (⟨place1, heat2.Hi, -1⟩ : heat_limit)).bind fun l6 =>
 some (⟨f0.Firing, l3, l6⟩ : heat_furnace)
theorem heat_furnace_asked_ok (k : Nat) (f0 : heat_furnace) (place1 : Int) (heat2 : Range) (r : heat_furnace) (h0 : heat_furnace_asked k f0 place1 heat2 = some r) : PCall Try.prog 72 [.agg (heat_furnace.c f0), .int .i64 place1, .agg (Range.c heat2)] (fun y => y = .agg (heat_furnace.c r)) := by
 refine PB (fn := Try.f72) (sc := F72.c) ?_
 refine rS ?_
 simp only [heat_furnace_asked] at h0
 try simp only [F72.c, go_sem]
 refine AKev_region T_ok follows_ok 1000 ?_
 try simp only [go_sem]
 obtain ⟨x2, yx2, h0⟩ := bs h0
 refine DG_give 1000 [] [] (slices_Clone_heat_limit_ok k _ _ yx2) ?_ rfl ?_
 try simp only [gOK, List.length_map, go_sem]
 try simp only [go_sem]
 obtain ⟨l3, yl3, h0⟩ := bs h0
 have eyl3 := push_map heat_limit.c yl3
 have tyl3 := push_take heat_limit.c yl3
 have nyl3 := push_len yl3
 have myl3 := push_room yl3
 try simp only [go_sem] at eyl3 tyl3 nyl3 myl3
 try simp only [myl3, eyl3, nyl3, tyl3, go_sem]
 refine DG_done ⟨rfl, run_sound T_ok 1000 _ _ ?_⟩
 try simp only [eyl3, nyl3, tyl3, go_sem]
 refine AKev_region T_ok follows_ok 1000 ?_
 try simp only [eyl3, nyl3, tyl3, go_sem]
 obtain ⟨x5, yx5, h0⟩ := bs h0
 refine DG_give 1000 [] [] (slices_Clone_heat_limit_ok k _ _ yx5) ?_ rfl ?_
 try simp only [gOK, List.length_map, eyl3, nyl3, tyl3, go_sem]
 try simp only [eyl3, nyl3, tyl3, go_sem]
 obtain ⟨l6, yl6, h0⟩ := bs h0
 have eyl6 := push_map heat_limit.c yl6
 have tyl6 := push_take heat_limit.c yl6
 have nyl6 := push_len yl6
 have myl6 := push_room yl6
 try simp only [eyl3, nyl3, tyl3, go_sem] at eyl6 tyl6 nyl6 myl6
 try simp only [myl6, eyl6, eyl3, nyl3, tyl3, nyl6, tyl6, go_sem]
 refine DG_done ⟨rfl, run_sound T_ok 1000 _ _ ?_⟩
 try simp only [eyl3, nyl3, tyl3, eyl6, nyl6, tyl6, go_sem]
 obtain rfl := Option.some.inj h0
 refine AKev_ret rfl ?_
 try simp only [F72.rs, eyl3, nyl3, tyl3, eyl6, nyl6, tyl6, go_sem]
def F102.c : SC :=
 (.seq
 (.reg [oq 2 (.box 79 (.tmp 0)) 0 [0],
 sb 3 false 4 [3]])
 (.seq
 (.dreg [fa 4 79 2 0 [],
 ld 5 3 4 [],
 fa 6 32 1 0 [],
 fa 7 29 6 0 [],
 ld 8 27 7 [],
 oq 9 (.indexAddr 27 (.tmp 8) (.const (.int .i64 0))) 0 [],
 ld 10 40 9 [],
 ln 11 10 40 3 [],
 bn 12 .sub 3 11 1 3 3 [],
 oq 13 (.call ⟨.value (.func 42), #[.tmp 5, .const (.int .i64 0), .tmp 12], #[3, 3, 3]⟩) 4 [],
 mv 14 13 4 [],
 og 15 (.fieldAddr 79 (.tmp 2) 1) 0 14 true [],
 og 16 (.fieldAddr 39 (.tmp 15) 0) 0 14 true [],
 og 17 (.load 3 (.tmp 16)) 3 14 true [],
 og 18 (.binOp .geq 3 (.tmp 17) (.const (.int .i64 (-3000))) 3) 4 14 true [],
 oq 19 (.pick (.tmp 14) (.tmp 18) (.const (.bool false))) 4 [],
 mv 20 19 4 [],
 og 21 (.fieldAddr 79 (.tmp 2) 1) 0 20 true [],
 og 22 (.fieldAddr 39 (.tmp 21) 0) 0 20 true [],
 og 23 (.load 3 (.tmp 22)) 3 20 true [],
 og 24 (.fieldAddr 79 (.tmp 2) 1) 0 20 true [],
 og 25 (.fieldAddr 39 (.tmp 24) 1) 0 20 true [],
 og 26 (.load 3 (.tmp 25)) 3 20 true [],
 og 27 (.binOp .leq 3 (.tmp 23) (.tmp 26) 3) 4 20 true [],
 oq 28 (.pick (.tmp 20) (.tmp 27) (.const (.bool false))) 4 [],
 mv 29 28 4 [],
 og 30 (.fieldAddr 79 (.tmp 2) 1) 0 29 true [],
 og 31 (.fieldAddr 39 (.tmp 30) 1) 0 29 true [],
 og 32 (.load 3 (.tmp 31)) 3 29 true [],
 og 33 (.binOp .leq 3 (.tmp 32) (.const (.int .i64 3000)) 3) 4 29 true [],
 oq 34 (.pick (.tmp 29) (.tmp 33) (.const (.bool false))) 4 [],
 sg 3 34 4 []] [[], [0], [], [2], [2, 3], [2, 3, 4], [2, 3, 4, 5], [2, 3, 4, 5, 6], [2, 3, 4, 5, 6, 7], [0, 1, 2, 3, 4, 5, 6, 7, 8], [0, 1, 2, 3, 4, 5, 6, 7, 8, 9], [0, 1, 2, 3, 4, 5, 6, 7, 8, 9, 10], [0, 1, 2, 3, 4, 5, 6, 7, 8, 9, 10, 11], [0, 1, 2, 3, 4, 5, 6, 7, 8, 9, 10, 11, 12], [0, 1, 2, 3, 4, 5, 6, 7, 8, 9, 10, 11, 12, 13], [0, 1, 2, 3, 4, 5, 6, 7, 8, 9, 10, 11, 12, 13, 14], [0, 1, 2, 3, 4, 5, 6, 7, 8, 9, 10, 11, 12, 13, 14, 15], [0, 1, 2, 3, 4, 5, 6, 7, 8, 9, 10, 11, 12, 13, 14, 15, 16], [0, 1, 2, 3, 4, 5, 6, 7, 8, 9, 10, 11, 12, 13, 14, 15, 16, 17], [0, 1, 2, 3, 4, 5, 6, 7, 8, 9, 10, 11, 12, 13, 14, 15, 16, 17, 18], [0, 1, 2, 3, 4, 5, 6, 7, 8, 9, 10, 11, 12, 13, 14, 15, 16], [0, 1, 2, 3, 4, 5, 6, 7, 8, 9, 10, 11, 12, 13, 14, 15, 16, 20], [0, 1, 2, 3, 4, 5, 6, 7, 8, 9, 10, 11, 12, 13, 14, 15, 16, 20, 21], [0, 1, 2, 3, 4, 5, 6, 7, 8, 9, 10, 11, 12, 13, 14, 15, 16, 17, 18, 19, 20, 21, 22], [0, 1, 2, 3, 4, 5, 6, 7, 8, 9, 10, 11, 12, 13, 14, 15, 16, 17, 18, 19, 20, 21, 22, 23], [0, 1, 2, 3, 4, 5, 6, 7, 8, 9, 10, 11, 12, 13, 14, 15, 16, 17, 18, 19, 20, 21, 22, 23, 24], [0, 1, 2, 3, 4, 5, 6, 7, 8, 9, 10, 11, 12, 13, 14, 15, 16, 17, 18, 19, 20, 21, 22, 23, 24, 25], [0, 1, 2, 3, 4, 5, 6, 7, 8, 9, 10, 11, 12, 13, 14, 15, 16, 17, 18, 19, 20, 21, 22, 23, 24, 25, 26], [0, 1, 2, 3, 4, 5, 6, 7, 8, 9, 10, 11, 12, 13, 14, 15, 16, 17, 18, 19, 20, 21, 22, 23, 24, 25, 26, 27], [0, 1, 2, 3, 4, 5, 6, 7, 8, 9, 10, 11, 12, 13, 14, 15, 16, 17, 18, 19, 20, 21, 22, 23, 24, 25, 26, 27, 28], [0, 1, 2, 3, 4, 5, 6, 7, 8, 9, 10, 11, 12, 13, 14, 15, 16, 17, 18, 19, 20, 21, 22, 23, 24, 25, 26, 27, 28, 29], [0, 1, 2, 3, 4, 5, 6, 7, 8, 9, 10, 11, 12, 13, 14, 15, 16, 17, 18, 19, 20, 21, 22, 23, 24, 25, 26, 27, 28, 29, 30]] [1, 2, 4, 5, 6, 7, 8, 9, 10, 11, 12, 13, 14, 15, 16, 17, 18, 19, 20, 21, 22, 23, 24, 25, 26, 27, 28, 29, 30, 31, 32, 33, 34])
 .ret))
theorem F102.rs : Try.f102.results.toList = [.tmp 3] := rfl
def heat_wanted_1 (k : Nat) (w0 : Want) (c1 : Firing) : Option (Bool) :=
 (at? c1.Kiln.Falls 0).bind fun x1 =>
 (heat_in k w0.Place 0 (w64 ((x1.length : Int) - 1))).bind fun x2 =>
 bif x2 then
  bif decide ((-3000 : Int) ≤ w0.Heat.Lo) then
   bif decide (w0.Heat.Lo ≤ w0.Heat.Hi) then
    some (decide (w0.Heat.Hi ≤ (3000 : Int)))
   else
    some false
  else
   some false
 else
  some false
theorem heat_wanted_1_ok (k : Nat) (w0 : Want) (c1 : Firing) (r : Bool) (h0 : heat_wanted_1 k w0 c1 = some r) : PCall Try.prog 102 [.agg (Want.c w0), .rptr 2 [Firing.c c1] 0 0] (fun y => y = .bool r) := by
 refine PB (fn := Try.f102) (sc := F102.c) ?_
 refine rS ?_
 simp only [heat_wanted_1] at h0
 try simp only [F102.c, go_sem]
 refine AKev_region T_ok follows_ok 1000 ?_
 try simp only [go_sem]
 obtain ⟨x1, yx1, h0⟩ := bs h0
 try simp only [aa yx1, go_sem]
 obtain ⟨x2, yx2, h0⟩ := bs h0
 refine DG_call0 1000 (heat_in_ok k _ _ _ _ yx2) ?_ (by first | rfl | simp [AV.refsL, AV.refs, AV.scal, AV.leaf]) ?_
 try simp only [aa yx1, go_sem]
 try simp only [aa yx1, go_sem]
 refine DG_bif h0 ?_ ?_ <;> intro c3 h0
 try simp only [c3, aa yx1, go_sem]
 refine DG_bif h0 ?_ ?_ <;> intro c4 h0
 try simp only [c4, aa yx1, c3, go_sem]
 refine DG_bif h0 ?_ ?_ <;> intro c5 h0
 try simp only [c5, aa yx1, c3, c4, go_sem]
 refine DG_done ⟨rfl, run_sound T_ok 1000 _ _ ?_⟩
 try simp only [aa yx1, c3, c4, c5, go_sem]
 obtain rfl := Option.some.inj h0
 refine AKev_ret rfl ?_
 try simp only [F102.rs, aa yx1, c3, c4, c5, go_sem]
 try simp only [c5, aa yx1, c3, c4, go_sem]
 refine DG_done ⟨rfl, run_sound T_ok 1000 _ _ ?_⟩
 try simp only [aa yx1, c3, c4, c5, go_sem]
 obtain rfl := Option.some.inj h0
 refine AKev_ret rfl ?_
 try simp only [F102.rs, aa yx1, c3, c4, c5, go_sem]
 try simp only [c4, aa yx1, c3, go_sem]
 refine DG_done ⟨rfl, run_sound T_ok 1000 _ _ ?_⟩
 try simp only [aa yx1, c3, c4, go_sem]
 obtain rfl := Option.some.inj h0
 refine AKev_ret rfl ?_
 try simp only [F102.rs, aa yx1, c3, c4, go_sem]
 try simp only [c3, aa yx1, go_sem]
 refine DG_done ⟨rfl, run_sound T_ok 1000 _ _ ?_⟩
 try simp only [aa yx1, c3, go_sem]
 obtain rfl := Option.some.inj h0
 refine AKev_ret rfl ?_
 try simp only [F102.rs, aa yx1, c3, go_sem]
def F111.s0 : SC :=
 (.seq
 (.reg [b2 9 .lss 3 8 7 3 0 []])
 (.seq
 (.cond (.tmp 9)
 .skip
 (.exit 0))
 (.seq
 (.block 1
 (.seq
 (.reg [mv 10 8 3 [],
 sg 5 10 3 [10]])
 (.seq
 (.reg [mv 11 1 156 [],
 mv 12 0 80 [],
 mv 13 5 3 [],
 ia 14 80 12 13 [12, 13],
 ld 15 79 14 [14],
 oq 16 (.call ⟨.value (.tmp 11), #[.tmp 15], #[79]⟩) 4 [11, 15]])
 (.cond (.tmp 16)
 (.seq
 (.reg [mv 17 5 3 [5],
 sg 4 17 3 [17]])
 .ret)
 .skip))))
 (.reg [bn 18 .add 3 8 1 3 3 [8],
 mv 8 18 3 [18]]))))
def F111.c : SC :=
 (.seq
 (.reg [sn 4 0 3 [4]])
 (.seq
 (.seq
 (.reg [mv 6 0 80 [],
 ln 7 6 80 3 [6],
 oq 8 (.move (.const (.int .i64 0))) 3 []])
 (.block 0
 (.loop F111.s0)))
 (.seq
 (.reg [sn 4 (-1) 3 []])
 .ret)))
theorem F111.rs : Try.f111.results.toList = [.tmp 4] := rfl
def slices_IndexFunc_api_Want.b0 (k : Nat) (f1 : Want → Option (Bool)) (s0 : (List Want)) : Int → Option (Stp (Int) (Unit) (Int)) := fun (i1 : Int) =>
 bif decide (i1 < (s0.length : Int)) then
  (at? s0 i1).bind fun x3 =>
  (f1 x3).bind fun x4 =>
  bif x4 then
   some (.ret i1)
  else
   some (.next (w64 (i1 + 1)))
 else
  some (.brk ())
noncomputable def slices_IndexFunc_api_Want.h0 (f1_f : Nat) (f1_c : List AV) (s0 : (List Want)) : Int → St := fun (i1 : Int) => ⟨[(0, .sl 3 (List.map Want.c s0)), (1, .fn (.func f1_f) [] f1_c), (7, .int .i64 (s0.length : Int)), (8, .int .i64 i1)], [], [], 1, Try.f111.ntmps⟩
noncomputable def slices_IndexFunc_api_Want.x0 : Unit → St := fun (_ : Unit) => ⟨[], [], [], 1, Try.f111.ntmps⟩
def slices_IndexFunc_api_Want (k : Nat) (s0 : (List Want)) (f1 : Want → Option (Bool)) : Option (Int) :=
 (whl (slices_IndexFunc_api_Want.b0 k f1 s0) k 0).bind fun r6 => match r6 with
 | .next _ => none
 | .ret v_ => some v_
 | .brk _ =>
  some (-1)
theorem slices_IndexFunc_api_Want_ok (k : Nat) (s0 : (List Want)) (f1_f : Nat) (f1_c : List AV) (f1_i : Ice f1_c) (f1 : Want → Option (Bool)) (f1_h : ∀ q0 qr, f1 q0 = some qr → PCall Try.prog f1_f (.agg (Want.c q0) :: f1_c) (fun y => y = .bool qr)) (r : Int) (h0 : slices_IndexFunc_api_Want k s0 f1 = some r) : PCall Try.prog 111 [.sl 3 (List.map Want.c s0), .fn (.func f1_f) [] f1_c] (fun y => y = .int .i64 r) := by
 refine PB (fn := Try.f111) (sc := F111.c) ?_
 refine rS ?_
 simp only [slices_IndexFunc_api_Want] at h0
 try simp only [F111.c, f1_i.sh, f1_i.frz, f1_i.br, f1_i.refs, f1_i.imp, f1_i.ren, f1_i.un, go_sem]
 obtain ⟨r6, yr6, h0⟩ := bs h0
 refine AKev_loopS yr6 (slices_IndexFunc_api_Want.h0 f1_f f1_c s0) (slices_IndexFunc_api_Want.x0) ?_ ?_ ?_
 refine Weak.go [0, 1, 7, 8] [] rfl ?_
 try simp only [slices_IndexFunc_api_Want.h0, f1_i.sh, f1_i.frz, f1_i.br, f1_i.refs, f1_i.imp, f1_i.ren, f1_i.un, go_sem]
 rintro i1 x_1 Bk1 Br1 h1 hnext1 hbrk1 hret1
 refine rS ?_
 simp only [slices_IndexFunc_api_Want.b0] at h1
 try simp only [F111.s0, slices_IndexFunc_api_Want.h0, f1_i.sh, f1_i.frz, f1_i.br, f1_i.refs, f1_i.imp, f1_i.ren, f1_i.un, go_sem]
 refine AKev_bif h1 ?_ ?_ <;> intro c2 h1
 try simp only [c2, f1_i.sh, f1_i.frz, f1_i.br, f1_i.refs, f1_i.imp, f1_i.ren, f1_i.un, go_sem]
 obtain ⟨x3, yx3, h1⟩ := bs h1
 try simp only [aa yx3, f1_i.sh, f1_i.frz, f1_i.br, f1_i.refs, f1_i.imp, f1_i.ren, f1_i.un, c2, go_sem]
 obtain ⟨x4, yx4, h1⟩ := bs h1
 refine zc0 (f1_h _ _ yx4) ?_ (by first | rfl | simp [AV.refsL, AV.refs, AV.scal, AV.leaf, f1_i.refs]) ?_
 try simp only [f1_i.sh, f1_i.frz, f1_i.br, f1_i.refs, f1_i.imp, f1_i.ren, f1_i.un, c2, aa yx3, go_sem]
 try simp only [f1_i.sh, f1_i.frz, f1_i.br, f1_i.refs, f1_i.imp, f1_i.ren, f1_i.un, c2, aa yx3, go_sem]
 refine AKev_bif h1 ?_ ?_ <;> intro c5 h1
 try simp only [c5, f1_i.sh, f1_i.frz, f1_i.br, f1_i.refs, f1_i.imp, f1_i.ren, f1_i.un, c2, aa yx3, go_sem]
 obtain rfl := hret1 _ (Option.some.inj h1).symm
 simp only at h0
 obtain rfl := Option.some.inj h0
 refine AKev_ret rfl ?_
 try simp only [F111.rs, f1_i.sh, f1_i.frz, f1_i.br, f1_i.refs, f1_i.imp, f1_i.ren, f1_i.un, c2, aa yx3, c5, go_sem]
 try simp only [c5, f1_i.sh, f1_i.frz, f1_i.br, f1_i.refs, f1_i.imp, f1_i.ren, f1_i.un, c2, aa yx3, go_sem]
 refine AKev_backB (hnext1 _ _ (Option.some.inj h1).symm ?_)
 refine Weak.go [0, 1, 7, 8] [] rfl ?_
 try simp only [slices_IndexFunc_api_Want.h0, f1_i.sh, f1_i.frz, f1_i.br, f1_i.refs, f1_i.imp, f1_i.ren, f1_i.un, c2, aa yx3, c5, go_sem]
 try simp only [c2, f1_i.sh, f1_i.frz, f1_i.br, f1_i.refs, f1_i.imp, f1_i.ren, f1_i.un, go_sem]
 refine AKev_backB (hbrk1 _ _ (Option.some.inj h1).symm ?_)
 refine Weak.go [] [] rfl ?_
 try simp only [slices_IndexFunc_api_Want.x0, f1_i.sh, f1_i.frz, f1_i.br, f1_i.refs, f1_i.imp, f1_i.ren, f1_i.un, c2, go_sem]
 rintro _ hr_
 subst hr_
 simp only at h0
 refine rS ?_
 try simp only [slices_IndexFunc_api_Want.x0, f1_i.sh, f1_i.frz, f1_i.br, f1_i.refs, f1_i.imp, f1_i.ren, f1_i.un, go_sem]
 obtain rfl := Option.some.inj h0
 refine AKev_ret rfl ?_
 try simp only [F111.rs, f1_i.sh, f1_i.frz, f1_i.br, f1_i.refs, f1_i.imp, f1_i.ren, f1_i.un, go_sem]
def F103.c : SC :=
 (.seq
 (.reg [sb 4 false 4 [4]])
 (.seq
 (.reg [mv 5 0 80 [0],
 mv 6 1 156 [1],
 cf2 7 111 5 6 80 156 3 [5, 6],
 bn 8 .geq 3 7 0 3 4 [7],
 sg 4 8 4 [8]])
 .ret))
theorem F103.rs : Try.f103.results.toList = [.tmp 4] := rfl
def slices_ContainsFunc_api_Want (k : Nat) (s0 : (List Want)) (f1 : Want → Option (Bool)) : Option (Bool) :=
 (slices_IndexFunc_api_Want k s0 f1).bind fun x1 =>
 some (decide ((0 : Int) ≤ x1))
theorem slices_ContainsFunc_api_Want_ok (k : Nat) (s0 : (List Want)) (f1_f : Nat) (f1_c : List AV) (f1_i : Ice f1_c) (f1 : Want → Option (Bool)) (f1_h : ∀ q0 qr, f1 q0 = some qr → PCall Try.prog f1_f (.agg (Want.c q0) :: f1_c) (fun y => y = .bool qr)) (r : Bool) (h0 : slices_ContainsFunc_api_Want k s0 f1 = some r) : PCall Try.prog 103 [.sl 3 (List.map Want.c s0), .fn (.func f1_f) [] f1_c] (fun y => y = .bool r) := by
 refine PB (fn := Try.f103) (sc := F103.c) ?_
 refine rS ?_
 simp only [slices_ContainsFunc_api_Want] at h0
 try simp only [F103.c, f1_i.sh, f1_i.frz, f1_i.br, f1_i.refs, f1_i.imp, f1_i.ren, f1_i.un, go_sem]
 obtain ⟨x1, yx1, h0⟩ := bs h0
 refine zc0 (slices_IndexFunc_api_Want_ok k _ f1_f f1_c f1_i f1 f1_h _ yx1) ?_ (by first | rfl | simp [AV.refsL, AV.refs, AV.scal, AV.leaf, f1_i.refs]) ?_
 try simp only [f1_i.sh, f1_i.frz, f1_i.br, f1_i.refs, f1_i.imp, f1_i.ren, f1_i.un, go_sem]
 try simp only [f1_i.sh, f1_i.frz, f1_i.br, f1_i.refs, f1_i.imp, f1_i.ren, f1_i.un, go_sem]
 obtain rfl := Option.some.inj h0
 refine AKev_ret rfl ?_
 try simp only [F103.rs, f1_i.sh, f1_i.frz, f1_i.br, f1_i.refs, f1_i.imp, f1_i.ren, f1_i.un, go_sem]
def F104.c : SC :=
 (.seq
 (.reg [oq 2 (.box 79 (.tmp 0)) 0 [0],
 sb 3 false 4 [3]])
 (.seq
 (.reg [ld 4 156 1 [1],
 ld 5 79 2 [2],
 oq 6 (.call ⟨.value (.tmp 4), #[.tmp 5], #[79]⟩) 4 [4, 5],
 oq 7 (.unOp .not 4 (.tmp 6)) 4 [6],
 sg 3 7 4 [7]])
 .ret))
theorem F104.rs : Try.f104.results.toList = [.tmp 3] := rfl
def heat_wanted_2 (k : Nat) (w0 : Want) (c1 : Want → Option (Bool)) : Option (Bool) :=
 (c1 w0).bind fun x1 =>
 some (!x1)
theorem heat_wanted_2_ok (k : Nat) (w0 : Want) (c1_f : Nat) (c1_c : List AV) (c1_i : Ice c1_c) (c1 : Want → Option (Bool)) (c1_h : ∀ q0 qr, c1 q0 = some qr → PCall Try.prog c1_f (.agg (Want.c q0) :: c1_c) (fun y => y = .bool qr)) (r : Bool) (h0 : heat_wanted_2 k w0 c1 = some r) : PCall Try.prog 104 [.agg (Want.c w0), .rptr 1 [[.fn (.func c1_f) [] c1_c]] 0 0] (fun y => y = .bool r) := by
 refine PB (fn := Try.f104) (sc := F104.c) ?_
 refine rS ?_
 simp only [heat_wanted_2] at h0
 try simp only [F104.c, c1_i.sh, c1_i.frz, c1_i.br, c1_i.refs, c1_i.imp, c1_i.ren, c1_i.un, go_sem]
 obtain ⟨x1, yx1, h0⟩ := bs h0
 refine zc0 (c1_h _ _ yx1) ?_ (by first | rfl | simp [AV.refsL, AV.refs, AV.scal, AV.leaf, c1_i.refs]) ?_
 try simp only [c1_i.sh, c1_i.frz, c1_i.br, c1_i.refs, c1_i.imp, c1_i.ren, c1_i.un, go_sem]
 try simp only [c1_i.sh, c1_i.frz, c1_i.br, c1_i.refs, c1_i.imp, c1_i.ren, c1_i.un, go_sem]
 obtain rfl := Option.some.inj h0
 refine AKev_ret rfl ?_
 try simp only [F104.rs, c1_i.sh, c1_i.frz, c1_i.br, c1_i.refs, c1_i.imp, c1_i.ren, c1_i.un, go_sem]
def F74.s0 : SC :=
 (.seq
 (.reg [b2 43 .lss 3 42 41 3 0 []])
 (.seq
 (.cond (.tmp 43)
 .skip
 (.exit 0))
 (.seq
 (.block 1
 (.seq
 (.reg [ia 44 80 40 42 [],
 ld 45 79 44 [44],
 oq 12 (.alloc 79) 0 [],
 ⟨none, .store 79 (.tmp 12) (.tmp 45), 0, none, [45]⟩])
 (.reg [ld 46 94 10 [],
 fa 47 79 12 0 [],
 ld 48 3 47 [47],
 fa 49 79 12 1 [12],
 ld 50 39 49 [49],
 oq 51 (.call ⟨.value (.func 72), #[.tmp 46, .tmp 48, .tmp 50], #[94, 3, 39]⟩) 94 [46, 48, 50],
 ⟨none, .store 94 (.tmp 10) (.tmp 51), 0, none, [51]⟩])))
 (.reg [bn 52 .add 3 42 1 3 3 [42],
 mv 42 52 3 [52]]))))
def F74.c : SC :=
 (.seq
 (.reg [oq 2 (.box 32 (.tmp 0)) 0 [0],
 oq 4 (.alloc 94) 0 [],
 oq 5 (.alloc 94) 0 [],
 sn 6 0 43 [6]])
 (.seq
 (.seq
 (.reg [ld 13 32 2 [],
 cf1 14 41 13 32 43 [13],
 bn 15 .neq 43 14 0 43 4 [14]])
 (.cond (.tmp 15)
 (.seq
 (.reg [oq 16 (.build 94 #[]) 94 [],
 oq 17 (.build 94 #[]) 94 [],
 ⟨none, .store 94 (.tmp 4) (.tmp 16), 0, none, [16]⟩,
 ⟨none, .store 94 (.tmp 5) (.tmp 17), 0, none, [17]⟩,
 sn 6 42 43 []])
 .ret)
 .skip))
 (.seq
 (.reg [oq 18 (.makeFunc (.func 102) #[] #[.tmp 2]) 156 [],
 oq 7 (.alloc 156) 0 [],
 ⟨none, .store 156 (.tmp 7) (.tmp 18), 0, none, [18]⟩])
 (.seq
 (.seq
 (.reg [mv 19 1 80 [],
 ln 20 19 80 3 [19],
 bn 21 .gtr 3 20 24 3 4 [20],
 mv 22 21 4 [21],
 og 23 (.move (.tmp 1)) 80 22 false [],
 og 24 (.makeFunc (.func 104) #[] #[.tmp 7]) 156 22 false [7],
 og 25 (.call ⟨.value (.func 103), #[.tmp 23, .tmp 24], #[80, 156]⟩) 4 22 false [23, 24],
 oq 26 (.pick (.tmp 22) (.const (.bool true)) (.tmp 25)) 4 [22, 25]])
 (.cond (.tmp 26)
 (.seq
 (.reg [oq 27 (.build 94 #[]) 94 [],
 oq 28 (.build 94 #[]) 94 [],
 ⟨none, .store 94 (.tmp 4) (.tmp 27), 0, none, [27]⟩,
 ⟨none, .store 94 (.tmp 5) (.tmp 28), 0, none, [28]⟩,
 sn 6 49 43 []])
 .ret)
 .skip))
 (.seq
 (.reg [ld 30 32 2 [2],
 oq 31 (.call ⟨.value (.func 36), #[.tmp 30, .const (.int .i64 0)], #[32, 3]⟩) 95 [30],
 mv 29 31 95 [31],
 xt 32 29 0 94 [],
 xt 33 29 1 43 [29],
 oq 8 (.alloc 94) 0 [],
 ⟨none, .store 94 (.tmp 8) (.tmp 32), 0, none, [32]⟩,
 sg 9 33 43 [33]])
 (.seq
 (.seq
 (.reg [mv 34 9 43 [],
 bn 35 .neq 43 34 0 43 4 [34]])
 (.cond (.tmp 35)
 (.seq
 (.reg [oq 36 (.build 94 #[]) 94 [],
 oq 37 (.build 94 #[]) 94 [],
 mv 38 9 43 [9],
 ⟨none, .store 94 (.tmp 4) (.tmp 36), 0, none, [36]⟩,
 ⟨none, .store 94 (.tmp 5) (.tmp 37), 0, none, [37]⟩,
 sg 6 38 43 [38]])
 .ret)
 .skip))
 (.seq
 (.reg [ld 39 94 8 [],
 oq 10 (.alloc 94) 0 [],
 ⟨none, .store 94 (.tmp 10) (.tmp 39), 0, none, [39]⟩])
 (.seq
 (.seq
 (.reg [mv 40 1 80 [1],
 ln 41 40 80 3 [],
 oq 42 (.move (.const (.int .i64 0))) 3 []])
 (.block 0
 (.loop F74.s0)))
 (.seq
 (.dreg [ld 53 94 8 [],
 ld 54 94 10 [],
 ⟨none, .store 94 (.tmp 4) (.tmp 53), 0, none, []⟩,
 ⟨none, .store 94 (.tmp 5) (.tmp 54), 0, none, []⟩,
 sn 6 0 43 []] [[], [], [0], [1, 0, 2], [1, 0, 2, 3]] [8, 10, 53, 54])
 .ret)))))))))
theorem F74.rs : Try.f74.results.toList = [.cell 4 94, .cell 5 94, .tmp 6] := rfl
def heat_wanted.b0 (k : Nat) (l1 : (List Want)) : (heat_furnace × Int) → Option (Stp (heat_furnace × Int) (heat_furnace) (heat_furnace × heat_furnace × Int)) := fun (s : heat_furnace × Int) => match s with
 | (s8, i9) =>
   bif decide (i9 < (l1.length : Int)) then
    (at? l1 i9).bind fun x12 =>
    (heat_furnace_asked k s8 x12.Place x12.Heat).bind fun x13 =>
    some (.next (x13, w64 (i9 + 1)))
   else
    some (.brk s8)
noncomputable def heat_wanted.h0 (l1 : (List Want)) (x6 : heat_furnace × Int) : (heat_furnace × Int) → St := fun (s : heat_furnace × Int) => match s with
 | (s8, i9) => ⟨[(4, .ptr 0 0 0), (5, .ptr 0 5 0), (8, .ptr 0 10 0), (10, .ptr 0 11 0), (40, .sl 3 (List.map Want.c l1)), (41, .int .i64 (l1.length : Int)), (42, .int .i64 i9)], [(0, .box [.loc 0 1 1 0 0 0, .loc 0 2 6 0 0 0, .loc 0 3 3 0 0 0, .loc 0 4 3 0 0 0]), (1, .arr 40 1 (List.map (eL 2 Range.c) [])), (2, .arr 60 6 (List.map Reading.c [])), (3, .arr 136 3 (List.map heat_limit.c [])), (4, .arr 136 3 (List.map heat_limit.c [])), (5, .box [.loc 0 6 1 0 0 0, .loc 0 7 6 0 0 0, .loc 0 8 3 0 0 0, .loc 0 9 3 0 0 0]), (6, .arr 40 1 (List.map (eL 2 Range.c) [])), (7, .arr 60 6 (List.map Reading.c [])), (8, .arr 136 3 (List.map heat_limit.c [])), (9, .arr 136 3 (List.map heat_limit.c [])), (10, .box [.sl 1 (List.map (eL 2 Range.c) x6.1.Firing.Kiln.Falls), .sl 6 (List.map Reading.c x6.1.Firing.Readings), .sl 3 (List.map heat_limit.c x6.1.least), .sl 3 (List.map heat_limit.c x6.1.most)]), (11, .box [.sl 1 (List.map (eL 2 Range.c) s8.Firing.Kiln.Falls), .sl 6 (List.map Reading.c s8.Firing.Readings), .sl 3 (List.map heat_limit.c s8.least), .sl 3 (List.map heat_limit.c s8.most)])], [], 12, Try.f74.ntmps⟩
noncomputable def heat_wanted.x0 (x6 : heat_furnace × Int) : heat_furnace → St := fun (s10 : heat_furnace) => ⟨[(4, .ptr 0 0 0), (5, .ptr 0 5 0), (8, .ptr 0 10 0), (10, .ptr 0 11 0)], [(0, .box [.loc 0 1 1 0 0 0, .loc 0 2 6 0 0 0, .loc 0 3 3 0 0 0, .loc 0 4 3 0 0 0]), (1, .arr 40 1 (List.map (eL 2 Range.c) [])), (2, .arr 60 6 (List.map Reading.c [])), (3, .arr 136 3 (List.map heat_limit.c [])), (4, .arr 136 3 (List.map heat_limit.c [])), (5, .box [.loc 0 6 1 0 0 0, .loc 0 7 6 0 0 0, .loc 0 8 3 0 0 0, .loc 0 9 3 0 0 0]), (6, .arr 40 1 (List.map (eL 2 Range.c) [])), (7, .arr 60 6 (List.map Reading.c [])), (8, .arr 136 3 (List.map heat_limit.c [])), (9, .arr 136 3 (List.map heat_limit.c [])), (10, .box [.sl 1 (List.map (eL 2 Range.c) x6.1.Firing.Kiln.Falls), .sl 6 (List.map Reading.c x6.1.Firing.Readings), .sl 3 (List.map heat_limit.c x6.1.least), .sl 3 (List.map heat_limit.c x6.1.most)]), (11, .box [.sl 1 (List.map (eL 2 Range.c) s10.Firing.Kiln.Falls), .sl 6 (List.map Reading.c s10.Firing.Readings), .sl 3 (List.map heat_limit.c s10.least), .sl 3 (List.map heat_limit.c s10.most)])], [], 12, Try.f74.ntmps⟩
def heat_wanted (k : Nat) (f0 : Firing) (l1 : (List Want)) : Option (heat_furnace × heat_furnace × Int) :=
 (heat_Check k f0).bind fun x1 =>
 bif (!decide (x1 = (0 : Int))) then
  some ((⟨(⟨(⟨[]⟩ : Kiln), []⟩ : Firing), [], []⟩ : heat_furnace), (⟨(⟨(⟨[]⟩ : Kiln), []⟩ : Firing), [], []⟩ : heat_furnace), 42)
 else
  bif (!decide ((24 : Int) < (l1.length : Int))) then
   (slices_ContainsFunc_api_Want k l1 (fun q0 => heat_wanted_2 k q0 (fun q0 => heat_wanted_1 k q0 f0))).bind fun x4 =>
   bif x4 then
    some ((⟨(⟨(⟨[]⟩ : Kiln), []⟩ : Firing), [], []⟩ : heat_furnace), (⟨(⟨(⟨[]⟩ : Kiln), []⟩ : Firing), [], []⟩ : heat_furnace), 49)
   else
    (heat_asks k f0 0).bind fun x6 =>
    bif (!decide (x6.2 = (0 : Int))) then
     some ((⟨(⟨(⟨[]⟩ : Kiln), []⟩ : Firing), [], []⟩ : heat_furnace), (⟨(⟨(⟨[]⟩ : Kiln), []⟩ : Firing), [], []⟩ : heat_furnace), x6.2)
    else
     (whl (heat_wanted.b0 k l1) k (x6.1, 0)).bind fun r14 => match r14 with
     | .next _ => none
     | .ret v_ => some v_
     | .brk s10 =>
      some (x6.1, s10, 0)
  else
   some ((⟨(⟨(⟨[]⟩ : Kiln), []⟩ : Firing), [], []⟩ : heat_furnace), (⟨(⟨(⟨[]⟩ : Kiln), []⟩ : Firing), [], []⟩ : heat_furnace), 49)
theorem heat_wanted_ok (k : Nat) (f0 : Firing) (l1 : (List Want)) (r : heat_furnace × heat_furnace × Int) (h0 : heat_wanted k f0 l1 = some r) : PCall Try.prog 74 [.agg (Firing.c f0), .sl 3 (List.map Want.c l1)] (fun y => y = .tup [.agg (heat_furnace.c r.1), .agg (heat_furnace.c r.2.1), .int .i64 r.2.2]) := by
 refine PB (fn := Try.f74) (sc := F74.c) ?_
 refine rS ?_
 simp only [heat_wanted] at h0
 try simp only [F74.c, go_sem]
 obtain ⟨x1, yx1, h0⟩ := bs h0
 refine zc0 (heat_Check_ok k _ _ yx1) ?_ (by first | rfl | simp [AV.refsL, AV.refs, AV.scal, AV.leaf]) ?_
 try simp only [go_sem]
 try simp only [go_sem]
 refine AKev_bif h0 ?_ ?_ <;> intro c2 h0
 have c2 := bnot_t c2
 try simp only [c2, go_sem]
 obtain rfl := Option.some.inj h0
 refine AKev_ret rfl ?_
 try simp only [F74.rs, c2, go_sem]
 have c2 := bnot_f c2
 try simp only [c2, go_sem]
 refine AKev_bif h0 ?_ ?_ <;> intro c3 h0
 have c3 := bnot_t c3
 try simp only [c3, c2, go_sem]
 obtain ⟨x4, yx4, h0⟩ := bs h0
 refine zcL (slices_ContainsFunc_api_Want_ok k _ 104 [.rptr 1 [[.fn (.func 102) [] [.rptr 2 [Firing.c f0] 0 0]]] 0 0] ⟨fun _ => rfl, fun _ => rfl, fun _ _ => rfl, rfl, fun _ => rfl, fun _ => rfl, fun _ => rfl⟩ (fun q0 => heat_wanted_2 k q0 (fun q0 => heat_wanted_1 k q0 f0)) (fun q0 qr qh => heat_wanted_2_ok k q0 102 [.rptr 2 [Firing.c f0] 0 0] ⟨fun _ => rfl, fun _ => rfl, fun _ _ => rfl, rfl, fun _ => rfl, fun _ => rfl, fun _ => rfl⟩ (fun q0 => heat_wanted_1 k q0 f0) (fun q0 qr qh => heat_wanted_1_ok k q0 _ qr qh) qr qh) _ yx4) ?_ (by first | rfl | simp [AV.refsL, AV.refs, AV.scal, AV.leaf]) ?_
 try simp only [c2, c3, go_sem]
 try simp only [c2, c3, go_sem]
 refine AKev_bif h0 ?_ ?_ <;> intro c5 h0
 try simp only [c5, c2, c3, go_sem]
 obtain rfl := Option.some.inj h0
 refine AKev_ret rfl ?_
 try simp only [F74.rs, c2, c3, c5, go_sem]
 try simp only [c5, c2, c3, go_sem]
 obtain ⟨x6, yx6, h0⟩ := bs h0
 refine zc0 (heat_asks_ok k _ _ _ yx6) ?_ (by first | rfl | simp [AV.refsL, AV.refs, AV.scal, AV.leaf]) ?_
 try simp only [c2, c3, c5, go_sem]
 try simp only [c2, c3, c5, go_sem]
 refine AKev_bif h0 ?_ ?_ <;> intro c7 h0
 have c7 := bnot_t c7
 try simp only [c7, c2, c3, c5, go_sem]
 obtain rfl := Option.some.inj h0
 refine AKev_ret rfl ?_
 try simp only [F74.rs, c2, c3, c5, c7, go_sem]
 have c7 := bnot_f c7
 try simp only [c7, c2, c3, c5, go_sem]
 obtain ⟨r14, yr14, h0⟩ := bs h0
 refine AKev_loopS yr14 (heat_wanted.h0 l1 x6) (heat_wanted.x0 x6) ?_ ?_ ?_
 refine Weak.go [4, 5, 8, 10, 40, 41, 42] [16, 17, 18, 19, 20, 32, 33, 34, 35, 36, 368, 464] rfl ?_
 try simp only [heat_wanted.h0, c2, c3, c5, c7, go_sem]
 rintro ⟨s8, i9⟩ x_1 Bk1 Br1 h1 hnext1 hbrk1 hret1
 refine rS ?_
 simp only [heat_wanted.b0] at h1
 try simp only [F74.s0, heat_wanted.h0, c2, c3, c5, c7, go_sem]
 refine AKev_bif h1 ?_ ?_ <;> intro c11 h1
 try simp only [c11, c2, c3, c5, c7, go_sem]
 obtain ⟨x12, yx12, h1⟩ := bs h1
 try simp only [aa yx12, c2, c3, c5, c7, c11, go_sem]
 obtain ⟨x13, yx13, h1⟩ := bs h1
 refine zc0 (heat_furnace_asked_ok k _ _ _ _ yx13) ?_ (by first | rfl | simp [AV.refsL, AV.refs, AV.scal, AV.leaf]) ?_
 try simp only [c2, c3, c5, c7, c11, aa yx12, go_sem]
 try simp only [c2, c3, c5, c7, c11, aa yx12, go_sem]
 refine AKev_backB (hnext1 _ _ (Option.some.inj h1).symm ?_)
 refine Weak.go [4, 5, 8, 10, 40, 41, 42] [0, 1, 2, 3, 4, 5, 6, 7, 8, 9, 10, 11] rfl ?_
 try simp only [heat_wanted.h0, c2, c3, c5, c7, c11, aa yx12, go_sem]
 try simp only [c11, c2, c3, c5, c7, go_sem]
 refine AKev_backB (hbrk1 _ _ (Option.some.inj h1).symm ?_)
 refine Weak.go [4, 5, 8, 10] [0, 1, 2, 3, 4, 5, 6, 7, 8, 9, 10, 11] rfl ?_
 try simp only [heat_wanted.x0, c2, c3, c5, c7, c11, go_sem]
 rintro s10 hr_
 subst hr_
 simp only at h0
 refine rS ?_
 try simp only [heat_wanted.x0, c2, c3, c5, c7, go_sem]
 refine AKev_region T_ok follows_ok 1000 ?_
 try simp only [c2, c3, c5, c7, go_sem]
 refine DG_done ⟨rfl, run_sound T_ok 1000 _ _ ?_⟩
 try simp only [c2, c3, c5, c7, go_sem]
 obtain rfl := Option.some.inj h0
 refine AKev_ret rfl ?_
 try simp only [F74.rs, c2, c3, c5, c7, go_sem]
 have c3 := bnot_f c3
 try simp only [c3, c2, go_sem]
 obtain rfl := Option.some.inj h0
 refine AKev_ret rfl ?_
 try simp only [F74.rs, c2, c3, go_sem]
def F33.s0 : SC :=
 (.seq
 (.reg [b2 28 .lss 3 27 26 3 0 []])
 (.seq
 (.cond (.tmp 28)
 .skip
 (.exit 0))
 (.seq
 (.block 1
 (.seq
 (.reg [ia 29 80 25 27 [],
 ld 30 79 29 [29],
 oq 10 (.alloc 79) 0 [],
 ⟨none, .store 79 (.tmp 10) (.tmp 30), 0, none, [30]⟩])
 (.seq
 (.reg [ld 31 94 6 [],
 fa 32 79 10 0 [],
 ld 33 3 32 [32],
 cf2 34 37 31 33 94 3 39 [31, 33],
 oq 11 (.alloc 39) 0 [],
 ⟨none, .store 39 (.tmp 11) (.tmp 34), 0, none, [34]⟩])
 (.seq
 (.reg [fa 35 39 11 0 [],
 ld 36 3 35 [35],
 fa 37 79 10 1 [],
 fa 38 39 37 0 [37],
 ld 39 3 38 [38],
 b2 40 .lss 3 36 39 3 4 [36, 39],
 mv 41 40 4 [40],
 og 42 (.fieldAddr 39 (.tmp 11) 1) 0 41 false [11],
 og 43 (.load 3 (.tmp 42)) 3 41 false [42],
 og 44 (.fieldAddr 79 (.tmp 10) 1) 0 41 false [10],
 og 45 (.fieldAddr 39 (.tmp 44) 1) 0 41 false [44],
 og 46 (.load 3 (.tmp 45)) 3 41 false [45],
 og 47 (.binOp .gtr 3 (.tmp 43) (.tmp 46) 3) 4 41 false [43, 46],
 oq 48 (.pick (.tmp 41) (.const (.bool true)) (.tmp 47)) 4 [41, 47]])
 (.cond (.tmp 48)
 (.seq
 (.reg [sn 4 2 3 [],
 sn 5 0 43 []])
 .ret)
 .skip)))))
 (.reg [bn 49 .add 3 27 1 3 3 [27],
 mv 27 49 3 [49]]))))
def F33.c : SC :=
 (.seq
 (.reg [oq 2 (.box 32 (.tmp 0)) 0 [0],
 sn 4 0 3 [4],
 sn 5 0 43 [5]])
 (.seq
 (.reg [ld 13 32 2 [2],
 mv 14 1 80 [],
 cf2 15 74 13 14 32 80 130 [13, 14],
 mv 12 15 130 [15],
 xt 16 12 0 94 [],
 xt 17 12 1 94 [],
 xt 18 12 2 43 [12],
 oq 6 (.alloc 94) 0 [],
 oq 7 (.alloc 94) 0 [],
 ⟨none, .store 94 (.tmp 6) (.tmp 16), 0, none, [16]⟩,
 ⟨none, .store 94 (.tmp 7) (.tmp 17), 0, none, [17]⟩,
 sg 8 18 43 [18]])
 (.seq
 (.seq
 (.reg [mv 19 8 43 [],
 bn 20 .neq 43 19 0 43 4 [19]])
 (.cond (.tmp 20)
 (.seq
 (.reg [mv 21 8 43 [8],
 sn 4 0 3 [],
 sg 5 21 43 [21]])
 .ret)
 .skip))
 (.seq
 (.seq
 (.reg [ld 22 94 7 [7],
 cf1 23 56 22 94 4 [22],
 oq 24 (.unOp .not 4 (.tmp 23)) 4 [23]])
 (.cond (.tmp 24)
 (.seq
 (.reg [sn 4 0 3 [],
 sn 5 0 43 []])
 .ret)
 .skip))
 (.seq
 (.seq
 (.reg [mv 25 1 80 [1],
 ln 26 25 80 3 [],
 oq 27 (.move (.const (.int .i64 0))) 3 []])
 (.block 0
 (.loop F33.s0)))
 (.seq
 (.reg [sn 4 1 3 [],
 sn 5 0 43 []])
 .ret))))))
theorem F33.rs : Try.f33.results.toList = [.tmp 4, .tmp 5] := rfl
def heat_Together.b0 (k : Nat) (l1 : (List Want)) (x1 : heat_furnace × heat_furnace × Int) : Int → Option (Stp (Int) (Unit) (Int × Int)) := fun (i5 : Int) =>
 bif decide (i5 < (l1.length : Int)) then
  (at? l1 i5).bind fun x7 =>
  (heat_furnace_bound k x1.1 x7.Place).bind fun x8 =>
  bif (!decide (x8.Lo < x7.Heat.Lo)) then
   bif decide (x7.Heat.Hi < x8.Hi) then
    some (.ret (2, 0))
   else
    some (.next (w64 (i5 + 1)))
  else
   some (.ret (2, 0))
 else
  some (.brk ())
noncomputable def heat_Together.h0 (l1 : (List Want)) (x1 : heat_furnace × heat_furnace × Int) : Int → St := fun (i5 : Int) => ⟨[(6, .ptr 0 0 0), (25, .sl 3 (List.map Want.c l1)), (26, .int .i64 (l1.length : Int)), (27, .int .i64 i5)], [(0, .box [.sl 1 (List.map (eL 2 Range.c) x1.1.Firing.Kiln.Falls), .sl 6 (List.map Reading.c x1.1.Firing.Readings), .sl 3 (List.map heat_limit.c x1.1.least), .sl 3 (List.map heat_limit.c x1.1.most)])], [], 1, Try.f33.ntmps⟩
noncomputable def heat_Together.x0 : Unit → St := fun (_ : Unit) => ⟨[], [], [], 1, Try.f33.ntmps⟩
def heat_Together (k : Nat) (f0 : Firing) (l1 : (List Want)) : Option (Int × Int) :=
 (heat_wanted k f0 l1).bind fun x1 =>
 bif (!decide (x1.2.2 = (0 : Int))) then
  some (0, x1.2.2)
 else
  (heat_furnace_sound k x1.2.1).bind fun x3 =>
  bif (!x3) then
   some (0, 0)
  else
   (whl (heat_Together.b0 k l1 x1) k 0).bind fun r11 => match r11 with
   | .next _ => none
   | .ret v_ => some v_
   | .brk _ =>
    some (1, 0)
theorem heat_Together_ok (k : Nat) (f0 : Firing) (l1 : (List Want)) (r : Int × Int) (h0 : heat_Together k f0 l1 = some r) : PCall Try.prog 33 [.agg (Firing.c f0), .sl 3 (List.map Want.c l1)] (fun y => y = .tup [.int .i64 r.1, .int .i64 r.2]) := by
 refine PB (fn := Try.f33) (sc := F33.c) ?_
 refine rS ?_
 simp only [heat_Together] at h0
 try simp only [F33.c, go_sem]
 obtain ⟨x1, yx1, h0⟩ := bs h0
 refine zc0 (heat_wanted_ok k _ _ _ yx1) ?_ (by first | rfl | simp [AV.refsL, AV.refs, AV.scal, AV.leaf]) ?_
 try simp only [go_sem]
 try simp only [go_sem]
 refine AKev_bif h0 ?_ ?_ <;> intro c2 h0
 have c2 := bnot_t c2
 try simp only [c2, go_sem]
 obtain rfl := Option.some.inj h0
 refine AKev_ret rfl ?_
 try simp only [F33.rs, c2, go_sem]
 have c2 := bnot_f c2
 try simp only [c2, go_sem]
 obtain ⟨x3, yx3, h0⟩ := bs h0
 refine zc0 (heat_furnace_sound_ok k _ _ yx3) ?_ (by first | rfl | simp [AV.refsL, AV.refs, AV.scal, AV.leaf]) ?_
 try simp only [c2, go_sem]
 try simp only [c2, go_sem]
 refine AKev_bif h0 ?_ ?_ <;> intro c4 h0
 have c4 := bnot_t c4
 try simp only [c4, c2, go_sem]
 obtain rfl := Option.some.inj h0
 refine AKev_ret rfl ?_
 try simp only [F33.rs, c2, c4, go_sem]
 have c4 := bnot_f c4
 try simp only [c4, c2, go_sem]
 obtain ⟨r11, yr11, h0⟩ := bs h0
 refine AKev_loopS yr11 (heat_Together.h0 l1 x1) (heat_Together.x0) ?_ ?_ ?_
 refine Weak.go [6, 25, 26, 27] [160] rfl ?_
 try simp only [heat_Together.h0, c2, c4, go_sem]
 rintro i5 x_1 Bk1 Br1 h1 hnext1 hbrk1 hret1
 refine rS ?_
 simp only [heat_Together.b0] at h1
 try simp only [F33.s0, heat_Together.h0, c2, c4, go_sem]
 refine AKev_bif h1 ?_ ?_ <;> intro c6 h1
 try simp only [c6, c2, c4, go_sem]
 obtain ⟨x7, yx7, h1⟩ := bs h1
 try simp only [aa yx7, c2, c4, c6, go_sem]
 obtain ⟨x8, yx8, h1⟩ := bs h1
 refine zc0 (heat_furnace_bound_ok k _ _ _ yx8) ?_ (by first | rfl | simp [AV.refsL, AV.refs, AV.scal, AV.leaf]) ?_
 try simp only [c2, c4, c6, aa yx7, go_sem]
 try simp only [c2, c4, c6, aa yx7, go_sem]
 refine AKev_bif h1 ?_ ?_ <;> intro c9 h1
 have c9 := bnot_t c9
 try simp only [c9, c2, c4, c6, aa yx7, go_sem]
 refine AKev_bif h1 ?_ ?_ <;> intro c10 h1
 try simp only [c10, c2, c4, c6, aa yx7, c9, go_sem]
 obtain rfl := hret1 _ (Option.some.inj h1).symm
 simp only at h0
 obtain rfl := Option.some.inj h0
 refine AKev_ret rfl ?_
 try simp only [F33.rs, c2, c4, c6, aa yx7, c9, c10, go_sem]
 try simp only [c10, c2, c4, c6, aa yx7, c9, go_sem]
 refine AKev_backB (hnext1 _ _ (Option.some.inj h1).symm ?_)
 refine Weak.go [6, 25, 26, 27] [0] rfl ?_
 try simp only [heat_Together.h0, c2, c4, c6, aa yx7, c9, c10, go_sem]
 have c9 := bnot_f c9
 try simp only [c9, c2, c4, c6, aa yx7, go_sem]
 obtain rfl := hret1 _ (Option.some.inj h1).symm
 simp only at h0
 obtain rfl := Option.some.inj h0
 refine AKev_ret rfl ?_
 try simp only [F33.rs, c2, c4, c6, aa yx7, c9, go_sem]
 try simp only [c6, c2, c4, go_sem]
 refine AKev_backB (hbrk1 _ _ (Option.some.inj h1).symm ?_)
 refine Weak.go [] [] rfl ?_
 try simp only [heat_Together.x0, c2, c4, c6, go_sem]
 rintro _ hr_
 subst hr_
 simp only at h0
 refine rS ?_
 try simp only [heat_Together.x0, c2, c4, go_sem]
 obtain rfl := Option.some.inj h0
 refine AKev_ret rfl ?_
 try simp only [F33.rs, c2, c4, go_sem]
def F32.c : SC :=
 (.seq
 (.reg [oq 3 (.box 32 (.tmp 0)) 0 [0],
 oq 5 (.box 39 (.tmp 2)) 0 [2],
 sn 6 0 3 [6],
 sn 7 0 43 [7]])
 (.seq
 (.block 0
 (.seq
 (.reg [ld 9 32 3 [],
 cf1 10 41 9 32 43 [9],
 bn 11 .neq 43 10 0 43 4 [10],
 sg 8 11 4 [11]])
 (.cond (.tmp 8)
 (.seq
 (.reg [sn 6 0 3 [],
 sn 7 42 43 []])
 .ret)
 (.seq
 (.reg [mv 13 1 3 [],
 fa 14 32 3 0 [],
 fa 15 29 14 0 [14],
 ld 16 27 15 [15],
 oq 17 (.indexAddr 27 (.tmp 16) (.const (.int .i64 0))) 0 [16],
 ld 18 40 17 [17],
 ln 19 18 40 3 [18],
 bn 20 .sub 3 19 1 3 3 [19],
 oq 21 (.call ⟨.value (.func 42), #[.tmp 13, .const (.int .i64 0), .tmp 20], #[3, 3, 3]⟩) 4 [13, 20],
 oq 22 (.unOp .not 4 (.tmp 21)) 4 [21],
 sg 12 22 4 [22]])
 (.cond (.tmp 12)
 (.seq
 (.reg [sn 6 0 3 [],
 sn 7 43 43 []])
 .ret)
 .skip)))))
 (.seq
 (.reg [ld 23 32 3 [3],
 mv 24 1 3 [1],
 ld 25 39 5 [5],
 oq 26 (.build 79 #[(0, .tmp 24), (1, .tmp 25)]) 79 [24, 25],
 oq 27 (.buildSlice 80 1 #[(0, .tmp 26)]) 80 [26],
 cf2 28 33 23 27 32 80 83 [23, 27],
 xt 29 28 0 3 [],
 xt 30 28 1 43 [28],
 sg 6 29 3 [29],
 sg 7 30 43 [30]])
 .ret)))
theorem F32.rs : Try.f32.results.toList = [.tmp 6, .tmp 7] := rfl
def heat_Verdict (k : Nat) (f0 : Firing) (place1 : Int) (want2 : Range) : Option (Int × Int) :=
 (heat_Check k f0).bind fun x1 =>
 bif (!decide (x1 = (0 : Int))) then
  some (0, 42)
 else
  (at? f0.Kiln.Falls 0).bind fun x3 =>
  (heat_in k place1 0 (w64 ((x3.length : Int) - 1))).bind fun x4 =>
  bif (!x4) then
   some (0, 43)
  else
   (heat_Together k f0 [(⟨place1, want2⟩ : Want)]).bind fun x6 =>
   some (x6.1, x6.2)
theorem heat_Verdict_ok (k : Nat) (f0 : Firing) (place1 : Int) (want2 : Range) (r : Int × Int) (h0 : heat_Verdict k f0 place1 want2 = some r) : PCall Try.prog 32 [.agg (Firing.c f0), .int .i64 place1, .agg (Range.c want2)] (fun y => y = .tup [.int .i64 r.1, .int .i64 r.2]) := by
 refine PB (fn := Try.f32) (sc := F32.c) ?_
 refine rS ?_
 simp only [heat_Verdict] at h0
 try simp only [F32.c, go_sem]
 obtain ⟨x1, yx1, h0⟩ := bs h0
 refine zc0 (heat_Check_ok k _ _ yx1) ?_ (by first | rfl | simp [AV.refsL, AV.refs, AV.scal, AV.leaf]) ?_
 try simp only [go_sem]
 try simp only [go_sem]
 refine AKev_bif h0 ?_ ?_ <;> intro c2 h0
 have c2 := bnot_t c2
 try simp only [c2, go_sem]
 obtain rfl := Option.some.inj h0
 refine AKev_ret rfl ?_
 try simp only [F32.rs, c2, go_sem]
 have c2 := bnot_f c2
 try simp only [c2, go_sem]
 obtain ⟨x3, yx3, h0⟩ := bs h0
 try simp only [aa yx3, c2, go_sem]
 obtain ⟨x4, yx4, h0⟩ := bs h0
 refine zc0 (heat_in_ok k _ _ _ _ yx4) ?_ (by first | rfl | simp [AV.refsL, AV.refs, AV.scal, AV.leaf]) ?_
 try simp only [c2, aa yx3, go_sem]
 try simp only [c2, aa yx3, go_sem]
 refine AKev_bif h0 ?_ ?_ <;> intro c5 h0
 have c5 := bnot_t c5
 try simp only [c5, c2, aa yx3, go_sem]
 obtain rfl := Option.some.inj h0
 refine AKev_ret rfl ?_
 try simp only [F32.rs, c2, aa yx3, c5, go_sem]
 have c5 := bnot_f c5
 try simp only [c5, c2, aa yx3, go_sem]
 obtain ⟨x6, yx6, h0⟩ := bs h0
 refine zc0 (heat_Together_ok k _ _ _ yx6) ?_ (by first | rfl | simp [AV.refsL, AV.refs, AV.scal, AV.leaf]) ?_
 try simp only [c2, aa yx3, c5, go_sem]
 try simp only [c2, aa yx3, c5, go_sem]
 obtain rfl := Option.some.inj h0
 refine AKev_ret rfl ?_
 try simp only [F32.rs, c2, aa yx3, c5, go_sem]
def F73.s1 : SC :=
 (.seq
 (.reg [b2 39 .lss 3 38 37 3 0 []])
 (.seq
 (.cond (.tmp 39)
 .skip
 (.exit 2))
 (.seq
 (.block 3
 (.seq
 (.reg [mv 40 38 3 [],
 ia 41 40 36 38 [],
 ld 42 39 41 [41],
 oq 10 (.alloc 39) 0 [],
 sg 9 40 3 [40],
 ⟨none, .store 39 (.tmp 10) (.tmp 42), 0, none, [42]⟩])
 (.seq
 (.reg [fa 43 39 10 0 [10],
 ld 44 3 43 [43],
 sg 11 44 3 [44]])
 (.seq
 (.seq
 (.reg [fa 46 94 1 2 [],
 ld 47 92 46 [46],
 mv 48 9 3 [9],
 oq 49 (.call ⟨.value (.func 89), #[.tmp 47, .tmp 48, .func 90], #[92, 3, 147]⟩) 137 [47, 48],
 mv 45 49 137 [49],
 xt 50 45 0 136 [],
 xt 51 45 1 4 [45],
 oq 12 (.alloc 136) 0 [],
 ⟨none, .store 136 (.tmp 12) (.tmp 50), 0, none, [50]⟩,
 sg 13 51 4 [51]])
 (.seq
 (.reg [mv 52 13 4 [13]])
 (.cond (.tmp 52)
 (.reg [mv 53 11 3 [11],
 mv 54 6 3 [],
 fa 55 136 12 1 [12],
 ld 56 3 55 [55],
 b2 57 .sub 3 54 56 3 3 [54, 56],
 oq 58 (.call ⟨.builtin .max, #[.tmp 53, .tmp 57], #[3, 3]⟩) 3 [53, 57],
 sg 11 58 3 [58]])
 .skip)))
 (.reg [mv 59 8 23 [8],
 mv 60 11 3 [11],
 oq 61 (.buildSlice 23 1 #[(0, .tmp 60)]) 23 [60],
 oq 62 (.call ⟨.builtin .append, #[.tmp 59, .tmp 61], #[23, 23]⟩) 23 [59, 61],
 sg 8 62 23 [62]])))))
 (.reg [bn 63 .add 3 38 1 3 3 [38],
 mv 38 63 3 [63]]))))
def F73.s0 : SC :=
 (.seq
 (.reg [b2 20 .lss 3 19 18 3 0 []])
 (.seq
 (.cond (.tmp 20)
 .skip
 (.exit 0))
 (.seq
 (.block 1
 (.seq
 (.reg [mv 21 19 3 [],
 ia 22 27 17 19 [],
 ld 23 40 22 [22],
 sg 4 21 3 [21],
 sg 5 23 40 [23]])
 (.seq
 (.reg [ld 25 94 1 [],
 mv 26 4 3 [4],
 cf2 27 88 25 26 94 3 141 [25, 26],
 mv 24 27 141 [27],
 xt 28 24 0 3 [],
 xt 29 24 1 3 [24],
 sg 6 28 3 [28],
 sg 7 29 3 [7, 29]])
 (.seq
 (.reg [fa 30 35 3 0 [],
 ld 31 23 30 [30],
 mv 32 6 3 [],
 oq 33 (.buildSlice 23 1 #[(0, .tmp 32)]) 23 [32],
 oq 34 (.call ⟨.builtin .append, #[.tmp 31, .tmp 33], #[23, 23]⟩) 23 [31, 33],
 fa 35 35 3 0 [],
 ⟨none, .store 23 (.tmp 35) (.tmp 34), 0, none, [34, 35]⟩])
 (.seq
 (.reg [oq 8 (.assign (.const (.slice none 0 0))) 23 []])
 (.seq
 (.seq
 (.reg [mv 36 5 40 [5],
 ln 37 36 40 3 [],
 oq 38 (.move (.const (.int .i64 0))) 3 []])
 (.block 2
 (.loop F73.s1)))
 (.reg [fa 64 35 3 1 [],
 ld 65 33 64 [64],
 mv 66 8 23 [8],
 oq 67 (.buildSlice 33 1 #[(0, .tmp 66)]) 33 [66],
 oq 68 (.call ⟨.builtin .append, #[.tmp 65, .tmp 67], #[33, 33]⟩) 33 [65, 67],
 fa 69 35 3 1 [],
 ⟨none, .store 33 (.tmp 69) (.tmp 68), 0, none, [68, 69]⟩])))))))
 (.reg [bn 70 .add 3 19 1 3 3 [19],
 mv 19 70 3 [70]]))))
def F73.c : SC :=
 (.seq
 (.reg [oq 1 (.box 94 (.tmp 0)) 0 [0],
 oq 2 (.alloc 35) 0 []])
 (.seq
 (.reg [oq 3 (.alloc 35) 0 []])
 (.seq
 (.seq
 (.reg [fa 14 94 1 0 [],
 fa 15 32 14 0 [14],
 fa 16 29 15 0 [15],
 ld 17 27 16 [16],
 ln 18 17 27 3 [],
 oq 19 (.move (.const (.int .i64 0))) 3 []])
 (.block 0
 (.loop F73.s0)))
 (.seq
 (.reg [ld 71 35 3 [3],
 ⟨none, .store 35 (.tmp 2) (.tmp 71), 0, none, [71]⟩])
 .ret))))
theorem F73.rs : Try.f73.results.toList = [.cell 2 35] := rfl
def heat_furnace_greatest.b1 (k : Nat) (f0 : heat_furnace) (x7 : (List Range)) (x8 : Int × Int) : (Int × (List Int)) → Option (Stp (Int × (List Int)) ((List Int)) (Field)) := fun (s : Int × (List Int)) => match s with
 | (i10, l11) =>
   bif decide (i10 < (x7.length : Int)) then
    (at? x7 i10).bind fun x14 =>
    (heat_best k f0.most i10 (fun q0 q1 => heat_less k q0 q1)).bind fun x15 =>
    bif x15.2 then
     (push? 8 l11 (max x14.Lo (w64 (x8.1 - x15.1.heat)))).bind fun l17 =>
     some (.next (w64 (i10 + 1), l17))
    else
     (push? 8 l11 x14.Lo).bind fun l18 =>
     some (.next (w64 (i10 + 1), l18))
   else
    some (.brk l11)
def heat_furnace_greatest.b0 (k : Nat) (f0 : heat_furnace) : (Int × (List Int) × (List (List Int))) → Option (Stp (Int × (List Int) × (List (List Int))) ((List Int) × (List (List Int))) (Field)) := fun (s : Int × (List Int) × (List (List Int))) => match s with
 | (i1, l2, l3) =>
   bif decide (i1 < (f0.Firing.Kiln.Falls.length : Int)) then
    (at? f0.Firing.Kiln.Falls i1).bind fun x7 =>
    (heat_furnace_hottest k f0 i1).bind fun x8 =>
    (push? 8 l2 x8.1).bind fun l9 =>
    (whl (heat_furnace_greatest.b1 k f0 x7 x8) k (0, [])).bind fun r19 => match r19 with
    | .next _ => none
    | .ret v_ => some (.ret v_)
    | .brk l12 =>
     (push? 24 l3 l12).bind fun l20 =>
     some (.next (w64 (i1 + 1), l9, l20))
   else
    some (.brk (l2, l3))
noncomputable def heat_furnace_greatest.h1 (f0 : heat_furnace) (i1 : Int) (l2 : (List Int)) (l3 : (List (List Int))) (x7 : (List Range)) (x8 : Int × Int) (l9 : List Int) : (Int × (List Int)) → St := fun (s : Int × (List Int)) => match s with
 | (i10, l11) => ⟨[(1, .ptr 0 0 0), (2, .ptr 0 1 0), (3, .ptr 0 4 0), (6, .int .i64 x8.1), (8, .loc 0 7 1 0 l11.length l11.length), (17, .sl 1 (List.map (eL 2 Range.c) f0.Firing.Kiln.Falls)), (18, .int .i64 (f0.Firing.Kiln.Falls.length : Int)), (19, .int .i64 i1), (36, .sl 2 (List.map Range.c x7)), (37, .int .i64 (x7.length : Int)), (38, .int .i64 i10)], [(0, .box [.sl 1 (List.map (eL 2 Range.c) f0.Firing.Kiln.Falls), .sl 6 (List.map Reading.c f0.Firing.Readings), .sl 3 (List.map heat_limit.c f0.least), .sl 3 (List.map heat_limit.c f0.most)]), (1, .box [.loc 0 2 1 0 0 0, .loc 0 3 1 0 0 0]), (2, .arr 3 1 (List.map eI [])), (3, .arr 23 1 (List.map (eL 1 eI) [])), (4, .box [.loc 0 5 1 0 (l2.length + 1) (l2.length + 1), .loc 0 6 1 0 l3.length l3.length]), (5, .arr 3 1 (List.map eI l9)), (6, .arr 23 1 (List.map (eL 1 eI) l3)), (7, .arr 3 1 (List.map eI l11))], [], 8, Try.f73.ntmps⟩
noncomputable def heat_furnace_greatest.x1 (f0 : heat_furnace) (i1 : Int) (l2 : (List Int)) (l3 : (List (List Int))) (l9 : List Int) : (List Int) → St := fun (l12 : (List Int)) => ⟨[(1, .ptr 0 0 0), (2, .ptr 0 1 0), (3, .ptr 0 4 0), (8, .loc 0 7 1 0 l12.length l12.length), (17, .sl 1 (List.map (eL 2 Range.c) f0.Firing.Kiln.Falls)), (18, .int .i64 (f0.Firing.Kiln.Falls.length : Int)), (19, .int .i64 i1)], [(0, .box [.sl 1 (List.map (eL 2 Range.c) f0.Firing.Kiln.Falls), .sl 6 (List.map Reading.c f0.Firing.Readings), .sl 3 (List.map heat_limit.c f0.least), .sl 3 (List.map heat_limit.c f0.most)]), (1, .box [.loc 0 2 1 0 0 0, .loc 0 3 1 0 0 0]), (2, .arr 3 1 (List.map eI [])), (3, .arr 23 1 (List.map (eL 1 eI) [])), (4, .box [.loc 0 5 1 0 (l2.length + 1) (l2.length + 1), .loc 0 6 1 0 l3.length l3.length]), (5, .arr 3 1 (List.map eI l9)), (6, .arr 23 1 (List.map (eL 1 eI) l3)), (7, .arr 3 1 (List.map eI l12))], [], 8, Try.f73.ntmps⟩
noncomputable def heat_furnace_greatest.h0 (f0 : heat_furnace) : (Int × (List Int) × (List (List Int))) → St := fun (s : Int × (List Int) × (List (List Int))) => match s with
 | (i1, l2, l3) => ⟨[(1, .ptr 0 0 0), (2, .ptr 0 1 0), (3, .ptr 0 4 0), (17, .sl 1 (List.map (eL 2 Range.c) f0.Firing.Kiln.Falls)), (18, .int .i64 (f0.Firing.Kiln.Falls.length : Int)), (19, .int .i64 i1)], [(0, .box [.sl 1 (List.map (eL 2 Range.c) f0.Firing.Kiln.Falls), .sl 6 (List.map Reading.c f0.Firing.Readings), .sl 3 (List.map heat_limit.c f0.least), .sl 3 (List.map heat_limit.c f0.most)]), (1, .box [.loc 0 2 1 0 0 0, .loc 0 3 1 0 0 0]), (2, .arr 3 1 (List.map eI [])), (3, .arr 23 1 (List.map (eL 1 eI) [])), (4, .box [.loc 0 5 1 0 l2.length l2.length, .loc 0 6 1 0 l3.length l3.length]), (5, .arr 3 1 (List.map eI l2)), (6, .arr 23 1 (List.map (eL 1 eI) l3))], [], 7, Try.f73.ntmps⟩
noncomputable def heat_furnace_greatest.x0 : ((List Int) × (List (List Int))) → St := fun (s : (List Int) × (List (List Int))) => match s with
 | (l4, l5) => ⟨[(2, .ptr 0 0 0), (3, .ptr 0 3 0)], [(0, .box [.loc 0 1 1 0 0 0, .loc 0 2 1 0 0 0]), (1, .arr 3 1 (List.map eI [])), (2, .arr 23 1 (List.map (eL 1 eI) [])), (3, .box [.loc 0 4 1 0 l4.length l4.length, .loc 0 5 1 0 l5.length l5.length]), (4, .arr 3 1 (List.map eI l4)), (5, .arr 23 1 (List.map (eL 1 eI) l5))], [], 6, Try.f73.ntmps⟩
def heat_furnace_greatest (k : Nat) (f0 : heat_furnace) : Option (Field) :=
 (whl (heat_furnace_greatest.b0 k f0) k (0, [], [])).bind fun r21 => match r21 with
 | .next _ => none
 | .ret v_ => some v_
 | .brk (l4, l5) =>
  some (⟨l4, l5⟩ : Field)
theorem heat_furnace_greatest_ok (k : Nat) (f0 : heat_furnace) (r : Field) (h0 : heat_furnace_greatest k f0 = some r) : PCall Try.prog 73 [.agg (heat_furnace.c f0)] (fun y => y = .agg (Field.c r)) := by
 refine PB (fn := Try.f73) (sc := F73.c) ?_
 refine rS ?_
 simp only [heat_furnace_greatest] at h0
 try simp only [F73.c, go_sem]
 obtain ⟨r21, yr21, h0⟩ := bs h0
 refine AKev_loopS yr21 (heat_furnace_greatest.h0 f0) (heat_furnace_greatest.x0) ?_ ?_ ?_
 refine Weak.go [1, 2, 3, 17, 18, 19] [0, 16, 17, 18, 32, 33, 34] rfl ?_
 try simp only [heat_furnace_greatest.h0, go_sem]
 rintro ⟨i1, l2, l3⟩ x_1 Bk1 Br1 h1 hnext1 hbrk1 hret1
 refine rS ?_
 simp only [heat_furnace_greatest.b0] at h1
 try simp only [F73.s0, heat_furnace_greatest.h0, go_sem]
 refine AKev_bif h1 ?_ ?_ <;> intro c6 h1
 try simp only [c6, go_sem]
 obtain ⟨x7, yx7, h1⟩ := bs h1
 try simp only [aa yx7, c6, go_sem]
 obtain ⟨x8, yx8, h1⟩ := bs h1
 refine zc0 (heat_furnace_hottest_ok k _ _ _ yx8) ?_ (by first | rfl | simp [AV.refsL, AV.refs, AV.scal, AV.leaf]) ?_
 try simp only [c6, aa yx7, go_sem]
 try simp only [c6, aa yx7, go_sem]
 obtain ⟨l9, yl9, h1⟩ := bs h1
 have eyl9 := push_map eI yl9
 have tyl9 := push_take eI yl9
 have nyl9 := push_len yl9
 have myl9 := push_room yl9
 try simp only [c6, aa yx7, go_sem] at eyl9 tyl9 nyl9 myl9
 try simp only [myl9, eyl9, c6, aa yx7, nyl9, tyl9, go_sem]
 obtain ⟨r19, yr19, h1⟩ := bs h1
 refine AKev_loopS yr19 (heat_furnace_greatest.h1 f0 i1 l2 l3 x7 x8 l9) (heat_furnace_greatest.x1 f0 i1 l2 l3 l9) ?_ ?_ ?_
 refine Weak.go [1, 2, 3, 6, 8, 17, 18, 19, 36, 37, 38] [0, 1, 2, 3, 4, 5, 6, 343] rfl ?_
 try simp only [heat_furnace_greatest.h1, c6, aa yx7, eyl9, nyl9, tyl9, go_sem]
 rintro ⟨i10, l11⟩ x_2 Bk2 Br2 h2 hnext2 hbrk2 hret2
 refine rS ?_
 simp only [heat_furnace_greatest.b1] at h2
 try simp only [F73.s1, heat_furnace_greatest.h1, c6, aa yx7, eyl9, nyl9, tyl9, go_sem]
 refine AKev_bif h2 ?_ ?_ <;> intro c13 h2
 try simp only [c13, c6, aa yx7, eyl9, nyl9, tyl9, go_sem]
 obtain ⟨x14, yx14, h2⟩ := bs h2
 try simp only [aa yx14, c6, aa yx7, eyl9, nyl9, tyl9, c13, go_sem]
 obtain ⟨x15, yx15, h2⟩ := bs h2
 refine zc0 (heat_best_ok k _ _ 90 [] ⟨fun _ => rfl, fun _ => rfl, fun _ _ => rfl, rfl, fun _ => rfl, fun _ => rfl, fun _ => rfl⟩ (fun q0 q1 => heat_less k q0 q1) (fun q0 q1 qr qh => heat_less_ok k q0 q1 qr qh) _ yx15) ?_ (by first | rfl | simp [AV.refsL, AV.refs, AV.scal, AV.leaf]) ?_
 try simp only [c6, aa yx7, eyl9, nyl9, tyl9, c13, aa yx14, go_sem]
 try simp only [c6, aa yx7, eyl9, nyl9, tyl9, c13, aa yx14, go_sem]
 refine AKev_bif h2 ?_ ?_ <;> intro c16 h2
 try simp only [c16, c6, aa yx7, eyl9, nyl9, tyl9, c13, aa yx14, go_sem]
 obtain ⟨l17, yl17, h2⟩ := bs h2
 have eyl17 := push_map eI yl17
 have tyl17 := push_take eI yl17
 have nyl17 := push_len yl17
 have myl17 := push_room yl17
 try simp only [c6, aa yx7, eyl9, nyl9, tyl9, c13, aa yx14, c16, go_sem] at eyl17 tyl17 nyl17 myl17
 try simp only [myl17, eyl17, c6, aa yx7, eyl9, nyl9, tyl9, c13, aa yx14, c16, nyl17, tyl17, go_sem]
 refine AKev_backB (hnext2 _ _ (Option.some.inj h2).symm ?_)
 refine Weak.go [1, 2, 3, 6, 8, 17, 18, 19, 36, 37, 38] [0, 1, 2, 3, 4, 5, 6, 7] rfl ?_
 try simp only [heat_furnace_greatest.h1, c6, aa yx7, eyl9, nyl9, tyl9, c13, aa yx14, c16, eyl17, nyl17, tyl17, go_sem]
 try simp only [c16, c6, aa yx7, eyl9, nyl9, tyl9, c13, aa yx14, go_sem]
 obtain ⟨l18, yl18, h2⟩ := bs h2
 have eyl18 := push_map eI yl18
 have tyl18 := push_take eI yl18
 have nyl18 := push_len yl18
 have myl18 := push_room yl18
 try simp only [c6, aa yx7, eyl9, nyl9, tyl9, c13, aa yx14, c16, go_sem] at eyl18 tyl18 nyl18 myl18
 try simp only [myl18, eyl18, c6, aa yx7, eyl9, nyl9, tyl9, c13, aa yx14, c16, nyl18, tyl18, go_sem]
 refine AKev_backB (hnext2 _ _ (Option.some.inj h2).symm ?_)
 refine Weak.go [1, 2, 3, 6, 8, 17, 18, 19, 36, 37, 38] [0, 1, 2, 3, 4, 5, 6, 7] rfl ?_
 try simp only [heat_furnace_greatest.h1, c6, aa yx7, eyl9, nyl9, tyl9, c13, aa yx14, c16, eyl18, nyl18, tyl18, go_sem]
 try simp only [c13, c6, aa yx7, eyl9, nyl9, tyl9, go_sem]
 refine AKev_backB (hbrk2 _ _ (Option.some.inj h2).symm ?_)
 refine Weak.go [1, 2, 3, 8, 17, 18, 19] [0, 1, 2, 3, 4, 5, 6, 7] rfl ?_
 try simp only [heat_furnace_greatest.x1, c6, aa yx7, eyl9, nyl9, tyl9, c13, go_sem]
 rintro l12 hr_
 subst hr_
 simp only at h1
 refine rS ?_
 try simp only [heat_furnace_greatest.x1, c6, aa yx7, eyl9, nyl9, tyl9, go_sem]
 obtain ⟨l20, yl20, h1⟩ := bs h1
 have eyl20 := push_map (eL 1 eI) yl20
 have tyl20 := push_take (eL 1 eI) yl20
 have nyl20 := push_len yl20
 have myl20 := push_room yl20
 try simp only [c6, aa yx7, eyl9, nyl9, tyl9, go_sem] at eyl20 tyl20 nyl20 myl20
 try simp only [myl20, eyl20, c6, aa yx7, eyl9, nyl9, tyl9, nyl20, tyl20, go_sem]
 refine AKev_backB (hnext1 _ _ (Option.some.inj h1).symm ?_)
 refine Weak.go [1, 2, 3, 17, 18, 19] [0, 1, 2, 3, 4, 5, 6] rfl ?_
 try simp only [heat_furnace_greatest.h0, c6, aa yx7, eyl9, nyl9, tyl9, eyl20, nyl20, tyl20, go_sem]
 try simp only [c6, go_sem]
 refine AKev_backB (hbrk1 _ _ (Option.some.inj h1).symm ?_)
 refine Weak.go [2, 3] [1, 2, 3, 4, 5, 6] rfl ?_
 try simp only [heat_furnace_greatest.x0, c6, go_sem]
 rintro ⟨l4, l5⟩ hr_
 subst hr_
 simp only at h0
 refine rS ?_
 try simp only [heat_furnace_greatest.x0, go_sem]
 obtain rfl := Option.some.inj h0
 refine AKev_ret rfl ?_
 try simp only [F73.rs, go_sem]
def F38.c : SC :=
 (.seq
 (.reg [oq 1 (.box 32 (.tmp 0)) 0 [0],
 oq 2 (.assign (.const (.slice none 0 0))) 23 [2],
 sn 3 0 43 [3]])
 (.seq
 (.reg [ld 7 32 1 [1],
 oq 8 (.call ⟨.value (.func 36), #[.tmp 7, .const (.int .i64 0)], #[32, 3]⟩) 95 [7],
 mv 6 8 95 [8],
 xt 9 6 0 94 [],
 xt 10 6 1 43 [6],
 oq 4 (.alloc 94) 0 [],
 ⟨none, .store 94 (.tmp 4) (.tmp 9), 0, none, [9]⟩,
 sg 5 10 43 [10]])
 (.seq
 (.seq
 (.reg [mv 11 5 43 [],
 bn 12 .neq 43 11 0 43 4 [11]])
 (.cond (.tmp 12)
 (.seq
 (.reg [mv 13 5 43 [5],
 oq 2 (.assign (.const (.slice none 0 0))) 23 [],
 sg 3 13 43 [13]])
 .ret)
 .skip))
 (.seq
 (.reg [ld 14 94 4 [4],
 cf1 15 73 14 94 35 [14],
 oq 16 (.field 35 (.tmp 15) 0) 23 [15],
 sg 2 16 23 [16],
 sn 3 0 43 []])
 .ret))))
theorem F38.rs : Try.f38.results.toList = [.tmp 2, .tmp 3] := rfl
def heat_Hottest (k : Nat) (f0 : Firing) : Option ((List Int) × Int) :=
 (heat_asks k f0 0).bind fun x1 =>
 bif (!decide (x1.2 = (0 : Int))) then
  some ([], x1.2)
 else
  (heat_furnace_greatest k x1.1).bind fun x3 =>
  some (x3.Mouths, 0)
theorem heat_Hottest_ok (k : Nat) (f0 : Firing) (r : (List Int) × Int) (h0 : heat_Hottest k f0 = some r) : PCall Try.prog 38 [.agg (Firing.c f0)] (fun y => y = .tup [.sl 1 (List.map eI r.1), .int .i64 r.2]) := by
 refine PB (fn := Try.f38) (sc := F38.c) ?_
 refine rS ?_
 simp only [heat_Hottest] at h0
 try simp only [F38.c, go_sem]
 obtain ⟨x1, yx1, h0⟩ := bs h0
 refine zc0 (heat_asks_ok k _ _ _ yx1) ?_ (by first | rfl | simp [AV.refsL, AV.refs, AV.scal, AV.leaf]) ?_
 try simp only [go_sem]
 try simp only [go_sem]
 refine AKev_bif h0 ?_ ?_ <;> intro c2 h0
 have c2 := bnot_t c2
 try simp only [c2, go_sem]
 obtain rfl := Option.some.inj h0
 refine AKev_ret rfl ?_
 try simp only [F38.rs, c2, go_sem]
 have c2 := bnot_f c2
 try simp only [c2, go_sem]
 obtain ⟨x3, yx3, h0⟩ := bs h0
 refine zc0 (heat_furnace_greatest_ok k _ _ yx3) ?_ (by first | rfl | simp [AV.refsL, AV.refs, AV.scal, AV.leaf]) ?_
 try simp only [c2, go_sem]
 try simp only [c2, go_sem]
 obtain rfl := Option.some.inj h0
 refine AKev_ret rfl ?_
 try simp only [F38.rs, c2, go_sem]
def F40.c : SC :=
 (.seq
 (.reg [oq 0 (.alloc 29) 0 []])
 (.seq
 (.reg [oq 4 (.build 39 #[(0, .const (.int .i64 100)), (1, .const (.int .i64 200))]) 39 [],
 oq 1 (.alloc 39) 0 [],
 ⟨none, .store 39 (.tmp 1) (.tmp 4), 0, none, [4]⟩])
 (.seq
 (.reg [oq 5 (.build 39 #[(0, .const (.int .i64 300)), (1, .const (.int .i64 400))]) 39 [],
 oq 2 (.alloc 39) 0 [],
 ⟨none, .store 39 (.tmp 2) (.tmp 5), 0, none, [5]⟩])
 (.seq
 (.reg [oq 6 (.build 39 #[(0, .const (.int .i64 600)), (1, .const (.int .i64 800))]) 39 [],
 oq 3 (.alloc 39) 0 [],
 ⟨none, .store 39 (.tmp 3) (.tmp 6), 0, none, [6]⟩])
 (.seq
 (.reg [ld 7 39 1 [],
 ld 8 39 2 [],
 ld 9 39 3 [],
 oq 10 (.buildSlice 40 3 #[(0, .tmp 7), (1, .tmp 8), (2, .tmp 9)]) 40 [7, 8, 9],
 ld 11 39 3 [3],
 ld 12 39 2 [2],
 ld 13 39 1 [1],
 oq 14 (.buildSlice 40 3 #[(0, .tmp 11), (1, .tmp 12), (2, .tmp 13)]) 40 [11, 12, 13],
 oq 15 (.buildSlice 27 2 #[(0, .tmp 10), (1, .tmp 14)]) 27 [10, 14],
 oq 16 (.build 29 #[(0, .tmp 15)]) 29 [15],
 ⟨none, .store 29 (.tmp 0) (.tmp 16), 0, none, [16]⟩])
 .ret)))))
theorem F40.rs : Try.f40.results.toList = [.cell 0 29] := rfl
def L04_kiln (k : Nat) : Option (Kiln) :=
 some (⟨[[(⟨100, 200⟩ : Range), (⟨300, 400⟩ : Range), (⟨600, 800⟩ : Range)], [(⟨600, 800⟩ : Range), (⟨300, 400⟩ : Range), (⟨100, 200⟩ : Range)]]⟩ : Kiln)
theorem L04_kiln_ok (k : Nat) (r : Kiln) (h0 : L04_kiln k = some r) : PCall Try.prog 40 [] (fun y => y = .agg (Kiln.c r)) := by
 refine PB (fn := Try.f40) (sc := F40.c) ?_
 refine rS ?_
 simp only [L04_kiln] at h0
 try simp only [F40.c, go_sem]
 obtain rfl := Option.some.inj h0
 refine AKev_ret rfl ?_
 try simp only [F40.rs, go_sem]
def F39.c : SC :=
 (.seq
 (.reg [oq 0 (.alloc 32) 0 []])
 (.seq
 (.reg [oq 1 (.call ⟨.value (.func 40), #[], #[]⟩) 29 [],
 oq 2 (.build 60 #[(0, .const (.int .i64 1)), (2, .const (.int .i64 1)), (3, .const (.int .i64 1000))]) 60 [],
 oq 3 (.build 60 #[(0, .const (.int .i64 2)), (2, .const (.int .i64 2)), (3, .const (.int .i64 1101))]) 60 [],
 oq 4 (.build 60 #[(0, .const (.int .i64 3)), (1, .const (.int .i64 2)), (2, .const (.int .i64 2)), (3, .const (.int .i64 901))]) 60 [],
 oq 5 (.buildSlice 30 3 #[(0, .tmp 2), (1, .tmp 3), (2, .tmp 4)]) 30 [2, 3, 4],
 oq 6 (.build 32 #[(0, .tmp 1), (1, .tmp 5)]) 32 [1, 5],
 ⟨none, .store 32 (.tmp 0) (.tmp 6), 0, none, [6]⟩])
 .ret))
theorem F39.rs : Try.f39.results.toList = [.cell 0 32] := rfl
def L04_firing_o (k : Nat) : Option (Firing) :=
 (L04_kiln k).bind fun x1 =>
 some (⟨x1, [(⟨1, 0, 1, 1000, (⟨0, 0⟩ : Range)⟩ : Reading), (⟨2, 0, 2, 1101, (⟨0, 0⟩ : Range)⟩ : Reading), (⟨3, 2, 2, 901, (⟨0, 0⟩ : Range)⟩ : Reading)]⟩ : Firing)
theorem L04_firing_o_ok (k : Nat) (r : Firing) (h0 : L04_firing_o k = some r) : GCall Try.prog 39 [] [] (fun y fr => y = .agg [.sl 1 (List.map (eL 2 Range.c) r.Kiln.Falls), .loc 0 0 6 0 r.Readings.length r.Readings.length] ∧ fr = [(0, .arr 60 6 (List.map Reading.c r.Readings))]) := by
 refine GCall.of_body T_ok (f := 39) (fn := Try.f39) (sc := F39.c) (by rfl) (by rfl) (by decide +kernel) (by rfl) (by decide +kernel) (Nat.le_of_ble_eq_true rfl) (fun H => ?_)
 refine rS ?_
 simp only [L04_firing_o] at h0
 try simp only [F39.c, go_sem]
 obtain ⟨x1, yx1, h0⟩ := bs h0
 refine zc0 (L04_kiln_ok k _ yx1) ?_ (by first | rfl | simp [AV.refsL, AV.refs, AV.scal, AV.leaf]) ?_
 try simp only [go_sem]
 try simp only [go_sem]
 obtain rfl := Option.some.inj h0
 refine AKev_gown [96] (by simp) rfl rfl ?_
 try simp only [F39.rs, gwOK, tupOf, Option.bind_some, go_sem]
def F14.c : SC :=
 (.seq
 (.reg [sb 0 false 4 [0]])
 (.seq
 (.reg [oq 12 (.call ⟨.value (.func 39), #[], #[]⟩) 32 [],
 cf1 13 38 12 32 53 [12],
 mv 11 13 53 [13],
 xt 14 11 0 23 [],
 xt 15 11 1 43 [11],
 sg 1 14 23 [14],
 sg 2 15 43 [15]])
 (.seq
 (.reg [oq 17 (.call ⟨.value (.func 39), #[], #[]⟩) 32 [],
 oq 18 (.call ⟨.value (.func 13), #[.tmp 17, .const (.int .i64 1)], #[32, 3]⟩) 44 [17],
 mv 16 18 44 [18],
 xt 19 16 0 39 [],
 xt 20 16 1 43 [16],
 oq 3 (.alloc 39) 0 [],
 ⟨none, .store 39 (.tmp 3) (.tmp 19), 0, none, [19]⟩,
 sg 4 20 43 [20]])
 (.seq
 (.reg [oq 22 (.call ⟨.value (.func 39), #[], #[]⟩) 32 [],
 oq 23 (.build 39 #[(0, .const (.int .i64 900)), (1, .const (.int .i64 950))]) 39 [],
 oq 24 (.call ⟨.value (.func 32), #[.tmp 22, .const (.int .i64 1), .tmp 23], #[32, 3, 39]⟩) 83 [22, 23],
 mv 21 24 83 [24],
 xt 25 21 0 3 [],
 xt 26 21 1 43 [21],
 sg 5 25 3 [25],
 sg 6 26 43 [26]])
 (.seq
 (.reg [oq 28 (.call ⟨.value (.func 40), #[], #[]⟩) 29 [],
 oq 29 (.call ⟨.value (.func 39), #[], #[]⟩) 32 [],
 oq 30 (.field 32 (.tmp 29) 1) 30 [29],
 oq 31 (.build 60 #[(0, .const (.int .i64 4)), (1, .const (.int .i64 1)), (2, .const (.int .i64 2)), (3, .const (.int .i64 600))]) 60 [],
 oq 32 (.buildSlice 30 1 #[(0, .tmp 31)]) 30 [31],
 oq 33 (.call ⟨.builtin .append, #[.tmp 30, .tmp 32], #[30, 30]⟩) 30 [30, 32],
 oq 34 (.build 32 #[(0, .tmp 28), (1, .tmp 33)]) 32 [28, 33],
 cf1 35 22 34 32 53 [34],
 mv 27 35 53 [35],
 xt 36 27 0 23 [],
 xt 37 27 1 43 [27],
 sg 7 36 23 [36],
 sg 8 37 43 [37]])
 (.seq
 (.reg [oq 38 (.call ⟨.value (.func 39), #[], #[]⟩) 32 [],
 oq 39 (.buildSlice 23 2 #[(0, .const (.int .i64 (-1))), (1, .const (.int .i64 2))]) 23 [],
 oq 40 (.build 51 #[(0, .const (.int .i64 0)), (1, .tmp 39)]) 51 [39],
 oq 41 (.call ⟨.value (.func 17), #[.tmp 38, .const (.int .i64 1), .const (.bool false), .const (.int .i64 700), .tmp 40], #[32, 3, 4, 3, 51]⟩) 43 [38, 40],
 sg 9 41 43 [41]])
 (.seq
 (.reg [mv 42 2 43 [2],
 bn 43 .eql 43 42 0 43 4 [42],
 mv 44 43 4 [43],
 og 45 (.move (.tmp 4)) 43 44 true [4],
 og 46 (.binOp .eql 43 (.tmp 45) (.const (.int .i64 0)) 43) 4 44 true [45],
 oq 47 (.pick (.tmp 44) (.tmp 46) (.const (.bool false))) 4 [44, 46],
 mv 48 47 4 [47],
 og 49 (.move (.tmp 6)) 43 48 true [6],
 og 50 (.binOp .eql 43 (.tmp 49) (.const (.int .i64 0)) 43) 4 48 true [49],
 oq 51 (.pick (.tmp 48) (.tmp 50) (.const (.bool false))) 4 [48, 50],
 mv 52 51 4 [51],
 og 53 (.move (.tmp 8)) 43 52 true [8],
 og 54 (.binOp .eql 43 (.tmp 53) (.const (.int .i64 0)) 43) 4 52 true [53],
 oq 55 (.pick (.tmp 52) (.tmp 54) (.const (.bool false))) 4 [52, 54],
 mv 56 55 4 [55],
 og 57 (.move (.tmp 9)) 43 56 true [9],
 og 58 (.binOp .eql 43 (.tmp 57) (.const (.int .i64 0)) 43) 4 56 true [57],
 oq 59 (.pick (.tmp 56) (.tmp 58) (.const (.bool false))) 4 [56, 58],
 sg 10 59 4 [59]])
 (.seq
 (.reg [mv 60 10 4 [10],
 mv 61 60 4 [60],
 og 62 (.move (.tmp 1)) 23 61 true [1],
 og 63 (.buildSlice 23 2 #[(0, .const (.int .i64 1300)), (1, .const (.int .i64 1100))]) 23 61 true [],
 og 64 (.call ⟨.value (.func 19), #[.tmp 62, .tmp 63], #[23, 23]⟩) 4 61 true [62, 63],
 oq 65 (.pick (.tmp 61) (.tmp 64) (.const (.bool false))) 4 [61, 64],
 mv 66 65 4 [65],
 og 67 (.load 39 (.tmp 3)) 39 66 true [3],
 og 68 (.build 39 #[(0, .const (.int .i64 700)), (1, .const (.int .i64 1000))]) 39 66 true [],
 og 69 (.binOp .eql 39 (.tmp 67) (.tmp 68) 39) 4 66 true [67, 68],
 oq 70 (.pick (.tmp 66) (.tmp 69) (.const (.bool false))) 4 [66, 69],
 mv 71 70 4 [70],
 og 72 (.move (.tmp 5)) 3 71 true [5],
 og 73 (.binOp .eql 3 (.tmp 72) (.const (.int .i64 2)) 3) 4 71 true [72],
 oq 74 (.pick (.tmp 71) (.tmp 73) (.const (.bool false))) 4 [71, 73],
 mv 75 74 4 [74],
 og 76 (.move (.tmp 7)) 23 75 true [7],
 og 77 (.buildSlice 23 2 #[(0, .const (.int .i64 1)), (1, .const (.int .i64 4))]) 23 75 true [],
 og 78 (.call ⟨.value (.func 19), #[.tmp 76, .tmp 77], #[23, 23]⟩) 4 75 true [76, 77],
 oq 79 (.pick (.tmp 75) (.tmp 78) (.const (.bool false))) 4 [75, 78],
 sg 0 79 4 [79]])
 .ret))))))))
theorem F14.rs : Try.f14.results.toList = [.tmp 0] := rfl
def L04_sane (k : Nat) : Option (Bool) :=
 (L04_firing_o k).bind fun x2 =>
 (heat_Hottest k x2).bind fun x3 =>
 (L04_firing_o k).bind fun x5 =>
 (heat_Bound k x5 1).bind fun x6 =>
 (L04_firing_o k).bind fun x8 =>
 (heat_Verdict k x8 1 (⟨900, 950⟩ : Range)).bind fun x9 =>
 (L04_kiln k).bind fun x10 =>
 (L04_firing_o k).bind fun x12 =>
 (push? 48 x12.Readings (⟨4, 1, 2, 600, (⟨0, 0⟩ : Range)⟩ : Reading)).bind fun l13 =>
 (heat_Conflict k (⟨x10, l13⟩ : Firing)).bind fun x14 =>
 (L04_firing_o k).bind fun x16 =>
 (heat_CheckProof k x16 1 false 700 (⟨0, [-1, 2]⟩ : HeatProof)).bind fun x17 =>
 bif decide (x3.2 = (0 : Int)) then
  bif decide (x6.2 = (0 : Int)) then
   bif decide (x9.2 = (0 : Int)) then
    bif decide (x14.2 = (0 : Int)) then
     bif decide (x17 = (0 : Int)) then
      (R01_Same k x3.1 [1300, 1100]).bind fun x23 =>
      bif x23 then
       bif (decide (x6.1.Lo = (700 : Int)) && decide (x6.1.Hi = (1000 : Int))) then
        bif decide (x9.1 = (2 : Int)) then
         (R01_Same k x14.1 [1, 4]).bind fun x27 =>
         some x27
        else
         some false
       else
        some false
      else
       some false
     else
      some false
    else
     some false
   else
    some false
  else
   some false
 else
  some false
theorem L04_sane_ok (k : Nat) (r : Bool) (h0 : L04_sane k = some r) : PCall Try.prog 14 [] (fun y => y = .bool r) := by
 refine PB (fn := Try.f14) (sc := F14.c) ?_
 refine rS ?_
 simp only [L04_sane] at h0
 try simp only [F14.c, go_sem]
 obtain ⟨x2, yx2, h0⟩ := bs h0
 refine AKev_giveF [] [] (L04_firing_o_ok k _ yx2) ?_ rfl ?_
 try simp only [gOK, go_sem]
 try simp only [go_sem]
 refine rS ?_
 try simp only [go_sem]
 obtain ⟨x3, yx3, h0⟩ := bs h0
 refine zcT [16] (heat_Hottest_ok k _ _ yx3) ?_ ?_
 try simp only [go_sem]
 try simp only [go_sem]
 obtain ⟨x5, yx5, h0⟩ := bs h0
 refine AKev_giveF [] [] (L04_firing_o_ok k _ yx5) ?_ rfl ?_
 try simp only [gOK, go_sem]
 try simp only [go_sem]
 refine rS ?_
 try simp only [go_sem]
 obtain ⟨x6, yx6, h0⟩ := bs h0
 refine zcT [128] (heat_Bound_ok k _ _ _ yx6) ?_ ?_
 try simp only [go_sem]
 try simp only [go_sem]
 obtain ⟨x8, yx8, h0⟩ := bs h0
 refine AKev_giveF [] [] (L04_firing_o_ok k _ yx8) ?_ rfl ?_
 try simp only [gOK, go_sem]
 try simp only [go_sem]
 refine rS ?_
 try simp only [go_sem]
 obtain ⟨x9, yx9, h0⟩ := bs h0
 refine zc0 (heat_Verdict_ok k _ _ _ _ yx9) ?_ (by first | rfl | simp [AV.refsL, AV.refs, AV.scal, AV.leaf]) ?_
 try simp only [go_sem]
 try simp only [go_sem]
 obtain ⟨x10, yx10, h0⟩ := bs h0
 refine zc0 (L04_kiln_ok k _ yx10) ?_ (by first | rfl | simp [AV.refsL, AV.refs, AV.scal, AV.leaf]) ?_
 try simp only [go_sem]
 try simp only [go_sem]
 obtain ⟨x12, yx12, h0⟩ := bs h0
 refine AKev_giveF [] [] (L04_firing_o_ok k _ yx12) ?_ rfl ?_
 try simp only [gOK, go_sem]
 try simp only [go_sem]
 refine rS ?_
 try simp only [go_sem]
 obtain ⟨l13, yl13, h0⟩ := bs h0
 have eyl13 := push_map Reading.c yl13
 have tyl13 := push_take Reading.c yl13
 have nyl13 := push_len yl13
 have myl13 := push_room yl13
 try simp only [go_sem] at eyl13 tyl13 nyl13 myl13
 try simp only [myl13, eyl13, nyl13, tyl13, go_sem]
 obtain ⟨x14, yx14, h0⟩ := bs h0
 refine zcT [400] (heat_Conflict_ok k _ _ yx14) ?_ ?_
 try simp only [eyl13, nyl13, tyl13, go_sem]
 try simp only [eyl13, nyl13, tyl13, go_sem]
 obtain ⟨x16, yx16, h0⟩ := bs h0
 refine AKev_giveF [] [] (L04_firing_o_ok k _ yx16) ?_ rfl ?_
 try simp only [gOK, eyl13, nyl13, tyl13, go_sem]
 try simp only [eyl13, nyl13, tyl13, go_sem]
 refine rS ?_
 try simp only [eyl13, nyl13, tyl13, go_sem]
 obtain ⟨x17, yx17, h0⟩ := bs h0
 refine zc0 (heat_CheckProof_ok k _ _ _ _ _ _ yx17) ?_ (by first | rfl | simp [AV.refsL, AV.refs, AV.scal, AV.leaf]) ?_
 try simp only [eyl13, nyl13, tyl13, go_sem]
 try simp only [eyl13, nyl13, tyl13, go_sem]
 refine AKev_bif h0 ?_ ?_ <;> intro c18 h0
 try simp only [c18, eyl13, nyl13, tyl13, go_sem]
 refine AKev_bif h0 ?_ ?_ <;> intro c19 h0
 try simp only [c19, eyl13, nyl13, tyl13, c18, go_sem]
 refine AKev_bif h0 ?_ ?_ <;> intro c20 h0
 try simp only [c20, eyl13, nyl13, tyl13, c18, c19, go_sem]
 refine AKev_bif h0 ?_ ?_ <;> intro c21 h0
 try simp only [c21, eyl13, nyl13, tyl13, c18, c19, c20, go_sem]
 refine AKev_bif h0 ?_ ?_ <;> intro c22 h0
 try simp only [c22, eyl13, nyl13, tyl13, c18, c19, c20, c21, go_sem]
 obtain ⟨x23, yx23, h0⟩ := bs h0
 refine zc0 (R01_Same_ok k _ _ _ yx23) ?_ (by first | rfl | simp [AV.refsL, AV.refs, AV.scal, AV.leaf]) ?_
 try simp only [eyl13, nyl13, tyl13, c18, c19, c20, c21, c22, go_sem]
 try simp only [eyl13, nyl13, tyl13, c18, c19, c20, c21, c22, go_sem]
 refine AKev_bif h0 ?_ ?_ <;> intro c24 h0
 try simp only [c24, eyl13, nyl13, tyl13, c18, c19, c20, c21, c22, go_sem]
 refine AKev_bif h0 ?_ ?_ <;> intro c25 h0
 try simp only [c25, eyl13, nyl13, tyl13, c18, c19, c20, c21, c22, c24, go_sem]
 refine AKev_bif h0 ?_ ?_ <;> intro c26 h0
 try simp only [c26, eyl13, nyl13, tyl13, c18, c19, c20, c21, c22, c24, c25, go_sem]
 obtain ⟨x27, yx27, h0⟩ := bs h0
 refine zc0 (R01_Same_ok k _ _ _ yx27) ?_ (by first | rfl | simp [AV.refsL, AV.refs, AV.scal, AV.leaf]) ?_
 try simp only [eyl13, nyl13, tyl13, c18, c19, c20, c21, c22, c24, c25, c26, go_sem]
 try simp only [eyl13, nyl13, tyl13, c18, c19, c20, c21, c22, c24, c25, c26, go_sem]
 obtain rfl := Option.some.inj h0
 refine AKev_ret rfl ?_
 try simp only [F14.rs, eyl13, nyl13, tyl13, c18, c19, c20, c21, c22, c24, c25, c26, go_sem]
 try simp only [c26, eyl13, nyl13, tyl13, c18, c19, c20, c21, c22, c24, c25, go_sem]
 obtain rfl := Option.some.inj h0
 refine AKev_ret rfl ?_
 try simp only [F14.rs, eyl13, nyl13, tyl13, c18, c19, c20, c21, c22, c24, c25, c26, go_sem]
 try simp only [c25, eyl13, nyl13, tyl13, c18, c19, c20, c21, c22, c24, go_sem]
 obtain rfl := Option.some.inj h0
 refine AKev_ret rfl ?_
 try simp only [F14.rs, eyl13, nyl13, tyl13, c18, c19, c20, c21, c22, c24, c25, go_sem]
 try simp only [c24, eyl13, nyl13, tyl13, c18, c19, c20, c21, c22, go_sem]
 obtain rfl := Option.some.inj h0
 refine AKev_ret rfl ?_
 try simp only [F14.rs, eyl13, nyl13, tyl13, c18, c19, c20, c21, c22, c24, go_sem]
 try simp only [c22, eyl13, nyl13, tyl13, c18, c19, c20, c21, go_sem]
 obtain rfl := Option.some.inj h0
 refine AKev_ret rfl ?_
 try simp only [F14.rs, eyl13, nyl13, tyl13, c18, c19, c20, c21, c22, go_sem]
 try simp only [c21, eyl13, nyl13, tyl13, c18, c19, c20, go_sem]
 obtain rfl := Option.some.inj h0
 refine AKev_ret rfl ?_
 try simp only [F14.rs, eyl13, nyl13, tyl13, c18, c19, c20, c21, go_sem]
 try simp only [c20, eyl13, nyl13, tyl13, c18, c19, go_sem]
 obtain rfl := Option.some.inj h0
 refine AKev_ret rfl ?_
 try simp only [F14.rs, eyl13, nyl13, tyl13, c18, c19, c20, go_sem]
 try simp only [c19, eyl13, nyl13, tyl13, c18, go_sem]
 obtain rfl := Option.some.inj h0
 refine AKev_ret rfl ?_
 try simp only [F14.rs, eyl13, nyl13, tyl13, c18, c19, go_sem]
 try simp only [c18, eyl13, nyl13, tyl13, go_sem]
 obtain rfl := Option.some.inj h0
 refine AKev_ret rfl ?_
 try simp only [F14.rs, eyl13, nyl13, tyl13, c18, go_sem]
def F20.c : SC :=
 (.seq
 (.reg [oq 2 (.box 32 (.tmp 0)) 0 [0],
 oq 3 (.box 60 (.tmp 1)) 0 [1],
 oq 4 (.alloc 32) 0 [],
 sn 5 0 43 [5]])
 (.seq
 (.block 0
 (.seq
 (.reg [ld 7 32 2 [],
 cf1 8 41 7 32 43 [7],
 bn 9 .neq 43 8 0 43 4 [8],
 sg 6 9 4 [9]])
 (.cond (.tmp 6)
 (.seq
 (.reg [oq 10 (.build 32 #[]) 32 [],
 ⟨none, .store 32 (.tmp 4) (.tmp 10), 0, none, [10]⟩,
 sn 5 42 43 []])
 .ret)
 (.seq
 (.dreg [fa 12 32 2 0 [],
 fa 13 29 12 0 [],
 ld 14 27 13 [],
 oq 15 (.indexAddr 27 (.tmp 14) (.const (.int .i64 0))) 0 [],
 ld 16 40 15 [],
 ln 17 16 40 3 [],
 ld 18 60 3 [],
 cf2 19 53 17 18 3 60 4 [],
 oq 20 (.unOp .not 4 (.tmp 19)) 4 [],
 sg 11 20 4 []] [[], [0], [0, 1], [0, 1, 2], [0, 1, 2, 3], [0, 1, 2, 3, 4], [], [0, 1, 2, 3, 4, 5, 6], [0, 1, 2, 3, 4, 5, 6, 7], [0, 1, 2, 3, 4, 5, 6, 7, 8]] [12, 13, 14, 15, 16, 17, 18, 19, 20])
 (.cond (.tmp 11)
 (.seq
 (.reg [oq 21 (.build 32 #[]) 32 [],
 ⟨none, .store 32 (.tmp 4) (.tmp 21), 0, none, [21]⟩,
 sn 5 41 43 []])
 .ret)
 (.seq
 (.reg [fa 23 32 2 1 [],
 ld 24 30 23 [23],
 ln 25 24 30 3 [24],
 bn 26 .eql 3 25 60 3 4 [25],
 sg 22 26 4 [26]])
 (.cond (.tmp 22)
 (.seq
 (.reg [oq 27 (.build 32 #[]) 32 [],
 ⟨none, .store 32 (.tmp 4) (.tmp 27), 0, none, [27]⟩,
 sn 5 2 43 []])
 .ret)
 .skip)))))))
 (.seq
 (.dreg [fa 28 32 2 0 [],
 ld 29 29 28 [],
 cf1 30 54 29 29 29 [],
 fa 31 32 2 1 [],
 ld 32 30 31 [],
 cf1 33 55 32 30 30 [],
 ld 34 60 3 [],
 oq 35 (.buildSlice 30 1 #[(0, .tmp 34)]) 30 [],
 oq 36 (.call ⟨.builtin .append, #[.tmp 33, .tmp 35], #[30, 30]⟩) 30 [],
 oq 37 (.build 32 #[(0, .tmp 30), (1, .tmp 36)]) 32 [],
 ⟨none, .store 32 (.tmp 4) (.tmp 37), 0, none, []⟩,
 sn 5 0 43 []] [[], [0], [0, 1], [], [3], [3, 4, 0, 1, 2], [], [6], [3, 4, 0, 1, 2, 5, 6, 7], [0, 1, 2, 3, 4, 5, 6, 7, 8], [0, 1, 2, 3, 4, 5, 6, 7, 8, 9], [0, 1, 2, 3, 4, 5, 6, 7, 8, 9, 10]] [2, 3, 28, 29, 30, 31, 32, 33, 34, 35, 36, 37])
 .ret)))
theorem F20.rs : Try.f20.results.toList = [.cell 4 32, .tmp 5] := rfl
def heat_With (k : Nat) (f0 : Firing) (r1 : Reading) : Option (Firing × Int) :=
 (heat_Check k f0).bind fun x1 =>
 bif (!decide (x1 = (0 : Int))) then
  some ((⟨(⟨[]⟩ : Kiln), []⟩ : Firing), 42)
 else
  (at? f0.Kiln.Falls 0).bind fun x3 =>
  (heat_isReading k (x3.length : Int) r1).bind fun x4 =>
  bif (!x4) then
   some ((⟨(⟨[]⟩ : Kiln), []⟩ : Firing), 41)
  else
   bif decide ((f0.Readings.length : Int) = (60 : Int)) then
    some ((⟨(⟨[]⟩ : Kiln), []⟩ : Firing), 2)
   else
    (heat_kilnCopy k f0.Kiln).bind fun x7 =>
    (slices_Clone_api_Reading k f0.Readings).bind fun x9 =>
    (push? 48 x9 r1).bind fun l10 =>
    some ((⟨x7, l10⟩ : Firing), 0)
theorem heat_With_ok (k : Nat) (f0 : Firing) (r1 : Reading) (r : Firing × Int) (h0 : heat_With k f0 r1 = some r) : PCall Try.prog 20 [.agg (Firing.c f0), .agg (Reading.c r1)] (fun y => y = .tup [.agg (Firing.c r.1), .int .i64 r.2]) := by
 refine PB (fn := Try.f20) (sc := F20.c) ?_
 refine rS ?_
 simp only [heat_With] at h0
 try simp only [F20.c, go_sem]
 obtain ⟨x1, yx1, h0⟩ := bs h0
 refine zc0 (heat_Check_ok k _ _ yx1) ?_ (by first | rfl | simp [AV.refsL, AV.refs, AV.scal, AV.leaf]) ?_
 try simp only [go_sem]
 try simp only [go_sem]
 refine AKev_bif h0 ?_ ?_ <;> intro c2 h0
 have c2 := bnot_t c2
 try simp only [c2, go_sem]
 obtain rfl := Option.some.inj h0
 refine AKev_ret rfl ?_
 try simp only [F20.rs, c2, go_sem]
 have c2 := bnot_f c2
 try simp only [c2, go_sem]
 refine AKev_region T_ok follows_ok 1000 ?_
 try simp only [c2, go_sem]
 obtain ⟨x3, yx3, h0⟩ := bs h0
 try simp only [aa yx3, c2, go_sem]
 obtain ⟨x4, yx4, h0⟩ := bs h0
 refine DG_call0 1000 (heat_isReading_ok k _ _ _ yx4) ?_ (by first | rfl | simp [AV.refsL, AV.refs, AV.scal, AV.leaf]) ?_
 try simp only [c2, aa yx3, go_sem]
 try simp only [c2, aa yx3, go_sem]
 refine DG_done ⟨rfl, run_sound T_ok 1000 _ _ ?_⟩
 try simp only [c2, aa yx3, go_sem]
 refine AKev_bif h0 ?_ ?_ <;> intro c5 h0
 have c5 := bnot_t c5
 try simp only [c5, c2, aa yx3, go_sem]
 obtain rfl := Option.some.inj h0
 refine AKev_ret rfl ?_
 try simp only [F20.rs, c2, aa yx3, c5, go_sem]
 have c5 := bnot_f c5
 try simp only [c5, c2, aa yx3, go_sem]
 refine AKev_bif h0 ?_ ?_ <;> intro c6 h0
 try simp only [c6, c2, aa yx3, c5, go_sem]
 obtain rfl := Option.some.inj h0
 refine AKev_ret rfl ?_
 try simp only [F20.rs, c2, aa yx3, c5, c6, go_sem]
 try simp only [c6, c2, aa yx3, c5, go_sem]
 refine AKev_region T_ok follows_ok 1000 ?_
 try simp only [c2, aa yx3, c5, c6, go_sem]
 obtain ⟨x7, yx7, h0⟩ := bs h0
 refine DG_call0 1000 (heat_kilnCopy_ok k _ _ yx7) ?_ (by first | rfl | simp [AV.refsL, AV.refs, AV.scal, AV.leaf]) ?_
 try simp only [c2, aa yx3, c5, c6, go_sem]
 try simp only [c2, aa yx3, c5, c6, go_sem]
 obtain ⟨x9, yx9, h0⟩ := bs h0
 refine DG_give 1000 [] [] (slices_Clone_api_Reading_ok k _ _ yx9) ?_ rfl ?_
 try simp only [gOK, List.length_map, c2, aa yx3, c5, c6, go_sem]
 try simp only [c2, aa yx3, c5, c6, go_sem]
 obtain ⟨l10, yl10, h0⟩ := bs h0
 have eyl10 := push_map Reading.c yl10
 have tyl10 := push_take Reading.c yl10
 have nyl10 := push_len yl10
 have myl10 := push_room yl10
 try simp only [c2, aa yx3, c5, c6, go_sem] at eyl10 tyl10 nyl10 myl10
 try simp only [myl10, eyl10, c2, aa yx3, c5, c6, nyl10, tyl10, go_sem]
 refine DG_done ⟨rfl, run_sound T_ok 1000 _ _ ?_⟩
 try simp only [c2, aa yx3, c5, c6, eyl10, nyl10, tyl10, go_sem]
 obtain rfl := Option.some.inj h0
 refine AKev_ret rfl ?_
 try simp only [F20.rs, c2, aa yx3, c5, c6, eyl10, nyl10, tyl10, go_sem]
def F21.c : SC :=
 (.seq
 (.reg [oq 1 (.box 32 (.tmp 0)) 0 [0],
 sb 2 false 4 [2],
 sn 3 0 43 [3]])
 (.seq
 (.seq
 (.reg [ld 4 32 1 [],
 cf1 5 41 4 32 43 [4],
 bn 6 .neq 43 5 0 43 4 [5]])
 (.cond (.tmp 6)
 (.seq
 (.reg [sb 2 false 4 [],
 sn 3 42 43 []])
 .ret)
 .skip))
 (.seq
 (.reg [ld 7 32 1 [1],
 cf1 8 47 7 32 94 [7],
 cf1 9 56 8 94 4 [8],
 sg 2 9 4 [9],
 sn 3 0 43 []])
 .ret)))
theorem F21.rs : Try.f21.results.toList = [.tmp 2, .tmp 3] := rfl
def heat_Sound (k : Nat) (f0 : Firing) : Option (Bool × Int) :=
 (heat_Check k f0).bind fun x1 =>
 bif (!decide (x1 = (0 : Int))) then
  some (false, 42)
 else
  (heat_newFurnace k f0).bind fun x3 =>
  (heat_furnace_sound k x3).bind fun x4 =>
  some (x4, 0)
theorem heat_Sound_ok (k : Nat) (f0 : Firing) (r : Bool × Int) (h0 : heat_Sound k f0 = some r) : PCall Try.prog 21 [.agg (Firing.c f0)] (fun y => y = .tup [.bool r.1, .int .i64 r.2]) := by
 refine PB (fn := Try.f21) (sc := F21.c) ?_
 refine rS ?_
 simp only [heat_Sound] at h0
 try simp only [F21.c, go_sem]
 obtain ⟨x1, yx1, h0⟩ := bs h0
 refine zc0 (heat_Check_ok k _ _ yx1) ?_ (by first | rfl | simp [AV.refsL, AV.refs, AV.scal, AV.leaf]) ?_
 try simp only [go_sem]
 try simp only [go_sem]
 refine AKev_bif h0 ?_ ?_ <;> intro c2 h0
 have c2 := bnot_t c2
 try simp only [c2, go_sem]
 obtain rfl := Option.some.inj h0
 refine AKev_ret rfl ?_
 try simp only [F21.rs, c2, go_sem]
 have c2 := bnot_f c2
 try simp only [c2, go_sem]
 obtain ⟨x3, yx3, h0⟩ := bs h0
 refine zc0 (heat_newFurnace_ok k _ _ yx3) ?_ (by first | rfl | simp [AV.refsL, AV.refs, AV.scal, AV.leaf]) ?_
 try simp only [c2, go_sem]
 try simp only [c2, go_sem]
 obtain ⟨x4, yx4, h0⟩ := bs h0
 refine zc0 (heat_furnace_sound_ok k _ _ yx4) ?_ (by first | rfl | simp [AV.refsL, AV.refs, AV.scal, AV.leaf]) ?_
 try simp only [c2, go_sem]
 try simp only [c2, go_sem]
 obtain rfl := Option.some.inj h0
 refine AKev_ret rfl ?_
 try simp only [F21.rs, c2, go_sem]
def F62.s1 : SC :=
 (.seq
 (.reg [b2 54 .lss 3 53 52 3 0 []])
 (.seq
 (.cond (.tmp 54)
 .skip
 (.exit 2))
 (.seq
 (.block 3
 (.seq
 (.reg [mv 55 53 3 [],
 ia 56 40 51 53 [],
 ld 57 39 56 [56],
 oq 8 (.alloc 39) 0 [],
 sg 7 55 3 [55],
 ⟨none, .store 39 (.tmp 8) (.tmp 57), 0, none, [57]⟩])
 (.seq
 (.dreg [fa 58 35 3 1 [],
 ld 59 33 58 [],
 mv 60 5 3 [],
 ia 61 33 59 60 [],
 ld 62 23 61 [],
 mv 63 7 3 [],
 ia 64 23 62 63 [],
 ld 65 3 64 [],
 fa 66 39 8 0 [],
 ld 67 3 66 [],
 fa 68 39 8 1 [],
 ld 69 3 68 [],
 oq 70 (.call ⟨.value (.func 42), #[.tmp 65, .tmp 67, .tmp 69], #[3, 3, 3]⟩) 4 [],
 oq 71 (.unOp .not 4 (.tmp 70)) 4 []] [[], [0], [], [0, 1, 2], [0, 1, 2, 3], [], [0, 1, 2, 3, 4, 5], [0, 1, 2, 3, 4, 5, 6], [], [8], [], [10], [0, 1, 2, 3, 4, 5, 6, 7, 8, 9, 10, 11], [0, 1, 2, 3, 4, 5, 6, 7, 8, 9, 10, 11, 12]] [7, 8, 58, 59, 60, 61, 62, 63, 64, 65, 66, 67, 68, 69, 70])
 (.cond (.tmp 71)
 (.seq
 (.reg [sb 4 false 4 []])
 .ret)
 .skip))))
 (.reg [bn 72 .add 3 53 1 3 3 [53],
 mv 53 72 3 [72]]))))
def F62.s0 : SC :=
 (.seq
 (.reg [b2 29 .lss 3 28 27 3 0 []])
 (.seq
 (.cond (.tmp 29)
 .skip
 (.exit 0))
 (.seq
 (.block 1
 (.seq
 (.reg [mv 30 28 3 [],
 ia 31 27 26 28 [],
 ld 32 40 31 [31],
 sg 5 30 3 [30],
 sg 6 32 40 [32]])
 (.seq
 (.seq
 (.reg [fa 33 35 3 0 [],
 ld 34 23 33 [33],
 mv 35 5 3 [],
 ia 36 23 34 35 [34, 35],
 ld 37 3 36 [36],
 oq 38 (.call ⟨.value (.func 42), #[.tmp 37, .const (.int .i64 0), .const (.int .i64 3000)], #[3, 3, 3]⟩) 4 [37],
 oq 39 (.unOp .not 4 (.tmp 38)) 4 [38],
 mv 40 39 4 [39],
 og 41 (.fieldAddr 35 (.tmp 3) 1) 0 40 false [],
 og 42 (.load 33 (.tmp 41)) 33 40 false [41],
 og 43 (.move (.tmp 5)) 3 40 false [],
 og 44 (.indexAddr 33 (.tmp 42) (.tmp 43)) 0 40 false [42, 43],
 og 45 (.load 23 (.tmp 44)) 23 40 false [44],
 og 46 (.call ⟨.builtin .len, #[.tmp 45], #[23]⟩) 3 40 false [45],
 og 47 (.move (.tmp 6)) 40 40 false [],
 og 48 (.call ⟨.builtin .len, #[.tmp 47], #[40]⟩) 3 40 false [47],
 og 49 (.binOp .neq 3 (.tmp 46) (.tmp 48) 3) 4 40 false [46, 48],
 oq 50 (.pick (.tmp 40) (.const (.bool true)) (.tmp 49)) 4 [40, 49]])
 (.cond (.tmp 50)
 (.seq
 (.reg [sb 4 false 4 []])
 .ret)
 .skip))
 (.seq
 (.reg [mv 51 6 40 [6],
 ln 52 51 40 3 [],
 oq 53 (.move (.const (.int .i64 0))) 3 []])
 (.block 2
 (.loop F62.s1))))))
 (.reg [bn 73 .add 3 28 1 3 3 [28],
 mv 28 73 3 [73]]))))
def F62.c : SC :=
 (.seq
 (.reg [oq 2 (.box 29 (.tmp 0)) 0 [0],
 oq 3 (.box 35 (.tmp 1)) 0 [1],
 sb 4 false 4 [4]])
 (.seq
 (.seq
 (.reg [fa 9 35 3 0 [],
 ld 10 23 9 [9],
 ln 11 10 23 3 [10],
 fa 12 29 2 0 [],
 ld 13 27 12 [12],
 ln 14 13 27 3 [13],
 b2 15 .neq 3 11 14 3 4 [11, 14],
 mv 16 15 4 [15],
 og 17 (.fieldAddr 35 (.tmp 3) 1) 0 16 false [],
 og 18 (.load 33 (.tmp 17)) 33 16 false [17],
 og 19 (.call ⟨.builtin .len, #[.tmp 18], #[33]⟩) 3 16 false [18],
 og 20 (.fieldAddr 29 (.tmp 2) 0) 0 16 false [],
 og 21 (.load 27 (.tmp 20)) 27 16 false [20],
 og 22 (.call ⟨.builtin .len, #[.tmp 21], #[27]⟩) 3 16 false [21],
 og 23 (.binOp .neq 3 (.tmp 19) (.tmp 22) 3) 4 16 false [19, 22],
 oq 24 (.pick (.tmp 16) (.const (.bool true)) (.tmp 23)) 4 [16, 23]])
 (.cond (.tmp 24)
 (.seq
 (.reg [sb 4 false 4 []])
 .ret)
 .skip))
 (.seq
 (.seq
 (.reg [fa 25 29 2 0 [2],
 ld 26 27 25 [25],
 ln 27 26 27 3 [],
 oq 28 (.move (.const (.int .i64 0))) 3 []])
 (.block 0
 (.loop F62.s0)))
 (.seq
 (.reg [sb 4 true 4 []])
 .ret))))
theorem F62.rs : Try.f62.results.toList = [.tmp 4] := rfl
def heat_isField.b1 (k : Nat) (x5 : (List Range)) (x9 : (List Int)) : Int → Option (Stp (Int) (Unit) (Bool)) := fun (i11 : Int) =>
 bif decide (i11 < (x5.length : Int)) then
  (at? x5 i11).bind fun x13 =>
  (at? x9 i11).bind fun x14 =>
  (heat_in k x14 x13.Lo x13.Hi).bind fun x15 =>
  bif (!x15) then
   some (.ret false)
  else
   some (.next (w64 (i11 + 1)))
 else
  some (.brk ())
def heat_isField.b0 (k : Nat) (k0 : Kiln) (x1 : Field) : Int → Option (Stp (Int) (Unit) (Bool)) := fun (i3 : Int) =>
 bif decide (i3 < (k0.Falls.length : Int)) then
  (at? k0.Falls i3).bind fun x5 =>
  (at? x1.Mouths i3).bind fun x6 =>
  (heat_in k x6 0 3000).bind fun x7 =>
  bif x7 then
   (at? x1.Falls i3).bind fun x9 =>
   bif (!decide ((x9.length : Int) = (x5.length : Int))) then
    some (.ret false)
   else
    (whl (heat_isField.b1 k x5 x9) k 0).bind fun r17 => match r17 with
    | .next _ => none
    | .ret v_ => some (.ret v_)
    | .brk _ =>
     some (.next (w64 (i3 + 1)))
  else
   some (.ret false)
 else
  some (.brk ())
noncomputable def heat_isField.h1 (k0 : Kiln) (x1 : Field) (i3 : Int) (x5 : (List Range)) : Int → St := fun (i11 : Int) => ⟨[(3, .ptr 0 0 0), (5, .int .i64 i3), (26, .sl 1 (List.map (eL 2 Range.c) k0.Falls)), (27, .int .i64 (k0.Falls.length : Int)), (28, .int .i64 i3), (51, .sl 2 (List.map Range.c x5)), (52, .int .i64 (x5.length : Int)), (53, .int .i64 i11)], [(0, .box [.sl 1 (List.map eI x1.Mouths), .sl 1 (List.map (eL 1 eI) x1.Falls)])], [], 1, Try.f62.ntmps⟩
noncomputable def heat_isField.x1 (k0 : Kiln) (x1 : Field) (i3 : Int) : Unit → St := fun (_ : Unit) => ⟨[(3, .ptr 0 0 0), (26, .sl 1 (List.map (eL 2 Range.c) k0.Falls)), (27, .int .i64 (k0.Falls.length : Int)), (28, .int .i64 i3)], [(0, .box [.sl 1 (List.map eI x1.Mouths), .sl 1 (List.map (eL 1 eI) x1.Falls)])], [], 1, Try.f62.ntmps⟩
noncomputable def heat_isField.h0 (k0 : Kiln) (x1 : Field) : Int → St := fun (i3 : Int) => ⟨[(3, .ptr 0 0 0), (26, .sl 1 (List.map (eL 2 Range.c) k0.Falls)), (27, .int .i64 (k0.Falls.length : Int)), (28, .int .i64 i3)], [(0, .box [.sl 1 (List.map eI x1.Mouths), .sl 1 (List.map (eL 1 eI) x1.Falls)])], [], 1, Try.f62.ntmps⟩
noncomputable def heat_isField.x0 : Unit → St := fun (_ : Unit) => ⟨[], [], [], 1, Try.f62.ntmps⟩
def heat_isField (k : Nat) (k0 : Kiln) (x1 : Field) : Option (Bool) :=
 bif decide ((x1.Mouths.length : Int) = (k0.Falls.length : Int)) then
  bif (!decide ((x1.Falls.length : Int) = (k0.Falls.length : Int))) then
   some false
  else
   (whl (heat_isField.b0 k k0 x1) k 0).bind fun r18 => match r18 with
   | .next _ => none
   | .ret v_ => some v_
   | .brk _ =>
    some true
 else
  some false
theorem heat_isField_ok (k : Nat) (k0 : Kiln) (x1 : Field) (r : Bool) (h0 : heat_isField k k0 x1 = some r) : PCall Try.prog 62 [.agg (Kiln.c k0), .agg (Field.c x1)] (fun y => y = .bool r) := by
 refine PB (fn := Try.f62) (sc := F62.c) ?_
 refine rS ?_
 simp only [heat_isField] at h0
 try simp only [F62.c, go_sem]
 refine AKev_bif h0 ?_ ?_ <;> intro c1 h0
 try simp only [c1, go_sem]
 refine AKev_bif h0 ?_ ?_ <;> intro c2 h0
 have c2 := bnot_t c2
 try simp only [c2, c1, go_sem]
 obtain rfl := Option.some.inj h0
 refine AKev_ret rfl ?_
 try simp only [F62.rs, c1, c2, go_sem]
 have c2 := bnot_f c2
 try simp only [c2, c1, go_sem]
 obtain ⟨r18, yr18, h0⟩ := bs h0
 refine AKev_loopS yr18 (heat_isField.h0 k0 x1) (heat_isField.x0) ?_ ?_ ?_
 refine Weak.go [3, 26, 27, 28] [16] rfl ?_
 try simp only [heat_isField.h0, c1, c2, go_sem]
 rintro i3 x_1 Bk1 Br1 h1 hnext1 hbrk1 hret1
 refine rS ?_
 simp only [heat_isField.b0] at h1
 try simp only [F62.s0, heat_isField.h0, c1, c2, go_sem]
 refine AKev_bif h1 ?_ ?_ <;> intro c4 h1
 try simp only [c4, c1, c2, go_sem]
 obtain ⟨x5, yx5, h1⟩ := bs h1
 try simp only [aa yx5, c1, c2, c4, go_sem]
 obtain ⟨x6, yx6, h1⟩ := bs h1
 try simp only [aa yx6, c1, c2, c4, aa yx5, go_sem]
 obtain ⟨x7, yx7, h1⟩ := bs h1
 refine zc0 (heat_in_ok k _ _ _ _ yx7) ?_ (by first | rfl | simp [AV.refsL, AV.refs, AV.scal, AV.leaf]) ?_
 try simp only [c1, c2, c4, aa yx5, aa yx6, go_sem]
 try simp only [c1, c2, c4, aa yx5, aa yx6, go_sem]
 refine AKev_bif h1 ?_ ?_ <;> intro c8 h1
 try simp only [c8, c1, c2, c4, aa yx5, aa yx6, go_sem]
 obtain ⟨x9, yx9, h1⟩ := bs h1
 try simp only [aa yx9, c1, c2, c4, aa yx5, aa yx6, c8, go_sem]
 refine AKev_bif h1 ?_ ?_ <;> intro c10 h1
 have c10 := bnot_t c10
 try simp only [c10, c1, c2, c4, aa yx5, aa yx6, c8, aa yx9, go_sem]
 obtain rfl := hret1 _ (Option.some.inj h1).symm
 simp only at h0
 obtain rfl := Option.some.inj h0
 refine AKev_ret rfl ?_
 try simp only [F62.rs, c1, c2, c4, aa yx5, aa yx6, c8, aa yx9, c10, go_sem]
 have c10 := bnot_f c10
 try simp only [c10, c1, c2, c4, aa yx5, aa yx6, c8, aa yx9, go_sem]
 obtain ⟨r17, yr17, h1⟩ := bs h1
 refine AKev_loopS yr17 (heat_isField.h1 k0 x1 i3 x5) (heat_isField.x1 k0 x1 i3) ?_ ?_ ?_
 refine Weak.go [3, 5, 26, 27, 28, 51, 52, 53] [0] rfl ?_
 try simp only [heat_isField.h1, c1, c2, c4, aa yx5, aa yx6, c8, aa yx9, c10, go_sem]
 rintro i11 x_2 Bk2 Br2 h2 hnext2 hbrk2 hret2
 refine rS ?_
 simp only [heat_isField.b1] at h2
 try simp only [F62.s1, heat_isField.h1, c1, c2, c4, aa yx5, aa yx6, c8, aa yx9, c10, go_sem]
 refine AKev_bif h2 ?_ ?_ <;> intro c12 h2
 try simp only [c12, c1, c2, c4, aa yx5, aa yx6, c8, aa yx9, c10, go_sem]
 obtain ⟨x13, yx13, h2⟩ := bs h2
 try simp only [aa yx13, c1, c2, c4, aa yx5, aa yx6, c8, aa yx9, c10, c12, go_sem]
 refine AKev_region T_ok follows_ok 1000 ?_
 try simp only [aa yx9, c1, c2, c4, aa yx5, aa yx6, c8, c10, c12, aa yx13, go_sem]
 obtain ⟨x14, yx14, h2⟩ := bs h2
 try simp only [aa yx14, c1, c2, c4, aa yx5, aa yx6, c8, aa yx9, c10, c12, aa yx13, go_sem]
 obtain ⟨x15, yx15, h2⟩ := bs h2
 refine DG_call0 1000 (heat_in_ok k _ _ _ _ yx15) ?_ (by first | rfl | simp [AV.refsL, AV.refs, AV.scal, AV.leaf]) ?_
 try simp only [c1, c2, c4, aa yx5, aa yx6, c8, aa yx9, c10, c12, aa yx13, aa yx14, go_sem]
 try simp only [c1, c2, c4, aa yx5, aa yx6, c8, aa yx9, c10, c12, aa yx13, aa yx14, go_sem]
 refine DG_done ⟨rfl, run_sound T_ok 1000 _ _ ?_⟩
 try simp only [c1, c2, c4, aa yx5, aa yx6, c8, aa yx9, c10, c12, aa yx13, aa yx14, go_sem]
 refine AKev_bif h2 ?_ ?_ <;> intro c16 h2
 have c16 := bnot_t c16
 try simp only [c16, c1, c2, c4, aa yx5, aa yx6, c8, aa yx9, c10, c12, aa yx13, aa yx14, go_sem]
 obtain rfl := hret2 _ (Option.some.inj h2).symm
 simp only at h1
 obtain rfl := hret1 _ (Option.some.inj h1).symm
 simp only at h0
 obtain rfl := Option.some.inj h0
 refine AKev_ret rfl ?_
 try simp only [F62.rs, c1, c2, c4, aa yx5, aa yx6, c8, aa yx9, c10, c12, aa yx13, aa yx14, c16, go_sem]
 have c16 := bnot_f c16
 try simp only [c16, c1, c2, c4, aa yx5, aa yx6, c8, aa yx9, c10, c12, aa yx13, aa yx14, go_sem]
 refine AKev_backB (hnext2 _ _ (Option.some.inj h2).symm ?_)
 refine Weak.go [3, 5, 26, 27, 28, 51, 52, 53] [0] rfl ?_
 try simp only [heat_isField.h1, c1, c2, c4, aa yx5, aa yx6, c8, aa yx9, c10, c12, aa yx13, aa yx14, c16, go_sem]
 try simp only [c12, c1, c2, c4, aa yx5, aa yx6, c8, aa yx9, c10, go_sem]
 refine AKev_backB (hbrk2 _ _ (Option.some.inj h2).symm ?_)
 refine Weak.go [3, 26, 27, 28] [0] rfl ?_
 try simp only [heat_isField.x1, c1, c2, c4, aa yx5, aa yx6, c8, aa yx9, c10, c12, go_sem]
 rintro _ hr_
 subst hr_
 simp only at h1
 refine rS ?_
 try simp only [heat_isField.x1, c1, c2, c4, aa yx5, aa yx6, c8, aa yx9, c10, go_sem]
 refine AKev_backB (hnext1 _ _ (Option.some.inj h1).symm ?_)
 refine Weak.go [3, 26, 27, 28] [0] rfl ?_
 try simp only [heat_isField.h0, c1, c2, c4, aa yx5, aa yx6, c8, aa yx9, c10, go_sem]
 try simp only [c8, c1, c2, c4, aa yx5, aa yx6, go_sem]
 obtain rfl := hret1 _ (Option.some.inj h1).symm
 simp only at h0
 obtain rfl := Option.some.inj h0
 refine AKev_ret rfl ?_
 try simp only [F62.rs, c1, c2, c4, aa yx5, aa yx6, c8, go_sem]
 try simp only [c4, c1, c2, go_sem]
 refine AKev_backB (hbrk1 _ _ (Option.some.inj h1).symm ?_)
 refine Weak.go [] [] rfl ?_
 try simp only [heat_isField.x0, c1, c2, c4, go_sem]
 rintro _ hr_
 subst hr_
 simp only at h0
 refine rS ?_
 try simp only [heat_isField.x0, c1, c2, go_sem]
 obtain rfl := Option.some.inj h0
 refine AKev_ret rfl ?_
 try simp only [F62.rs, c1, c2, go_sem]
 try simp only [c1, go_sem]
 obtain rfl := Option.some.inj h0
 refine AKev_ret rfl ?_
 try simp only [F62.rs, c1, go_sem]
def F63.s1 : SC :=
 (.seq
 (.reg [b2 31 .lss 3 30 29 3 0 []])
 (.seq
 (.cond (.tmp 31)
 .skip
 (.exit 2))
 (.seq
 (.block 3
 (.seq
 (.reg [mv 32 30 3 [],
 sg 6 32 3 [32]])
 (.dreg [mv 33 5 3 [],
 fa 34 35 1 0 [],
 ld 35 23 34 [],
 mv 36 6 3 [],
 ia 37 23 35 36 [],
 ld 38 3 37 [],
 fa 39 35 1 1 [],
 ld 40 33 39 [],
 mv 41 6 3 [],
 ia 42 33 40 41 [],
 ld 43 23 42 [],
 mv 44 4 3 [],
 ia 45 23 43 44 [],
 ld 46 3 45 [],
 b2 47 .sub 3 38 46 3 3 [],
 oq 48 (.call ⟨.builtin .max, #[.tmp 33, .tmp 47], #[3, 3]⟩) 3 [],
 sg 5 48 3 []] [[], [], [1], [], [1, 2, 3], [1, 2, 3, 4], [], [6], [], [6, 7, 8], [6, 7, 8, 9], [], [6, 7, 8, 9, 10, 11], [6, 7, 8, 9, 10, 11, 12], [1, 2, 3, 4, 5, 6, 7, 8, 9, 10, 11, 12, 13], [0, 1, 2, 3, 4, 5, 6, 7, 8, 9, 10, 11, 12, 13, 14], [0, 1, 2, 3, 4, 5, 6, 7, 8, 9, 10, 11, 12, 13, 14, 15]] [6, 33, 34, 35, 36, 37, 38, 39, 40, 41, 42, 43, 44, 45, 46, 47, 48])))
 (.reg [bn 49 .add 3 30 1 3 3 [30],
 mv 30 49 3 [49]]))))
def F63.s0 : SC :=
 (.seq
 (.reg [b2 13 .lss 3 12 11 3 0 []])
 (.seq
 (.cond (.tmp 13)
 .skip
 (.exit 0))
 (.seq
 (.block 1
 (.seq
 (.reg [mv 14 12 3 [],
 sg 4 14 3 [14]])
 (.seq
 (.dreg [fa 15 35 1 0 [],
 ld 16 23 15 [],
 oq 17 (.indexAddr 23 (.tmp 16) (.const (.int .i64 0))) 0 [],
 ld 18 3 17 [],
 fa 19 35 1 1 [],
 ld 20 33 19 [],
 oq 21 (.indexAddr 33 (.tmp 20) (.const (.int .i64 0))) 0 [],
 ld 22 23 21 [],
 mv 23 4 3 [],
 ia 24 23 22 23 [],
 ld 25 3 24 [],
 b2 26 .sub 3 18 25 3 3 [],
 sg 5 26 3 []] [[], [0], [0, 1], [0, 1, 2], [], [4], [4, 5], [4, 5, 6], [], [4, 5, 6, 7, 8], [4, 5, 6, 7, 8, 9], [0, 1, 2, 3, 4, 5, 6, 7, 8, 9, 10], [0, 1, 2, 3, 4, 5, 6, 7, 8, 9, 10, 11]] [15, 16, 17, 18, 19, 20, 21, 22, 23, 24, 25, 26])
 (.seq
 (.seq
 (.reg [fa 27 35 1 0 [],
 ld 28 23 27 [27],
 ln 29 28 23 3 [28],
 oq 30 (.move (.const (.int .i64 0))) 3 []])
 (.block 2
 (.loop F63.s1)))
 (.reg [mv 50 3 23 [3],
 mv 51 5 3 [5],
 oq 52 (.buildSlice 23 1 #[(0, .tmp 51)]) 23 [51],
 oq 53 (.call ⟨.builtin .append, #[.tmp 50, .tmp 52], #[23, 23]⟩) 23 [50, 52],
 sg 3 53 23 [53]])))))
 (.reg [bn 54 .add 3 12 1 3 3 [12],
 mv 12 54 3 [54]]))))
def F63.c : SC :=
 (.seq
 (.reg [oq 1 (.box 35 (.tmp 0)) 0 [0],
 oq 2 (.assign (.const (.slice none 0 0))) 23 [2]])
 (.seq
 (.reg [oq 3 (.assign (.const (.slice none 0 0))) 23 []])
 (.seq
 (.seq
 (.reg [fa 7 35 1 1 [],
 ld 8 33 7 [7],
 oq 9 (.indexAddr 33 (.tmp 8) (.const (.int .i64 0))) 0 [8],
 ld 10 23 9 [9],
 ln 11 10 23 3 [10],
 oq 12 (.move (.const (.int .i64 0))) 3 []])
 (.block 0
 (.loop F63.s0)))
 (.seq
 (.reg [mv 55 3 23 [3],
 sg 2 55 23 [55]])
 .ret))))
theorem F63.rs : Try.f63.results.toList = [.tmp 2] := rfl
def heat_heats.b1 (k : Nat) (x0 : Field) (i2 : Int) : (Int × Int) → Option (Stp (Int × Int) (Int) ((List Int))) := fun (s : Int × Int) => match s with
 | (i8, i9) =>
   bif decide (i9 < (x0.Mouths.length : Int)) then
    (at? x0.Mouths i9).bind fun x12 =>
    (at? x0.Falls i9).bind fun x13 =>
    (at? x13 i2).bind fun x14 =>
    some (.next (max i8 (w64 (x12 - x14)), w64 (i9 + 1)))
   else
    some (.brk i8)
def heat_heats.b0 (k : Nat) (x0 : Field) (x1 : (List Int)) : (Int × (List Int)) → Option (Stp (Int × (List Int)) ((List Int)) ((List Int))) := fun (s : Int × (List Int)) => match s with
 | (i2, l3) =>
   bif decide (i2 < (x1.length : Int)) then
    (at? x0.Mouths 0).bind fun x6 =>
    (at? x1 i2).bind fun x7 =>
    (whl (heat_heats.b1 k x0 i2) k (w64 (x6 - x7), 0)).bind fun r15 => match r15 with
    | .next _ => none
    | .ret v_ => some (.ret v_)
    | .brk i10 =>
     (push? 8 l3 i10).bind fun l16 =>
     some (.next (w64 (i2 + 1), l16))
   else
    some (.brk l3)
noncomputable def heat_heats.h1 (x0 : Field) (x1 : (List Int)) (i2 : Int) (l3 : (List Int)) : (Int × Int) → St := fun (s : Int × Int) => match s with
 | (i8, i9) => ⟨[(1, .ptr 0 0 0), (3, .loc 0 1 1 0 l3.length l3.length), (4, .int .i64 i2), (5, .int .i64 i8), (11, .int .i64 (x1.length : Int)), (12, .int .i64 i2), (29, .int .i64 (x0.Mouths.length : Int)), (30, .int .i64 i9)], [(0, .box [.sl 1 (List.map eI x0.Mouths), .sl 1 (List.map (eL 1 eI) x0.Falls)]), (1, .arr 3 1 (List.map eI l3))], [], 2, Try.f63.ntmps⟩
noncomputable def heat_heats.x1 (x0 : Field) (x1 : (List Int)) (i2 : Int) (l3 : (List Int)) : Int → St := fun (i10 : Int) => ⟨[(1, .ptr 0 0 0), (3, .loc 0 1 1 0 l3.length l3.length), (5, .int .i64 i10), (11, .int .i64 (x1.length : Int)), (12, .int .i64 i2)], [(0, .box [.sl 1 (List.map eI x0.Mouths), .sl 1 (List.map (eL 1 eI) x0.Falls)]), (1, .arr 3 1 (List.map eI l3))], [], 2, Try.f63.ntmps⟩
noncomputable def heat_heats.h0 (x0 : Field) (x1 : (List Int)) : (Int × (List Int)) → St := fun (s : Int × (List Int)) => match s with
 | (i2, l3) => ⟨[(1, .ptr 0 0 0), (3, .loc 0 1 1 0 l3.length l3.length), (11, .int .i64 (x1.length : Int)), (12, .int .i64 i2)], [(0, .box [.sl 1 (List.map eI x0.Mouths), .sl 1 (List.map (eL 1 eI) x0.Falls)]), (1, .arr 3 1 (List.map eI l3))], [], 2, Try.f63.ntmps⟩
noncomputable def heat_heats.x0 : (List Int) → St := fun (l4 : (List Int)) => ⟨[(3, .loc 0 0 1 0 l4.length l4.length)], [(0, .arr 3 1 (List.map eI l4))], [], 1, Try.f63.ntmps⟩
def heat_heats (k : Nat) (x0 : Field) : Option ((List Int)) :=
 (at? x0.Falls 0).bind fun x1 =>
 (whl (heat_heats.b0 k x0 x1) k (0, [])).bind fun r17 => match r17 with
 | .next _ => none
 | .ret v_ => some v_
 | .brk l4 =>
  some l4
theorem heat_heats_ok (k : Nat) (x0 : Field) (r : (List Int)) (h0 : heat_heats k x0 = some r) : PCall Try.prog 63 [.agg (Field.c x0)] (fun y => y = .sl 1 (List.map eI r)) := by
 refine PB (fn := Try.f63) (sc := F63.c) ?_
 refine rS ?_
 simp only [heat_heats] at h0
 try simp only [F63.c, go_sem]
 obtain ⟨x1, yx1, h0⟩ := bs h0
 try simp only [aa yx1, go_sem]
 obtain ⟨r17, yr17, h0⟩ := bs h0
 refine AKev_loopS yr17 (heat_heats.h0 x0 x1) (heat_heats.x0) ?_ ?_ ?_
 refine Weak.go [1, 3, 11, 12] [0, 32] rfl ?_
 try simp only [heat_heats.h0, aa yx1, go_sem]
 rintro ⟨i2, l3⟩ x_1 Bk1 Br1 h1 hnext1 hbrk1 hret1
 refine rS ?_
 simp only [heat_heats.b0] at h1
 try simp only [F63.s0, heat_heats.h0, aa yx1, go_sem]
 refine AKev_bif h1 ?_ ?_ <;> intro c5 h1
 try simp only [c5, aa yx1, go_sem]
 refine AKev_region T_ok follows_ok 1000 ?_
 try simp only [aa yx1, c5, go_sem]
 obtain ⟨x6, yx6, h1⟩ := bs h1
 try simp only [aa yx6, aa yx1, c5, go_sem]
 obtain ⟨x7, yx7, h1⟩ := bs h1
 try simp only [aa yx7, aa yx1, c5, aa yx6, go_sem]
 refine DG_done ⟨rfl, run_sound T_ok 1000 _ _ ?_⟩
 try simp only [aa yx1, c5, aa yx6, aa yx7, go_sem]
 obtain ⟨r15, yr15, h1⟩ := bs h1
 refine AKev_loopS yr15 (heat_heats.h1 x0 x1 i2 l3) (heat_heats.x1 x0 x1 i2 l3) ?_ ?_ ?_
 refine Weak.go [1, 3, 4, 5, 11, 12, 29, 30] [0, 1] rfl ?_
 try simp only [heat_heats.h1, aa yx1, c5, aa yx6, aa yx7, go_sem]
 rintro ⟨i8, i9⟩ x_2 Bk2 Br2 h2 hnext2 hbrk2 hret2
 refine rS ?_
 simp only [heat_heats.b1] at h2
 try simp only [F63.s1, heat_heats.h1, aa yx1, c5, aa yx6, aa yx7, go_sem]
 refine AKev_bif h2 ?_ ?_ <;> intro c11 h2
 try simp only [c11, aa yx1, c5, aa yx6, aa yx7, go_sem]
 refine AKev_region T_ok follows_ok 1000 ?_
 try simp only [aa yx1, c5, aa yx6, aa yx7, c11, go_sem]
 obtain ⟨x12, yx12, h2⟩ := bs h2
 try simp only [aa yx12, aa yx1, c5, aa yx6, aa yx7, c11, go_sem]
 obtain ⟨x13, yx13, h2⟩ := bs h2
 try simp only [aa yx13, aa yx1, c5, aa yx6, aa yx7, c11, aa yx12, go_sem]
 obtain ⟨x14, yx14, h2⟩ := bs h2
 try simp only [aa yx14, aa yx1, c5, aa yx6, aa yx7, c11, aa yx12, aa yx13, go_sem]
 refine DG_done ⟨rfl, run_sound T_ok 1000 _ _ ?_⟩
 try simp only [aa yx1, c5, aa yx6, aa yx7, c11, aa yx12, aa yx13, aa yx14, go_sem]
 refine AKev_backB (hnext2 _ _ (Option.some.inj h2).symm ?_)
 refine Weak.go [1, 3, 4, 5, 11, 12, 29, 30] [0, 1] rfl ?_
 try simp only [heat_heats.h1, aa yx1, c5, aa yx6, aa yx7, c11, aa yx12, aa yx13, aa yx14, go_sem]
 try simp only [c11, aa yx1, c5, aa yx6, aa yx7, go_sem]
 refine AKev_backB (hbrk2 _ _ (Option.some.inj h2).symm ?_)
 refine Weak.go [1, 3, 5, 11, 12] [0, 1] rfl ?_
 try simp only [heat_heats.x1, aa yx1, c5, aa yx6, aa yx7, c11, go_sem]
 rintro i10 hr_
 subst hr_
 simp only at h1
 refine rS ?_
 try simp only [heat_heats.x1, aa yx1, c5, aa yx6, aa yx7, go_sem]
 obtain ⟨l16, yl16, h1⟩ := bs h1
 have eyl16 := push_map eI yl16
 have tyl16 := push_take eI yl16
 have nyl16 := push_len yl16
 have myl16 := push_room yl16
 try simp only [aa yx1, c5, aa yx6, aa yx7, go_sem] at eyl16 tyl16 nyl16 myl16
 try simp only [myl16, eyl16, aa yx1, c5, aa yx6, aa yx7, nyl16, tyl16, go_sem]
 refine AKev_backB (hnext1 _ _ (Option.some.inj h1).symm ?_)
 refine Weak.go [1, 3, 11, 12] [0, 1] rfl ?_
 try simp only [heat_heats.h0, aa yx1, c5, aa yx6, aa yx7, eyl16, nyl16, tyl16, go_sem]
 try simp only [c5, aa yx1, go_sem]
 refine AKev_backB (hbrk1 _ _ (Option.some.inj h1).symm ?_)
 refine Weak.go [3] [1] rfl ?_
 try simp only [heat_heats.x0, aa yx1, c5, go_sem]
 rintro l4 hr_
 subst hr_
 simp only at h0
 refine rS ?_
 try simp only [heat_heats.x0, aa yx1, go_sem]
 obtain rfl := Option.some.inj h0
 refine AKev_ret rfl ?_
 try simp only [F63.rs, aa yx1, go_sem]
def F25.c : SC :=
 (.seq
 (.reg [oq 2 (.box 29 (.tmp 0)) 0 [0],
 oq 3 (.box 35 (.tmp 1)) 0 [1],
 oq 4 (.assign (.const (.slice none 0 0))) 23 [4],
 sn 5 0 43 [5]])
 (.seq
 (.block 0
 (.seq
 (.reg [ld 7 29 2 [],
 cf1 8 61 7 29 43 [7],
 bn 9 .neq 43 8 0 43 4 [8],
 sg 6 9 4 [9]])
 (.cond (.tmp 6)
 (.seq
 (.reg [oq 4 (.assign (.const (.slice none 0 0))) 23 [],
 sn 5 40 43 []])
 .ret)
 (.seq
 (.reg [ld 11 29 2 [2],
 ld 12 35 3 [],
 cf2 13 62 11 12 29 35 4 [11, 12],
 oq 14 (.unOp .not 4 (.tmp 13)) 4 [13],
 sg 10 14 4 [14]])
 (.cond (.tmp 10)
 (.seq
 (.reg [oq 4 (.assign (.const (.slice none 0 0))) 23 [],
 sn 5 45 43 []])
 .ret)
 .skip)))))
 (.seq
 (.reg [ld 15 35 3 [3],
 cf1 16 63 15 35 23 [15],
 sg 4 16 23 [16],
 sn 5 0 43 []])
 .ret)))
theorem F25.rs : Try.f25.results.toList = [.tmp 4, .tmp 5] := rfl
def heat_Heats (k : Nat) (k0 : Kiln) (x1 : Field) : Option ((List Int) × Int) :=
 (heat_CheckKiln k k0).bind fun x2 =>
 bif (!decide (x2 = (0 : Int))) then
  some ([], 40)
 else
  (heat_isField k k0 x1).bind fun x4 =>
  bif (!x4) then
   some ([], 45)
  else
   (heat_heats k x1).bind fun x6 =>
   some (x6, 0)
theorem heat_Heats_ok (k : Nat) (k0 : Kiln) (x1 : Field) (r : (List Int) × Int) (h0 : heat_Heats k k0 x1 = some r) : PCall Try.prog 25 [.agg (Kiln.c k0), .agg (Field.c x1)] (fun y => y = .tup [.sl 1 (List.map eI r.1), .int .i64 r.2]) := by
 refine PB (fn := Try.f25) (sc := F25.c) ?_
 refine rS ?_
 simp only [heat_Heats] at h0
 try simp only [F25.c, go_sem]
 obtain ⟨x2, yx2, h0⟩ := bs h0
 refine zc0 (heat_CheckKiln_ok k _ _ yx2) ?_ (by first | rfl | simp [AV.refsL, AV.refs, AV.scal, AV.leaf]) ?_
 try simp only [go_sem]
 try simp only [go_sem]
 refine AKev_bif h0 ?_ ?_ <;> intro c3 h0
 have c3 := bnot_t c3
 try simp only [c3, go_sem]
 obtain rfl := Option.some.inj h0
 refine AKev_ret rfl ?_
 try simp only [F25.rs, c3, go_sem]
 have c3 := bnot_f c3
 try simp only [c3, go_sem]
 obtain ⟨x4, yx4, h0⟩ := bs h0
 refine zc0 (heat_isField_ok k _ _ _ yx4) ?_ (by first | rfl | simp [AV.refsL, AV.refs, AV.scal, AV.leaf]) ?_
 try simp only [c3, go_sem]
 try simp only [c3, go_sem]
 refine AKev_bif h0 ?_ ?_ <;> intro c5 h0
 have c5 := bnot_t c5
 try simp only [c5, c3, go_sem]
 obtain rfl := Option.some.inj h0
 refine AKev_ret rfl ?_
 try simp only [F25.rs, c3, c5, go_sem]
 have c5 := bnot_f c5
 try simp only [c5, c3, go_sem]
 obtain ⟨x6, yx6, h0⟩ := bs h0
 refine zc0 (heat_heats_ok k _ _ yx6) ?_ (by first | rfl | simp [AV.refsL, AV.refs, AV.scal, AV.leaf]) ?_
 try simp only [c3, c5, go_sem]
 try simp only [c3, c5, go_sem]
 obtain rfl := Option.some.inj h0
 refine AKev_ret rfl ?_
 try simp only [F25.rs, c3, c5, go_sem]
def F29.s0 : SC :=
 (.seq
 (.reg [b2 28 .lss 3 27 26 3 0 []])
 (.seq
 (.cond (.tmp 28)
 .skip
 (.exit 1))
 (.seq
 (.block 2
 (.seq
 (.reg [ia 29 30 25 27 [],
 ld 30 60 29 [29],
 oq 7 (.alloc 60) 0 [],
 ⟨none, .store 60 (.tmp 7) (.tmp 30), 0, none, [30]⟩])
 (.seq
 (.reg [ld 32 60 7 [],
 oq 33 (.build 124 #[(0, .tmp 32)]) 124 [32],
 cf1 34 69 33 124 106 [33],
 mv 31 34 106 [34],
 xt 35 31 0 3 [],
 xt 36 31 1 4 [31],
 sg 8 35 3 [35],
 sg 9 36 4 [36]])
 (.seq
 (.reg [ld 38 60 7 [],
 oq 39 (.build 124 #[(0, .tmp 38)]) 124 [38],
 cf1 40 70 39 124 106 [39],
 mv 37 40 106 [40],
 xt 41 37 0 3 [],
 xt 42 37 1 4 [37],
 sg 10 41 3 [41],
 sg 11 42 4 [42]])
 (.seq
 (.reg [mv 43 9 4 [9],
 mv 44 43 4 [43],
 og 45 (.move (.tmp 5)) 23 44 true [],
 og 46 (.fieldAddr 60 (.tmp 7) 1) 0 44 true [],
 og 47 (.load 3 (.tmp 46)) 3 44 true [46],
 og 48 (.indexAddr 23 (.tmp 45) (.tmp 47)) 0 44 true [45, 47],
 og 49 (.load 3 (.tmp 48)) 3 44 true [48],
 og 50 (.move (.tmp 8)) 3 44 true [8],
 og 51 (.binOp .lss 3 (.tmp 49) (.tmp 50) 3) 4 44 true [49, 50],
 oq 52 (.pick (.tmp 44) (.tmp 51) (.const (.bool false))) 4 [44, 51],
 mv 53 52 4 [52],
 og 54 (.move (.tmp 11)) 4 53 false [11],
 og 55 (.move (.tmp 54)) 4 53 false [54],
 og 56 (.move (.tmp 5)) 23 55 true [],
 og 57 (.fieldAddr 60 (.tmp 7) 1) 0 55 true [7],
 og 58 (.load 3 (.tmp 57)) 3 55 true [57],
 og 59 (.indexAddr 23 (.tmp 56) (.tmp 58)) 0 55 true [56, 58],
 og 60 (.load 3 (.tmp 59)) 3 55 true [59],
 og 61 (.move (.tmp 10)) 3 55 true [10],
 og 62 (.binOp .gtr 3 (.tmp 60) (.tmp 61) 3) 4 55 true [60, 61],
 og 63 (.pick (.tmp 55) (.tmp 62) (.const (.bool false))) 4 53 false [55, 62],
 oq 64 (.pick (.tmp 53) (.const (.bool true)) (.tmp 63)) 4 [53, 63]])
 (.cond (.tmp 64)
 (.seq
 (.reg [sn 4 45 43 []])
 .ret)
 .skip))))))
 (.reg [bn 65 .add 3 27 1 3 3 [27],
 mv 27 65 3 [65]]))))
def F29.c : SC :=
 (.seq
 (.reg [oq 2 (.box 32 (.tmp 0)) 0 [0],
 oq 3 (.box 35 (.tmp 1)) 0 [1],
 sn 4 0 43 [4]])
 (.seq
 (.block 0
 (.seq
 (.reg [ld 13 32 2 [],
 cf1 14 41 13 32 43 [13],
 bn 15 .neq 43 14 0 43 4 [14],
 sg 12 15 4 [15]])
 (.cond (.tmp 12)
 (.seq
 (.reg [sn 4 42 43 []])
 .ret)
 (.seq
 (.reg [fa 17 32 2 0 [],
 ld 18 29 17 [17],
 ld 19 35 3 [],
 cf2 20 62 18 19 29 35 4 [18, 19],
 oq 21 (.unOp .not 4 (.tmp 20)) 4 [20],
 sg 16 21 4 [21]])
 (.cond (.tmp 16)
 (.seq
 (.reg [sn 4 45 43 []])
 .ret)
 .skip)))))
 (.seq
 (.reg [ld 22 35 3 [3],
 cf1 23 63 22 35 23 [22],
 sg 5 23 23 [23]])
 (.seq
 (.seq
 (.reg [fa 24 32 2 1 [2],
 ld 25 30 24 [24],
 ln 26 25 30 3 [],
 oq 27 (.move (.const (.int .i64 0))) 3 []])
 (.block 1
 (.loop F29.s0)))
 (.seq
 (.reg [sn 4 0 43 []])
 .ret)))))
theorem F29.rs : Try.f29.results.toList = [.tmp 4] := rfl
def heat_CheckField.b0 (k : Nat) (f0 : Firing) (x6 : (List Int)) : Int → Option (Stp (Int) (Unit) (Int)) := fun (i7 : Int) =>
 bif decide (i7 < (f0.Readings.length : Int)) then
  (at? f0.Readings i7).bind fun x9 =>
  (heat_reading_least k (⟨x9⟩ : heat_reading)).bind fun x10 =>
  (heat_reading_most k (⟨x9⟩ : heat_reading)).bind fun x11 =>
  bif x10.2 then
   (at? x6 x9.Place).bind fun x13 =>
   bif (!decide (x13 < x10.1)) then
    bif x11.2 then
     bif decide (x11.1 < x13) then
      some (.ret 45)
     else
      some (.next (w64 (i7 + 1)))
    else
     some (.next (w64 (i7 + 1)))
   else
    some (.ret 45)
  else
   bif x11.2 then
    (at? x6 x9.Place).bind fun x18 =>
    bif decide (x11.1 < x18) then
     some (.ret 45)
    else
     some (.next (w64 (i7 + 1)))
   else
    some (.next (w64 (i7 + 1)))
 else
  some (.brk ())
noncomputable def heat_CheckField.h0 (f0 : Firing) (x6 : (List Int)) : Int → St := fun (i7 : Int) => ⟨[(5, .sl 1 (List.map eI x6)), (25, .sl 6 (List.map Reading.c f0.Readings)), (26, .int .i64 (f0.Readings.length : Int)), (27, .int .i64 i7)], [], [], 1, Try.f29.ntmps⟩
noncomputable def heat_CheckField.x0 : Unit → St := fun (_ : Unit) => ⟨[], [], [], 1, Try.f29.ntmps⟩
def heat_CheckField (k : Nat) (f0 : Firing) (x1 : Field) : Option (Int) :=
 (heat_Check k f0).bind fun x2 =>
 bif (!decide (x2 = (0 : Int))) then
  some 42
 else
  (heat_isField k f0.Kiln x1).bind fun x4 =>
  bif (!x4) then
   some 45
  else
   (heat_heats k x1).bind fun x6 =>
   (whl (heat_CheckField.b0 k f0 x6) k 0).bind fun r20 => match r20 with
   | .next _ => none
   | .ret v_ => some v_
   | .brk _ =>
    some 0
theorem heat_CheckField_ok (k : Nat) (f0 : Firing) (x1 : Field) (r : Int) (h0 : heat_CheckField k f0 x1 = some r) : PCall Try.prog 29 [.agg (Firing.c f0), .agg (Field.c x1)] (fun y => y = .int .i64 r) := by
 refine PB (fn := Try.f29) (sc := F29.c) ?_
 refine rS ?_
 simp only [heat_CheckField] at h0
 try simp only [F29.c, go_sem]
 obtain ⟨x2, yx2, h0⟩ := bs h0
 refine zc0 (heat_Check_ok k _ _ yx2) ?_ (by first | rfl | simp [AV.refsL, AV.refs, AV.scal, AV.leaf]) ?_
 try simp only [go_sem]
 try simp only [go_sem]
 refine AKev_bif h0 ?_ ?_ <;> intro c3 h0
 have c3 := bnot_t c3
 try simp only [c3, go_sem]
 obtain rfl := Option.some.inj h0
 refine AKev_ret rfl ?_
 try simp only [F29.rs, c3, go_sem]
 have c3 := bnot_f c3
 try simp only [c3, go_sem]
 obtain ⟨x4, yx4, h0⟩ := bs h0
 refine zc0 (heat_isField_ok k _ _ _ yx4) ?_ (by first | rfl | simp [AV.refsL, AV.refs, AV.scal, AV.leaf]) ?_
 try simp only [c3, go_sem]
 try simp only [c3, go_sem]
 refine AKev_bif h0 ?_ ?_ <;> intro c5 h0
 have c5 := bnot_t c5
 try simp only [c5, c3, go_sem]
 obtain rfl := Option.some.inj h0
 refine AKev_ret rfl ?_
 try simp only [F29.rs, c3, c5, go_sem]
 have c5 := bnot_f c5
 try simp only [c5, c3, go_sem]
 obtain ⟨x6, yx6, h0⟩ := bs h0
 refine zc0 (heat_heats_ok k _ _ yx6) ?_ (by first | rfl | simp [AV.refsL, AV.refs, AV.scal, AV.leaf]) ?_
 try simp only [c3, c5, go_sem]
 try simp only [c3, c5, go_sem]
 obtain ⟨r20, yr20, h0⟩ := bs h0
 refine AKev_loopS yr20 (heat_CheckField.h0 f0 x6) (heat_CheckField.x0) ?_ ?_ ?_
 refine Weak.go [5, 25, 26, 27] [] rfl ?_
 try simp only [heat_CheckField.h0, c3, c5, go_sem]
 rintro i7 x_1 Bk1 Br1 h1 hnext1 hbrk1 hret1
 refine rS ?_
 simp only [heat_CheckField.b0] at h1
 try simp only [F29.s0, heat_CheckField.h0, c3, c5, go_sem]
 refine AKev_bif h1 ?_ ?_ <;> intro c8 h1
 try simp only [c8, c3, c5, go_sem]
 obtain ⟨x9, yx9, h1⟩ := bs h1
 try simp only [aa yx9, c3, c5, c8, go_sem]
 obtain ⟨x10, yx10, h1⟩ := bs h1
 refine zc0 (heat_reading_least_ok k _ _ yx10) ?_ (by first | rfl | simp [AV.refsL, AV.refs, AV.scal, AV.leaf]) ?_
 try simp only [c3, c5, c8, aa yx9, go_sem]
 try simp only [c3, c5, c8, aa yx9, go_sem]
 obtain ⟨x11, yx11, h1⟩ := bs h1
 refine zc0 (heat_reading_most_ok k _ _ yx11) ?_ (by first | rfl | simp [AV.refsL, AV.refs, AV.scal, AV.leaf]) ?_
 try simp only [c3, c5, c8, aa yx9, go_sem]
 try simp only [c3, c5, c8, aa yx9, go_sem]
 refine AKev_bif h1 ?_ ?_ <;> intro c12 h1
 try simp only [c12, c3, c5, c8, aa yx9, go_sem]
 obtain ⟨x13, yx13, h1⟩ := bs h1
 try simp only [aa yx13, c3, c5, c8, aa yx9, c12, go_sem]
 refine AKev_bif h1 ?_ ?_ <;> intro c14 h1
 have c14 := bnot_t c14
 try simp only [c14, c3, c5, c8, aa yx9, c12, aa yx13, go_sem]
 refine AKev_bif h1 ?_ ?_ <;> intro c15 h1
 try simp only [c15, aa yx13, c3, c5, c8, aa yx9, c12, c14, go_sem]
 refine AKev_bif h1 ?_ ?_ <;> intro c16 h1
 try simp only [c16, c3, c5, c8, aa yx9, c12, aa yx13, c14, c15, go_sem]
 obtain rfl := hret1 _ (Option.some.inj h1).symm
 simp only at h0
 obtain rfl := Option.some.inj h0
 refine AKev_ret rfl ?_
 try simp only [F29.rs, c3, c5, c8, aa yx9, c12, aa yx13, c14, c15, c16, go_sem]
 try simp only [c16, c3, c5, c8, aa yx9, c12, aa yx13, c14, c15, go_sem]
 refine AKev_backB (hnext1 _ _ (Option.some.inj h1).symm ?_)
 refine Weak.go [5, 25, 26, 27] [] rfl ?_
 try simp only [heat_CheckField.h0, c3, c5, c8, aa yx9, c12, aa yx13, c14, c15, c16, go_sem]
 try simp only [c15, c3, c5, c8, aa yx9, c12, aa yx13, c14, go_sem]
 refine AKev_backB (hnext1 _ _ (Option.some.inj h1).symm ?_)
 refine Weak.go [5, 25, 26, 27] [] rfl ?_
 try simp only [heat_CheckField.h0, c3, c5, c8, aa yx9, c12, aa yx13, c14, c15, go_sem]
 have c14 := bnot_f c14
 try simp only [c14, c3, c5, c8, aa yx9, c12, aa yx13, go_sem]
 obtain rfl := hret1 _ (Option.some.inj h1).symm
 simp only at h0
 obtain rfl := Option.some.inj h0
 refine AKev_ret rfl ?_
 try simp only [F29.rs, c3, c5, c8, aa yx9, c12, aa yx13, c14, go_sem]
 try simp only [c12, c3, c5, c8, aa yx9, go_sem]
 refine AKev_bif h1 ?_ ?_ <;> intro c17 h1
 try simp only [c17, c3, c5, c8, aa yx9, c12, go_sem]
 obtain ⟨x18, yx18, h1⟩ := bs h1
 try simp only [aa yx18, c3, c5, c8, aa yx9, c12, c17, go_sem]
 refine AKev_bif h1 ?_ ?_ <;> intro c19 h1
 try simp only [c19, c3, c5, c8, aa yx9, c12, c17, aa yx18, go_sem]
 obtain rfl := hret1 _ (Option.some.inj h1).symm
 simp only at h0
 obtain rfl := Option.some.inj h0
 refine AKev_ret rfl ?_
 try simp only [F29.rs, c3, c5, c8, aa yx9, c12, c17, aa yx18, c19, go_sem]
 try simp only [c19, c3, c5, c8, aa yx9, c12, c17, aa yx18, go_sem]
 refine AKev_backB (hnext1 _ _ (Option.some.inj h1).symm ?_)
 refine Weak.go [5, 25, 26, 27] [] rfl ?_
 try simp only [heat_CheckField.h0, c3, c5, c8, aa yx9, c12, c17, aa yx18, c19, go_sem]
 try simp only [c17, c3, c5, c8, aa yx9, c12, go_sem]
 refine AKev_backB (hnext1 _ _ (Option.some.inj h1).symm ?_)
 refine Weak.go [5, 25, 26, 27] [] rfl ?_
 try simp only [heat_CheckField.h0, c3, c5, c8, aa yx9, c12, c17, go_sem]
 try simp only [c8, c3, c5, go_sem]
 refine AKev_backB (hbrk1 _ _ (Option.some.inj h1).symm ?_)
 refine Weak.go [] [] rfl ?_
 try simp only [heat_CheckField.x0, c3, c5, c8, go_sem]
 rintro _ hr_
 subst hr_
 simp only at h0
 refine rS ?_
 try simp only [heat_CheckField.x0, c3, c5, go_sem]
 obtain rfl := Option.some.inj h0
 refine AKev_ret rfl ?_
 try simp only [F29.rs, c3, c5, go_sem]
def F31.c : SC :=
 (.seq
 (.reg [oq 2 (.box 32 (.tmp 0)) 0 [0],
 oq 4 (.alloc 35) 0 [],
 sn 5 0 43 [5]])
 (.seq
 (.reg [ld 10 32 2 [2],
 mv 11 1 80 [1],
 cf2 12 74 10 11 32 80 130 [10, 11],
 mv 9 12 130 [12],
 xt 13 9 0 94 [],
 xt 14 9 1 94 [],
 xt 15 9 2 43 [9],
 oq 6 (.alloc 94) 0 [],
 oq 7 (.alloc 94) 0 [],
 ⟨none, .store 94 (.tmp 6) (.tmp 13), 0, none, [6, 13]⟩,
 ⟨none, .store 94 (.tmp 7) (.tmp 14), 0, none, [14]⟩,
 sg 8 15 43 [15]])
 (.seq
 (.seq
 (.reg [mv 16 8 43 [],
 bn 17 .neq 43 16 0 43 4 [16]])
 (.cond (.tmp 17)
 (.seq
 (.reg [oq 18 (.build 35 #[]) 35 [],
 mv 19 8 43 [8],
 ⟨none, .store 35 (.tmp 4) (.tmp 18), 0, none, [18]⟩,
 sg 5 19 43 [19]])
 .ret)
 .skip))
 (.seq
 (.seq
 (.reg [ld 20 94 7 [],
 cf1 21 56 20 94 4 [20],
 oq 22 (.unOp .not 4 (.tmp 21)) 4 [21]])
 (.cond (.tmp 22)
 (.seq
 (.reg [oq 23 (.build 35 #[]) 35 [],
 ⟨none, .store 35 (.tmp 4) (.tmp 23), 0, none, [23]⟩,
 sn 5 3 43 []])
 .ret)
 .skip))
 (.seq
 (.reg [ld 24 94 7 [7],
 cf1 25 73 24 94 35 [24],
 ⟨none, .store 35 (.tmp 4) (.tmp 25), 0, none, [25]⟩,
 sn 5 0 43 []])
 .ret)))))
theorem F31.rs : Try.f31.results.toList = [.cell 4 35, .tmp 5] := rfl
def heat_Show (k : Nat) (f0 : Firing) (l1 : (List Want)) : Option (Field × Int) :=
 (heat_wanted k f0 l1).bind fun x1 =>
 bif (!decide (x1.2.2 = (0 : Int))) then
  some ((⟨[], []⟩ : Field), x1.2.2)
 else
  (heat_furnace_sound k x1.2.1).bind fun x3 =>
  bif (!x3) then
   some ((⟨[], []⟩ : Field), 3)
  else
   (heat_furnace_greatest k x1.2.1).bind fun x5 =>
   some (x5, 0)
theorem heat_Show_ok (k : Nat) (f0 : Firing) (l1 : (List Want)) (r : Field × Int) (h0 : heat_Show k f0 l1 = some r) : PCall Try.prog 31 [.agg (Firing.c f0), .sl 3 (List.map Want.c l1)] (fun y => y = .tup [.agg (Field.c r.1), .int .i64 r.2]) := by
 refine PB (fn := Try.f31) (sc := F31.c) ?_
 refine rS ?_
 simp only [heat_Show] at h0
 try simp only [F31.c, go_sem]
 obtain ⟨x1, yx1, h0⟩ := bs h0
 refine zc0 (heat_wanted_ok k _ _ _ yx1) ?_ (by first | rfl | simp [AV.refsL, AV.refs, AV.scal, AV.leaf]) ?_
 try simp only [go_sem]
 try simp only [go_sem]
 refine AKev_bif h0 ?_ ?_ <;> intro c2 h0
 have c2 := bnot_t c2
 try simp only [c2, go_sem]
 obtain rfl := Option.some.inj h0
 refine AKev_ret rfl ?_
 try simp only [F31.rs, c2, go_sem]
 have c2 := bnot_f c2
 try simp only [c2, go_sem]
 obtain ⟨x3, yx3, h0⟩ := bs h0
 refine zc0 (heat_furnace_sound_ok k _ _ yx3) ?_ (by first | rfl | simp [AV.refsL, AV.refs, AV.scal, AV.leaf]) ?_
 try simp only [c2, go_sem]
 try simp only [c2, go_sem]
 refine AKev_bif h0 ?_ ?_ <;> intro c4 h0
 have c4 := bnot_t c4
 try simp only [c4, c2, go_sem]
 obtain rfl := Option.some.inj h0
 refine AKev_ret rfl ?_
 try simp only [F31.rs, c2, c4, go_sem]
 have c4 := bnot_f c4
 try simp only [c4, c2, go_sem]
 obtain ⟨x5, yx5, h0⟩ := bs h0
 refine zc0 (heat_furnace_greatest_ok k _ _ yx5) ?_ (by first | rfl | simp [AV.refsL, AV.refs, AV.scal, AV.leaf]) ?_
 try simp only [c2, c4, go_sem]
 try simp only [c2, c4, go_sem]
 obtain rfl := Option.some.inj h0
 refine AKev_ret rfl ?_
 try simp only [F31.rs, c2, c4, go_sem]
def F8.s1 : SC :=
 (.seq
 (.seq
 (.reg [mv 199 28 3 [],
 mv 200 9 80 [],
 ln 201 200 80 3 [200],
 b2 202 .lss 3 199 201 3 4 [199, 201]])
 (.cond (.tmp 202)
 .skip
 (.exit 2)))
 (.seq
 (.block 3
 (.seq
 (.dreg [mv 205 26 23 [],
 mv 206 9 80 [],
 mv 207 28 3 [],
 ia 208 80 206 207 [],
 fa 209 79 208 0 [],
 ld 210 3 209 [],
 ia 211 23 205 210 [],
 ld 212 3 211 [],
 mv 213 9 80 [],
 mv 214 28 3 [],
 ia 215 80 213 214 [],
 fa 216 79 215 1 [],
 fa 217 39 216 0 [],
 ld 218 3 217 [],
 b2 219 .lss 3 212 218 3 4 [],
 mv 220 219 4 [],
 og 221 (.move (.tmp 26)) 23 220 false [],
 og 222 (.move (.tmp 9)) 80 220 false [],
 og 223 (.move (.tmp 28)) 3 220 false [],
 og 224 (.indexAddr 80 (.tmp 222) (.tmp 223)) 0 220 false [],
 og 225 (.fieldAddr 79 (.tmp 224) 0) 0 220 false [],
 og 226 (.load 3 (.tmp 225)) 3 220 false [],
 og 227 (.indexAddr 23 (.tmp 221) (.tmp 226)) 0 220 false [],
 og 228 (.load 3 (.tmp 227)) 3 220 false [],
 og 229 (.move (.tmp 9)) 80 220 false [],
 og 230 (.move (.tmp 28)) 3 220 false [],
 og 231 (.indexAddr 80 (.tmp 229) (.tmp 230)) 0 220 false [],
 og 232 (.fieldAddr 79 (.tmp 231) 1) 0 220 false [],
 og 233 (.fieldAddr 39 (.tmp 232) 1) 0 220 false [],
 og 234 (.load 3 (.tmp 233)) 3 220 false [],
 og 235 (.binOp .gtr 3 (.tmp 228) (.tmp 234) 3) 4 220 false [],
 oq 236 (.pick (.tmp 220) (.const (.bool true)) (.tmp 235)) 4 []] [[], [], [], [1, 2], [1, 2, 3], [1, 2, 3, 4], [0, 1, 2, 3, 4, 5], [0, 1, 2, 3, 4, 5, 6], [], [], [8, 9], [8, 9, 10], [8, 9, 10, 11], [8, 9, 10, 11, 12], [0, 1, 2, 3, 4, 5, 6, 7, 8, 9, 10, 11, 12, 13], [0, 1, 2, 3, 4, 5, 6, 7, 8, 9, 10, 11, 12, 13, 14], [0, 1, 2, 3, 4, 5, 6, 7, 8, 9, 10, 11, 12, 13, 14, 15], [0, 1, 2, 3, 4, 5, 6, 7, 8, 9, 10, 11, 12, 13, 14, 15], [0, 1, 2, 3, 4, 5, 6, 7, 8, 9, 10, 11, 12, 13, 14, 15], [0, 1, 2, 3, 4, 5, 6, 7, 8, 9, 10, 11, 12, 13, 14, 15, 17, 18], [0, 1, 2, 3, 4, 5, 6, 7, 8, 9, 10, 11, 12, 13, 14, 15, 17, 18, 19], [0, 1, 2, 3, 4, 5, 6, 7, 8, 9, 10, 11, 12, 13, 14, 15, 17, 18, 19, 20], [0, 1, 2, 3, 4, 5, 6, 7, 8, 9, 10, 11, 12, 13, 14, 15, 16, 17, 18, 19, 20, 21], [0, 1, 2, 3, 4, 5, 6, 7, 8, 9, 10, 11, 12, 13, 14, 15, 16, 17, 18, 19, 20, 21, 22], [0, 1, 2, 3, 4, 5, 6, 7, 8, 9, 10, 11, 12, 13, 14, 15], [0, 1, 2, 3, 4, 5, 6, 7, 8, 9, 10, 11, 12, 13, 14, 15], [0, 1, 2, 3, 4, 5, 6, 7, 8, 9, 10, 11, 12, 13, 14, 15, 24, 25], [0, 1, 2, 3, 4, 5, 6, 7, 8, 9, 10, 11, 12, 13, 14, 15, 24, 25, 26], [0, 1, 2, 3, 4, 5, 6, 7, 8, 9, 10, 11, 12, 13, 14, 15, 24, 25, 26, 27], [0, 1, 2, 3, 4, 5, 6, 7, 8, 9, 10, 11, 12, 13, 14, 15, 24, 25, 26, 27, 28], [0, 1, 2, 3, 4, 5, 6, 7, 8, 9, 10, 11, 12, 13, 14, 15, 16, 17, 18, 19, 20, 21, 22, 23, 24, 25, 26, 27, 28, 29], [0, 1, 2, 3, 4, 5, 6, 7, 8, 9, 10, 11, 12, 13, 14, 15, 16, 17, 18, 19, 20, 21, 22, 23, 24, 25, 26, 27, 28, 29, 30]] [205, 206, 207, 208, 209, 210, 211, 212, 213, 214, 215, 216, 217, 218, 219, 220, 221, 222, 223, 224, 225, 226, 227, 228, 229, 230, 231, 232, 233, 234, 235])
 (.cond (.tmp 236)
 (.seq
 (.reg [sb 4 false 4 []])
 .ret)
 .skip)))
 (.reg [mv 203 28 3 [28],
 bn 204 .add 3 203 1 3 3 [203],
 sg 28 204 3 [204]])))
def F8.s0 : SC :=
 (.seq
 (.seq
 (.reg [mv 49 12 3 [],
 mv 50 1 82 [],
 ln 51 50 82 3 [50],
 b2 52 .lss 3 49 51 3 4 [49, 51],
 mv 53 52 4 [52],
 og 54 (.move (.tmp 12)) 3 53 true [],
 og 55 (.binOp .lss 3 (.tmp 54) (.const (.int .i64 6)) 3) 4 53 true [54],
 oq 56 (.pick (.tmp 53) (.tmp 55) (.const (.bool false))) 4 [53, 55]])
 (.cond (.tmp 56)
 .skip
 (.exit 0)))
 (.seq
 (.block 1
 (.seq
 (.reg [mv 59 1 82 [],
 mv 60 12 3 [],
 ia 61 82 59 60 [59, 60],
 oq 62 (.indexAddr 69 (.tmp 61) (.const (.int .i64 0))) 0 [61],
 ld 63 3 62 [62],
 mv 64 7 23 [],
 ln 65 64 23 3 [64],
 cf2 66 11 63 65 3 3 3 [63, 65],
 sg 13 66 3 [66]])
 (.seq
 (.dreg [mv 67 7 23 [],
 mv 68 13 3 [],
 ia 69 23 67 68 [],
 ld 70 3 69 [],
 mv 71 1 82 [],
 mv 72 12 3 [],
 ia 73 82 71 72 [],
 oq 74 (.indexAddr 69 (.tmp 73) (.const (.int .i64 1))) 0 [],
 ld 75 3 74 [],
 oq 76 (.call ⟨.value (.func 11), #[.tmp 75, .const (.int .i64 121)], #[3, 3]⟩) 3 [],
 b2 77 .add 3 70 76 3 3 [],
 bn 78 .sub 3 77 80 3 3 [],
 oq 79 (.call ⟨.builtin .max, #[.tmp 78, .const (.int .i64 1)], #[3, 3]⟩) 3 [],
 oq 80 (.call ⟨.builtin .min, #[.tmp 79, .const (.int .i64 2000)], #[3, 3]⟩) 3 [],
 sg 14 80 3 []] [[], [], [0, 1], [0, 1, 2], [], [], [4, 5], [4, 5, 6], [4, 5, 6, 7], [4, 5, 6, 7, 8], [0, 1, 2, 3, 4, 5, 6, 7, 8, 9], [0, 1, 2, 3, 4, 5, 6, 7, 8, 9, 10], [0, 1, 2, 3, 4, 5, 6, 7, 8, 9, 10, 11], [0, 1, 2, 3, 4, 5, 6, 7, 8, 9, 10, 11, 12], [0, 1, 2, 3, 4, 5, 6, 7, 8, 9, 10, 11, 12, 13]] [67, 68, 69, 70, 71, 72, 73, 74, 75, 76, 77, 78, 79, 80])
 (.seq
 (.reg [mv 81 13 3 [],
 mv 82 14 3 [],
 mv 83 14 3 [14],
 mv 84 1 82 [],
 mv 85 12 3 [],
 ia 86 82 84 85 [84, 85],
 oq 87 (.indexAddr 69 (.tmp 86) (.const (.int .i64 2))) 0 [86],
 ld 88 3 87 [87],
 oq 89 (.call ⟨.value (.func 11), #[.tmp 88, .const (.int .i64 200)], #[3, 3]⟩) 3 [88],
 b2 90 .add 3 83 89 3 3 [83, 89],
 oq 91 (.call ⟨.builtin .min, #[.tmp 90, .const (.int .i64 2000)], #[3, 3]⟩) 3 [90],
 oq 92 (.build 39 #[(0, .tmp 82), (1, .tmp 91)]) 39 [82, 91],
 oq 93 (.build 79 #[(0, .tmp 81), (1, .tmp 92)]) 79 [81, 92],
 oq 15 (.alloc 79) 0 [],
 ⟨none, .store 79 (.tmp 15) (.tmp 93), 0, none, [93]⟩])
 (.seq
 (.reg [mv 94 9 80 [9],
 ld 95 79 15 [],
 oq 96 (.buildSlice 80 1 #[(0, .tmp 95)]) 80 [95],
 oq 97 (.call ⟨.builtin .append, #[.tmp 94, .tmp 96], #[80, 80]⟩) 80 [94, 96],
 sg 9 97 80 [97]])
 (.seq
 (.reg [ld 99 32 5 [],
 fa 100 79 15 0 [],
 ld 101 3 100 [100],
 fa 102 79 15 1 [],
 ld 103 39 102 [102],
 oq 104 (.call ⟨.value (.func 32), #[.tmp 99, .tmp 101, .tmp 103], #[32, 3, 39]⟩) 83 [99, 101, 103],
 mv 98 104 83 [104],
 xt 105 98 0 3 [],
 xt 106 98 1 43 [98],
 sg 16 105 3 [105],
 sg 17 106 43 [106]])
 (.seq
 (.reg [ld 108 32 10 [],
 mv 109 12 3 [],
 oq 110 (.binOp .add 3 (.const (.int .i64 50)) (.tmp 109) 3) 3 [109],
 mv 111 13 3 [13],
 fa 112 79 15 1 [15],
 ld 113 39 112 [112],
 oq 114 (.build 60 #[(0, .tmp 110), (1, .tmp 111), (2, .const (.int .i64 3)), (4, .tmp 113)]) 60 [110, 111, 113],
 cf2 115 20 108 114 32 60 61 [108, 114],
 mv 107 115 61 [115],
 xt 116 107 0 32 [],
 xt 117 107 1 43 [107],
 oq 18 (.alloc 32) 0 [],
 ⟨none, .store 32 (.tmp 18) (.tmp 116), 0, none, [116]⟩,
 sg 19 117 43 [117]])
 (.seq
 (.seq
 (.reg [mv 118 17 43 [17],
 bn 119 .neq 43 118 0 43 4 [118],
 mv 120 119 4 [119],
 og 121 (.move (.tmp 19)) 43 120 false [19],
 og 122 (.binOp .neq 43 (.tmp 121) (.const (.int .i64 0)) 43) 4 120 false [121],
 oq 123 (.pick (.tmp 120) (.const (.bool true)) (.tmp 122)) 4 [120, 122]])
 (.cond (.tmp 123)
 (.seq
 (.reg [sb 4 false 4 []])
 .ret)
 .skip))
 (.seq
 (.reg [mv 124 11 4 [11],
 mv 125 124 4 [124],
 og 126 (.move (.tmp 16)) 3 125 true [16],
 og 127 (.binOp .eql 3 (.tmp 126) (.const (.int .i64 1)) 3) 4 125 true [126],
 oq 128 (.pick (.tmp 125) (.tmp 127) (.const (.bool false))) 4 [125, 127],
 sg 11 128 4 [128]])
 (.reg [ld 129 32 18 [18],
 ⟨none, .store 32 (.tmp 10) (.tmp 129), 0, none, [129]⟩]))))))))))
 (.reg [mv 57 12 3 [12],
 bn 58 .add 3 57 1 3 3 [57],
 sg 12 58 3 [58]])))
def F8.c : SC :=
 (.seq
 (.reg [oq 2 (.box 26 (.tmp 0)) 0 [0],
 sb 4 false 4 [4]])
 (.seq
 (.reg [ld 30 26 2 [2],
 cf1 31 10 30 26 36 [30],
 mv 29 31 36 [31],
 xt 32 29 0 32 [],
 xt 33 29 1 35 [29],
 oq 5 (.alloc 32) 0 [],
 oq 6 (.alloc 35) 0 [],
 ⟨none, .store 32 (.tmp 5) (.tmp 32), 0, none, [32]⟩,
 ⟨none, .store 35 (.tmp 6) (.tmp 33), 0, none, [33]⟩])
 (.seq
 (.reg [fa 35 32 5 0 [],
 ld 36 29 35 [35],
 ld 37 35 6 [6],
 cf2 38 25 36 37 29 35 53 [36, 37],
 mv 34 38 53 [38],
 xt 39 34 0 23 [],
 xt 40 34 1 43 [34],
 sg 7 39 23 [39],
 sg 8 40 43 [40]])
 (.seq
 (.seq
 (.reg [mv 41 8 43 [8],
 bn 42 .neq 43 41 0 43 4 [41],
 mv 43 42 4 [42],
 og 44 (.move (.tmp 7)) 23 43 false [],
 og 45 (.call ⟨.builtin .len, #[.tmp 44], #[23]⟩) 3 43 false [44],
 og 46 (.binOp .eql 3 (.tmp 45) (.const (.int .i64 0)) 3) 4 43 false [45],
 oq 47 (.pick (.tmp 43) (.const (.bool true)) (.tmp 46)) 4 [43, 46]])
 (.cond (.tmp 47)
 (.seq
 (.reg [sb 4 false 4 []])
 .ret)
 .skip))
 (.seq
 (.reg [oq 9 (.assign (.const (.slice none 0 0))) 80 []])
 (.seq
 (.reg [ld 48 32 5 [],
 oq 10 (.alloc 32) 0 [],
 ⟨none, .store 32 (.tmp 10) (.tmp 48), 0, none, [48]⟩])
 (.seq
 (.reg [sb 11 true 4 []])
 (.seq
 (.seq
 (.reg [sn 12 0 3 []])
 (.block 0
 (.loop F8.s0)))
 (.seq
 (.reg [ld 131 32 5 [],
 mv 132 9 80 [],
 cf2 133 33 131 132 32 80 83 [131, 132],
 mv 130 133 83 [133],
 xt 134 130 0 3 [],
 xt 135 130 1 43 [130],
 sg 20 134 3 [134],
 sg 21 135 43 [135]])
 (.seq
 (.reg [ld 137 32 10 [10],
 cf1 138 21 137 32 63 [137],
 mv 136 138 63 [138],
 xt 139 136 0 4 [],
 xt 140 136 1 43 [136],
 sg 22 139 4 [139],
 sg 23 140 43 [140]])
 (.seq
 (.reg [ld 142 32 5 [],
 mv 143 9 80 [],
 cf2 144 31 142 143 32 80 75 [142, 143],
 mv 141 144 75 [144],
 xt 145 141 0 35 [],
 xt 146 141 1 43 [141],
 oq 24 (.alloc 35) 0 [],
 ⟨none, .store 35 (.tmp 24) (.tmp 145), 0, none, [145]⟩,
 sg 25 146 43 [146]])
 (.seq
 (.seq
 (.reg [mv 147 21 43 [21],
 bn 148 .neq 43 147 0 43 4 [147],
 mv 149 148 4 [148],
 og 150 (.move (.tmp 23)) 43 149 false [23],
 og 151 (.binOp .neq 43 (.tmp 150) (.const (.int .i64 0)) 43) 4 149 false [150],
 oq 152 (.pick (.tmp 149) (.const (.bool true)) (.tmp 151)) 4 [149, 151],
 mv 153 152 4 [152],
 og 154 (.move (.tmp 20)) 3 153 false [],
 og 155 (.binOp .eql 3 (.tmp 154) (.const (.int .i64 1)) 3) 4 153 false [154],
 og 156 (.move (.tmp 11)) 4 153 false [11],
 og 157 (.binOp .neq 4 (.tmp 155) (.tmp 156) 4) 4 153 false [155, 156],
 oq 158 (.pick (.tmp 153) (.const (.bool true)) (.tmp 157)) 4 [153, 157],
 mv 159 158 4 [158],
 og 160 (.move (.tmp 20)) 3 159 false [],
 og 161 (.binOp .eql 3 (.tmp 160) (.const (.int .i64 0)) 3) 4 159 false [160],
 og 162 (.move (.tmp 22)) 4 159 false [22],
 og 163 (.unOp .not 4 (.tmp 162)) 4 159 false [162],
 og 164 (.binOp .neq 4 (.tmp 161) (.tmp 163) 4) 4 159 false [161, 163],
 oq 165 (.pick (.tmp 159) (.const (.bool true)) (.tmp 164)) 4 [159, 164]])
 (.cond (.tmp 165)
 (.seq
 (.reg [sb 4 false 4 []])
 .ret)
 .skip))
 (.seq
 (.seq
 (.reg [mv 166 20 3 [20],
 bn 167 .eql 3 166 0 3 4 [166]])
 (.cond (.tmp 167)
 (.seq
 (.reg [mv 168 25 43 [25],
 bn 169 .eql 43 168 3 43 4 [168],
 mv 170 169 4 [169],
 og 171 (.call ⟨.value (.func 14), #[], #[]⟩) 4 170 true [],
 oq 172 (.pick (.tmp 170) (.tmp 171) (.const (.bool false))) 4 [170, 171],
 sg 4 172 4 [172]])
 .ret)
 .skip))
 (.seq
 (.reg [fa 174 32 5 0 [],
 ld 175 29 174 [174],
 ld 176 35 24 [],
 cf2 177 25 175 176 29 35 53 [175, 176],
 mv 173 177 53 [177],
 xt 178 173 0 23 [],
 xt 179 173 1 43 [173],
 sg 26 178 23 [178],
 sg 27 179 43 [179]])
 (.seq
 (.seq
 (.reg [mv 180 25 43 [25],
 bn 181 .neq 43 180 0 43 4 [180],
 mv 182 181 4 [181],
 og 183 (.move (.tmp 27)) 43 182 false [27],
 og 184 (.binOp .neq 43 (.tmp 183) (.const (.int .i64 0)) 43) 4 182 false [183],
 oq 185 (.pick (.tmp 182) (.const (.bool true)) (.tmp 184)) 4 [182, 184],
 mv 186 185 4 [185],
 og 187 (.move (.tmp 26)) 23 186 false [],
 og 188 (.call ⟨.builtin .len, #[.tmp 187], #[23]⟩) 3 186 false [187],
 og 189 (.move (.tmp 7)) 23 186 false [7],
 og 190 (.call ⟨.builtin .len, #[.tmp 189], #[23]⟩) 3 186 false [189],
 og 191 (.binOp .neq 3 (.tmp 188) (.tmp 190) 3) 4 186 false [188, 190],
 oq 192 (.pick (.tmp 186) (.const (.bool true)) (.tmp 191)) 4 [186, 191],
 mv 193 192 4 [192],
 og 194 (.load 32 (.tmp 5)) 32 193 false [5],
 og 195 (.load 35 (.tmp 24)) 35 193 false [24],
 og 196 (.call ⟨.value (.func 29), #[.tmp 194, .tmp 195], #[32, 35]⟩) 43 193 false [194, 195],
 og 197 (.binOp .neq 43 (.tmp 196) (.const (.int .i64 0)) 43) 4 193 false [196],
 oq 198 (.pick (.tmp 193) (.const (.bool true)) (.tmp 197)) 4 [193, 197]])
 (.cond (.tmp 198)
 (.seq
 (.reg [sb 4 false 4 []])
 .ret)
 .skip))
 (.seq
 (.seq
 (.reg [sn 28 0 3 []])
 (.block 2
 (.loop F8.s1)))
 (.seq
 (.reg [oq 237 (.call ⟨.value (.func 14), #[], #[]⟩) 4 [],
 sg 4 237 4 [237]])
 .ret)))))))))))))))))
theorem F8.rs : Try.f8.results.toList = [.tmp 4] := rfl
def L04_HeatTogether.b0 (k : Nat) (n1 : (List (A3 Int))) (x1 : Firing × Field) (x2 : (List Int) × Int) : (Firing × Bool × Int × (List Want)) → Option (Stp (Firing × Bool × Int × (List Want)) (Firing × Bool × (List Want)) (Bool)) := fun (s : Firing × Bool × Int × (List Want)) => match s with
 | (s5, b6, i7, l8) =>
   bif decide (i7 < (n1.length : Int)) then
    bif decide (i7 < (6 : Int)) then
     (at? n1 i7).bind fun x14 =>
     (R01_Mod k x14.x0 (x2.1.length : Int)).bind fun x15 =>
     (at? x2.1 x15).bind fun x16 =>
     (R01_Mod k x14.x1 121).bind fun x17 =>
     (R01_Mod k x14.x2 200).bind fun x18 =>
     (push? 24 l8 (⟨x15, (⟨min (max (w64 ((w64 (x16 + x17)) - 80)) 1) 2000, min (w64 ((min (max (w64 ((w64 (x16 + x17)) - 80)) 1) 2000) + x18)) 2000⟩ : Range)⟩ : Want)).bind fun l19 =>
     (heat_Verdict k x1.1 x15 (⟨min (max (w64 ((w64 (x16 + x17)) - 80)) 1) 2000, min (w64 ((min (max (w64 ((w64 (x16 + x17)) - 80)) 1) 2000) + x18)) 2000⟩ : Range)).bind fun x20 =>
     (heat_With k s5 (⟨w64 (50 + i7), x15, 3, 0, (⟨min (max (w64 ((w64 (x16 + x17)) - 80)) 1) 2000, min (w64 ((min (max (w64 ((w64 (x16 + x17)) - 80)) 1) 2000) + x18)) 2000⟩ : Range)⟩ : Reading)).bind fun x21 =>
     bif decide (x20.2 = (0 : Int)) then
      bif (!decide (x21.2 = (0 : Int))) then
       some (.ret false)
      else
       bif b6 then
        some (.next (x21.1, decide (x20.1 = (1 : Int)), w64 (i7 + 1), l19))
       else
        some (.next (x21.1, false, w64 (i7 + 1), l19))
     else
      some (.ret false)
    else
     some (.brk (s5, b6, l8))
   else
    some (.brk (s5, b6, l8))
def L04_HeatTogether.b1 (k : Nat) (l11 : (List Want)) (x36 : (List Int) × Int) : Int → Option (Stp (Int) (Unit) (Bool)) := fun (i42 : Int) =>
 bif decide (i42 < (l11.length : Int)) then
  (at? l11 i42).bind fun x44 =>
  (at? x36.1 x44.Place).bind fun x45 =>
  bif (!decide (x45 < x44.Heat.Lo)) then
   bif decide (x44.Heat.Hi < x45) then
    some (.ret false)
   else
    some (.next (w64 (i42 + 1)))
  else
   some (.ret false)
 else
  some (.brk ())
noncomputable def L04_HeatTogether.h0 (n1 : (List (A3 Int))) (x1 : Firing × Field) (x2 : (List Int) × Int) : (Firing × Bool × Int × (List Want)) → St := fun (s : Firing × Bool × Int × (List Want)) => match s with
 | (s5, b6, i7, l8) => ⟨[(1, .sl 3 (List.map (A3.c eI) n1)), (5, .ptr 0 0 0), (7, .sl 1 (List.map eI x2.1)), (9, .loc 0 1 3 0 l8.length l8.length), (10, .ptr 0 2 0), (11, .bool b6), (12, .int .i64 i7)], [(0, .box [.sl 1 (List.map (eL 2 Range.c) x1.1.Kiln.Falls), .sl 6 (List.map Reading.c x1.1.Readings)]), (1, .arr 79 3 (List.map Want.c l8)), (2, .box [.sl 1 (List.map (eL 2 Range.c) s5.Kiln.Falls), .sl 6 (List.map Reading.c s5.Readings)])], [], 3, Try.f8.ntmps⟩
noncomputable def L04_HeatTogether.x0 (x1 : Firing × Field) (x2 : (List Int) × Int) : (Firing × Bool × (List Want)) → St := fun (s : Firing × Bool × (List Want)) => match s with
 | (s9, b10, l11) => ⟨[(5, .ptr 0 0 0), (7, .sl 1 (List.map eI x2.1)), (9, .loc 0 1 3 0 l11.length l11.length), (10, .ptr 0 2 0), (11, .bool b10)], [(0, .box [.sl 1 (List.map (eL 2 Range.c) x1.1.Kiln.Falls), .sl 6 (List.map Reading.c x1.1.Readings)]), (1, .arr 79 3 (List.map Want.c l11)), (2, .box [.sl 1 (List.map (eL 2 Range.c) s9.Kiln.Falls), .sl 6 (List.map Reading.c s9.Readings)])], [], 3, Try.f8.ntmps⟩
noncomputable def L04_HeatTogether.h1 (l11 : (List Want)) (x36 : (List Int) × Int) : Int → St := fun (i42 : Int) => ⟨[(9, .sl 3 (List.map Want.c l11)), (26, .sl 1 (List.map eI x36.1)), (28, .int .i64 i42)], [], [], 1, Try.f8.ntmps⟩
noncomputable def L04_HeatTogether.x1 : Unit → St := fun (_ : Unit) => ⟨[], [], [], 1, Try.f8.ntmps⟩
def L04_HeatTogether (k : Nat) (r0 : R04_Raw) (n1 : (List (A3 Int))) : Option (Bool) :=
 (R04_Made k r0).bind fun x1 =>
 (heat_Heats k x1.1.Kiln x1.2).bind fun x2 =>
 bif decide (x2.2 = (0 : Int)) then
  bif decide ((x2.1.length : Int) = (0 : Int)) then
   some false
  else
   (whl (L04_HeatTogether.b0 k n1 x1 x2) k (x1.1, true, 0, [])).bind fun r25 => match r25 with
   | .next _ => none
   | .ret v_ => some v_
   | .brk (s9, b10, l11) =>
    (heat_Together k x1.1 l11).bind fun x26 =>
    (heat_Sound k s9).bind fun x27 =>
    (heat_Show k x1.1 l11).bind fun x28 =>
    bif decide (x26.2 = (0 : Int)) then
     bif decide (x27.2 = (0 : Int)) then
      bif ((decide (x26.1 = (1 : Int))) == b10) then
       bif (!((decide (x26.1 = (0 : Int))) == (!x27.1))) then
        some false
       else
        bif decide (x26.1 = (0 : Int)) then
         bif decide (x28.2 = (3 : Int)) then
          (L04_sane k).bind fun x35 =>
          some x35
         else
          some false
        else
         (heat_Heats k x1.1.Kiln x28.1).bind fun x36 =>
         bif decide (x28.2 = (0 : Int)) then
          bif decide (x36.2 = (0 : Int)) then
           bif decide ((x36.1.length : Int) = (x2.1.length : Int)) then
            (heat_CheckField k x1.1 x28.1).bind fun x40 =>
            bif (!decide (x40 = (0 : Int))) then
             some false
            else
             (whl (L04_HeatTogether.b1 k l11 x36) k 0).bind fun r48 => match r48 with
             | .next _ => none
             | .ret v_ => some v_
             | .brk _ =>
              (L04_sane k).bind fun x49 =>
              some x49
           else
            some false
          else
           some false
         else
          some false
      else
       some false
     else
      some false
    else
     some false
 else
  some false
theorem L04_HeatTogether_ok (k : Nat) (r0 : R04_Raw) (n1 : (List (A3 Int))) (r : Bool) (h0 : L04_HeatTogether k r0 n1 = some r) : PCall Try.prog 8 [.agg (R04_Raw.c r0), .sl 3 (List.map (A3.c eI) n1)] (fun y => y = .bool r) := by
 refine PB (fn := Try.f8) (sc := F8.c) ?_
 refine rS ?_
 simp only [L04_HeatTogether] at h0
 try simp only [F8.c, go_sem]
 obtain ⟨x1, yx1, h0⟩ := bs h0
 refine zc0 (R04_Made_ok k _ _ yx1) ?_ (by first | rfl | simp [AV.refsL, AV.refs, AV.scal, AV.leaf]) ?_
 try simp only [go_sem]
 try simp only [go_sem]
 obtain ⟨x2, yx2, h0⟩ := bs h0
 refine zc0 (heat_Heats_ok k _ _ _ yx2) ?_ (by first | rfl | simp [AV.refsL, AV.refs, AV.scal, AV.leaf]) ?_
 try simp only [go_sem]
 try simp only [go_sem]
 refine AKev_bif h0 ?_ ?_ <;> intro c3 h0
 try simp only [c3, go_sem]
 refine AKev_bif h0 ?_ ?_ <;> intro c4 h0
 try simp only [c4, c3, go_sem]
 obtain rfl := Option.some.inj h0
 refine AKev_ret rfl ?_
 try simp only [F8.rs, c3, c4, go_sem]
 try simp only [c4, c3, go_sem]
 obtain ⟨r25, yr25, h0⟩ := bs h0
 refine AKev_loopS yr25 (L04_HeatTogether.h0 n1 x1 x2) (L04_HeatTogether.x0 x1 x2) ?_ ?_ ?_
 refine Weak.go [1, 5, 7, 9, 10, 11, 12] [112, 432, 464] rfl ?_
 try simp only [L04_HeatTogether.h0, c3, c4, go_sem]
 rintro ⟨s5, b6, i7, l8⟩ x_1 Bk1 Br1 h1 hnext1 hbrk1 hret1
 refine rS ?_
 simp only [L04_HeatTogether.b0] at h1
 try simp only [F8.s0, L04_HeatTogether.h0, c3, c4, go_sem]
 refine AKev_bif h1 ?_ ?_ <;> intro c12 h1
 try simp only [c12, c3, c4, go_sem]
 refine AKev_bif h1 ?_ ?_ <;> intro c13 h1
 try simp only [c13, c3, c4, c12, go_sem]
 obtain ⟨x14, yx14, h1⟩ := bs h1
 try simp only [aa yx14, (by decide : inRange (0 : Int) 3 = some 0), c3, c4, c12, c13, go_sem]
 obtain ⟨x15, yx15, h1⟩ := bs h1
 refine zc0 (R01_Mod_ok k _ _ _ yx15) ?_ (by first | rfl | simp [AV.refsL, AV.refs, AV.scal, AV.leaf]) ?_
 try simp only [c3, c4, c12, c13, aa yx14, go_sem]
 try simp only [c3, c4, c12, c13, aa yx14, go_sem]
 refine AKev_region T_ok follows_ok 1000 ?_
 try simp only [c3, c4, c12, c13, aa yx14, go_sem]
 obtain ⟨x16, yx16, h1⟩ := bs h1
 try simp only [aa yx16, aa yx14, (by decide : inRange (1 : Int) 3 = some 1), c3, c4, c12, c13, go_sem]
 obtain ⟨x17, yx17, h1⟩ := bs h1
 refine DG_call0 1000 (R01_Mod_ok k _ _ _ yx17) ?_ (by first | rfl | simp [AV.refsL, AV.refs, AV.scal, AV.leaf]) ?_
 try simp only [c3, c4, c12, c13, aa yx14, aa yx16, go_sem]
 try simp only [c3, c4, c12, c13, aa yx14, aa yx16, go_sem]
 refine DG_done ⟨rfl, run_sound T_ok 1000 _ _ ?_⟩
 try simp only [aa yx14, (by decide : inRange (2 : Int) 3 = some 2), c3, c4, c12, c13, aa yx16, go_sem]
 obtain ⟨x18, yx18, h1⟩ := bs h1
 refine zc0 (R01_Mod_ok k _ _ _ yx18) ?_ (by first | rfl | simp [AV.refsL, AV.refs, AV.scal, AV.leaf]) ?_
 try simp only [c3, c4, c12, c13, aa yx14, aa yx16, go_sem]
 try simp only [c3, c4, c12, c13, aa yx14, aa yx16, go_sem]
 obtain ⟨l19, yl19, h1⟩ := bs h1
 have eyl19 := push_map Want.c yl19
 have tyl19 := push_take Want.c yl19
 have nyl19 := push_len yl19
 have myl19 := push_room yl19
 try simp only [c3, c4, c12, c13, aa yx14, aa yx16, go_sem] at eyl19 tyl19 nyl19 myl19
 try simp only [myl19, eyl19, c3, c4, c12, c13, aa yx14, aa yx16, nyl19, tyl19, go_sem]
 obtain ⟨x20, yx20, h1⟩ := bs h1
 refine zc0 (heat_Verdict_ok k _ _ _ _ yx20) ?_ (by first | rfl | simp [AV.refsL, AV.refs, AV.scal, AV.leaf]) ?_
 try simp only [c3, c4, c12, c13, aa yx14, aa yx16, eyl19, nyl19, tyl19, go_sem]
 try simp only [c3, c4, c12, c13, aa yx14, aa yx16, eyl19, nyl19, tyl19, go_sem]
 obtain ⟨x21, yx21, h1⟩ := bs h1
 refine zc0 (heat_With_ok k _ _ _ yx21) ?_ (by first | rfl | simp [AV.refsL, AV.refs, AV.scal, AV.leaf]) ?_
 try simp only [c3, c4, c12, c13, aa yx14, aa yx16, eyl19, nyl19, tyl19, go_sem]
 try simp only [c3, c4, c12, c13, aa yx14, aa yx16, eyl19, nyl19, tyl19, go_sem]
 refine AKev_bif h1 ?_ ?_ <;> intro c22 h1
 try simp only [c22, c3, c4, c12, c13, aa yx14, aa yx16, eyl19, nyl19, tyl19, go_sem]
 refine AKev_bif h1 ?_ ?_ <;> intro c23 h1
 have c23 := bnot_t c23
 try simp only [c23, c3, c4, c12, c13, aa yx14, aa yx16, eyl19, nyl19, tyl19, c22, go_sem]
 obtain rfl := hret1 _ (Option.some.inj h1).symm
 simp only at h0
 obtain rfl := Option.some.inj h0
 refine AKev_ret rfl ?_
 try simp only [F8.rs, c3, c4, c12, c13, aa yx14, aa yx16, eyl19, nyl19, tyl19, c22, c23, go_sem]
 have c23 := bnot_f c23
 try simp only [c23, c3, c4, c12, c13, aa yx14, aa yx16, eyl19, nyl19, tyl19, c22, go_sem]
 refine AKev_bif h1 ?_ ?_ <;> intro c24 h1
 try simp only [c24, c3, c4, c12, c13, aa yx14, aa yx16, eyl19, nyl19, tyl19, c22, c23, go_sem]
 refine AKev_backB (hnext1 _ _ (Option.some.inj h1).symm ?_)
 refine Weak.go [1, 5, 7, 9, 10, 11, 12] [0, 1, 2] rfl ?_
 try simp only [L04_HeatTogether.h0, c3, c4, c12, c13, aa yx14, aa yx16, eyl19, nyl19, tyl19, c22, c23, c24, go_sem]
 try simp only [c24, c3, c4, c12, c13, aa yx14, aa yx16, eyl19, nyl19, tyl19, c22, c23, go_sem]
 refine AKev_backB (hnext1 _ _ (Option.some.inj h1).symm ?_)
 refine Weak.go [1, 5, 7, 9, 10, 11, 12] [0, 1, 2] rfl ?_
 try simp only [L04_HeatTogether.h0, c3, c4, c12, c13, aa yx14, aa yx16, eyl19, nyl19, tyl19, c22, c23, c24, go_sem]
 try simp only [c22, c3, c4, c12, c13, aa yx14, aa yx16, eyl19, nyl19, tyl19, go_sem]
 obtain rfl := hret1 _ (Option.some.inj h1).symm
 simp only at h0
 obtain rfl := Option.some.inj h0
 refine AKev_ret rfl ?_
 try simp only [F8.rs, c3, c4, c12, c13, aa yx14, aa yx16, eyl19, nyl19, tyl19, c22, go_sem]
 try simp only [c13, c3, c4, c12, go_sem]
 refine AKev_backB (hbrk1 _ _ (Option.some.inj h1).symm ?_)
 refine Weak.go [5, 7, 9, 10, 11] [0, 1, 2] rfl ?_
 try simp only [L04_HeatTogether.x0, c3, c4, c12, c13, go_sem]
 try simp only [c12, c3, c4, go_sem]
 refine AKev_backB (hbrk1 _ _ (Option.some.inj h1).symm ?_)
 refine Weak.go [5, 7, 9, 10, 11] [0, 1, 2] rfl ?_
 try simp only [L04_HeatTogether.x0, c3, c4, c12, go_sem]
 rintro ⟨s9, b10, l11⟩ hr_
 subst hr_
 simp only at h0
 try simp only [L04_HeatTogether.x0, c3, c4, go_sem]
 refine AK.weak (Weak.fz 1 rfl (fun _ h => by cases h)) ?_
 try simp only [c3, c4, go_sem]
 refine rS ?_
 try simp only [L04_HeatTogether.x0, c3, c4, go_sem]
 obtain ⟨x26, yx26, h0⟩ := bs h0
 refine zc0 (heat_Together_ok k _ _ _ yx26) ?_ (by first | rfl | simp [AV.refsL, AV.refs, AV.scal, AV.leaf]) ?_
 try simp only [c3, c4, go_sem]
 try simp only [c3, c4, go_sem]
 obtain ⟨x27, yx27, h0⟩ := bs h0
 refine zc0 (heat_Sound_ok k _ _ yx27) ?_ (by first | rfl | simp [AV.refsL, AV.refs, AV.scal, AV.leaf]) ?_
 try simp only [c3, c4, go_sem]
 try simp only [c3, c4, go_sem]
 obtain ⟨x28, yx28, h0⟩ := bs h0
 refine zc0 (heat_Show_ok k _ _ _ yx28) ?_ (by first | rfl | simp [AV.refsL, AV.refs, AV.scal, AV.leaf]) ?_
 try simp only [c3, c4, go_sem]
 try simp only [c3, c4, go_sem]
 refine AKev_bif h0 ?_ ?_ <;> intro c29 h0
 try simp only [c29, c3, c4, go_sem]
 refine AKev_bif h0 ?_ ?_ <;> intro c30 h0
 try simp only [c30, c3, c4, c29, go_sem]
 refine AKev_bif h0 ?_ ?_ <;> intro c31 h0
 try simp only [c31, c3, c4, c29, c30, go_sem]
 refine AKev_bif h0 ?_ ?_ <;> intro c32 h0
 have c32 := bnot_t c32
 try simp only [c32, c3, c4, c29, c30, c31, go_sem]
 obtain rfl := Option.some.inj h0
 refine AKev_ret rfl ?_
 try simp only [F8.rs, c3, c4, c29, c30, c31, c32, go_sem]
 have c32 := bnot_f c32
 try simp only [c32, c3, c4, c29, c30, c31, go_sem]
 refine AKev_bif h0 ?_ ?_ <;> intro c33 h0
 try simp only [c33, c3, c4, c29, c30, c31, c32, go_sem]
 refine AKev_bif h0 ?_ ?_ <;> intro c34 h0
 try simp only [c34, c3, c4, c29, c30, c31, c32, c33, go_sem]
 obtain ⟨x35, yx35, h0⟩ := bs h0
 refine zc0 (L04_sane_ok k _ yx35) ?_ (by first | rfl | simp [AV.refsL, AV.refs, AV.scal, AV.leaf]) ?_
 try simp only [c3, c4, c29, c30, c31, c32, c33, c34, go_sem]
 try simp only [c3, c4, c29, c30, c31, c32, c33, c34, go_sem]
 obtain rfl := Option.some.inj h0
 refine AKev_ret rfl ?_
 try simp only [F8.rs, c3, c4, c29, c30, c31, c32, c33, c34, go_sem]
 try simp only [c34, c3, c4, c29, c30, c31, c32, c33, go_sem]
 obtain rfl := Option.some.inj h0
 refine AKev_ret rfl ?_
 try simp only [F8.rs, c3, c4, c29, c30, c31, c32, c33, c34, go_sem]
 try simp only [c33, c3, c4, c29, c30, c31, c32, go_sem]
 obtain ⟨x36, yx36, h0⟩ := bs h0
 refine zc0 (heat_Heats_ok k _ _ _ yx36) ?_ (by first | rfl | simp [AV.refsL, AV.refs, AV.scal, AV.leaf]) ?_
 try simp only [c3, c4, c29, c30, c31, c32, c33, go_sem]
 try simp only [c3, c4, c29, c30, c31, c32, c33, go_sem]
 refine AKev_bif h0 ?_ ?_ <;> intro c37 h0
 try simp only [c37, c3, c4, c29, c30, c31, c32, c33, go_sem]
 refine AKev_bif h0 ?_ ?_ <;> intro c38 h0
 try simp only [c38, c3, c4, c29, c30, c31, c32, c33, c37, go_sem]
 refine AKev_bif h0 ?_ ?_ <;> intro c39 h0
 try simp only [c39, c3, c4, c29, c30, c31, c32, c33, c37, c38, go_sem]
 obtain ⟨x40, yx40, h0⟩ := bs h0
 refine zc0 (heat_CheckField_ok k _ _ _ yx40) ?_ (by first | rfl | simp [AV.refsL, AV.refs, AV.scal, AV.leaf]) ?_
 try simp only [c3, c4, c29, c30, c31, c32, c33, c37, c38, c39, go_sem]
 try simp only [c3, c4, c29, c30, c31, c32, c33, c37, c38, c39, go_sem]
 refine AKev_bif h0 ?_ ?_ <;> intro c41 h0
 have c41 := bnot_t c41
 try simp only [c41, c3, c4, c29, c30, c31, c32, c33, c37, c38, c39, go_sem]
 obtain rfl := Option.some.inj h0
 refine AKev_ret rfl ?_
 try simp only [F8.rs, c3, c4, c29, c30, c31, c32, c33, c37, c38, c39, c41, go_sem]
 have c41 := bnot_f c41
 try simp only [c41, c3, c4, c29, c30, c31, c32, c33, c37, c38, c39, go_sem]
 obtain ⟨r48, yr48, h0⟩ := bs h0
 refine AKev_loopS yr48 (L04_HeatTogether.h1 l11 x36) (L04_HeatTogether.x1) ?_ ?_ ?_
 refine Weak.go [9, 26, 28] [] rfl ?_
 try simp only [L04_HeatTogether.h1, c3, c4, c29, c30, c31, c32, c33, c37, c38, c39, c41, go_sem]
 rintro i42 x_1 Bk1 Br1 h1 hnext1 hbrk1 hret1
 refine rS ?_
 simp only [L04_HeatTogether.b1] at h1
 try simp only [F8.s1, L04_HeatTogether.h1, c3, c4, c29, c30, c31, c32, c33, c37, c38, c39, c41, go_sem]
 refine AKev_bif h1 ?_ ?_ <;> intro c43 h1
 try simp only [c43, c3, c4, c29, c30, c31, c32, c33, c37, c38, c39, c41, go_sem]
 refine AKev_region T_ok follows_ok 1000 ?_
 try simp only [c3, c4, c29, c30, c31, c32, c33, c37, c38, c39, c41, c43, go_sem]
 obtain ⟨x44, yx44, h1⟩ := bs h1
 try simp only [aa yx44, c3, c4, c29, c30, c31, c32, c33, c37, c38, c39, c41, c43, go_sem]
 obtain ⟨x45, yx45, h1⟩ := bs h1
 try simp only [aa yx45, aa yx44, c3, c4, c29, c30, c31, c32, c33, c37, c38, c39, c41, c43, go_sem]
 refine DG_bif h1 ?_ ?_ <;> intro c46 h1
 have c46 := bnot_t c46
 try simp only [c46, aa yx44, aa yx45, c3, c4, c29, c30, c31, c32, c33, c37, c38, c39, c41, c43, go_sem]
 refine DG_done ⟨rfl, run_sound T_ok 1000 _ _ ?_⟩
 try simp only [c3, c4, c29, c30, c31, c32, c33, c37, c38, c39, c41, c43, aa yx44, aa yx45, c46, go_sem]
 refine AKev_bif h1 ?_ ?_ <;> intro c47 h1
 try simp only [c47, c3, c4, c29, c30, c31, c32, c33, c37, c38, c39, c41, c43, aa yx44, aa yx45, c46, go_sem]
 obtain rfl := hret1 _ (Option.some.inj h1).symm
 simp only at h0
 obtain rfl := Option.some.inj h0
 refine AKev_ret rfl ?_
 try simp only [F8.rs, c3, c4, c29, c30, c31, c32, c33, c37, c38, c39, c41, c43, aa yx44, aa yx45, c46, c47, go_sem]
 try simp only [c47, c3, c4, c29, c30, c31, c32, c33, c37, c38, c39, c41, c43, aa yx44, aa yx45, c46, go_sem]
 refine AKev_backB (hnext1 _ _ (Option.some.inj h1).symm ?_)
 refine Weak.go [9, 26, 28] [] rfl ?_
 try simp only [L04_HeatTogether.h1, c3, c4, c29, c30, c31, c32, c33, c37, c38, c39, c41, c43, aa yx44, aa yx45, c46, c47, go_sem]
 have c46 := bnot_f c46
 try simp only [c46, c3, c4, c29, c30, c31, c32, c33, c37, c38, c39, c41, c43, aa yx44, aa yx45, go_sem]
 refine DG_done ⟨rfl, run_sound T_ok 1000 _ _ ?_⟩
 try simp only [c3, c4, c29, c30, c31, c32, c33, c37, c38, c39, c41, c43, aa yx44, aa yx45, c46, go_sem]
 obtain rfl := hret1 _ (Option.some.inj h1).symm
 simp only at h0
 obtain rfl := Option.some.inj h0
 refine AKev_ret rfl ?_
 try simp only [F8.rs, c3, c4, c29, c30, c31, c32, c33, c37, c38, c39, c41, c43, aa yx44, aa yx45, c46, go_sem]
 try simp only [c43, c3, c4, c29, c30, c31, c32, c33, c37, c38, c39, c41, go_sem]
 refine AKev_backB (hbrk1 _ _ (Option.some.inj h1).symm ?_)
 refine Weak.go [] [] rfl ?_
 try simp only [L04_HeatTogether.x1, c3, c4, c29, c30, c31, c32, c33, c37, c38, c39, c41, c43, go_sem]
 rintro _ hr_
 subst hr_
 simp only at h0
 refine rS ?_
 try simp only [L04_HeatTogether.x1, c3, c4, c29, c30, c31, c32, c33, c37, c38, c39, c41, go_sem]
 obtain ⟨x49, yx49, h0⟩ := bs h0
 refine zc0 (L04_sane_ok k _ yx49) ?_ (by first | rfl | simp [AV.refsL, AV.refs, AV.scal, AV.leaf]) ?_
 try simp only [c3, c4, c29, c30, c31, c32, c33, c37, c38, c39, c41, go_sem]
 try simp only [c3, c4, c29, c30, c31, c32, c33, c37, c38, c39, c41, go_sem]
 obtain rfl := Option.some.inj h0
 refine AKev_ret rfl ?_
 try simp only [F8.rs, c3, c4, c29, c30, c31, c32, c33, c37, c38, c39, c41, go_sem]
 try simp only [c39, c3, c4, c29, c30, c31, c32, c33, c37, c38, go_sem]
 obtain rfl := Option.some.inj h0
 refine AKev_ret rfl ?_
 try simp only [F8.rs, c3, c4, c29, c30, c31, c32, c33, c37, c38, c39, go_sem]
 try simp only [c38, c3, c4, c29, c30, c31, c32, c33, c37, go_sem]
 obtain rfl := Option.some.inj h0
 refine AKev_ret rfl ?_
 try simp only [F8.rs, c3, c4, c29, c30, c31, c32, c33, c37, c38, go_sem]
 try simp only [c37, c3, c4, c29, c30, c31, c32, c33, go_sem]
 obtain rfl := Option.some.inj h0
 refine AKev_ret rfl ?_
 try simp only [F8.rs, c3, c4, c29, c30, c31, c32, c33, c37, go_sem]
 try simp only [c31, c3, c4, c29, c30, go_sem]
 obtain rfl := Option.some.inj h0
 refine AKev_ret rfl ?_
 try simp only [F8.rs, c3, c4, c29, c30, c31, go_sem]
 try simp only [c30, c3, c4, c29, go_sem]
 obtain rfl := Option.some.inj h0
 refine AKev_ret rfl ?_
 try simp only [F8.rs, c3, c4, c29, c30, go_sem]
 try simp only [c29, c3, c4, go_sem]
 obtain rfl := Option.some.inj h0
 refine AKev_ret rfl ?_
 try simp only [F8.rs, c3, c4, c29, go_sem]
 try simp only [c3, go_sem]
 obtain rfl := Option.some.inj h0
 refine AKev_ret rfl ?_
 try simp only [F8.rs, c3, go_sem]
end Go.Abs
namespace Go.Abs
open Go Go.Proofs Go.RowKit
set_option maxRecDepth 20000
def qB : Nat := reachBytes
theorem qB_le : qB ≤ 140737488351232 := by decide
theorem reads_3 : Reads qB Try.prog 3 eI i64ok := Reads.int Try.underlying3
theorem reads_52 : Reads qB Try.prog 52 (A2.c eI) (fun x : (A2 Int) => i64ok x.x0 ∧ i64ok x.x1) := (Reads.array Try.underlying52 (by kernel_rfl) (ReadsL.cons (off := 0) (sz := 1) (off' := 1) (tot := 2) rfl (by kernel_rfl) rfl reads_3 (ReadsL.cons (off := 1) (sz := 1) (off' := 2) (tot := 2) rfl (by kernel_rfl) rfl reads_3 (ReadsL.nil (off := 2) (tot := 2) (by decide))))).as (fun p => ⟨p.1, p.2.1⟩) (fun _ => rfl) (fun _ h => ⟨h.1, h.2.1⟩)
theorem reads_22 : Reads qB Try.prog 22 (eL 2 (A2.c eI)) (fun l => l.length ≤ Go.maxLen ∧ l.length * 16 ≤ qB ∧ ∀ a ∈ l, (fun x : (A2 Int) => i64ok x.x0 ∧ i64ok x.x1) a) := Reads.slice Try.underlying22 (by kernel_rfl) (by kernel_rfl) (by decide) reads_52
theorem reads_23 : Reads qB Try.prog 23 (eL 1 eI) (fun l => l.length ≤ Go.maxLen ∧ l.length * 8 ≤ qB ∧ ∀ a ∈ l, i64ok a) := Reads.slice Try.underlying23 (by kernel_rfl) (by kernel_rfl) (by decide) reads_3
theorem reads_90 : Reads qB Try.prog 90 (A4.c eI) (fun x : (A4 Int) => i64ok x.x0 ∧ i64ok x.x1 ∧ i64ok x.x2 ∧ i64ok x.x3) := (Reads.array Try.underlying90 (by kernel_rfl) (ReadsL.cons (off := 0) (sz := 1) (off' := 1) (tot := 4) rfl (by kernel_rfl) rfl reads_3 (ReadsL.cons (off := 1) (sz := 1) (off' := 2) (tot := 4) rfl (by kernel_rfl) rfl reads_3 (ReadsL.cons (off := 2) (sz := 1) (off' := 3) (tot := 4) rfl (by kernel_rfl) rfl reads_3 (ReadsL.cons (off := 3) (sz := 1) (off' := 4) (tot := 4) rfl (by kernel_rfl) rfl reads_3 (ReadsL.nil (off := 4) (tot := 4) (by decide))))))).as (fun p => ⟨p.1, p.2.1, p.2.2.1, p.2.2.2.1⟩) (fun _ => rfl) (fun _ h => ⟨h.1, h.2.1, h.2.2.1, h.2.2.2.1⟩)
theorem reads_24 : Reads qB Try.prog 24 (eL 4 (A4.c eI)) (fun l => l.length ≤ Go.maxLen ∧ l.length * 32 ≤ qB ∧ ∀ a ∈ l, (fun x : (A4 Int) => i64ok x.x0 ∧ i64ok x.x1 ∧ i64ok x.x2 ∧ i64ok x.x3) a) := Reads.slice Try.underlying24 (by kernel_rfl) (by kernel_rfl) (by decide) reads_90
def R04_Raw.q (x : R04_Raw) : Prop := i64ok x.Mouths ∧ i64ok x.Places ∧ (fun l => l.length ≤ Go.maxLen ∧ l.length * 16 ≤ qB ∧ ∀ a ∈ l, (fun x : (A2 Int) => i64ok x.x0 ∧ i64ok x.x1) a) x.Falls ∧ (fun l => l.length ≤ Go.maxLen ∧ l.length * 8 ≤ qB ∧ ∀ a ∈ l, i64ok a) x.Heats ∧ (fun l => l.length ≤ Go.maxLen ∧ l.length * 32 ≤ qB ∧ ∀ a ∈ l, (fun x : (A4 Int) => i64ok x.x0 ∧ i64ok x.x1 ∧ i64ok x.x2 ∧ i64ok x.x3) a) x.Readings
theorem reads_26 : Reads qB Try.prog 26 R04_Raw.c R04_Raw.q := (Reads.struct Try.underlying26 (by kernel_rfl) (ReadsL.cons (off := 0) (sz := 1) (off' := 1) (tot := 5) rfl (by kernel_rfl) rfl reads_3 (ReadsL.cons (off := 1) (sz := 1) (off' := 2) (tot := 5) rfl (by kernel_rfl) rfl reads_3 (ReadsL.cons (off := 2) (sz := 1) (off' := 3) (tot := 5) rfl (by kernel_rfl) rfl reads_22 (ReadsL.cons (off := 3) (sz := 1) (off' := 4) (tot := 5) rfl (by kernel_rfl) rfl reads_23 (ReadsL.cons (off := 4) (sz := 1) (off' := 5) (tot := 5) rfl (by kernel_rfl) rfl reads_24 (ReadsL.nil (off := 5) (tot := 5) (by decide)))))))).as (fun p => ⟨p.1, p.2.1, p.2.2.1, p.2.2.2.1, p.2.2.2.2.1⟩) (fun _ => rfl) (fun _ h => ⟨h.1, h.2.1, h.2.2.1, h.2.2.2.1, h.2.2.2.2.1⟩)
def Range.q (x : Range) : Prop := i64ok x.Lo ∧ i64ok x.Hi
def Kiln.q (x : Kiln) : Prop := (fun l => l.length ≤ Go.maxLen ∧ l.length * 24 ≤ qB ∧ ∀ a ∈ l, (fun l => l.length ≤ Go.maxLen ∧ l.length * 16 ≤ qB ∧ ∀ a ∈ l, Range.q a) a) x.Falls
def Reading.q (x : Reading) : Prop := i64ok x.Source ∧ i64ok x.Place ∧ i64ok x.Kind ∧ i64ok x.Mark ∧ Range.q x.Heat
def Firing.q (x : Firing) : Prop := Kiln.q x.Kiln ∧ (fun l => l.length ≤ Go.maxLen ∧ l.length * 48 ≤ qB ∧ ∀ a ∈ l, Reading.q a) x.Readings
def L04_Told.q (x : L04_Told) : Prop := i64ok x.Place ∧ i64ok x.N ∧ (fun _ => True) x.High
def HeatProof.q (x : HeatProof) : Prop := i64ok x.Reading ∧ (fun l => l.length ≤ Go.maxLen ∧ l.length * 8 ≤ qB ∧ ∀ a ∈ l, i64ok a) x.By
theorem reads_69 : Reads qB Try.prog 69 (A3.c eI) (fun x : (A3 Int) => i64ok x.x0 ∧ i64ok x.x1 ∧ i64ok x.x2) := (Reads.array Try.underlying69 (by kernel_rfl) (ReadsL.cons (off := 0) (sz := 1) (off' := 1) (tot := 3) rfl (by kernel_rfl) rfl reads_3 (ReadsL.cons (off := 1) (sz := 1) (off' := 2) (tot := 3) rfl (by kernel_rfl) rfl reads_3 (ReadsL.cons (off := 2) (sz := 1) (off' := 3) (tot := 3) rfl (by kernel_rfl) rfl reads_3 (ReadsL.nil (off := 3) (tot := 3) (by decide)))))).as (fun p => ⟨p.1, p.2.1, p.2.2.1⟩) (fun _ => rfl) (fun _ h => ⟨h.1, h.2.1, h.2.2.1⟩)
theorem reads_82 : Reads qB Try.prog 82 (eL 3 (A3.c eI)) (fun l => l.length ≤ Go.maxLen ∧ l.length * 24 ≤ qB ∧ ∀ a ∈ l, (fun x : (A3 Int) => i64ok x.x0 ∧ i64ok x.x1 ∧ i64ok x.x2) a) := Reads.slice Try.underlying82 (by kernel_rfl) (by kernel_rfl) (by decide) reads_69
end Go.Abs
namespace Go.Abs
open Go
set_option linter.unusedVariables false
theorem at_getD {α : Type} (d : α) {l : List α} {i : Int} (h0 : 0 ≤ i) (h1 : i < l.length) : at? l i = some (l.getD i.toNat d) := by
 unfold at?
 rw [if_pos ⟨h0, by omega⟩]
 rw [List.getElem?_eq_getElem (by omega), List.getD_eq_getElem?_getD, List.getElem?_eq_getElem (by omega)]
 rfl
theorem at_nat {α : Type} (d : α) {l : List α} {i : Nat} (h1 : i < l.length) : at? l (i : Int) = some (l.getD i d) := by
 have := at_getD d (l := l) (i := (i : Int)) (by omega) (by omega)
 simpa using this
theorem getD_mem {α : Type} (d : α) {l : List α} {i : Nat} (h : i < l.length) : l.getD i d ∈ l := by
 rw [List.getD_eq_getElem?_getD, List.getElem?_eq_getElem h]
 exact List.getElem_mem h
theorem getD_none {α : Type} {d : α} {l : List α} {i : Nat} (h : l.length ≤ i) : l.getD i d = d := by
 rw [List.getD_eq_getElem?_getD, List.getElem?_eq_none h]; rfl
theorem getD_of {α : Type} (d : α) {l : List α} {i : Nat} {x : α} (h : l[i]? = some x) : l.getD i d = x := by
 rw [List.getD_eq_getElem?_getD, h]; rfl
theorem range_drop_cons {i d : Nat} : (List.range' i (d + 1)) = i :: List.range' (i + 1) d := by
 rw [List.range'_succ]
theorem whl_eachN {R : Type} {body : Int → Option (Stp Int Unit R)} {n : Nat} {f : Nat → Option R} (hn : n ≤ 9223372036854775807) {k : Nat} (hk : n < k)
  (h1 : ∀ i, i < n → body (i : Int) = some (match f i with | some r => .ret r | none => .next (w64 ((i : Int) + 1)))) (h2 : body (n : Int) = some (.brk ())) :
  whl body k 0 = some (match (List.range n).findSome? f with | some r => .ret r | none => .brk ()) := by
 have h := whl_for (body := body) (n := n) (g := f) hn h1 h2 k n 0 (by omega) hk
 rw [Int.natCast_zero] at h
 rw [h]
 have key : ∀ d i, scan f i d = (List.range' i d).findSome? f := by
  intro d
  induction d with
  | zero => intro i; rfl
  | succ d ih =>
   intro i
   rw [range_drop_cons, List.findSome?_cons, scan, ih]
   cases f i <;> rfl
 rw [key, List.range_eq_range']
 cases (List.range' 0 n).findSome? f <;> rfl
theorem whl_allN {R : Type} {body : Int → Option (Stp Int Unit R)} {n : Nat} {p : Nat → Bool} {c : R} (hn : n ≤ 9223372036854775807) {k : Nat} (hk : n < k)
  (h1 : ∀ i, i < n → body (i : Int) = some (bif p i then .next (w64 ((i : Int) + 1)) else .ret c)) (h2 : body (n : Int) = some (.brk ())) :
  whl body k 0 = some (bif (List.range n).all p then .brk () else .ret c) := by
 have h := whl_eachN (body := body) (n := n) (f := fun i => bif p i then none else some c) hn hk (fun i hi => by rw [h1 i hi]; cases p i <;> rfl) h2
 rw [h]
 have : ∀ l : List Nat, l.findSome? (fun i => bif p i then none else some c) = bif l.all p then none else some c := by
  intro l
  induction l with
  | nil => rfl
  | cons x l ih =>
   rw [List.findSome?_cons, List.all_cons]
   cases hp : p x with
   | true => simpa using ih
   | false => simp
 rw [this]
 cases (List.range n).all p <;> rfl
theorem whl_allL {α R : Type} {l : List α} {body : Int → Option (Stp Int Unit R)} {p : α → Bool} {c : R} (hn : l.length ≤ 9223372036854775807) {k : Nat} (hk : l.length < k)
  (h1 : ∀ (i : Nat) x, l[i]? = some x → body (i : Int) = some (bif p x then .next (w64 ((i : Int) + 1)) else .ret c)) (h2 : body (l.length : Int) = some (.brk ())) :
  whl body k 0 = some (bif l.all p then .brk () else .ret c) := by
 have h := whl_each (body := body) (l := l) (f := fun i => bif p i then none else some c) hn hk (fun i x hi => by rw [h1 i x hi]; cases p x <;> rfl) h2
 rw [h]
 have : l.findSome? (fun i => bif p i then none else some c) = bif l.all p then none else some c := by
  clear h h1 h2 hn hk
  induction l with
  | nil => rfl
  | cons x l ih =>
   rw [List.findSome?_cons, List.all_cons]
   cases hp : p x with
   | true => simpa using ih
   | false => simp
 rw [this]
 cases l.all p <;> rfl
theorem whl_foldN {S R τ : Type} {n : Nat} {body : τ → Option (Stp τ S R)} (mk : Int → S → τ) (f : S → Nat → S) (Inv : Nat → S → Prop) (hn : n ≤ 9223372036854775807) {k : Nat} (hk : n < k) {s0 : S} (h0 : Inv 0 s0)
  (h1 : ∀ i s, i < n → Inv i s → body (mk (i : Int) s) = some (.next (mk (w64 ((i : Int) + 1)) (f s i))) ∧ Inv (i + 1) (f s i)) (h2 : ∀ s, Inv n s → body (mk (n : Int) s) = some (.brk s)) :
  whl body k (mk 0 s0) = some (.brk ((List.range n).foldl f s0)) ∧ Inv n ((List.range n).foldl f s0) := by
 have h := whl_fold (l := List.range n) (body := body) mk f Inv (by simpa using hn) (k := k) (by simpa using hk) h0 (fun i x s hx hI => by
  have hi : i < n := by have := (List.getElem?_eq_some_iff.1 hx).1; simpa using this
  have e : x = i := by have := hx; rw [List.getElem?_range hi] at this; exact (Option.some.inj this).symm
  subst e
  exact h1 x s hi hI) (fun s hI => by have := h2 s (by simpa using hI); simpa using this)
 exact ⟨h.1, by simpa using h.2⟩
theorem foldl_pushN {α : Type} (g : Nat → α) : ∀ (l : List Nat) (s : List α), l.foldl (fun s i => s ++ [g i]) s = s ++ l.map g
 | [], s => by simp
 | x :: l, s => by simp [foldl_pushN g l]
end Go.Abs
namespace Go.Abs
set_option linter.unusedVariables false
def mx (f : Nat → Int) : Nat → Int
 | 0 => f 0
 | n + 1 => max (mx f n) (f (n + 1))
theorem mx_le_iff (f : Nat → Int) (t : Int) : ∀ n, mx f n ≤ t ↔ ∀ j, j ≤ n → f j ≤ t
 | 0 => ⟨fun h j hj => by have h0 : j = 0 := Nat.le_zero.1 hj; subst h0; exact h, fun h => h 0 (Nat.le_refl _)⟩
 | n + 1 => by
  rw [mx, Int.max_le, mx_le_iff f t n]
  constructor
  ·rintro ⟨h1, h2⟩ j hj
   rcases Nat.lt_or_ge n j with h | h
   ·obtain rfl : j = n + 1 := by omega
    exact h2
   ·exact h1 j h
  ·exact fun h => ⟨fun j hj => h j (by omega), h _ (Nat.le_refl _)⟩
theorem le_mx_iff (f : Nat → Int) (t : Int) : ∀ n, t ≤ mx f n ↔ ∃ j, j ≤ n ∧ t ≤ f j
 | 0 => ⟨fun h => ⟨0, Nat.le_refl _, h⟩, fun ⟨j, hj, h⟩ => by have h0 : j = 0 := Nat.le_zero.1 hj; subst h0; exact h⟩
 | n + 1 => by
  rw [mx, show t ≤ max (mx f n) (f (n + 1)) ↔ t ≤ mx f n ∨ t ≤ f (n + 1) by omega, le_mx_iff f t n]
  constructor
  ·rintro (⟨j, h1, h2⟩ | h)
   ·exact ⟨j, by omega, h2⟩
   ·exact ⟨n + 1, Nat.le_refl _, h⟩
  ·rintro ⟨j, h1, h2⟩
   rcases Nat.lt_or_ge n j with h | h
   ·obtain rfl : j = n + 1 := by omega
    exact .inr h2
   ·exact .inl ⟨j, h, h2⟩
theorem eq_of_le_iff {a b : Int} (h : ∀ t, t ≤ a ↔ t ≤ b) : a = b := by
 have h1 := (h a).1 (Int.le_refl _)
 have h2 := (h b).2 (Int.le_refl _)
 omega
theorem eq_of_ge_iff {a b : Int} (h : ∀ t, a ≤ t ↔ b ≤ t) : a = b := by
 have h1 := (h a).1 (Int.le_refl _)
 have h2 := (h b).2 (Int.le_refl _)
 omega
structure Fur where
 m : Nat
 lo : Nat → Nat → Int
 hi : Nat → Nat → Int
 L : List (Nat × Int)
 M : List (Nat × Int)
namespace Fur
def Ok (f : Fur) : Prop := ∀ j p, 0 ≤ f.lo j p ∧ f.lo j p ≤ f.hi j p ∧ f.hi j p ≤ 3000
def U (f : Fur) (j : Nat) : Int := f.M.foldl (fun n x => min n (x.2 + f.hi j x.1)) 3000
theorem U_iff (f : Fur) (j : Nat) (t : Int) : t ≤ f.U j ↔ t ≤ 3000 ∧ ∀ x ∈ f.M, t ≤ x.2 + f.hi j x.1 := by
 have key : ∀ (M : List (Nat × Int)) (a : Int), t ≤ M.foldl (fun n x => min n (x.2 + f.hi j x.1)) a ↔ t ≤ a ∧ ∀ x ∈ M, t ≤ x.2 + f.hi j x.1 := by
  intro M
  induction M with
  | nil => simp
  | cons y M ih =>
   intro a
   rw [List.foldl_cons, ih, Int.le_min]
   simp only [List.forall_mem_cons, and_assoc]
 exact key _ _
theorem U_le (f : Fur) (j : Nat) : f.U j ≤ 3000 := ((f.U_iff j _).1 (Int.le_refl _)).1
theorem U_lim (f : Fur) (j : Nat) {x : Nat × Int} (h : x ∈ f.M) : f.U j ≤ x.2 + f.hi j x.1 := ((f.U_iff j _).1 (Int.le_refl _)).2 x h
def Sound (f : Fur) : Prop :=
 (∀ j, j ≤ f.m → 0 ≤ f.U j) ∧ ∀ x ∈ f.L, (∀ y ∈ f.M, y.1 = x.1 → x.2 ≤ y.2) ∧ ∃ j, j ≤ f.m ∧ x.2 + f.lo j x.1 ≤ f.U j
def High (f : Fur) (q : Nat) (t : Int) : Prop := (∃ j, j ≤ f.m ∧ t + f.lo j q ≤ f.U j) ∧ ∀ y ∈ f.M, y.1 = q → t ≤ y.2
def Low (f : Fur) (q : Nat) (t : Int) : Prop :=
 (∀ j, j ≤ f.m → -f.hi j q ≤ t) ∧ (∀ x ∈ f.L, x.1 = q → x.2 ≤ t) ∧ ∀ x ∈ f.L, x.1 ≠ q → ∃ j, j ≤ f.m ∧ x.2 + f.lo j x.1 ≤ f.U j ∧ x.2 + f.lo j x.1 - f.hi j q ≤ t
def IsField (f : Fur) (u : Nat → Int) (d : Nat → Nat → Int) : Prop := ∀ j, j ≤ f.m → 0 ≤ u j ∧ u j ≤ 3000 ∧ ∀ p, f.lo j p ≤ d j p ∧ d j p ≤ f.hi j p
def heat (f : Fur) (u : Nat → Int) (d : Nat → Nat → Int) (p : Nat) : Int := mx (fun j => u j - d j p) f.m
def Agrees (f : Fur) (u : Nat → Int) (d : Nat → Nat → Int) : Prop :=
 (∀ x ∈ f.L, x.2 ≤ f.heat u d x.1) ∧ ∀ y ∈ f.M, f.heat u d y.1 ≤ y.2
theorem Agrees.u {f : Fur} {u d} (hF : f.IsField u d) (h : f.Agrees u d) (j : Nat) (hj : j ≤ f.m) : u j ≤ f.U j := by
 rw [U_iff]
 refine ⟨(hF j hj).2.1, fun x hx => ?_⟩
 have h1 := (mx_le_iff _ _ _).1 (h.2 x hx) j hj
 have h2 := (hF j hj).2.2 x.1
 omega
theorem Agrees.high {f : Fur} {u d} (hF : f.IsField u d) (h : f.Agrees u d) (p : Nat) : f.High p (f.heat u d p) := by
 refine ⟨?_, fun y hy e => e ▸ h.2 y hy⟩
 obtain ⟨j, h1, h2⟩ := (le_mx_iff _ _ _).1 (Int.le_refl (f.heat u d p))
 refine ⟨j, h1, ?_⟩
 have h3 := h.u hF j h1
 have h4 := (hF j h1).2.2 p
 omega
theorem Agrees.low {f : Fur} {u d} (hF : f.IsField u d) (h : f.Agrees u d) (p : Nat) : f.Low p (f.heat u d p) := by
 have hm := (mx_le_iff (fun j => u j - d j p) (f.heat u d p) f.m).1 (Int.le_refl _)
 refine ⟨fun j hj => ?_, fun x hx e => e ▸ h.1 x hx, fun x hx _ => ?_⟩
 ·have h1 := hm j hj
  have h2 := hF j hj
  have h3 := h2.2.2 p
  omega
 ·obtain ⟨j, h1, h2⟩ := (le_mx_iff _ _ _).1 (h.1 x hx)
  have h3 := h.u hF j h1
  have h4 := (hF j h1).2.2 x.1
  have h5 := (hF j h1).2.2 p
  have h6 := hm j h1
  exact ⟨j, h1, by omega, by omega⟩
theorem Agrees.sound {f : Fur} {u d} (hF : f.IsField u d) (h : f.Agrees u d) : f.Sound := by
 refine ⟨fun j hj => Int.le_trans (hF j hj).1 (h.u hF j hj), fun x hx => ⟨fun y hy e => ?_, ?_⟩⟩
 ·have h1 := h.1 x hx
  have h2 := h.2 y hy
  rw [e] at h2
  omega
 ·obtain ⟨j, h1, h2⟩ := (le_mx_iff _ _ _).1 (h.1 x hx)
  have h3 := h.u hF j h1
  have h4 := (hF j h1).2.2 x.1
  exact ⟨j, h1, by omega⟩
def bst (p : Nat) (o : Option Int) (x : Nat × Int) : Option Int := if x.1 = p then some (match o with | none => x.2 | some n => min n x.2) else o
def best (M : List (Nat × Int)) (p : Nat) : Option Int := M.foldl (bst p) none
theorem best_iff (M : List (Nat × Int)) (p : Nat) : (best M p = none ↔ ∀ y ∈ M, y.1 ≠ p) ∧ ∀ n, best M p = some n → (∀ t, t ≤ n ↔ ∀ y ∈ M, y.1 = p → t ≤ y.2) ∧ ∃ y ∈ M, y.1 = p ∧ y.2 = n := by
 have key : ∀ (M K : List (Nat × Int)) (o : Option Int), ((o = none ↔ ∀ y ∈ K, y.1 ≠ p) ∧ ∀ n, o = some n → (∀ t, t ≤ n ↔ ∀ y ∈ K, y.1 = p → t ≤ y.2) ∧ ∃ y ∈ K, y.1 = p ∧ y.2 = n) →
   ((M.foldl (bst p) o = none ↔ ∀ y ∈ K ++ M, y.1 ≠ p) ∧ ∀ n, M.foldl (bst p) o = some n → (∀ t, t ≤ n ↔ ∀ y ∈ K ++ M, y.1 = p → t ≤ y.2) ∧ ∃ y ∈ K ++ M, y.1 = p ∧ y.2 = n) := by
  intro M
  induction M with
  | nil => intro K o h; simpa using h
  | cons x M ih =>
   intro K o h
   have h2 := ih (K ++ [x]) (bst p o x) ?_
   ·simpa only [List.append_assoc, List.cons_append, List.nil_append, List.foldl_cons] using h2
   ·by_cases hx : x.1 = p
    ·simp only [bst, hx, if_true]
     refine ⟨?_, fun n hn => ?_⟩
     ·constructor
      ·intro h; cases h
      ·intro h; exact absurd hx (h x (by simp))
     ·cases o with
      | none =>
       simp only [Option.some.injEq] at hn
       have h3 := h.1.1 rfl
       refine ⟨fun t => ⟨fun ht y hy e => ?_, fun ht => ?_⟩, x, by simp, hx, hn⟩
       ·rcases List.mem_append.1 hy with hy | hy
        ·exact absurd e (h3 y hy)
        ·simp only [List.mem_singleton] at hy; subst hy; omega
       ·have := ht x (by simp) hx; omega
      | some n0 =>
       simp only [Option.some.injEq] at hn
       obtain ⟨h3, y0, h4, h5, h6⟩ := h.2 n0 rfl
       refine ⟨fun t => ⟨fun ht y hy e => ?_, fun ht => ?_⟩, ?_⟩
       ·rcases List.mem_append.1 hy with hy | hy
        ·exact (h3 t).1 (by omega) y hy e
        ·simp only [List.mem_singleton] at hy; subst hy; omega
       ·have h7 := (h3 t).2 (fun y hy e => ht y (by simp [hy]) e)
        have h8 := ht x (by simp) hx
        omega
       ·by_cases hlt : n0 ≤ x.2
        ·exact ⟨y0, by simp [h4], h5, by omega⟩
        ·exact ⟨x, by simp, hx, by omega⟩
    ·simp only [bst, hx, if_false]
     refine ⟨?_, fun n hn => ?_⟩
     ·rw [h.1]
      constructor
      ·intro g y hy
       rcases List.mem_append.1 hy with hy | hy
       ·exact g y hy
       ·simp only [List.mem_singleton] at hy; subst hy; exact hx
      ·intro g y hy; exact g y (by simp [hy])
     ·obtain ⟨h3, y0, h4, h5, h6⟩ := h.2 n hn
      refine ⟨fun t => ?_, y0, by simp [h4], h5, h6⟩
      rw [h3]
      constructor
      ·intro g y hy e
       rcases List.mem_append.1 hy with hy | hy
       ·exact g y hy e
       ·simp only [List.mem_singleton] at hy; subst hy; exact absurd e hx
      ·intro g y hy e; exact g y (by simp [hy]) e
 have := key M [] none (by simp)
 simpa [best] using this
def gd (f : Fur) (j p : Nat) : Int := match best f.M p with | none => f.lo j p | some n => max (f.lo j p) (f.U j - n)
theorem gd_isField {f : Fur} (hk : f.Ok) (h : f.Sound) : f.IsField f.U f.gd := by
 intro j hj
 refine ⟨h.1 j hj, f.U_le j, fun p => ?_⟩
 have h1 := hk j p
 unfold gd
 cases hb : best f.M p with
 | none => simp only; omega
 | some n =>
  obtain ⟨_, y, h3, h4, h5⟩ := (best_iff f.M p).2 n hb
  have := f.U_lim j h3
  rw [h4] at this
  simp only
  omega
theorem gd_heat {f : Fur} (p : Nat) (t : Int) : t ≤ f.heat f.U f.gd p ↔ f.High p t := by
 unfold heat High
 rw [le_mx_iff]
 cases hb : best f.M p with
 | none =>
  have h1 := (best_iff f.M p).1.1 hb
  simp only [gd, hb]
  constructor
  ·rintro ⟨j, h2, h3⟩
   exact ⟨⟨j, h2, by omega⟩, fun y hy e => absurd e (h1 y hy)⟩
  ·rintro ⟨⟨j, h2, h3⟩, _⟩
   exact ⟨j, h2, by omega⟩
 | some n =>
  obtain ⟨h1, _⟩ := (best_iff f.M p).2 n hb
  simp only [gd, hb]
  rw [← h1]
  constructor
  ·rintro ⟨j, h2, h3⟩
   exact ⟨⟨j, h2, by omega⟩, by omega⟩
  ·rintro ⟨⟨j, h2, h3⟩, h4⟩
   exact ⟨j, h2, by omega⟩
theorem gd_agrees {f : Fur} (h : f.Sound) : f.Agrees f.U f.gd := by
 refine ⟨fun x hx => ?_, fun y hy => ?_⟩
 ·rw [gd_heat]
  obtain ⟨h1, h2⟩ := h.2 x hx
  exact ⟨h2, h1⟩
 ·exact ((gd_heat y.1 _).1 (Int.le_refl _)).2 y hy rfl
def ask (f : Fur) (q : Nat) (a b : Int) : Fur := { f with L := f.L ++ [(q, a)], M := f.M ++ [(q, b)] }
end Fur
end Go.Abs
namespace Go.Abs
set_option linter.unusedVariables false
namespace Fur
def Small (f : Fur) (P : Nat) : Prop := (∀ x ∈ f.L, x.1 < P ∧ -3000 ≤ x.2 ∧ x.2 ≤ 3000) ∧ ∀ x ∈ f.M, x.1 < P ∧ -3000 ≤ x.2 ∧ x.2 ≤ 3000
structure Lims (f : Fur) (P : Nat) (a b : Nat → Int) : Prop where
 hk : f.Ok
 sm : f.Small P
 A : ∀ p t, p < P → (a p ≤ t ↔ -1000000 ≤ t ∧ ∀ x ∈ f.L, x.1 = p → x.2 ≤ t)
 B : ∀ p t, p < P → (t ≤ b p ↔ t ≤ 1000000 ∧ ∀ y ∈ f.M, y.1 = p → t ≤ y.2)
namespace Lims
variable {f : Fur} {P : Nat} {a b : Nat → Int}
theorem b_le (h : Lims f P a b) {p : Nat} (hp : p < P) : b p ≤ 1000000 := ((h.B p _ hp).1 (Int.le_refl _)).1
theorem b_lim (h : Lims f P a b) {y : Nat × Int} (hy : y ∈ f.M) : b y.1 ≤ y.2 := ((h.B y.1 _ (h.sm.2 y hy).1).1 (Int.le_refl _)).2 y hy rfl
theorem b_att (h : Lims f P a b) {p : Nat} (hp : p < P) (hn : b p ≠ 1000000) : ∃ x ∈ f.M, x.1 = p ∧ x.2 = b p := by
 by_cases hc : ∃ x ∈ f.M, x.1 = p ∧ x.2 = b p
 ·exact hc
 ·exfalso
  have h0 := h.b_le hp
  have : b p + 1 ≤ b p := by
   rw [h.B p _ hp]
   refine ⟨by omega, fun x hx e => ?_⟩
   have h1 := h.b_lim hx
   rw [e] at h1
   have h2 : x.2 ≠ b p := fun e2 => hc ⟨x, hx, e, e2⟩
   omega
  omega
theorem U_iff (h : Lims f P a b) (j : Nat) (t : Int) : t ≤ f.U j ↔ t ≤ 3000 ∧ ∀ p, p < P → b p < 1000000 → t ≤ b p + f.hi j p := by
 rw [Fur.U_iff]
 constructor
 ·rintro ⟨h1, h2⟩
  refine ⟨h1, fun p hp hb => ?_⟩
  obtain ⟨y, hy, e, e2⟩ := h.b_att hp (by omega)
  have := h2 y hy
  rw [e, e2] at this
  exact this
 ·rintro ⟨h1, h2⟩
  refine ⟨h1, fun y hy => ?_⟩
  have h3 := h.b_lim hy
  have h4 := h.sm.2 y hy
  have := h2 y.1 h4.1 (by omega)
  omega
end Lims
end Fur
end Go.Abs
namespace Go.Abs
open Go
set_option linter.unusedVariables false
def KK : Nat := 18446744073709551616
theorem KK_big {n : Nat} (h : n ≤ Go.maxLen) : n < KK := by unfold KK; unfold Go.maxLen at h; omega
def Kiln.s (a : Kiln) : Prop := a.Falls.length ≤ Go.maxLen ∧ ∀ x ∈ a.Falls, x.length ≤ Go.maxLen
def Firing.s (f : Firing) : Prop := Kiln.s f.Kiln ∧ f.Readings.length ≤ Go.maxLen
theorem Kiln.q.s {a : Kiln} (q : Kiln.q a) : Kiln.s a := ⟨q.1, fun x hx => (q.2.2 x hx).1⟩
theorem Firing.q.s {f : Firing} (q : Firing.q f) : Firing.s f := ⟨q.1.s, q.2.1⟩
theorem maxLen_le {n : Nat} (h : n ≤ Go.maxLen) : n ≤ 9223372036854775807 := by unfold Go.maxLen at h; omega
theorem sane_KK : L04_sane KK = some true := by unfold KK; decide +kernel
set_option maxRecDepth 10000
def inB (n lo hi : Int) : Bool := decide (lo ≤ n) && decide (n ≤ hi)
theorem heat_in_eq (k : Nat) (n lo hi : Int) : heat_in k n lo hi = some (inB n lo hi) := by
 unfold heat_in inB; cases decide (lo ≤ n) <;> rfl
def rangeB (r : Range) (lo hi : Int) : Bool := decide (lo ≤ r.Lo) && (decide (r.Lo ≤ r.Hi) && decide (r.Hi ≤ hi))
def readB (places : Int) (r : Reading) : Bool :=
 inB r.Source 1 99999 && (inB r.Place 0 (w64 (places - 1)) &&
  (bif decide (r.Kind = (1 : Int)) then (inB r.Mark 1 2000 && (decide (r.Heat.Lo = (0 : Int)) && decide (r.Heat.Hi = (0 : Int))))
  else bif decide (r.Kind = (2 : Int)) then (inB r.Mark 1 2000 && (decide (r.Heat.Lo = (0 : Int)) && decide (r.Heat.Hi = (0 : Int))))
  else bif decide (r.Kind = (3 : Int)) then (decide (r.Mark = (0 : Int)) && rangeB r.Heat 1 2000) else false))
theorem heat_isReading_eq (k : Nat) (places : Int) (r : Reading) : heat_isReading k places r = some (readB places r) := by
 unfold heat_isReading readB rangeB
 simp only [heat_in_eq, Option.bind_some]
 cases inB r.Source 1 99999 <;> cases inB r.Place 0 (w64 (places - 1)) <;> cases decide (r.Kind = (1 : Int)) <;> cases decide (r.Kind = (2 : Int)) <;> cases decide (r.Kind = (3 : Int)) <;> cases inB r.Mark 1 2000 <;> cases decide (r.Mark = (0 : Int)) <;> cases decide ((1 : Int) ≤ r.Heat.Lo) <;> cases decide (r.Heat.Lo ≤ r.Heat.Hi) <;> rfl
theorem findSome_bif {α R : Type} (p : α → Bool) (c : R) : ∀ l : List α, l.findSome? (fun x => bif p x then none else some c) = bif l.all p then none else some c
 | [] => rfl
 | x :: l => by
  rw [List.findSome?_cons, List.all_cons]
  cases h : p x with
  | true => simp [findSome_bif p c l]
  | false => simp
theorem lt_dec {i n : Nat} (h : i < n) : decide ((i : Int) < (n : Int)) = true := by simp; omega
theorem lt_dec_self (n : Nat) : decide ((n : Int) < (n : Int)) = false := by simp
theorem len_dec {α β : Type} (a : List α) (b : List β) : decide ((a.length : Int) = (b.length : Int)) = decide (a.length = b.length) := by
 by_cases h : a.length = b.length
 ·simp [h]
 ·have : ¬ ((a.length : Int) = (b.length : Int)) := by omega
  simp [h, this]
def kilnB (a : Kiln) : Bool := inB a.Falls.length 1 6 && (inB (a.Falls.headD []).length 1 24 && a.Falls.all fun l => decide (l.length = (a.Falls.headD []).length) && l.all fun r => rangeB r 0 3000)
theorem bad_eq (k : Nat) (r : Range) : heat_CheckKiln_1 k r = some (!rangeB r 0 3000) := by
 unfold heat_CheckKiln_1 rangeB
 have h1 : decide (r.Lo < (0 : Int)) = !decide (0 ≤ r.Lo) := by by_cases h : 0 ≤ r.Lo <;> simp [h] <;> omega
 have h2 : decide (r.Hi < r.Lo) = !decide (r.Lo ≤ r.Hi) := by by_cases h : r.Lo ≤ r.Hi <;> simp [h] <;> omega
 have h3 : decide ((3000 : Int) < r.Hi) = !decide (r.Hi ≤ 3000) := by by_cases h : r.Hi ≤ 3000 <;> simp [h] <;> omega
 rw [h1, h2, h3]
 cases decide (0 ≤ r.Lo) <;> cases decide (r.Lo ≤ r.Hi) <;> rfl
theorem contains_Range {l : List Range} (hl : l.length ≤ Go.maxLen) {f : Range → Option Bool} {p : Range → Bool} (hf : ∀ x, f x = some (p x)) : slices_ContainsFunc_api_Range KK l f = some (l.any p) := by
 unfold slices_ContainsFunc_api_Range slices_IndexFunc_api_Range
 rw [indexFunc_gen (body := slices_IndexFunc_api_Range.b0 KK f l) (p := p) (fun x _ => hf x) (maxLen_le hl) (KK_big hl) rfl]
 have : l.any p = (l.findIdx? p).isSome := by rw [List.findIdx?_isSome]
 rw [this]
 cases l.findIdx? p with
 | none => rfl
 | some i => simp
theorem heat_CheckKiln_eq (a : Kiln) (q : Kiln.s a) : heat_CheckKiln KK a = some (bif kilnB a then 0 else 40) := by
 obtain ⟨q1, q2⟩ := q
 unfold heat_CheckKiln kilnB
 simp only [heat_in_eq, Option.bind_some]
 cases h0 : inB (a.Falls.length : Int) 1 6 with
 | false => rfl
 | true =>
  obtain ⟨x3, hx⟩ : ∃ x3, a.Falls[0]? = some x3 := by
   have : 0 < a.Falls.length := by simp [inB] at h0; omega
   exact ⟨_, List.getElem?_eq_getElem this⟩
  have hd : a.Falls.headD [] = x3 := by cases hF : a.Falls with | nil => rw [hF] at hx; cases hx | cons y l => rw [hF] at hx; simpa using hx
  have ha : at? a.Falls 0 = some x3 := by have := at_of hx; simpa using this
  simp only [ha, hd, cond_true, Option.bind_some, Bool.true_and]
  cases h1 : inB (x3.length : Int) 1 24 with
  | false => rfl
  | true =>
   simp only [Bool.not_true, cond_false, Bool.true_and]
   rw [whl_each (l := a.Falls) (f := fun l => bif (decide (l.length = x3.length) && l.all fun r => rangeB r 0 3000) then none else some 40) (maxLen_le q1) (KK_big q1) ?_ ?_]
   ·rw [findSome_bif]
    cases a.Falls.all _ <;> rfl
   ·intro i x hx
    have hi : i < a.Falls.length := (List.getElem?_eq_some_iff.1 hx).1
    unfold heat_CheckKiln.b0
    rw [lt_dec hi, at_of hx]
    simp only [cond_true, Option.bind_some, len_dec]
    rw [contains_Range (q2 x (List.mem_of_getElem? hx)) (fun r => bad_eq KK r)]
    have : (x.any fun r => !rangeB r 0 3000) = !(x.all fun r => rangeB r 0 3000) := by simp [List.all_eq_not_any_not]
    rw [this]
    cases decide (x.length = x3.length) <;> cases (x.all fun r => rangeB r 0 3000) <;> rfl
   ·unfold heat_CheckKiln.b0
    rw [lt_dec_self]; rfl
theorem kilnB_head {a : Kiln} (h : kilnB a = true) : ∃ x3, a.Falls[0]? = some x3 ∧ at? a.Falls 0 = some x3 ∧ a.Falls.headD [] = x3 := by
 have hpos : 0 < a.Falls.length := by simp [kilnB, inB] at h; omega
 obtain ⟨x3, hx⟩ : ∃ x3, a.Falls[0]? = some x3 := ⟨_, List.getElem?_eq_getElem hpos⟩
 exact ⟨x3, hx, by have := at_of hx; simpa using this, by cases hF : a.Falls with | nil => rw [hF] at hx; cases hx | cons y l => rw [hF] at hx; simpa using hx⟩
def firingCode (f : Firing) : Int := bif kilnB f.Kiln then (bif decide ((60 : Int) < (f.Readings.length : Int)) then 2 else bif f.Readings.all (readB ((f.Kiln.Falls.headD []).length : Int)) then 0 else 41) else 40
theorem heat_Check_eq (f : Firing) (q : Firing.s f) : heat_Check KK f = some (firingCode f) := by
 obtain ⟨q1, q2⟩ := q
 unfold heat_Check firingCode
 rw [heat_CheckKiln_eq _ q1]
 cases h : kilnB f.Kiln with
 | false => rfl
 | true =>
  obtain ⟨x3, h1, h2, h3⟩ := kilnB_head h
  simp only [Option.bind_some, cond_true, h3]
  simp only [decide_true, Bool.not_true, cond_false]
  cases decide ((60 : Int) < (f.Readings.length : Int)) with
  | true => rfl
  | false =>
   simp only [cond_false]
   rw [whl_each (l := f.Readings) (f := fun r => bif readB (x3.length : Int) r then none else some 41) (maxLen_le q2) (KK_big q2) ?_ ?_]
   ·rw [findSome_bif]
    have : (f.Readings.all fun r => readB (x3.length : Int) r) = f.Readings.all (readB (x3.length : Int)) := rfl
    rw [this]
    cases f.Readings.all (readB (x3.length : Int)) <;> rfl
   ·intro i r hr
    have hi : i < f.Readings.length := (List.getElem?_eq_some_iff.1 hr).1
    unfold heat_Check.b0
    rw [lt_dec hi, at_of hr]
    simp only [cond_true, Option.bind_some, h2, heat_isReading_eq]
    cases readB (x3.length : Int) r <;> rfl
   ·unfold heat_Check.b0
    rw [lt_dec_self]; rfl
end Go.Abs
namespace Go.Abs
open Go
set_option linter.unusedVariables false
theorem heat_kilnCopy_eq (a : Kiln) (h1 : a.Falls.length ≤ 1000) (h2 : ∀ x ∈ a.Falls, x.length ≤ 1000) : heat_kilnCopy KK a = some a := by
 unfold heat_kilnCopy
 have h := (whl_fold (l := a.Falls) (body := heat_kilnCopy.b0 KK a) (k := KK) (fun i s => (i, s)) (fun s x => s ++ [x]) (fun i s => s.length = i) (s0 := []) (by omega) (by unfold KK; omega) rfl ?_ ?_).1
 ·rw [h, foldl_push]; rfl
 ·intro i x s hx hI
  have hi : i < a.Falls.length := (List.getElem?_eq_some_iff.1 hx).1
  have hq := h2 x (List.mem_of_getElem? hx)
  refine ⟨?_, by simp [hI]⟩
  unfold heat_kilnCopy.b0 slices_Clone_api_Range
  simp only [lt_dec hi, at_of hx, cond_true, Option.bind_some]
  rw [room_of (by omega) (by omega)]
  simp only [Option.bind_some]
  rw [push_of (by omega) (by omega)]
  rfl
 ·intro s _
  unfold heat_kilnCopy.b0
  simp only [lt_dec_self]; rfl
theorem kilnB_small {a : Kiln} (h : kilnB a = true) : a.Falls.length ≤ 6 ∧ (a.Falls.headD []).length ≤ 24 ∧ ∀ x ∈ a.Falls, x.length = (a.Falls.headD []).length := by
 simp only [kilnB, inB, Bool.and_eq_true, decide_eq_true_eq, List.all_eq_true] at h
 obtain ⟨h1, h2, h3⟩ := h
 exact ⟨by omega, by omega, fun x hx => (h3 x hx).1⟩
theorem firing_small {f : Firing} (h : firingCode f = 0) : kilnB f.Kiln = true ∧ f.Readings.length ≤ 60 ∧ ∀ r ∈ f.Readings, readB ((f.Kiln.Falls.headD []).length : Int) r = true := by
 unfold firingCode at h
 cases h1 : kilnB f.Kiln with
 | false => rw [h1] at h; simp at h
 | true =>
  rw [h1] at h
  simp only [cond_true] at h
  by_cases h2 : (60 : Int) < (f.Readings.length : Int)
  ·simp [h2] at h
  ·simp only [h2, decide_false, cond_false] at h
   cases h3 : f.Readings.all (readB ((f.Kiln.Falls.headD []).length : Int)) with
   | false => rw [h3] at h; simp at h
   | true => exact ⟨rfl, by omega, fun r hr => List.all_eq_true.1 h3 r hr⟩
def withR (f : Firing) (r : Reading) : Firing × Int :=
 bif !decide (firingCode f = 0) then (⟨⟨[]⟩, []⟩, 42)
 else bif !readB ((f.Kiln.Falls.headD []).length : Int) r then (⟨⟨[]⟩, []⟩, 41)
 else bif decide ((f.Readings.length : Int) = 60) then (⟨⟨[]⟩, []⟩, 2)
 else (⟨f.Kiln, f.Readings ++ [r]⟩, 0)
theorem heat_With_eq (f : Firing) (q : Firing.s f) (r : Reading) : heat_With KK f r = some (withR f r) := by
 unfold heat_With withR
 rw [heat_Check_eq f q]
 simp only [Option.bind_some]
 by_cases h : firingCode f = 0
 ·obtain ⟨h1, h2, _⟩ := firing_small h
  obtain ⟨x3, g1, g2, g3⟩ := kilnB_head h1
  obtain ⟨s1, s2, s3⟩ := kilnB_small h1
  simp only [h, decide_true, Bool.not_true, cond_false, g2, g3, Option.bind_some, heat_isReading_eq]
  cases readB (x3.length : Int) r with
  | false => rfl
  | true =>
   simp only [Bool.not_true, cond_false]
   cases decide ((f.Readings.length : Int) = 60) with
   | true => rfl
   | false =>
    simp only [cond_false]
    rw [heat_kilnCopy_eq f.Kiln (by omega) (fun x hx => by rw [s3 x hx]; omega)]
    unfold slices_Clone_api_Reading
    rw [room_of (by omega) (by omega)]
    simp only [Option.bind_some]
    rw [push_of (by omega) (by omega)]
    rfl
 ·simp only [h, decide_false, Bool.not_false, cond_true]
end Go.Abs
namespace Go.Abs
open Go
set_option linter.unusedVariables false
theorem w64_succ {i n : Nat} (h : i < n) (hn : n ≤ 9223372036854775807) : w64 ((i : Int) + 1) = ((i + 1 : Nat) : Int) := by rw [w64_of (by omega) (by omega)]; omega
end Go.Abs
namespace Go.Abs
open Go
set_option linter.unusedVariables false
theorem take_succ_of {α : Type} {l : List α} {i : Nat} {x : α} (h : l[i]? = some x) : l.take (i + 1) = l.take i ++ [x] := by
 rw [List.take_add_one, h]; rfl
end Go.Abs
namespace Go.Abs
open Go
set_option linter.unusedVariables false
end Go.Abs
namespace Go.Abs
open Go
set_option linter.unusedVariables false
end Go.Abs
namespace Go.Abs
open Go
set_option linter.unusedVariables false
def R0 : Range := ⟨0, 0⟩
def Kiln.at (a : Kiln) (j p : Nat) : Range := (a.Falls.getD j []).getD p R0
def Kiln.P (a : Kiln) : Nat := (a.Falls.headD []).length
def lp (x : heat_limit) : Nat × Int := (x.place.toNat, x.heat)
def heat_furnace.fur (x : heat_furnace) : Fur := ⟨x.Firing.Kiln.Falls.length - 1, fun j p => (x.Firing.Kiln.at j p).Lo, fun j p => (x.Firing.Kiln.at j p).Hi, x.least.map lp, x.most.map lp⟩
def limOk (P : Nat) (x : heat_limit) : Prop := 0 ≤ x.place ∧ x.place < P ∧ -3000 ≤ x.heat ∧ x.heat ≤ 3000
structure heat_furnace.ok (x : heat_furnace) : Prop where
 k : kilnB x.Firing.Kiln = true
 ll : x.least.length ≤ 1000
 l : ∀ y ∈ x.least, limOk x.Firing.Kiln.P y
 ml : x.most.length ≤ 1000
 m : ∀ y ∈ x.most, limOk x.Firing.Kiln.P y
theorem kilnB_len {a : Kiln} (h : kilnB a = true) : 1 ≤ a.Falls.length ∧ a.Falls.length ≤ 6 ∧ 1 ≤ a.P ∧ a.P ≤ 24 := by
 simp only [kilnB, inB, Bool.and_eq_true, decide_eq_true_eq] at h
 have : a.P = (a.Falls.headD []).length := rfl
 omega
theorem kilnB_row {a : Kiln} (h : kilnB a = true) {j : Nat} (hj : j < a.Falls.length) : (a.Falls.getD j []).length = a.P := (kilnB_small h).2.2 _ (getD_mem [] hj)
theorem rangeB_iff {r : Range} : rangeB r 0 3000 = true ↔ 0 ≤ r.Lo ∧ r.Lo ≤ r.Hi ∧ r.Hi ≤ 3000 := by
 simp only [rangeB, Bool.and_eq_true, decide_eq_true_eq]
theorem kilnB_at {a : Kiln} (h : kilnB a = true) (j p : Nat) : 0 ≤ (a.at j p).Lo ∧ (a.at j p).Lo ≤ (a.at j p).Hi ∧ (a.at j p).Hi ≤ 3000 := by
 unfold Kiln.at
 by_cases hj : j < a.Falls.length
 ·by_cases hp : p < (a.Falls.getD j []).length
  ·have h1 := getD_mem R0 hp
   have h2 : rangeB ((a.Falls.getD j []).getD p R0) 0 3000 = true := by
    simp only [kilnB, Bool.and_eq_true, List.all_eq_true] at h
    exact (h.2.2 _ (getD_mem [] hj)).2 _ h1
   exact rangeB_iff.1 h2
  ·rw [getD_none (by omega)]
   decide
 ·rw [getD_none (l := a.Falls) (by omega)]
  simp [R0]
theorem at_row {a : Kiln} (h : kilnB a = true) {j : Nat} (hj : j < a.Falls.length) : at? a.Falls (j : Int) = some (a.Falls.getD j []) := at_nat [] hj
theorem at_cell {a : Kiln} (h : kilnB a = true) {j : Nat} (hj : j < a.Falls.length) {p : Int} (h0 : 0 ≤ p) (hp : p < a.P) : at? (a.Falls.getD j []) p = some (a.at j p.toNat) :=
 at_getD R0 h0 (by rw [kilnB_row h hj]; exact hp)
theorem at_cellN {a : Kiln} (h : kilnB a = true) {j : Nat} (hj : j < a.Falls.length) {p : Nat} (hp : p < a.P) : at? (a.Falls.getD j []) (p : Int) = some (a.at j p) :=
 at_nat R0 (by rw [kilnB_row h hj]; exact hp)
theorem fur_ok {x : heat_furnace} (h : x.ok) : x.fur.Ok := fun j p => kilnB_at h.k j p
def hotStep (x : heat_furnace) (j : Nat) (s : Int × Int) (y : heat_limit) : Int × Int := bif decide (y.heat + (x.Firing.Kiln.at j y.place.toNat).Hi < s.1) then (y.heat + (x.Firing.Kiln.at j y.place.toNat).Hi, y.by_) else s
def hot (x : heat_furnace) (j : Nat) : Int × Int := x.most.foldl (hotStep x j) (3000, -1)
theorem heat_hottest_eq {x : heat_furnace} (h : x.ok) {j : Nat} (hj : j < x.Firing.Kiln.Falls.length) : heat_furnace_hottest KK x (j : Int) = some (hot x j) := by
 have hml := h.ml
 unfold heat_furnace_hottest
 have h1 := (whl_fold (l := x.most) (body := heat_furnace_hottest.b0 KK x (j : Int)) (k := KK) (fun i s => (s.1, s.2, i)) (hotStep x j) (fun _ _ => True) (s0 := (3000, -1)) (by omega) (by unfold KK; omega) trivial ?_ ?_).1
 ·rw [h1]; rfl
 ·intro i y s hy _
  have hi : i < x.most.length := (List.getElem?_eq_some_iff.1 hy).1
  obtain ⟨g1, g2, g3, g4⟩ := h.m y (List.mem_of_getElem? hy)
  have g5 := kilnB_at h.k j y.place.toNat
  refine ⟨?_, trivial⟩
  unfold heat_furnace_hottest.b0 hotStep
  simp only [lt_dec hi, at_of hy, cond_true, Option.bind_some, at_row h.k hj, at_cell h.k hj g1 g2]
  rw [w64_of (n := y.heat + (x.Firing.Kiln.at j y.place.toNat).Hi) (by omega) (by omega)]
  cases decide (y.heat + (x.Firing.Kiln.at j y.place.toNat).Hi < s.1) <;> rfl
 ·intro s _
  unfold heat_furnace_hottest.b0
  simp only [lt_dec_self]; rfl
theorem hot_U (x : heat_furnace) (j : Nat) : (hot x j).1 = x.fur.U j := by
 have key : ∀ (l : List heat_limit) (s : Int × Int), (l.foldl (hotStep x j) s).1 = (l.map lp).foldl (fun n y => min n (y.2 + x.fur.hi j y.1)) s.1 := by
  intro l
  induction l with
  | nil => intro s; rfl
  | cons y l ih =>
   intro s
   rw [List.foldl_cons, ih, List.map_cons, List.foldl_cons]
   congr 1
   unfold hotStep
   show _ = min s.1 (y.heat + (x.Firing.Kiln.at j y.place.toNat).Hi)
   by_cases hc : y.heat + (x.Firing.Kiln.at j y.place.toNat).Hi < s.1
   ·simp only [hc, decide_true, cond_true]; omega
   ·simp only [hc, decide_false, cond_false]; omega
 exact key _ _
theorem U_ge {x : heat_furnace} (h : x.ok) (j : Nat) : -3000 ≤ x.fur.U j ∧ x.fur.U j ≤ 3000 := by
 refine ⟨?_, x.fur.U_le j⟩
 rw [Fur.U_iff]
 refine ⟨by omega, fun y hy => ?_⟩
 obtain ⟨z, hz, rfl⟩ := List.mem_map.1 hy
 have := (h.m z hz).2.2
 have := (fur_ok h j (lp z).1)
 show -3000 ≤ z.heat + _
 omega
def bestStep (p : Int) (s : heat_limit × Bool) (y : heat_limit) : heat_limit × Bool := bif decide (y.place = p) then (bif s.2 then (bif decide (y.heat < s.1.heat) then (y, true) else s) else (y, true)) else s
def bestL (l : List heat_limit) (p : Int) : heat_limit × Bool := l.foldl (bestStep p) (⟨0, 0, 0⟩, false)
theorem heat_best_eq (l : List heat_limit) (hl : l.length ≤ 1000) (p : Int) : heat_best KK l p (fun q0 q1 => heat_less KK q0 q1) = some (bestL l p) := by
 unfold heat_best
 have h1 := (whl_fold (l := l) (body := heat_best.b0 KK (fun q0 q1 => heat_less KK q0 q1) l p) (k := KK) (fun i s => (s.1, s.2, i)) (bestStep p) (fun _ _ => True) (s0 := (⟨0, 0, 0⟩, false)) (by omega) (by unfold KK; omega) trivial ?_ ?_).1
 ·rw [h1]; rfl
 ·intro i y s hy _
  have hi : i < l.length := (List.getElem?_eq_some_iff.1 hy).1
  refine ⟨?_, trivial⟩
  unfold heat_best.b0 bestStep heat_less
  obtain ⟨s1, s2⟩ := s
  simp only [lt_dec hi, at_of hy, cond_true, Option.bind_some]
  cases decide (y.place = p) <;> cases s2 <;> cases decide (y.heat < s1.heat) <;> rfl
 ·intro s _
  unfold heat_best.b0
  simp only [lt_dec_self]; rfl
theorem bestL_some (l : List heat_limit) (p : Nat) (hl : ∀ y ∈ l, 0 ≤ y.place) : Fur.best (l.map lp) p = bif (bestL l p).2 then some (bestL l p).1.heat else none := by
 have key : ∀ (l : List heat_limit) (s : heat_limit × Bool), (∀ y ∈ l, 0 ≤ y.place) → (l.map lp).foldl (Fur.bst p) (bif s.2 then some s.1.heat else none) = bif (l.foldl (bestStep p) s).2 then some (l.foldl (bestStep p) s).1.heat else none := by
  intro l
  induction l with
  | nil => intro s _; rfl
  | cons y l ih =>
   intro s hl
   rw [List.map_cons, List.foldl_cons, List.foldl_cons, ← ih _ (fun z hz => hl z (List.mem_cons_of_mem _ hz))]
   congr 1
   have h0 := hl y (by simp)
   unfold bestStep Fur.bst
   obtain ⟨s1, s2⟩ := s
   by_cases hp : y.place = (p : Int)
   ·have hp2 : (lp y).1 = p := by show y.place.toNat = p; omega
    simp only [hp, hp2, decide_true, cond_true, if_true]
    cases s2 with
    | false => rfl
    | true =>
     simp only [cond_true]
     by_cases hc : y.heat < s1.heat
     ·simp only [hc, decide_true, cond_true, Option.some.injEq]
      show min s1.heat y.heat = y.heat
      omega
     ·simp only [hc, decide_false, cond_false, cond_true, Option.some.injEq]
      show min s1.heat y.heat = s1.heat
      omega
   ·have hp2 : ¬ (lp y).1 = p := by show ¬ y.place.toNat = p; omega
    simp only [hp, hp2, decide_false, cond_false, if_false]
 exact key l (⟨0, 0, 0⟩, false) hl
theorem bestL_mem (l : List heat_limit) (p : Int) : (bestL l p).2 = true → (bestL l p).1 ∈ l ∧ (bestL l p).1.place = p := by
 have key : ∀ (l K : List heat_limit) (s : heat_limit × Bool), (s.2 = true → s.1 ∈ K ∧ s.1.place = p) → (l.foldl (bestStep p) s).2 = true → (l.foldl (bestStep p) s).1 ∈ K ++ l ∧ (l.foldl (bestStep p) s).1.place = p := by
  intro l
  induction l with
  | nil => intro K s h; simpa using h
  | cons y l ih =>
   intro K s h
   have h2 := ih (K ++ [y]) (bestStep p s y) ?_
   ·simpa using h2
   ·unfold bestStep
    by_cases hp : y.place = p
    ·simp only [hp, decide_true, cond_true]
     cases hs : s.2 with
     | false => simp [hp]
     | true =>
      have := h hs
      cases decide (y.heat < s.1.heat) with
      | true => simp [hp]
      | false => simp only [cond_true, cond_false]; intro _; exact ⟨by simp [this.1], this.2⟩
    ·simp only [hp, decide_false, cond_false]
     intro hs
     have := h hs
     exact ⟨by simp [this.1], this.2⟩
 have := key l [] (⟨0, 0, 0⟩, false) (by simp)
 simpa [bestL] using this
def reachB (x : heat_furnace) (p : Nat) (n : Int) : Bool := (List.range x.Firing.Kiln.Falls.length).any fun j => !decide (x.fur.U j < 0) && !decide (x.fur.U j - x.fur.lo j p < n)
theorem heat_reaches_eq {x : heat_furnace} (h : x.ok) {p n : Int} (h0 : 0 ≤ p) (hp : p < x.Firing.Kiln.P) : heat_furnace_reaches KK x p n = some (reachB x p.toNat n) := by
 have hk := kilnB_len h.k
 unfold heat_furnace_reaches
 rw [whl_allN (n := x.Firing.Kiln.Falls.length) (p := fun j => !(!decide (x.fur.U j < 0) && !decide (x.fur.U j - x.fur.lo j p.toNat < n))) (c := true) (by omega) (by unfold KK; omega) ?_ ?_]
 ·have : ((List.range x.Firing.Kiln.Falls.length).all fun j => !(!decide (x.fur.U j < 0) && !decide (x.fur.U j - x.fur.lo j p.toNat < n))) = !reachB x p.toNat n := by
   unfold reachB; rw [List.not_any_eq_all_not]
  rw [this]
  cases reachB x p.toNat n <;> rfl
 ·intro j hj
  unfold heat_furnace_reaches.b0
  have hu := U_ge h j
  have hc := kilnB_at h.k j p.toNat
  have hlo : x.fur.lo j p.toNat = (x.Firing.Kiln.at j p.toNat).Lo := rfl
  simp only [lt_dec hj, cond_true, heat_hottest_eq h hj, Option.bind_some, hot_U, at_row h.k hj, at_cell h.k hj h0 hp]
  rw [w64_of (n := x.fur.U j - (x.Firing.Kiln.at j p.toNat).Lo) (by omega) (by omega), hlo]
  cases decide (x.fur.U j < 0) <;> cases decide (x.fur.U j - (x.Firing.Kiln.at j p.toNat).Lo < n) <;> rfl
 ·unfold heat_furnace_reaches.b0
  rw [lt_dec_self]; rfl
theorem reachB_iff {x : heat_furnace} (h : x.ok) (hu : ∀ j, j ≤ x.fur.m → 0 ≤ x.fur.U j) (p : Nat) (n : Int) : reachB x p n = true ↔ ∃ j, j ≤ x.fur.m ∧ n + x.fur.lo j p ≤ x.fur.U j := by
 have hk := kilnB_len h.k
 have hm : x.fur.m = x.Firing.Kiln.Falls.length - 1 := rfl
 unfold reachB
 rw [List.any_eq_true]
 constructor
 ·rintro ⟨j, h1, h2⟩
  simp only [List.mem_range] at h1
  simp only [Bool.and_eq_true, Bool.not_eq_true', decide_eq_false_iff_not] at h2
  exact ⟨j, by omega, by omega⟩
 ·rintro ⟨j, h1, h2⟩
  have := hu j h1
  refine ⟨j, by simp only [List.mem_range]; omega, ?_⟩
  simp only [Bool.and_eq_true, Bool.not_eq_true', decide_eq_false_iff_not]
  omega
def soundB (x : heat_furnace) : Bool := ((List.range x.Firing.Kiln.Falls.length).all fun j => !decide (x.fur.U j < 0)) &&
 x.least.all fun y => !((bestL x.most y.place).2 && decide ((bestL x.most y.place).1.heat < y.heat)) && reachB x y.place.toNat y.heat
theorem heat_sound_eq {x : heat_furnace} (h : x.ok) : heat_furnace_sound KK x = some (soundB x) := by
 have hk := kilnB_len h.k
 have hll := h.ll
 unfold heat_furnace_sound soundB
 rw [whl_allN (n := x.Firing.Kiln.Falls.length) (p := fun j => !decide (x.fur.U j < 0)) (c := false) (by omega) (by unfold KK; omega) ?_ ?_]
 ·cases ((List.range x.Firing.Kiln.Falls.length).all fun j => !decide (x.fur.U j < 0)) with
  | false => rfl
  | true =>
   simp only [cond_true, Option.bind_some, Bool.true_and]
   rw [whl_allL (l := x.least) (p := fun y => !((bestL x.most y.place).2 && decide ((bestL x.most y.place).1.heat < y.heat)) && reachB x y.place.toNat y.heat) (c := false) (by omega) (by unfold KK; omega) ?_ ?_]
   ·cases x.least.all fun y => !((bestL x.most y.place).2 && decide ((bestL x.most y.place).1.heat < y.heat)) && reachB x y.place.toNat y.heat <;> rfl
   ·intro i y hy
    have hi : i < x.least.length := (List.getElem?_eq_some_iff.1 hy).1
    obtain ⟨g1, g2, g3, g4⟩ := h.l y (List.mem_of_getElem? hy)
    unfold heat_furnace_sound.b1
    simp only [lt_dec hi, at_of hy, cond_true, Option.bind_some, heat_best_eq _ h.ml, heat_reaches_eq h g1 g2]
    cases (bestL x.most y.place).2 <;> cases decide ((bestL x.most y.place).1.heat < y.heat) <;> cases reachB x y.place.toNat y.heat <;> rfl
   ·unfold heat_furnace_sound.b1
    rw [lt_dec_self]; rfl
 ·intro j hj
  unfold heat_furnace_sound.b0
  simp only [lt_dec hj, cond_true, heat_hottest_eq h hj, Option.bind_some, hot_U]
  cases decide (x.fur.U j < 0) <;> rfl
 ·unfold heat_furnace_sound.b0
  rw [lt_dec_self]; rfl
theorem soundB_iff {x : heat_furnace} (h : x.ok) : soundB x = true ↔ x.fur.Sound := by
 have hk := kilnB_len h.k
 have hm : x.fur.m = x.Firing.Kiln.Falls.length - 1 := rfl
 have h1 : (((List.range x.Firing.Kiln.Falls.length).all fun j => !decide (x.fur.U j < 0)) = true) ↔ ∀ j, j ≤ x.fur.m → 0 ≤ x.fur.U j := by
  rw [List.all_eq_true]
  constructor
  ·intro g j hj
   have := g j (by simp only [List.mem_range]; omega)
   simp only [Bool.not_eq_true', decide_eq_false_iff_not] at this
   omega
  ·intro g j hj
   simp only [List.mem_range] at hj
   have := g j (by omega)
   simp only [Bool.not_eq_true', decide_eq_false_iff_not]
   omega
 unfold soundB Fur.Sound
 rw [Bool.and_eq_true, h1]
 constructor
 ·rintro ⟨g1, g2⟩
  refine ⟨g1, fun z hz => ?_⟩
  obtain ⟨y, hy, rfl⟩ := List.mem_map.1 hz
  have g3 := List.all_eq_true.1 g2 y hy
  rw [Bool.and_eq_true, reachB_iff h g1] at g3
  refine ⟨fun z hz e => ?_, g3.2⟩
  obtain ⟨w, hw, rfl⟩ := List.mem_map.1 hz
  have hp := h.l y hy
  have hb := bestL_some x.most y.place.toNat (fun y hy => (h.m y hy).1)
  have ey : ((y.place.toNat : Nat) : Int) = y.place := by have := hp.1; omega
  rw [ey] at hb
  cases hs : (bestL x.most y.place).2 with
  | false =>
   rw [hs] at hb
   exact absurd e ((Fur.best_iff _ _).1.1 hb (lp w) (List.mem_map.2 ⟨w, hw, rfl⟩))
  | true =>
   rw [hs] at hb
   have g4 := (((Fur.best_iff _ _).2 _ hb).1 _).1 (Int.le_refl _) (lp w) (List.mem_map.2 ⟨w, hw, rfl⟩) e
   have g5 := g3.1
   simp only [hs, Bool.true_and, Bool.not_eq_true', decide_eq_false_iff_not] at g5
   show y.heat ≤ _
   omega
 ·rintro ⟨g1, g2⟩
  refine ⟨g1, List.all_eq_true.2 fun y hy => ?_⟩
  have g3 := g2 (lp y) (List.mem_map.2 ⟨y, hy, rfl⟩)
  rw [Bool.and_eq_true, reachB_iff h g1]
  refine ⟨?_, g3.2⟩
  cases hs : (bestL x.most y.place).2 with
  | false => rfl
  | true =>
   have g4 := bestL_mem _ _ hs
   have g5 := g3.1 (lp (bestL x.most y.place).1) (List.mem_map.2 ⟨_, g4.1, rfl⟩) (by show (bestL x.most y.place).1.place.toNat = y.place.toNat; rw [g4.2])
   have g6 : y.heat ≤ (bestL x.most y.place).1.heat := g5
   simp only [Bool.true_and, Bool.not_eq_true', decide_eq_false_iff_not]
   omega
def gField (x : heat_furnace) : Field := ⟨(List.range x.Firing.Kiln.Falls.length).map x.fur.U, (List.range x.Firing.Kiln.Falls.length).map fun j => (List.range x.Firing.Kiln.P).map fun p => x.fur.gd j p⟩
theorem heat_greatest_eq {x : heat_furnace} (h : x.ok) : heat_furnace_greatest KK x = some (gField x) := by
 have hk := kilnB_len h.k
 unfold heat_furnace_greatest
 have h1 := (whl_foldN (n := x.Firing.Kiln.Falls.length) (body := heat_furnace_greatest.b0 KK x) (k := KK) (fun i (s : List Int × List (List Int)) => (i, s.1, s.2)) (fun s j => (s.1 ++ [x.fur.U j], s.2 ++ [(List.range x.Firing.Kiln.P).map fun p => x.fur.gd j p])) (fun i s => s.1.length = i ∧ s.2.length = i) (s0 := ([], [])) (by omega) (by unfold KK; omega) ⟨rfl, rfl⟩ ?_ ?_).1
 ·rw [h1]
  have : ∀ (l : List Nat) (s : List Int × List (List Int)), l.foldl (fun s j => (s.1 ++ [x.fur.U j], s.2 ++ [(List.range x.Firing.Kiln.P).map fun p => x.fur.gd j p])) s = (s.1 ++ l.map x.fur.U, s.2 ++ l.map fun j => (List.range x.Firing.Kiln.P).map fun p => x.fur.gd j p) := by
   intro l
   induction l with
   | nil => simp
   | cons j l ih => intro s; rw [List.foldl_cons, ih]; simp
  rw [this]; rfl
 ·intro j s hj hI
  refine ⟨?_, by simp [hI.1], by simp [hI.2]⟩
  unfold heat_furnace_greatest.b0
  have hr := kilnB_row h.k hj
  have hu := U_ge h j
  simp only [lt_dec hj, cond_true, at_row h.k hj, Option.bind_some, heat_hottest_eq h hj]
  rw [push_of (by omega) (by omega)]
  simp only [Option.bind_some, hot_U]
  have h2 := (whl_foldN (n := (x.Firing.Kiln.Falls.getD j []).length) (body := heat_furnace_greatest.b1 KK x (x.Firing.Kiln.Falls.getD j []) (hot x j)) (k := KK) (fun i s => (i, s)) (fun s p => s ++ [x.fur.gd j p]) (fun i s => s.length = i) (s0 := []) (by omega) (by unfold KK; omega) rfl ?_ ?_).1
  ·rw [h2, foldl_pushN, hr]
   simp only [Option.bind_some, List.nil_append]
   rw [push_of (by omega) (by omega)]
   rfl
  ·intro p t hp hI2
   refine ⟨?_, by simp [hI2]⟩
   unfold heat_furnace_greatest.b1
   have hc := kilnB_at h.k j p
   simp only [lt_dec hp, cond_true, at_cellN h.k hj (show p < x.Firing.Kiln.P by omega), Option.bind_some, heat_best_eq _ h.ml, hot_U]
   have hb := bestL_some x.most p (fun y hy => (h.m y hy).1)
   have hgd : x.fur.gd j p = match Fur.best (x.most.map lp) p with | none => (x.Firing.Kiln.at j p).Lo | some n => max (x.Firing.Kiln.at j p).Lo (x.fur.U j - n) := rfl
   cases hs : (bestL x.most (p : Int)).2 with
   | false =>
    rw [hs] at hb
    rw [hgd, hb]
    simp only [cond_false]
    rw [push_of (by omega) (by omega)]
    rfl
   | true =>
    rw [hs] at hb
    have hm := h.m _ (bestL_mem _ _ hs).1
    have hm2 := hm.2.2
    rw [hgd, hb]
    simp only [cond_true]
    rw [w64_of (n := x.fur.U j - (bestL x.most (p : Int)).1.heat) (by omega) (by omega), push_of (by omega) (by omega)]
    rfl
  ·intro t _
   unfold heat_furnace_greatest.b1
   simp only [lt_dec_self]; rfl
 ·intro s _
  unfold heat_furnace_greatest.b0
  simp only [lt_dec_self]; rfl
end Go.Abs
namespace Go.Abs
open Go
set_option linter.unusedVariables false
def rd0 : Reading := ⟨0, 0, 0, 0, ⟨0, 0⟩⟩
def lo? (r : Reading) : Option Int := bif decide (r.Kind = (1 : Int)) then some r.Mark else bif decide (r.Kind = (3 : Int)) then some r.Heat.Lo else none
def hi? (r : Reading) : Option Int := bif decide (r.Kind = (2 : Int)) then some (w64 (r.Mark - 1)) else bif decide (r.Kind = (3 : Int)) then some r.Heat.Hi else none
def limOf (l : List Reading) (g : Reading → Option Int) (i : Nat) : Option heat_limit := (g (l.getD i rd0)).map fun n => ⟨(l.getD i rd0).Place, n, i⟩
def limsOf (l : List Reading) (g : Reading → Option Int) : List heat_limit := (List.range l.length).filterMap (limOf l g)
def nf (f : Firing) : heat_furnace := ⟨f, limsOf f.Readings lo?, limsOf f.Readings hi?⟩
theorem limsOf_mem {l : List Reading} {g : Reading → Option Int} {y : heat_limit} : y ∈ limsOf l g ↔ ∃ (i : Nat) (r : Reading), l[i]? = some r ∧ g r = some y.heat ∧ y.place = r.Place ∧ y.by_ = (i : Int) := by
 unfold limsOf
 rw [List.mem_filterMap]
 constructor
 ·rintro ⟨i, hi, h⟩
  simp only [List.mem_range] at hi
  have hx : l[i]? = some l[i] := List.getElem?_eq_getElem hi
  unfold limOf at h
  rw [getD_of rd0 hx] at h
  cases hg : g l[i] with
  | none => rw [hg] at h; cases h
  | some n => rw [hg] at h; cases h; exact ⟨i, l[i], hx, hg, rfl, rfl⟩
 ·rintro ⟨i, r, hx, h1, h2, h3⟩
  refine ⟨i, by simp only [List.mem_range]; exact (List.getElem?_eq_some_iff.1 hx).1, ?_⟩
  unfold limOf
  rw [getD_of rd0 hx, h1, Option.map_some, ← h2, ← h3]
theorem limsOf_lp {l : List Reading} {g : Reading → Option Int} {z : Nat × Int} : z ∈ (limsOf l g).map lp ↔ ∃ r ∈ l, g r = some z.2 ∧ r.Place.toNat = z.1 := by
 rw [List.mem_map]
 constructor
 ·rintro ⟨y, hy, rfl⟩
  obtain ⟨i, r, h1, h2, h3, _⟩ := limsOf_mem.1 hy
  exact ⟨r, List.mem_of_getElem? h1, h2, by show _ = y.place.toNat; rw [h3]⟩
 ·rintro ⟨r, hr, h1, h2⟩
  obtain ⟨i, hi⟩ := List.getElem?_of_mem hr
  refine ⟨⟨r.Place, z.2, (i : Int)⟩, limsOf_mem.2 ⟨i, r, hi, h1, rfl, rfl⟩, ?_⟩
  show (r.Place.toNat, z.2) = z
  rw [h2]
theorem limsOf_len (l : List Reading) (g : Reading → Option Int) : (limsOf l g).length ≤ l.length := by
 have := List.length_filterMap_le (limOf l g) (List.range l.length)
 simpa [limsOf] using this
theorem limsOf_bounds {l : List Reading} {g : Reading → Option Int} {y : heat_limit} (h : y ∈ limsOf l g) : ∃ r ∈ l, g r = some y.heat ∧ y.place = r.Place := by
 obtain ⟨i, r, h1, h2, h3, _⟩ := limsOf_mem.1 h
 exact ⟨r, List.mem_of_getElem? h1, h2, h3⟩
theorem heat_least_eq (r : Reading) : heat_reading_least KK ⟨r⟩ = some ((lo? r).getD 0, (lo? r).isSome) := by
 unfold heat_reading_least lo?
 cases decide (r.Kind = (1 : Int)) <;> cases decide (r.Kind = (3 : Int)) <;> rfl
theorem heat_most_eq (r : Reading) : heat_reading_most KK ⟨r⟩ = some ((hi? r).getD 0, (hi? r).isSome) := by
 unfold heat_reading_most hi?
 cases decide (r.Kind = (2 : Int)) <;> cases decide (r.Kind = (3 : Int)) <;> rfl
def nfStep (l : List Reading) (s : List heat_limit × List heat_limit) (i : Nat) : List heat_limit × List heat_limit :=
 (s.1 ++ (limOf l lo? i).toList, s.2 ++ (limOf l hi? i).toList)
theorem nf_fold (l : List Reading) : ∀ (m : List Nat) (s : List heat_limit × List heat_limit), m.foldl (nfStep l) s = (s.1 ++ m.filterMap (limOf l lo?), s.2 ++ m.filterMap (limOf l hi?)) := by
 intro m
 induction m with
 | nil => intro s; simp
 | cons i m ih =>
  intro s
  rw [List.foldl_cons, ih, List.filterMap_cons, List.filterMap_cons]
  unfold nfStep
  cases limOf l lo? i <;> cases limOf l hi? i <;> simp
theorem heat_newFurnace_eq (f : Firing) (hl : f.Readings.length * 24 + 24 ≤ 140737488355328) : heat_newFurnace KK f = some (nf f) := by
 unfold heat_newFurnace
 have h1 := (whl_foldN (n := f.Readings.length) (body := heat_newFurnace.b0 KK f) (k := KK) (fun i (s : List heat_limit × List heat_limit) => (i, s.1, s.2)) (nfStep f.Readings) (fun i s => s.1.length ≤ i ∧ s.2.length ≤ i) (s0 := ([], [])) (by omega) (by unfold KK; omega) ⟨by simp, by simp⟩ ?_ ?_).1
 ·rw [h1, nf_fold]; rfl
 ·intro i s hi hI
  have hx : f.Readings[i]? = some f.Readings[i] := List.getElem?_eq_getElem hi
  have e1 : limOf f.Readings lo? i = (lo? f.Readings[i]).map fun n => ⟨f.Readings[i].Place, n, i⟩ := by unfold limOf; rw [getD_of rd0 hx]
  have e2 : limOf f.Readings hi? i = (hi? f.Readings[i]).map fun n => ⟨f.Readings[i].Place, n, i⟩ := by unfold limOf; rw [getD_of rd0 hx]
  obtain ⟨s1, s2⟩ := s
  simp only at hI
  refine ⟨?_, ?_⟩
  ·unfold heat_newFurnace.b0 nfStep
   rw [e1, e2]
   simp only [lt_dec hi, cond_true, at_of hx, Option.bind_some, heat_least_eq, heat_most_eq]
   cases h1 : lo? f.Readings[i] with
   | none =>
    cases h2 : hi? f.Readings[i] with
    | none => simp
    | some n2 =>
     simp only [Option.isSome_none, Option.isSome_some, cond_true, cond_false, Option.getD_some, Option.map_none, Option.map_some, Option.toList_none, Option.toList_some, List.append_nil]
     rw [push_of (by omega) (by omega)]; rfl
   | some n1 =>
    simp only [Option.isSome_some, cond_true, Option.getD_some]
    rw [push_of (by omega) (by omega)]
    cases h2 : hi? f.Readings[i] with
    | none => simp
    | some n2 =>
     simp only [Option.bind_some, Option.isSome_some, cond_true, Option.getD_some, Option.map_some, Option.toList_some]
     rw [push_of (by omega) (by omega)]; rfl
  ·unfold nfStep
   simp only [List.length_append]
   have : ∀ o : Option heat_limit, o.toList.length ≤ 1 := fun o => by cases o <;> simp
   have t1 := this (limOf f.Readings lo? i)
   have t2 := this (limOf f.Readings hi? i)
   exact ⟨by omega, by omega⟩
 ·intro s _
  unfold heat_newFurnace.b0
  simp only [lt_dec_self]; rfl
def rdOk (P : Nat) (r : Reading) : Prop := 0 ≤ r.Place ∧ r.Place < P ∧ (r.Kind = 1 ∨ r.Kind = 2 ∨ r.Kind = 3) ∧ (∀ n, lo? r = some n → -3000 ≤ n ∧ n ≤ 3000) ∧ ∀ n, hi? r = some n → -3000 ≤ n ∧ n ≤ 3000
structure Firing.ok (f : Firing) : Prop where
 k : kilnB f.Kiln = true
 l : f.Readings.length ≤ 100
 r : ∀ r ∈ f.Readings, rdOk f.Kiln.P r
theorem readB_ok {P : Nat} (hP : 1 ≤ P ∧ P ≤ 24) {r : Reading} (h : readB (P : Int) r = true) : rdOk P r := by
 unfold readB at h
 simp only [Bool.and_eq_true] at h
 obtain ⟨h1, h2, h3⟩ := h
 simp only [inB, Bool.and_eq_true, decide_eq_true_eq] at h2
 rw [w64_of (by omega) (by omega)] at h2
 refine ⟨by omega, by omega, ?_⟩
 unfold lo? hi?
 by_cases k1 : r.Kind = 1
 ·simp only [k1, decide_true, cond_true, Bool.and_eq_true, inB, decide_eq_true_eq] at h3
  refine ⟨.inl k1, fun n hn => ?_, fun n hn => ?_⟩
  ·simp only [k1, decide_true, cond_true, Option.some.injEq] at hn; omega
  ·simp [k1] at hn
 ·by_cases k2 : r.Kind = 2
  ·simp only [k2, decide_true, cond_true, cond_false, Bool.and_eq_true, inB, decide_eq_true_eq] at h3
   refine ⟨.inr (.inl k2), fun n hn => ?_, fun n hn => ?_⟩
   ·simp [k2] at hn
   ·simp only [k2, decide_true, cond_true, Option.some.injEq] at hn
    simp only [show decide ((2 : Int) = 1) = false by decide, cond_false, Bool.and_eq_true, decide_eq_true_eq] at h3
    rw [w64_of (by omega) (by omega)] at hn; omega
  ·by_cases k3 : r.Kind = 3
   ·simp only [k1, k2, k3, show decide ((3 : Int) = 1) = false by decide, show decide ((3 : Int) = 2) = false by decide, decide_true, cond_true, cond_false, Bool.and_eq_true, rangeB, decide_eq_true_eq] at h3
    refine ⟨.inr (.inr k3), fun n hn => ?_, fun n hn => ?_⟩
    ·simp only [k3, show decide ((3 : Int) = 1) = false by decide, decide_true, cond_true, cond_false, Option.some.injEq] at hn; omega
    ·simp only [k3, show decide ((3 : Int) = 2) = false by decide, decide_true, cond_true, cond_false, Option.some.injEq] at hn; omega
   ·simp [k1, k2, k3] at h3
theorem firing_ok {f : Firing} (h : firingCode f = 0) : f.ok := by
 obtain ⟨h1, h2, h3⟩ := firing_small h
 have hk := kilnB_len h1
 exact ⟨h1, by omega, fun r hr => readB_ok ⟨hk.2.2.1, hk.2.2.2⟩ (h3 r hr)⟩
theorem nf_ok {f : Firing} (h : f.ok) : (nf f).ok := by
 have h2 := h.l
 have a := limsOf_len f.Readings lo?
 have b := limsOf_len f.Readings hi?
 refine ⟨h.k, by show (limsOf f.Readings lo?).length ≤ 1000; omega, fun y hy => ?_, by show (limsOf f.Readings hi?).length ≤ 1000; omega, fun y hy => ?_⟩
 ·obtain ⟨r, hr, h3, h4⟩ := limsOf_bounds hy
  obtain ⟨g1, g2, g3, g4, g5⟩ := h.r r hr
  have := g4 _ h3
  refine ⟨by omega, ?_, this⟩
  rw [h4]; exact g2
 ·obtain ⟨r, hr, h3, h4⟩ := limsOf_bounds hy
  obtain ⟨g1, g2, g3, g4, g5⟩ := h.r r hr
  have := g5 _ h3
  refine ⟨by omega, ?_, this⟩
  rw [h4]; exact g2
theorem fur_small {x : heat_furnace} (h : x.ok) : x.fur.Small x.Firing.Kiln.P := by
 constructor
 ·intro z hz
  obtain ⟨y, hy, rfl⟩ := List.mem_map.1 hz
  obtain ⟨g1, g2, g3, g4⟩ := h.l y hy
  exact ⟨by show y.place.toNat < _; omega, g3, g4⟩
 ·intro z hz
  obtain ⟨y, hy, rfl⟩ := List.mem_map.1 hz
  obtain ⟨g1, g2, g3, g4⟩ := h.m y hy
  exact ⟨by show y.place.toNat < _; omega, g3, g4⟩
end Go.Abs
namespace Go.Abs
open Go
set_option linter.unusedVariables false
theorem at_mapR {α : Type} (g : Nat → α) {n j : Nat} (h : j < n) : at? ((List.range n).map g) (j : Int) = some (g j) := by
 apply at_of
 rw [List.getElem?_map, List.getElem?_range h]; rfl
end Go.Abs
namespace Go.Abs
open Go
set_option linter.unusedVariables false
def shownP (x : heat_furnace) (y : heat_limit) (q : Nat) (n : Int) : Prop :=
 (∃ j, j < x.Firing.Kiln.Falls.length ∧ y.heat + x.fur.lo j y.place.toNat ≤ x.fur.U j) ∧ ∀ t, n ≤ t ↔ ∃ j, j < x.Firing.Kiln.Falls.length ∧ y.heat + x.fur.lo j y.place.toNat ≤ x.fur.U j ∧ y.heat + x.fur.lo j y.place.toNat - x.fur.hi j q ≤ t
theorem heat_shownLow_eq {x : heat_furnace} (h : x.ok) {y : heat_limit} (hy : limOk x.Firing.Kiln.P y) {q : Nat} (hq : q < x.Firing.Kiln.P) :
  ∃ r, heat_furnace_shownLow KK x y (q : Int) = some r ∧ (r.2 = true ↔ ∃ j, j < x.Firing.Kiln.Falls.length ∧ y.heat + x.fur.lo j y.place.toNat ≤ x.fur.U j) ∧ (r.2 = true → shownP x y q r.1) := by
 have hk := kilnB_len h.k
 obtain ⟨y1, y2, y3, y4⟩ := hy
 unfold heat_furnace_shownLow
 obtain ⟨h1, h2⟩ := whl_foldN (n := x.Firing.Kiln.Falls.length) (body := heat_furnace_shownLow.b0 KK x y (q : Int)) (k := KK) (fun i (s : Int × Bool) => (s.1, s.2, i))
  (fun s j => bif decide (y.heat + x.fur.lo j y.place.toNat ≤ x.fur.U j) then (bif s.2 then (bif decide (y.heat + x.fur.lo j y.place.toNat - x.fur.hi j q < s.1) then (y.heat + x.fur.lo j y.place.toNat - x.fur.hi j q, true) else s) else (y.heat + x.fur.lo j y.place.toNat - x.fur.hi j q, true)) else s)
  (fun i s => (s.2 = true ↔ ∃ j, j < i ∧ y.heat + x.fur.lo j y.place.toNat ≤ x.fur.U j) ∧ (s.2 = true → ∀ t, s.1 ≤ t ↔ ∃ j, j < i ∧ y.heat + x.fur.lo j y.place.toNat ≤ x.fur.U j ∧ y.heat + x.fur.lo j y.place.toNat - x.fur.hi j q ≤ t)) (s0 := (0, false)) (by omega) (by unfold KK; omega) ⟨by simp, by simp⟩ (fun j s hj hI => by
   have g1 := kilnB_at h.k j q
   have g2 := kilnB_at h.k j y.place.toNat
   have g3 : x.fur.hi j q = (x.Firing.Kiln.at j q).Hi := rfl
   have g4 : x.fur.lo j y.place.toNat = (x.Firing.Kiln.at j y.place.toNat).Lo := rfl
   obtain ⟨s1, s2⟩ := s
   obtain ⟨I1, I2⟩ := hI
   simp only at I1 I2
   refine ⟨?_, ?_⟩
   ·unfold heat_furnace_shownLow.b0
    simp only [lt_dec hj, cond_true, at_row h.k hj, at_cell h.k hj y1 y2, at_cellN h.k hj hq, heat_hottest_eq h hj, hot_U, Option.bind_some, g3, g4]
    rw [w64_of (n := y.heat + (x.Firing.Kiln.at j y.place.toNat).Lo) (by omega) (by omega), w64_of (n := y.heat + (x.Firing.Kiln.at j y.place.toNat).Lo - (x.Firing.Kiln.at j q).Hi) (by omega) (by omega)]
    cases decide (y.heat + (x.Firing.Kiln.at j y.place.toNat).Lo ≤ x.fur.U j) <;> cases s2 <;> cases decide (y.heat + (x.Firing.Kiln.at j y.place.toNat).Lo - (x.Firing.Kiln.at j q).Hi < s1) <;> rfl
   ·by_cases hc : y.heat + x.fur.lo j y.place.toNat ≤ x.fur.U j
    ·simp only [hc, decide_true, cond_true]
     cases s2 with
     | false =>
      simp only [cond_false]
      refine ⟨⟨fun _ => ⟨j, by omega, hc⟩, fun _ => trivial⟩, fun _ t => ⟨fun k => ⟨j, by omega, hc, k⟩, ?_⟩⟩
      rintro ⟨i, k1, k2, k3⟩
      by_cases hij : i = j
      ·subst hij; exact k3
      ·have := I1.2 ⟨i, by omega, k2⟩; cases this
     | true =>
      have I3 := I2 rfl
      simp only [cond_true]
      by_cases hd : y.heat + x.fur.lo j y.place.toNat - x.fur.hi j q < s1
      ·simp only [hd, decide_true, cond_true]
       refine ⟨⟨fun _ => ⟨j, by omega, hc⟩, fun _ => trivial⟩, fun _ t => ⟨fun k => ⟨j, by omega, hc, k⟩, ?_⟩⟩
       rintro ⟨i, k1, k2, k3⟩
       by_cases hij : i = j
       ·subst hij; exact k3
       ·have := (I3 t).2 ⟨i, by omega, k2, k3⟩
        omega
      ·simp only [hd, decide_false, cond_false]
       refine ⟨⟨fun _ => ⟨j, by omega, hc⟩, fun _ => trivial⟩, fun _ t => ⟨fun k => ?_, ?_⟩⟩
       ·obtain ⟨i, k1, k2⟩ := (I3 t).1 k
        exact ⟨i, by omega, k2⟩
       ·rintro ⟨i, k1, k2, k3⟩
        by_cases hij : i = j
        ·subst hij; omega
        ·exact (I3 t).2 ⟨i, by omega, k2, k3⟩
    ·simp only [hc, decide_false, cond_false]
     refine ⟨?_, fun k t => ?_⟩
     ·rw [I1]
      constructor
      ·rintro ⟨i, k1, k2⟩; exact ⟨i, by omega, k2⟩
      ·rintro ⟨i, k1, k2⟩
       by_cases hij : i = j
       ·subst hij; exact absurd k2 hc
       ·exact ⟨i, by omega, k2⟩
     ·rw [I2 k t]
      constructor
      ·rintro ⟨i, k1, k2⟩; exact ⟨i, by omega, k2⟩
      ·rintro ⟨i, k1, k2, k3⟩
       by_cases hij : i = j
       ·subst hij; exact absurd k2 hc
       ·exact ⟨i, by omega, k2, k3⟩) (fun s _ => by
   unfold heat_furnace_shownLow.b0
   simp only [lt_dec_self]; rfl)
 rw [h1]
 exact ⟨_, rfl, h2.1, fun k => ⟨h2.1.1 k, h2.2 k⟩⟩
def cannotL (x : heat_furnace) (y : heat_limit) : List Int := (List.range x.Firing.Kiln.Falls.length).map fun j => bif decide (y.heat + x.fur.lo j y.place.toNat ≤ x.fur.U j) then -1 else bif decide (3000 < y.heat + x.fur.lo j y.place.toNat) then -2 else (hot x j).2
theorem heat_cannot_eq {x : heat_furnace} (h : x.ok) {y : heat_limit} (hy : limOk x.Firing.Kiln.P y) : heat_furnace_cannot KK x y = some (cannotL x y) := by
 have hk := kilnB_len h.k
 obtain ⟨y1, y2, y3, y4⟩ := hy
 unfold heat_furnace_cannot
 have h1 := (whl_foldN (n := x.Firing.Kiln.Falls.length) (body := heat_furnace_cannot.b0 KK x y) (k := KK) (fun i s => (i, s)) (fun s j => s ++ [bif decide (y.heat + x.fur.lo j y.place.toNat ≤ x.fur.U j) then -1 else bif decide (3000 < y.heat + x.fur.lo j y.place.toNat) then -2 else (hot x j).2]) (fun i s => s.length = i) (s0 := []) (by omega) (by unfold KK; omega) rfl ?_ ?_).1
 ·rw [h1, foldl_pushN]; rfl
 ·intro j s hj hI
  refine ⟨?_, by simp [hI]⟩
  have g2 := kilnB_at h.k j y.place.toNat
  have g4 : x.fur.lo j y.place.toNat = (x.Firing.Kiln.at j y.place.toNat).Lo := rfl
  unfold heat_furnace_cannot.b0
  simp only [lt_dec hj, cond_true, at_row h.k hj, at_cell h.k hj y1 y2, heat_hottest_eq h hj, hot_U, Option.bind_some, g4]
  rw [w64_of (n := y.heat + (x.Firing.Kiln.at j y.place.toNat).Lo) (by omega) (by omega)]
  cases decide (y.heat + (x.Firing.Kiln.at j y.place.toNat).Lo ≤ x.fur.U j) with
  | true => simp only [cond_true]; rw [push_of (by omega) (by omega)]; rfl
  | false =>
   cases decide ((3000 : Int) < y.heat + (x.Firing.Kiln.at j y.place.toNat).Lo) with
   | true => simp only [cond_true, cond_false]; rw [push_of (by omega) (by omega)]; rfl
   | false => simp only [cond_false]; rw [push_of (by omega) (by omega)]; rfl
 ·intro s _
  unfold heat_furnace_cannot.b0
  simp only [lt_dec_self]; rfl
def LowPf (x : heat_furnace) (q : Nat) (n : Int) (p : HeatProof) : Prop :=
 (∃ j : Nat, j < x.Firing.Kiln.Falls.length ∧ p = ⟨-2, [(j : Int)]⟩ ∧ n = -x.fur.hi j q) ∨
 (∃ y ∈ x.least, y.place = (q : Int) ∧ p = ⟨y.by_, []⟩ ∧ n = y.heat) ∨
 ∃ y ∈ x.least, y.place ≠ (q : Int) ∧ p = ⟨y.by_, cannotL x y⟩ ∧ shownP x y q n
theorem heat_lowest_eq {x : heat_furnace} (h : x.ok) (hs : x.fur.Sound) {q : Nat} (hq : q < x.Firing.Kiln.P) :
  ∃ n p, heat_furnace_lowest KK x (q : Int) = some (n, p) ∧ (∀ t, n ≤ t ↔ x.fur.Low q t) ∧ LowPf x q n p := by
 have hk := kilnB_len h.k
 have hll := h.ll
 have hm : x.fur.m = x.Firing.Kiln.Falls.length - 1 := rfl
 unfold heat_furnace_lowest
 obtain ⟨h1, h2⟩ := whl_foldN (n := x.Firing.Kiln.Falls.length) (body := heat_furnace_lowest.b0 KK x (q : Int)) (k := KK) (fun i (s : Int × Int × List Int) => (s.1, i, s.2.1, s.2.2))
  (fun s j => bif !decide ((j : Int) = 0) then (bif decide (s.1 < 0 - x.fur.hi j q) then (0 - x.fur.hi j q, -2, [(j : Int)]) else s) else (0 - x.fur.hi j q, -2, [(j : Int)]))
  (fun i s => (i = 0 ∨ (∀ t, s.1 ≤ t ↔ ∀ j, j < i → -x.fur.hi j q ≤ t) ∧ ∃ j : Nat, j < i ∧ s = (-x.fur.hi j q, -2, [(j : Int)]))) (s0 := (-3000, 0, [])) (by omega) (by unfold KK; omega) (.inl rfl) (fun j s hj hI => by
   have g1 := kilnB_at h.k j q
   have g3 : x.fur.hi j q = (x.Firing.Kiln.at j q).Hi := rfl
   obtain ⟨s1, s2, s3⟩ := s
   refine ⟨?_, .inr ?_⟩
   ·unfold heat_furnace_lowest.b0
    simp only [lt_dec hj, cond_true, at_row h.k hj, at_cellN h.k hj hq, Option.bind_some, g3]
    rw [w64_of (n := 0 - (x.Firing.Kiln.at j q).Hi) (by omega) (by omega)]
    cases decide ((j : Int) = 0) <;> cases decide (s1 < 0 - (x.Firing.Kiln.at j q).Hi) <;> rfl
   ·have e0 : (0 : Int) - x.fur.hi j q = -x.fur.hi j q := by omega
    by_cases hj0 : j = 0
    ·subst hj0
     simp only [Int.natCast_zero, decide_true, Bool.not_true, cond_false, e0]
     refine ⟨fun t => ⟨fun k i hi => ?_, fun k => k 0 (by omega)⟩, 0, by omega, rfl⟩
     have : i = 0 := by omega
     subst this; exact k
    ·have hj1 : ¬ ((j : Int) = 0) := by omega
     simp only [hj1, decide_false, Bool.not_false, cond_true, e0]
     rcases hI with hI | ⟨I1, i, I2, I3⟩
     ·exact absurd hI hj0
     ·simp only at I1
      by_cases hc : s1 < -x.fur.hi j q
      ·simp only [hc, decide_true, cond_true]
       refine ⟨fun t => ⟨fun k i hi => ?_, fun k => k j (by omega)⟩, j, by omega, rfl⟩
       by_cases hij : i = j
       ·subst hij; exact k
       ·exact (I1 t).1 (by omega) i (by omega)
      ·simp only [hc, decide_false, cond_false]
       refine ⟨fun t => ⟨fun k i hi => ?_, fun k => (I1 t).2 fun i hi => k i (by omega)⟩, i, by omega, I3⟩
       by_cases hij : i = j
       ·subst hij; omega
       ·exact (I1 t).1 k i (by omega)) (fun s _ => by
   unfold heat_furnace_lowest.b0
   simp only [lt_dec_self]; rfl)
 rw [h1]
 rcases h2 with h2 | ⟨h2, j0, h3, h4⟩
 ·omega
 rw [h4] at h2
 rw [h4]
 simp only [Option.bind_some]
 simp only at h2
 have hw := whl_ok (body := heat_furnace_lowest.b1 KK x (q : Int))
  (fun t => ∃ (i : Nat) (p : HeatProof) (n : Int), t = (p, n, (i : Int)) ∧ i ≤ x.least.length ∧ LowPf x q n p ∧ ∀ t, n ≤ t ↔ (∀ j, j < x.Firing.Kiln.Falls.length → -x.fur.hi j q ≤ t) ∧ ∀ y ∈ x.least.take i, if y.place = (q : Int) then y.heat ≤ t else ∃ j, j < x.Firing.Kiln.Falls.length ∧ y.heat + x.fur.lo j y.place.toNat ≤ x.fur.U j ∧ y.heat + x.fur.lo j y.place.toNat - x.fur.hi j q ≤ t)
  (fun r => ∃ (p : HeatProof) (n : Int), r = .brk (p, n) ∧ LowPf x q n p ∧ ∀ t, n ≤ t ↔ (∀ j, j < x.Firing.Kiln.Falls.length → -x.fur.hi j q ≤ t) ∧ ∀ y ∈ x.least, if y.place = (q : Int) then y.heat ≤ t else ∃ j, j < x.Firing.Kiln.Falls.length ∧ y.heat + x.fur.lo j y.place.toNat ≤ x.fur.U j ∧ y.heat + x.fur.lo j y.place.toNat - x.fur.hi j q ≤ t)
  (fun t => x.least.length - t.2.2.toNat) ?_ KK (⟨-2, [(j0 : Int)]⟩, -x.fur.hi j0 q, 0) ⟨0, _, _, rfl, Nat.zero_le _, .inl ⟨j0, h3, rfl, rfl⟩, fun t => by rw [h2 t]; simp⟩ (by unfold KK; simp only; omega)
 ·obtain ⟨r, k1, ⟨p, n, k2, k3, k4⟩, _⟩ := hw
  rw [k1, k2]
  refine ⟨n, p, rfl, fun t => ?_, k3⟩
  rw [k4 t]
  unfold Fur.Low
  constructor
  ·rintro ⟨m1, m2⟩
   refine ⟨fun j hj => m1 j (by omega), fun z hz e => ?_, fun z hz e => ?_⟩
   ·obtain ⟨y, hy, rfl⟩ := List.mem_map.1 hz
    have := m2 y hy
    have hp := h.l y hy
    have e2 : y.place = (q : Int) := by have e' : y.place.toNat = q := e; have := hp.1; omega
    rw [if_pos e2] at this
    exact this
   ·obtain ⟨y, hy, rfl⟩ := List.mem_map.1 hz
    have := m2 y hy
    have hp := h.l y hy
    have e2 : ¬ y.place = (q : Int) := by intro e2; apply e; show y.place.toNat = q; omega
    rw [if_neg e2] at this
    obtain ⟨j, m3, m4⟩ := this
    exact ⟨j, by omega, m4⟩
  ·rintro ⟨m1, m2, m3⟩
   refine ⟨fun j hj => m1 j (by omega), fun y hy => ?_⟩
   have hp := h.l y hy
   by_cases e2 : y.place = (q : Int)
   ·rw [if_pos e2]
    exact m2 (lp y) (List.mem_map.2 ⟨y, hy, rfl⟩) (by show y.place.toNat = q; omega)
   ·rw [if_neg e2]
    obtain ⟨j, m4, m5⟩ := m3 (lp y) (List.mem_map.2 ⟨y, hy, rfl⟩) (by intro e'; have e'' : y.place.toNat = q := e'; have := hp.1; omega)
    exact ⟨j, by omega, m5⟩
 ·rintro t ⟨i, p, n, rfl, g1, g2, g3⟩
  by_cases hi : i = x.least.length
  ·right; left
   refine ⟨(p, n), ?_, p, n, rfl, g2, fun t => by rw [g3 t, hi, List.take_length]⟩
   unfold heat_furnace_lowest.b1
   simp only [hi, lt_dec_self]; rfl
  ·left
   have hx : x.least[i]? = some x.least[i] := List.getElem?_eq_getElem (by omega)
   generalize x.least[i] = y at hx
   have hym : y ∈ x.least := List.mem_of_getElem? hx
   have hy := h.l y hym
   have hwi : w64 ((i : Int) + 1) = ((i + 1 : Nat) : Int) := w64_succ (n := x.least.length) (by omega) (by omega)
   have hbody : heat_furnace_lowest.b1 KK x (q : Int) (p, n, (i : Int)) = bif decide (y.place = (q : Int)) then (bif decide (n < y.heat) then some (.next ((⟨y.by_, []⟩ : HeatProof), y.heat, ((i + 1 : Nat) : Int))) else some (.next (p, n, ((i + 1 : Nat) : Int)))) else
     (heat_furnace_shownLow KK x y (q : Int)).bind fun r => bif r.2 then (bif decide (n < r.1) then some (.next ((⟨y.by_, cannotL x y⟩ : HeatProof), r.1, ((i + 1 : Nat) : Int))) else some (.next (p, n, ((i + 1 : Nat) : Int)))) else some (.next (p, n, ((i + 1 : Nat) : Int))) := by
    unfold heat_furnace_lowest.b1
    simp only [lt_dec (show i < x.least.length by omega), cond_true, at_of hx, Option.bind_some, heat_cannot_eq h hy, hwi]
   have fin : ∀ (p' : HeatProof) (n' : Int), LowPf x q n' p' → (∀ t, n' ≤ t ↔ n ≤ t ∧ if y.place = (q : Int) then y.heat ≤ t else ∃ j, j < x.Firing.Kiln.Falls.length ∧ y.heat + x.fur.lo j y.place.toNat ≤ x.fur.U j ∧ y.heat + x.fur.lo j y.place.toNat - x.fur.hi j q ≤ t) →
     ∃ (i' : Nat) (p'' : HeatProof) (n'' : Int), ((p', n', ((i + 1 : Nat) : Int)) : HeatProof × Int × Int) = (p'', n'', (i' : Int)) ∧ i' ≤ x.least.length ∧ LowPf x q n'' p'' ∧ ∀ t, n'' ≤ t ↔ (∀ j, j < x.Firing.Kiln.Falls.length → -x.fur.hi j q ≤ t) ∧ ∀ y ∈ x.least.take i', if y.place = (q : Int) then y.heat ≤ t else ∃ j, j < x.Firing.Kiln.Falls.length ∧ y.heat + x.fur.lo j y.place.toNat ≤ x.fur.U j ∧ y.heat + x.fur.lo j y.place.toNat - x.fur.hi j q ≤ t := by
    intro p' n' k1 k2
    refine ⟨i + 1, p', n', rfl, by omega, k1, fun t => ?_⟩
    rw [k2 t, g3 t, take_succ_of hx]
    constructor
    ·rintro ⟨⟨m1, m2⟩, m3⟩
     refine ⟨m1, fun z hz => ?_⟩
     rcases List.mem_append.1 hz with hz | hz
     ·exact m2 z hz
     ·simp only [List.mem_singleton] at hz; subst hz; exact m3
    ·rintro ⟨m1, m2⟩
     exact ⟨⟨m1, fun z hz => m2 z (List.mem_append.2 (.inl hz))⟩, m2 y (List.mem_append.2 (.inr (by simp)))⟩
   have hmeas : ∀ (p' : HeatProof) (n' : Int), x.least.length - ((p', n', ((i + 1 : Nat) : Int)) : HeatProof × Int × Int).2.2.toNat < x.least.length - ((p, n, (i : Int)) : HeatProof × Int × Int).2.2.toNat := by intro p' n'; simp only [Int.toNat_natCast]; omega
   by_cases e2 : y.place = (q : Int)
   ·by_cases hc : n < y.heat
    ·refine ⟨_, by rw [hbody]; simp only [e2, hc, decide_true, cond_true], fin _ _ (.inr (.inl ⟨y, hym, e2, rfl, rfl⟩)) fun t => ?_, hmeas _ _⟩
     rw [if_pos e2]; omega
    ·refine ⟨_, by rw [hbody]; simp only [e2, hc, decide_true, decide_false, cond_true, cond_false], fin _ _ g2 fun t => ?_, hmeas _ _⟩
     rw [if_pos e2]; omega
   ·obtain ⟨r, r1, r2, r3⟩ := heat_shownLow_eq h hy hq
    have hreach : r.2 = true := by
     rw [r2]
     obtain ⟨_, j, k1, k2⟩ := hs.2 (lp y) (List.mem_map.2 ⟨y, hym, rfl⟩)
     exact ⟨j, by omega, k2⟩
    obtain ⟨r4, r5⟩ := r3 hreach
    by_cases hc : n < r.1
    ·refine ⟨_, by rw [hbody, r1]; simp only [e2, hc, hreach, decide_true, decide_false, cond_true, cond_false, Option.bind_some], fin _ _ (.inr (.inr ⟨y, hym, e2, rfl, r4, r5⟩)) fun t => ?_, hmeas _ _⟩
     rw [if_neg e2, ← r5 t]; omega
    ·refine ⟨_, by rw [hbody, r1]; simp only [e2, hc, hreach, decide_true, decide_false, cond_true, cond_false, Option.bind_some], fin _ _ g2 fun t => ?_, hmeas _ _⟩
     rw [if_neg e2, ← r5 t]; omega
def HighPf (x : heat_furnace) (q : Nat) (n : Int) (p : HeatProof) : Prop :=
 (∃ y ∈ x.most, y.place = (q : Int) ∧ p = ⟨y.by_, []⟩ ∧ n = y.heat) ∨
 (p = ⟨-1, (List.range x.Firing.Kiln.Falls.length).map fun j => (hot x j).2⟩ ∧ ∀ t, t ≤ n ↔ ∃ j, j < x.Firing.Kiln.Falls.length ∧ t + x.fur.lo j q ≤ x.fur.U j)
theorem heat_highest_eq {x : heat_furnace} (h : x.ok) (hs : x.fur.Sound) {q : Nat} (hq : q < x.Firing.Kiln.P) :
  ∃ n p, heat_furnace_highest KK x (q : Int) = some (n, p) ∧ (∀ t, t ≤ n ↔ x.fur.High q t) ∧ HighPf x q n p := by
 have hk := kilnB_len h.k
 have hm : x.fur.m = x.Firing.Kiln.Falls.length - 1 := rfl
 unfold heat_furnace_highest
 obtain ⟨h1, h2⟩ := whl_foldN (n := x.Firing.Kiln.Falls.length) (body := heat_furnace_highest.b0 KK x (q : Int)) (k := KK) (fun i (s : Int × List Int) => (s.1, i, s.2))
  (fun s j => (max s.1 (x.fur.U j - x.fur.lo j q), s.2 ++ [(hot x j).2]))
  (fun i s => s.2 = (List.range i).map (fun j => (hot x j).2) ∧ ∀ t, t ≤ s.1 ↔ t ≤ -3000 ∨ ∃ j, j < i ∧ t + x.fur.lo j q ≤ x.fur.U j) (s0 := (-3000, [])) (by omega) (by unfold KK; omega) ⟨rfl, by intro t; simp⟩ (fun j s hj hI => by
   have g1 := kilnB_at h.k j q
   have g2 := U_ge h j
   have g4 : x.fur.lo j q = (x.Firing.Kiln.at j q).Lo := rfl
   have hlen : s.2.length = j := by rw [hI.1]; simp
   refine ⟨?_, ?_, fun t => ?_⟩
   ·unfold heat_furnace_highest.b0
    simp only [lt_dec hj, cond_true, at_row h.k hj, at_cellN h.k hj hq, heat_hottest_eq h hj, hot_U, Option.bind_some, g4]
    rw [w64_of (n := x.fur.U j - (x.Firing.Kiln.at j q).Lo) (by omega) (by omega), push_of (by omega) (by omega)]
    rfl
   ·rw [hI.1, List.range_succ, List.map_append]; rfl
   ·show t ≤ max _ _ ↔ _
    rw [show ∀ a b : Int, t ≤ max a b ↔ t ≤ a ∨ t ≤ b by intro a b; omega, hI.2 t]
    constructor
    ·rintro ((k1 | ⟨i, k1, k2⟩) | k1)
     ·exact .inl k1
     ·exact .inr ⟨i, by omega, k2⟩
     ·exact .inr ⟨j, by omega, by omega⟩
    ·rintro (k1 | ⟨i, k1, k2⟩)
     ·exact .inl (.inl k1)
     ·by_cases hij : i = j
      ·subst hij; exact .inr (by omega)
      ·exact .inl (.inr ⟨i, by omega, k2⟩)) (fun s _ => by
   unfold heat_furnace_highest.b0
   simp only [lt_dec_self]; rfl)
 rw [h1]
 generalize (List.range x.Firing.Kiln.Falls.length).foldl (fun (s : Int × List Int) j => (max s.1 (x.fur.U j - x.fur.lo j q), s.2 ++ [(hot x j).2])) (-3000, []) = s at h2
 obtain ⟨n, l⟩ := s
 obtain ⟨h3, h4⟩ := h2
 simp only at h3 h4
 subst h3
 have h5 : ∀ t, t ≤ n ↔ ∃ j, j < x.Firing.Kiln.Falls.length ∧ t + x.fur.lo j q ≤ x.fur.U j := by
  intro t
  rw [h4]
  refine ⟨?_, .inr⟩
  rintro (k | k)
  ·refine ⟨0, by omega, ?_⟩
   have a1 := hs.1 0 (Nat.zero_le _)
   have a2 := kilnB_at h.k 0 q
   have a3 : x.fur.lo 0 q = (x.Firing.Kiln.at 0 q).Lo := rfl
   omega
  ·exact k
 have hb := bestL_some x.most q (fun y hy => (h.m y hy).1)
 have hH : ∀ t, x.fur.High q t ↔ t ≤ n ∧ ∀ y ∈ x.fur.M, y.1 = q → t ≤ y.2 := by
  intro t
  unfold Fur.High
  rw [h5 t]
  constructor
  ·rintro ⟨⟨j, k1, k2⟩, k3⟩; exact ⟨⟨j, by omega, k2⟩, k3⟩
  ·rintro ⟨⟨j, k1, k2⟩, k3⟩; exact ⟨⟨j, by omega, k2⟩, k3⟩
 simp only [Option.bind_some, heat_best_eq _ h.ml]
 cases hb2 : (bestL x.most (q : Int)).2 with
 | false =>
  rw [hb2] at hb
  have hb3 := (Fur.best_iff _ _).1.1 hb
  refine ⟨n, _, rfl, fun t => ?_, .inr ⟨rfl, h5⟩⟩
  rw [hH t]
  exact ⟨fun k => ⟨k, fun y hy e => absurd e (hb3 y hy)⟩, fun k => k.1⟩
 | true =>
  rw [hb2] at hb
  have hb3 := ((Fur.best_iff _ _).2 _ hb).1
  obtain ⟨hb4, hb5⟩ := bestL_mem _ _ hb2
  have hH2 : ∀ t, x.fur.High q t ↔ t ≤ n ∧ t ≤ (bestL x.most (q : Int)).1.heat := by intro t; rw [hH t, hb3 t]; rfl
  simp only [cond_true]
  by_cases hc : (bestL x.most (q : Int)).1.heat ≤ n
  ·simp only [hc, decide_true, cond_true]
   refine ⟨_, _, rfl, fun t => ?_, .inl ⟨_, hb4, hb5, rfl, rfl⟩⟩
   rw [hH2 t]; omega
  ·simp only [hc, decide_false, cond_false]
   refine ⟨_, _, rfl, fun t => ?_, .inr ⟨rfl, h5⟩⟩
   rw [hH2 t]; omega
theorem heat_bound_eq {x : heat_furnace} (h : x.ok) (hs : x.fur.Sound) {q : Nat} (hq : q < x.Firing.Kiln.P) :
  ∃ r, heat_furnace_bound KK x (q : Int) = some r ∧ (∀ t, r.Lo ≤ t ↔ x.fur.Low q t) ∧ ∀ t, t ≤ r.Hi ↔ x.fur.High q t := by
 obtain ⟨n1, p1, a1, a2, _⟩ := heat_lowest_eq h hs hq
 obtain ⟨n2, p2, b1, b2, _⟩ := heat_highest_eq h hs hq
 unfold heat_furnace_bound
 rw [a1, b1]
 exact ⟨_, rfl, a2, b2⟩
theorem bound_same {f : Fur} {q : Nat} {r s : Range} (h1 : ∀ t, r.Lo ≤ t ↔ f.Low q t) (h2 : ∀ t, t ≤ r.Hi ↔ f.High q t) (h3 : ∀ t, s.Lo ≤ t ↔ f.Low q t) (h4 : ∀ t, t ≤ s.Hi ↔ f.High q t) : r = s := by
 have e1 : r.Lo = s.Lo := eq_of_ge_iff fun t => by rw [h1, h3]
 have e2 : r.Hi = s.Hi := eq_of_le_iff fun t => by rw [h2, h4]
 cases r; cases s; simp only at e1 e2; rw [e1, e2]
end Go.Abs
namespace Go.Abs
open Go
set_option linter.unusedVariables false
def Field.u (x : Field) (j : Nat) : Int := x.Mouths.getD j 0
def Field.d (x : Field) (j p : Nat) : Int := (x.Falls.getD j []).getD p 0
def Field.ht (x : Field) (m p : Nat) : Int := mx (fun j => x.u j - x.d j p) m
def rowB (k : Kiln) (x : Field) (j : Nat) : Bool := inB (x.u j) 0 3000 && (decide ((x.Falls.getD j []).length = (k.Falls.getD j []).length) && (List.range (k.Falls.getD j []).length).all fun p => inB (x.d j p) (k.at j p).Lo (k.at j p).Hi)
def fieldB (k : Kiln) (x : Field) : Bool := decide (x.Mouths.length = k.Falls.length) && (decide (x.Falls.length = k.Falls.length) && (List.range k.Falls.length).all (rowB k x))
theorem heat_isField_eq {k : Kiln} (h : kilnB k = true) (x : Field) : heat_isField KK k x = some (fieldB k x) := by
 have hk := kilnB_len h
 unfold heat_isField fieldB
 simp only [len_dec]
 by_cases h1 : x.Mouths.length = k.Falls.length
 ·by_cases h2 : x.Falls.length = k.Falls.length
  ·simp only [h1, h2, decide_true, Bool.not_true, cond_true, cond_false, Bool.true_and]
   rw [whl_allN (n := k.Falls.length) (p := rowB k x) (c := false) (by omega) (by unfold KK; omega) (fun j hj => by
    unfold heat_isField.b0 rowB
    have hr := kilnB_row h hj
    simp only [lt_dec hj, cond_true, at_row h hj, at_nat (0 : Int) (show j < x.Mouths.length by omega), at_nat ([] : List Int) (show j < x.Falls.length by omega), Option.bind_some, heat_in_eq, len_dec]
    show (bif inB (x.u j) 0 3000 then _ else _) = _
    cases inB (x.u j) 0 3000 with
    | false => rfl
    | true =>
     by_cases h3 : (x.Falls.getD j []).length = (k.Falls.getD j []).length
     ·simp only [h3, decide_true, Bool.not_true, cond_true, cond_false, Bool.true_and]
      rw [whl_allN (n := (k.Falls.getD j []).length) (p := fun p => inB (x.d j p) (k.at j p).Lo (k.at j p).Hi) (c := false) (by omega) (by unfold KK; omega) (fun p hp => by
       unfold heat_isField.b1
       simp only [lt_dec hp, cond_true, at_nat R0 hp, at_nat (0 : Int) (show p < (x.Falls.getD j []).length by omega), Option.bind_some, heat_in_eq]
       show (bif !inB (x.d j p) (k.at j p).Lo (k.at j p).Hi then _ else _) = _
       cases inB (x.d j p) (k.at j p).Lo (k.at j p).Hi <;> rfl) (by
       unfold heat_isField.b1
       rw [lt_dec_self]; rfl)]
      cases (List.range (k.Falls.getD j []).length).all fun p => inB (x.d j p) (k.at j p).Lo (k.at j p).Hi <;> rfl
     ·simp only [h3, decide_false, Bool.not_false, cond_true, Bool.false_and, Bool.and_false, cond_false]) (by
    unfold heat_isField.b0
    rw [lt_dec_self]; rfl)]
   cases (List.range k.Falls.length).all (rowB k x) <;> rfl
  ·simp [h1, h2]
 ·simp [h1]
structure FieldOk (k : Kiln) (x : Field) : Prop where
 kv : kilnB k = true
 m : x.Mouths.length = k.Falls.length
 f : x.Falls.length = k.Falls.length
 row : ∀ j, j < k.Falls.length → (x.Falls.getD j []).length = k.P
 u : ∀ j, j < k.Falls.length → 0 ≤ x.u j ∧ x.u j ≤ 3000
 d : ∀ j p, j < k.Falls.length → (k.at j p).Lo ≤ x.d j p ∧ x.d j p ≤ (k.at j p).Hi
theorem fieldB_iff {k : Kiln} (h : kilnB k = true) (x : Field) : fieldB k x = true ↔ FieldOk k x := by
 unfold fieldB
 simp only [Bool.and_eq_true, decide_eq_true_eq, List.all_eq_true, List.mem_range, rowB, inB]
 constructor
 ·rintro ⟨h1, h2, h3⟩
  refine ⟨h, h1, h2, fun j hj => by rw [(h3 j hj).2.1, kilnB_row h hj], fun j hj => (h3 j hj).1, fun j p hj => ?_⟩
  obtain ⟨_, h4, h5⟩ := h3 j hj
  by_cases hp : p < (k.Falls.getD j []).length
  ·exact h5 p hp
  ·unfold Field.d Kiln.at
   rw [getD_none (by omega), getD_none (by omega)]
   exact ⟨Int.le_refl _, Int.le_refl _⟩
 ·intro g
  exact ⟨g.m, g.f, fun j hj => ⟨g.u j hj, by rw [g.row j hj, kilnB_row h hj], fun p _ => g.d j p hj⟩⟩
theorem FieldOk.isField {k : Kiln} {x : Field} (h : FieldOk k x) {f : Fur} (hm : f.m = k.Falls.length - 1) (hlo : ∀ j p, f.lo j p = (k.at j p).Lo) (hhi : ∀ j p, f.hi j p = (k.at j p).Hi) : f.IsField x.u x.d := by
 have hk := kilnB_len h.kv
 intro j hj
 have h1 := h.u j (by omega)
 refine ⟨h1.1, h1.2, fun p => ?_⟩
 rw [hlo, hhi]; exact h.d j p (by omega)
theorem FieldOk.bounds {k : Kiln} {x : Field} (h : FieldOk k x) {j : Nat} (p : Nat) (hj : j < k.Falls.length) : -3000 ≤ x.u j - x.d j p ∧ x.u j - x.d j p ≤ 3000 := by
 have h1 := h.u j hj
 have h2 := h.d j p hj
 have h3 := kilnB_at h.kv j p
 omega
theorem FieldOk.ht {k : Kiln} {x : Field} (h : FieldOk k x) (p : Nat) : -3000 ≤ x.ht (k.Falls.length - 1) p ∧ x.ht (k.Falls.length - 1) p ≤ 3000 := by
 have hk := kilnB_len h.kv
 unfold Field.ht
 rw [mx_le_iff, le_mx_iff]
 exact ⟨⟨0, Nat.zero_le _, (h.bounds p (by omega)).1⟩, fun j hj => (h.bounds p (by omega)).2⟩
def heatsL (k : Kiln) (x : Field) : List Int := (List.range k.P).map (x.ht (k.Falls.length - 1))
theorem heat_heats_eq {k : Kiln} {x : Field} (h : FieldOk k x) : heat_heats KK x = some (heatsL k x) := by
 have hk := kilnB_len h.kv
 have hm := h.m
 have hf := h.f
 have hr0 := h.row 0 (by omega)
 unfold heat_heats
 have e0 : at? x.Falls (0 : Int) = some (x.Falls.getD 0 []) := at_nat [] (l := x.Falls) (i := 0) (by omega)
 rw [e0]
 simp only [Option.bind_some]
 have h1 := (whl_foldN (n := (x.Falls.getD 0 []).length) (body := heat_heats.b0 KK x (x.Falls.getD 0 [])) (k := KK) (fun i s => (i, s)) (fun s p => s ++ [x.ht (k.Falls.length - 1) p]) (fun i s => s.length = i) (s0 := []) (by omega) (by unfold KK; omega) rfl ?_ ?_).1
 ·rw [h1, foldl_pushN, hr0]; rfl
 ·intro p s hp hI
  refine ⟨?_, by simp [hI]⟩
  unfold heat_heats.b0
  have e1 : at? x.Mouths (0 : Int) = some (x.u 0) := at_nat 0 (l := x.Mouths) (i := 0) (by omega)
  have e2 : at? (x.Falls.getD 0 []) (p : Int) = some (x.d 0 p) := at_nat 0 hp
  have hb0 := h.bounds p (show 0 < k.Falls.length by omega)
  simp only [lt_dec hp, cond_true, e1, e2, Option.bind_some]
  obtain ⟨h2, h3⟩ := whl_foldN (n := k.Falls.length) (body := heat_heats.b1 KK x (p : Int)) (k := KK) (fun i s => (s, i)) (fun s j => max s (x.u j - x.d j p)) (fun i s => ∀ t, t ≤ s ↔ t ≤ x.u 0 - x.d 0 p ∨ ∃ j, j < i ∧ t ≤ x.u j - x.d j p) (s0 := w64 (x.u 0 - x.d 0 p)) (by omega) (by unfold KK; omega) (by intro t; rw [w64_of (by omega) (by omega)]; simp) (fun j s hj hI2 => by
   have hb := h.bounds p hj
   have hr := h.row j hj
   have e3 : at? x.Mouths (j : Int) = some (x.u j) := at_nat 0 (by omega)
   have e4 : at? (x.Falls.getD j []) (p : Int) = some (x.d j p) := at_nat 0 (by omega)
   refine ⟨?_, fun t => ?_⟩
   ·unfold heat_heats.b1
    simp only [hm, lt_dec hj, cond_true, e3, e4, at_nat ([] : List Int) (show j < x.Falls.length by omega), Option.bind_some]
    rw [w64_of (n := x.u j - x.d j p) (by omega) (by omega)]
   ·rw [show ∀ a b : Int, t ≤ max a b ↔ t ≤ a ∨ t ≤ b by intro a b; omega, hI2 t]
    constructor
    ·rintro ((k1 | ⟨i, k1, k2⟩) | k1)
     ·exact .inl k1
     ·exact .inr ⟨i, by omega, k2⟩
     ·exact .inr ⟨j, by omega, by omega⟩
    ·rintro (k1 | ⟨i, k1, k2⟩)
     ·exact .inl (.inl k1)
     ·by_cases hij : i = j
      ·subst hij; exact .inr (by omega)
      ·exact .inl (.inr ⟨i, by omega, k2⟩)) (fun s _ => by
   unfold heat_heats.b1
   simp only [hm, lt_dec_self]; rfl)
  rw [h2]
  have : (List.range k.Falls.length).foldl (fun s j => max s (x.u j - x.d j p)) (w64 (x.u 0 - x.d 0 p)) = x.ht (k.Falls.length - 1) p := by
   refine eq_of_le_iff fun t => ?_
   unfold Field.ht
   rw [h3 t, le_mx_iff]
   constructor
   ·rintro (k1 | ⟨j, k1, k2⟩)
    ·exact ⟨0, Nat.zero_le _, k1⟩
    ·exact ⟨j, by omega, k2⟩
   ·rintro ⟨j, k1, k2⟩; exact .inr ⟨j, by omega, k2⟩
  rw [this]
  simp only [Option.bind_some]
  rw [push_of (by omega) (by omega)]
  rfl
 ·intro s _
  unfold heat_heats.b0
  simp only [lt_dec_self]; rfl
theorem R04_heat_eq {k : Kiln} {x : Field} (h : FieldOk k x) {p : Nat} (hp : p < k.P) : R04_heat KK x (p : Int) = some (x.ht (k.Falls.length - 1) p) := by
 have hk := kilnB_len h.kv
 have hm := h.m
 have hf := h.f
 have hr0 := h.row 0 (by omega)
 unfold R04_heat
 have e0 : at? x.Falls (0 : Int) = some (x.Falls.getD 0 []) := at_nat [] (l := x.Falls) (i := 0) (by omega)
 have e1 : at? x.Mouths (0 : Int) = some (x.u 0) := at_nat 0 (l := x.Mouths) (i := 0) (by omega)
 have e2 : at? (x.Falls.getD 0 []) (p : Int) = some (x.d 0 p) := at_nat 0 (by omega)
 have hb0 := h.bounds p (show 0 < k.Falls.length by omega)
 simp only [e0, e1, e2, Option.bind_some]
 rw [w64_of (by omega) (by omega)]
 have hw := whl_ok (body := R04_heat.b0 KK x (p : Int))
  (fun t => ∃ (i : Nat) (s : Int), t = (s, ((i + 1 : Nat) : Int)) ∧ i + 1 ≤ k.Falls.length ∧ s = x.ht i p)
  (fun r => r = .brk (x.ht (k.Falls.length - 1) p)) (fun t => k.Falls.length - t.2.toNat) ?_ KK (x.u 0 - x.d 0 p, 1) ⟨0, _, rfl, by omega, rfl⟩ (by unfold KK; simp only; omega)
 ·obtain ⟨r, k1, k2, _⟩ := hw
  rw [k1, k2]; rfl
 ·rintro t ⟨i, s, rfl, g1, g2⟩
  by_cases hi : i + 1 = k.Falls.length
  ·right; left
   refine ⟨s, ?_, by rw [g2]; congr 2; omega⟩
   unfold R04_heat.b0
   simp only [hm, hi, lt_dec_self]; rfl
  ·left
   have hj : i + 1 < k.Falls.length := by omega
   have hb := h.bounds p hj
   have hr := h.row _ hj
   have e3 : at? x.Mouths ((i + 1 : Nat) : Int) = some (x.u (i + 1)) := at_nat 0 (by omega)
   have e4 : at? (x.Falls.getD (i + 1) []) (p : Int) = some (x.d (i + 1) p) := at_nat 0 (by omega)
   refine ⟨(max s (x.u (i + 1) - x.d (i + 1) p), ((i + 1 + 1 : Nat) : Int)), ?_, ⟨i + 1, _, rfl, hj, by rw [g2]; rfl⟩, by simp only [Int.toNat_natCast]; omega⟩
   unfold R04_heat.b0
   simp only [hm, lt_dec hj, cond_true, e3, e4, at_nat ([] : List Int) (show i + 1 < x.Falls.length by omega), Option.bind_some]
   rw [w64_of (n := x.u (i + 1) - x.d (i + 1) p) (by omega) (by omega), w64_succ (n := k.Falls.length) hj (by omega)]
def heatsR (k : Kiln) (x : Field) : List Int × Int := bif !kilnB k then ([], 40) else bif !fieldB k x then ([], 45) else (heatsL k x, 0)
theorem heat_Heats_eq (k : Kiln) (q : Kiln.s k) (x : Field) : heat_Heats KK k x = some (heatsR k x) := by
 unfold heat_Heats heatsR
 rw [heat_CheckKiln_eq k q]
 cases h : kilnB k with
 | false => rfl
 | true =>
  simp only [Option.bind_some, cond_true, decide_true, Bool.not_true, cond_false, heat_isField_eq h]
  cases h2 : fieldB k x with
  | false => rfl
  | true => simp only [Bool.not_true, cond_false, heat_heats_eq ((fieldB_iff h x).1 h2)]; rfl
def rdAg (h : Int) (r : Reading) : Bool := !((lo? r).isSome && decide (h < (lo? r).getD 0)) && !((hi? r).isSome && decide ((hi? r).getD 0 < h))
def agB (f : Firing) (x : Field) : Bool := f.Readings.all fun r => rdAg (x.ht (f.Kiln.Falls.length - 1) r.Place.toNat) r
theorem agB_iff {f : Firing} (h : f.ok) (x : Field) : agB f x = true ↔ (nf f).fur.Agrees x.u x.d := by
 unfold agB Fur.Agrees
 rw [List.all_eq_true]
 have hh : ∀ p, (nf f).fur.heat x.u x.d p = x.ht (f.Kiln.Falls.length - 1) p := fun p => rfl
 have hr : ∀ (n : Int) r, rdAg n r = true ↔ (∀ a, lo? r = some a → a ≤ n) ∧ ∀ b, hi? r = some b → n ≤ b := by
  intro n r
  unfold rdAg
  cases lo? r <;> cases hi? r <;> simp
 constructor
 ·intro g
  refine ⟨fun z hz => ?_, fun z hz => ?_⟩
  ·obtain ⟨r, h1, h2, h3⟩ := limsOf_lp.1 hz
   rw [hh, ← h3]
   exact ((hr _ _).1 (g r h1)).1 _ h2
  ·obtain ⟨r, h1, h2, h3⟩ := limsOf_lp.1 hz
   rw [hh, ← h3]
   exact ((hr _ _).1 (g r h1)).2 _ h2
 ·rintro ⟨g1, g2⟩ r hr'
  rw [hr]
  exact ⟨fun a ha => g1 (r.Place.toNat, a) (limsOf_lp.2 ⟨r, hr', ha, rfl⟩), fun b hb => g2 (r.Place.toNat, b) (limsOf_lp.2 ⟨r, hr', hb, rfl⟩)⟩
def fieldCode (f : Firing) (x : Field) : Int := bif !decide (firingCode f = 0) then 42 else bif !fieldB f.Kiln x then 45 else bif agB f x then 0 else 45
theorem heat_CheckField_eq (f : Firing) (q : Firing.s f) (x : Field) : heat_CheckField KK f x = some (fieldCode f x) := by
 unfold heat_CheckField fieldCode
 rw [heat_Check_eq f q]
 simp only [Option.bind_some]
 by_cases h : firingCode f = 0
 ·have hok := firing_ok h
  have hl := hok.l
  simp only [h, decide_true, Bool.not_true, cond_false, heat_isField_eq hok.k, Option.bind_some]
  cases h2 : fieldB f.Kiln x with
  | false => rfl
  | true =>
   have hF := (fieldB_iff hok.k x).1 h2
   simp only [Bool.not_true, cond_false, heat_heats_eq hF, Option.bind_some]
   unfold agB
   rw [whl_allL (l := f.Readings) (p := fun r => rdAg (x.ht (f.Kiln.Falls.length - 1) r.Place.toNat) r) (c := (45 : Int)) (by omega) (by unfold KK; omega) ?_ ?_]
   ·cases f.Readings.all fun r => rdAg (x.ht (f.Kiln.Falls.length - 1) r.Place.toNat) r <;> rfl
   ·intro i r hr
    have hi : i < f.Readings.length := (List.getElem?_eq_some_iff.1 hr).1
    have hro := hok.r r (List.mem_of_getElem? hr)
    have hp := hro.1
    have hp2 := hro.2.1
    have hpl : ((r.Place.toNat : Nat) : Int) = r.Place := by omega
    have e1 : at? (heatsL f.Kiln x) r.Place = some (x.ht (f.Kiln.Falls.length - 1) r.Place.toNat) := by
     have := at_mapR (x.ht (f.Kiln.Falls.length - 1)) (n := f.Kiln.P) (j := r.Place.toNat) (by omega)
     rw [hpl] at this; exact this
    unfold heat_CheckField.b0 rdAg
    simp only [lt_dec hi, cond_true, at_of hr, Option.bind_some, heat_least_eq, heat_most_eq, e1]
    cases (lo? r).isSome <;> cases (hi? r).isSome <;> cases decide (x.ht (f.Kiln.Falls.length - 1) r.Place.toNat < (lo? r).getD 0) <;> cases decide ((hi? r).getD 0 < x.ht (f.Kiln.Falls.length - 1) r.Place.toNat) <;> rfl
   ·unfold heat_CheckField.b0
    rw [lt_dec_self]; rfl
 ·simp only [h, decide_false, Bool.not_false, cond_true]
theorem gField_u (x : heat_furnace) {j : Nat} (hj : j < x.Firing.Kiln.Falls.length) : (gField x).u j = x.fur.U j := by
 unfold Field.u gField
 exact getD_of _ (by rw [List.getElem?_map, List.getElem?_range hj]; rfl)
theorem gField_d (x : heat_furnace) {j p : Nat} (hj : j < x.Firing.Kiln.Falls.length) (hp : p < x.Firing.Kiln.P) : (gField x).d j p = x.fur.gd j p := by
 unfold Field.d gField
 rw [getD_of (x := (List.range x.Firing.Kiln.P).map fun p => x.fur.gd j p) _ (by rw [List.getElem?_map, List.getElem?_range hj]; rfl)]
 exact getD_of _ (by rw [List.getElem?_map, List.getElem?_range hp]; rfl)
theorem gField_ok {x : heat_furnace} (h : x.ok) (hs : x.fur.Sound) : FieldOk x.Firing.Kiln (gField x) := by
 have hk := kilnB_len h.k
 have hF := Fur.gd_isField (fur_ok h) hs
 have hm : x.fur.m = x.Firing.Kiln.Falls.length - 1 := rfl
 refine ⟨h.k, by simp [gField], by simp [gField], fun j hj => ?_, fun j hj => ?_, fun j p hj => ?_⟩
 ·unfold gField
  rw [getD_of (x := (List.range x.Firing.Kiln.P).map fun p => x.fur.gd j p) _ (by rw [List.getElem?_map, List.getElem?_range hj]; rfl)]
  simp
 ·rw [gField_u x hj]
  have := hF j (by omega)
  exact ⟨this.1, this.2.1⟩
 ·by_cases hp : p < x.Firing.Kiln.P
  ·rw [gField_d x hj hp]
   exact (hF j (by omega)).2.2 p
  ·unfold Field.d Kiln.at
   rw [getD_none (l := x.Firing.Kiln.Falls.getD j []) (by rw [kilnB_row h.k hj]; omega)]
   rw [getD_none (l := (gField x).Falls.getD j []) (by
    unfold gField
    rw [getD_of (x := (List.range x.Firing.Kiln.P).map fun p => x.fur.gd j p) _ (by rw [List.getElem?_map, List.getElem?_range hj]; rfl)]
    simp; omega)]
   exact ⟨Int.le_refl _, Int.le_refl _⟩
theorem mx_congr {f g : Nat → Int} : ∀ n, (∀ j, j ≤ n → f j = g j) → mx f n = mx g n
 | 0, h => h 0 (Nat.le_refl _)
 | n + 1, h => by rw [mx, mx, mx_congr n (fun j hj => h j (by omega)), h _ (Nat.le_refl _)]
end Go.Abs
namespace Go.Abs
open Go
set_option linter.unusedVariables false
def Firing.w (f : Firing) : Prop := f.Readings.length * 24 + 24 ≤ 140737488355328
theorem Firing.q.w {f : Firing} (q : Firing.q f) : Firing.w f := by
 have := q.2.2.1
 have := qB_le
 unfold Firing.w; omega
theorem firing_w {f : Firing} (h : f.ok) : Firing.w f := by have := h.l; unfold Firing.w; omega
theorem firing_s {f : Firing} (h : f.ok) : Firing.s f := by
 obtain ⟨s1, s2, s3⟩ := kilnB_small h.k
 have := h.l
 exact ⟨⟨by unfold Go.maxLen; omega, fun x hx => by rw [s3 x hx]; unfold Go.maxLen; omega⟩, by unfold Go.maxLen; omega⟩
def soundR (f : Firing) : Bool × Int := bif !decide (firingCode f = 0) then (false, 42) else (soundB (nf f), 0)
theorem heat_Sound_eq (f : Firing) (q : Firing.s f) : heat_Sound KK f = some (soundR f) := by
 unfold heat_Sound soundR
 rw [heat_Check_eq f q]
 simp only [Option.bind_some]
 by_cases h : firingCode f = 0
 ·have hok := firing_ok h
  simp only [h, decide_true, Bool.not_true, cond_false, heat_newFurnace_eq f (firing_w hok), Option.bind_some, heat_sound_eq (nf_ok hok)]
 ·simp only [h, decide_false, Bool.not_false, cond_true]
def noFur : heat_furnace := ⟨⟨⟨[]⟩, []⟩, [], []⟩
def askCode (f : Firing) (p : Int) : Int := bif !decide (firingCode f = 0) then 42 else bif !inB p 0 ((f.Kiln.P : Int) - 1) then 43 else bif !soundB (nf f) then 44 else 0
theorem heat_asks_eq (f : Firing) (q : Firing.s f) (w : Firing.w f) (p : Int) : heat_asks KK f p = some (bif decide (askCode f p = 0) then (nf f, 0) else (noFur, askCode f p)) := by
 unfold heat_asks askCode
 rw [heat_newFurnace_eq f w, heat_Check_eq f q]
 simp only [Option.bind_some]
 by_cases h : firingCode f = 0
 ·have hok := firing_ok h
  have hk := kilnB_len hok.k
  obtain ⟨x3, g1, g2, g3⟩ := kilnB_head hok.k
  have hP : x3.length = f.Kiln.P := by unfold Kiln.P; rw [g3]
  simp only [h, decide_true, Bool.not_true, cond_false, g2, Option.bind_some, heat_in_eq, hP, heat_sound_eq (nf_ok hok)]
  rw [w64_of (n := (f.Kiln.P : Int) - 1) (by omega) (by omega)]
  cases inB p 0 ((f.Kiln.P : Int) - 1) with
  | false => rfl
  | true => cases soundB (nf f) <;> rfl
 ·simp only [h, decide_false, Bool.not_false, cond_true]
  rfl
theorem askCode_ok {f : Firing} {p : Int} (h : askCode f p = 0) : firingCode f = 0 ∧ f.ok ∧ 0 ≤ p ∧ p < f.Kiln.P ∧ (nf f).fur.Sound ∧ soundB (nf f) = true := by
 unfold askCode at h
 by_cases hc : firingCode f = 0
 ·have hok := firing_ok hc
  simp only [hc, decide_true, Bool.not_true, cond_false] at h
  cases hi : inB p 0 ((f.Kiln.P : Int) - 1) with
  | false => rw [hi] at h; simp at h
  | true =>
   rw [hi] at h
   cases hs : soundB (nf f) with
   | false => rw [hs] at h; simp at h
   | true =>
    simp only [inB, Bool.and_eq_true, decide_eq_true_eq] at hi
    exact ⟨hc, hok, hi.1, by omega, (soundB_iff (nf_ok hok)).1 hs, rfl⟩
 ·simp [hc] at h
def boundR (f : Firing) (p : Int) (r : Range) : Range × Int := bif decide (askCode f p = 0) then (r, 0) else (⟨0, 0⟩, askCode f p)
def IsBound (f : Firing) (p : Int) (r : Range) : Prop := askCode f p = 0 → (∀ t, r.Lo ≤ t ↔ (nf f).fur.Low p.toNat t) ∧ ∀ t, t ≤ r.Hi ↔ (nf f).fur.High p.toNat t
theorem IsBound.one {f : Firing} {p : Int} {r s : Range} (h1 : IsBound f p r) (h2 : IsBound f p s) : boundR f p r = boundR f p s := by
 unfold boundR
 by_cases h : askCode f p = 0
 ·have a := h1 h
  have b := h2 h
  rw [bound_same a.1 a.2 b.1 b.2]
 ·simp only [h, decide_false, cond_false]
end Go.Abs
