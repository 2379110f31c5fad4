/-
  Part 5 of the proof: a machine over named blocks, what each function computes, and what follows. No condition.
-/
import Derived.Test.YtafmgcbfmifaeaaHShownD
set_option linter.unusedVariables false
set_option linter.unusedSimpArgs false
set_option linter.all false
set_option maxRecDepth 20000
set_option maxHeartbeats 8000000
namespace Go.Abs
open Go.Proofs
def F110.s0 : SC :=
 (.seq
 (.reg [b2 9 .lss 3 8 7 3 0 []])
 (.seq
 (.cond (.tmp 9)
 .skip
 (.exit 0))
 (.seq
 (.block 1
 (.seq
 (.reg [mv 10 8 3 [],
 sg 5 10 3 [10]])
 (.seq
 (.reg [mv 11 1 152 [],
 mv 12 0 30 [],
 mv 13 5 3 [],
 ia 14 30 12 13 [12, 13],
 ld 15 60 14 [14],
 oq 16 (.call ⟨.value (.tmp 11), #[.tmp 15], #[60]⟩) 4 [11, 15]])
 (.cond (.tmp 16)
 (.seq
 (.reg [mv 17 5 3 [5],
 sg 4 17 3 [17]])
 .ret)
 .skip))))
 (.reg [bn 18 .add 3 8 1 3 3 [8],
 mv 8 18 3 [18]]))))
def F110.c : SC :=
 (.seq
 (.reg [sn 4 0 3 [4]])
 (.seq
 (.seq
 (.reg [mv 6 0 30 [],
 ln 7 6 30 3 [6],
 oq 8 (.move (.const (.int .i64 0))) 3 []])
 (.block 0
 (.loop F110.s0)))
 (.seq
 (.reg [sn 4 (-1) 3 []])
 .ret)))
theorem F110.rs : Try.f110.results.toList = [.tmp 4] := rfl
def slices_IndexFunc_api_Reading.b0 (k : Nat) (f1 : Reading → Option (Bool)) (s0 : (List Reading)) : Int → Option (Stp (Int) (Unit) (Int)) := fun (i1 : Int) =>
 bif decide (i1 < (s0.length : Int)) then
  (at? s0 i1).bind fun x3 =>
  (f1 x3).bind fun x4 =>
  bif x4 then
   some (.ret i1)
  else
   some (.next (w64 (i1 + 1)))
 else
  some (.brk ())
noncomputable def slices_IndexFunc_api_Reading.h0 (f1_f : Nat) (f1_c : List AV) (s0 : (List Reading)) : Int → St := fun (i1 : Int) => ⟨[(0, .sl 6 (List.map Reading.c s0)), (1, .fn (.func f1_f) [] f1_c), (7, .int .i64 (s0.length : Int)), (8, .int .i64 i1)], [], [], 1, Try.f110.ntmps⟩
noncomputable def slices_IndexFunc_api_Reading.x0 : Unit → St := fun (_ : Unit) => ⟨[], [], [], 1, Try.f110.ntmps⟩
def slices_IndexFunc_api_Reading (k : Nat) (s0 : (List Reading)) (f1 : Reading → Option (Bool)) : Option (Int) :=
 (whl (slices_IndexFunc_api_Reading.b0 k f1 s0) k 0).bind fun r6 => match r6 with
 | .next _ => none
 | .ret v_ => some v_
 | .brk _ =>
  some (-1)
theorem slices_IndexFunc_api_Reading_ok (k : Nat) (s0 : (List Reading)) (f1_f : Nat) (f1_c : List AV) (f1_i : Ice f1_c) (f1 : Reading → Option (Bool)) (f1_h : ∀ q0 qr, f1 q0 = some qr → PCall Try.prog f1_f (.agg (Reading.c q0) :: f1_c) (fun y => y = .bool qr)) (r : Int) (h0 : slices_IndexFunc_api_Reading k s0 f1 = some r) : PCall Try.prog 110 [.sl 6 (List.map Reading.c s0), .fn (.func f1_f) [] f1_c] (fun y => y = .int .i64 r) := by
 refine PB (fn := Try.f110) (sc := F110.c) ?_
 refine rS ?_
 simp only [slices_IndexFunc_api_Reading] at h0
 try simp only [F110.c, f1_i.sh, f1_i.frz, f1_i.br, f1_i.refs, f1_i.imp, f1_i.ren, f1_i.un, go_sem]
 obtain ⟨r6, yr6, h0⟩ := bs h0
 refine AKev_loopS yr6 (slices_IndexFunc_api_Reading.h0 f1_f f1_c s0) (slices_IndexFunc_api_Reading.x0) ?_ ?_ ?_
 refine Weak.go [0, 1, 7, 8] [] rfl ?_
 try simp only [slices_IndexFunc_api_Reading.h0, f1_i.sh, f1_i.frz, f1_i.br, f1_i.refs, f1_i.imp, f1_i.ren, f1_i.un, go_sem]
 rintro i1 x_1 Bk1 Br1 h1 hnext1 hbrk1 hret1
 refine rS ?_
 simp only [slices_IndexFunc_api_Reading.b0] at h1
 try simp only [F110.s0, slices_IndexFunc_api_Reading.h0, f1_i.sh, f1_i.frz, f1_i.br, f1_i.refs, f1_i.imp, f1_i.ren, f1_i.un, go_sem]
 refine AKev_bif h1 ?_ ?_ <;> intro c2 h1
 try simp only [c2, f1_i.sh, f1_i.frz, f1_i.br, f1_i.refs, f1_i.imp, f1_i.ren, f1_i.un, go_sem]
 obtain ⟨x3, yx3, h1⟩ := bs h1
 try simp only [aa yx3, f1_i.sh, f1_i.frz, f1_i.br, f1_i.refs, f1_i.imp, f1_i.ren, f1_i.un, c2, go_sem]
 obtain ⟨x4, yx4, h1⟩ := bs h1
 refine zc0 (f1_h _ _ yx4) ?_ (by first | rfl | simp [AV.refsL, AV.refs, AV.scal, AV.leaf, f1_i.refs]) ?_
 try simp only [f1_i.sh, f1_i.frz, f1_i.br, f1_i.refs, f1_i.imp, f1_i.ren, f1_i.un, c2, aa yx3, go_sem]
 try simp only [f1_i.sh, f1_i.frz, f1_i.br, f1_i.refs, f1_i.imp, f1_i.ren, f1_i.un, c2, aa yx3, go_sem]
 refine AKev_bif h1 ?_ ?_ <;> intro c5 h1
 try simp only [c5, f1_i.sh, f1_i.frz, f1_i.br, f1_i.refs, f1_i.imp, f1_i.ren, f1_i.un, c2, aa yx3, go_sem]
 obtain rfl := hret1 _ (Option.some.inj h1).symm
 simp only at h0
 obtain rfl := Option.some.inj h0
 refine AKev_ret rfl ?_
 try simp only [F110.rs, f1_i.sh, f1_i.frz, f1_i.br, f1_i.refs, f1_i.imp, f1_i.ren, f1_i.un, c2, aa yx3, c5, go_sem]
 try simp only [c5, f1_i.sh, f1_i.frz, f1_i.br, f1_i.refs, f1_i.imp, f1_i.ren, f1_i.un, c2, aa yx3, go_sem]
 refine AKev_backB (hnext1 _ _ (Option.some.inj h1).symm ?_)
 refine Weak.go [0, 1, 7, 8] [] rfl ?_
 try simp only [slices_IndexFunc_api_Reading.h0, f1_i.sh, f1_i.frz, f1_i.br, f1_i.refs, f1_i.imp, f1_i.ren, f1_i.un, c2, aa yx3, c5, go_sem]
 try simp only [c2, f1_i.sh, f1_i.frz, f1_i.br, f1_i.refs, f1_i.imp, f1_i.ren, f1_i.un, go_sem]
 refine AKev_backB (hbrk1 _ _ (Option.some.inj h1).symm ?_)
 refine Weak.go [] [] rfl ?_
 try simp only [slices_IndexFunc_api_Reading.x0, f1_i.sh, f1_i.frz, f1_i.br, f1_i.refs, f1_i.imp, f1_i.ren, f1_i.un, c2, go_sem]
 rintro _ hr_
 subst hr_
 simp only at h0
 refine rS ?_
 try simp only [slices_IndexFunc_api_Reading.x0, f1_i.sh, f1_i.frz, f1_i.br, f1_i.refs, f1_i.imp, f1_i.ren, f1_i.un, go_sem]
 obtain rfl := Option.some.inj h0
 refine AKev_ret rfl ?_
 try simp only [F110.rs, f1_i.sh, f1_i.frz, f1_i.br, f1_i.refs, f1_i.imp, f1_i.ren, f1_i.un, go_sem]
def F97.s0 : SC :=
 (.seq
 (.seq
 (.reg [mv 16 6 3 [],
 mv 17 0 30 [],
 ln 18 17 30 3 [17],
 b2 19 .lss 3 16 18 3 4 [16, 18]])
 (.cond (.tmp 19)
 .skip
 (.exit 0)))
 (.seq
 (.block 1
 (.seq
 (.reg [mv 22 0 30 [],
 mv 23 6 3 [],
 ia 24 30 22 23 [22, 23],
 ld 25 60 24 [24],
 oq 7 (.alloc 60) 0 [],
 ⟨none, .store 60 (.tmp 7) (.tmp 25), 0, none, [25]⟩])
 (.seq
 (.reg [mv 26 1 152 [],
 ld 27 60 7 [],
 oq 28 (.call ⟨.value (.tmp 26), #[.tmp 27], #[60]⟩) 4 [26, 27],
 oq 29 (.unOp .not 4 (.tmp 28)) 4 [28]])
 (.cond (.tmp 29)
 (.seq
 (.reg [mv 30 0 30 [],
 mv 31 5 3 [],
 ld 32 60 7 [7],
 ia 33 30 30 31 [30, 31],
 ⟨none, .store 60 (.tmp 33) (.tmp 32), 0, none, [32, 33]⟩])
 (.reg [mv 34 5 3 [5],
 bn 35 .add 3 34 1 3 3 [34],
 sg 5 35 3 [35]]))
 .skip))))
 (.reg [mv 20 6 3 [6],
 bn 21 .add 3 20 1 3 3 [20],
 sg 6 21 3 [21]])))
def F97.c : SC :=
 (.seq
 (.reg [oq 4 (.assign (.const (.slice none 0 0))) 30 [4]])
 (.seq
 (.reg [mv 8 0 30 [],
 mv 9 1 152 [],
 cf2 10 110 8 9 30 152 3 [8, 9],
 sg 5 10 3 [10]])
 (.seq
 (.seq
 (.reg [mv 11 5 3 [],
 bn 12 .eql 3 11 (-1) 3 4 [11]])
 (.cond (.tmp 12)
 (.seq
 (.reg [mv 13 0 30 [0],
 sg 4 13 30 [13]])
 .ret)
 .skip))
 (.seq
 (.seq
 (.reg [mv 14 5 3 [],
 bn 15 .add 3 14 1 3 3 [14],
 sg 6 15 3 [15]])
 (.block 0
 (.loop F97.s0)))
 (.seq
 (.reg [mv 36 0 30 [],
 mv 37 5 3 [],
 oq 38 (.slice 30 (.tmp 36) (some (.tmp 37)) none none) 30 [36, 37],
 ⟨none, .call ⟨.builtin .clear, #[.tmp 38], #[30]⟩, 0, none, [38]⟩])
 (.seq
 (.reg [mv 39 0 30 [0],
 mv 40 5 3 [5],
 oq 41 (.slice 30 (.tmp 39) none (some (.tmp 40)) none) 30 [39, 40],
 sg 4 41 30 [41]])
 .ret))))))
theorem F97.rs : Try.f97.results.toList = [.tmp 4] := rfl
def slices_DeleteFunc_api_Reading.b0 (k : Nat) (del1 : Reading → Option (Bool)) : (Int × Int × (List Reading)) → Option (Stp (Int × Int × (List Reading)) (Int × (List Reading)) ((List Reading))) := fun (s : Int × Int × (List Reading)) => match s with
 | (i3, i4, l5) =>
   bif decide (i4 < ((l5.length : Nat) : Int)) then
    (at? l5 i4).bind fun x9 =>
    (del1 x9).bind fun x10 =>
    bif (!x10) then
     (at? l5 i3).bind fun x12 =>
     (set? l5 i3 x9).bind fun l13 =>
     some (.next (w64 (i3 + 1), w64 (i4 + 1), l13))
    else
     some (.next (i3, w64 (i4 + 1), l5))
   else
    some (.brk (i3, l5))
noncomputable def slices_DeleteFunc_api_Reading.h0 (H : Heap) (del1_f : Nat) (del1_c : List AV) : (Int × Int × (List Reading)) → St := fun (s : Int × Int × (List Reading)) => match s with
 | (i3, i4, l5) => ⟨[(0, .loc 0 0 6 0 l5.length l5.length), (1, .fn (.func del1_f) [] del1_c), (5, .int .i64 i3), (6, .int .i64 i4)], [(0, .arr 60 6 (List.map Reading.c l5))], H, 1, Try.f97.ntmps⟩
noncomputable def slices_DeleteFunc_api_Reading.x0 (H : Heap) : (Int × (List Reading)) → St := fun (s : Int × (List Reading)) => match s with
 | (i6, l7) => ⟨[(0, .loc 0 0 6 0 l7.length l7.length), (5, .int .i64 i6)], [(0, .arr 60 6 (List.map Reading.c l7))], H, 1, Try.f97.ntmps⟩
def slices_DeleteFunc_api_Reading (k : Nat) (s0 : (List Reading)) (del1 : Reading → Option (Bool)) : Option ((List Reading)) :=
 (slices_IndexFunc_api_Reading k s0 del1).bind fun x1 =>
 bif decide (x1 = (-1 : Int)) then
  some s0
 else
  (whl (slices_DeleteFunc_api_Reading.b0 k del1) k (x1, w64 (x1 + 1), s0)).bind fun r14 => match r14 with
  | .next _ => none
  | .ret v_ => some v_
  | .brk (i6, l7) =>
   (ls? l7.length i6).bind fun _ =>
   (hs? l7.length i6).bind fun _ =>
   some ((clr l7 i6.toNat (l7.length - i6.toNat) (⟨0, 0, 0, 0, (⟨0, 0⟩ : Range)⟩ : Reading)).take i6.toNat)
theorem slices_DeleteFunc_api_Reading_ok (k : Nat) (s0 : (List Reading)) (del1_f : Nat) (del1_c : List AV) (del1_i : Ice del1_c) (del1 : Reading → Option (Bool)) (del1_h : ∀ q0 qr, del1 q0 = some qr → PCall Try.prog del1_f (.agg (Reading.c q0) :: del1_c) (fun y => y = .bool qr)) (r : (List Reading)) (h0 : slices_DeleteFunc_api_Reading k s0 del1 = some r) : GCall Try.prog 97 [.loc 0 0 6 0 s0.length s0.length, .fn (.func del1_f) [] del1_c] [(0, .arr 60 6 (List.map Reading.c s0))] (fun y fr => y = .loc 0 0 6 0 r.length r.length ∧ fr = [(0, .arr 60 6 (List.map Reading.c r))]) := by
 have hr := GCall.own (et := 60) (sz := 6) (ls := List.map Reading.c r) (GCall.of_body T_ok (f := 97) (fn := Try.f97) (sc := F97.c) (args := [.loc 0 0 6 0 s0.length s0.length, .fn (.func del1_f) [] del1_c]) (fr0 := [(0, .arr 60 6 (List.map Reading.c s0))]) (by rfl) (by rfl) (by decide +kernel) (by rfl) (by decide +kernel) (Nat.le_of_ble_eq_true rfl) (fun H => ?_))
 simpa only [List.length_map] using hr
 refine rS ?_
 simp only [slices_DeleteFunc_api_Reading] at h0
 try simp only [F97.c, del1_i.sh, del1_i.frz, del1_i.br, del1_i.refs, del1_i.imp, del1_i.ren, del1_i.un, go_sem]
 obtain ⟨x1, yx1, h0⟩ := bs h0
 refine zc0 (slices_IndexFunc_api_Reading_ok k _ del1_f del1_c del1_i del1 del1_h _ yx1) ?_ (by first | rfl | simp [AV.refsL, AV.refs, AV.scal, AV.leaf, del1_i.refs]) ?_
 try simp only [del1_i.sh, del1_i.frz, del1_i.br, del1_i.refs, del1_i.imp, del1_i.ren, del1_i.un, go_sem]
 try simp only [del1_i.sh, del1_i.frz, del1_i.br, del1_i.refs, del1_i.imp, del1_i.ren, del1_i.un, go_sem]
 refine AKev_bif h0 ?_ ?_ <;> intro c2 h0
 try simp only [c2, del1_i.sh, del1_i.frz, del1_i.br, del1_i.refs, del1_i.imp, del1_i.ren, del1_i.un, go_sem]
 obtain rfl := Option.some.inj h0
 refine AKev_gret rfl ?_
 try simp only [F97.rs, oOK, Option.map_some, tupOf, cut0_map, cut_map, Nat.le_refl, List.take_length, del1_i.sh, del1_i.frz, del1_i.br, del1_i.refs, del1_i.imp, del1_i.ren, del1_i.un, c2, go_sem]
 try simp only [c2, del1_i.sh, del1_i.frz, del1_i.br, del1_i.refs, del1_i.imp, del1_i.ren, del1_i.un, go_sem]
 obtain ⟨r14, yr14, h0⟩ := bs h0
 refine AKev_loopS yr14 (slices_DeleteFunc_api_Reading.h0 H del1_f del1_c) (slices_DeleteFunc_api_Reading.x0 H) ?_ ?_ ?_
 refine Weak.go [0, 1, 5, 6] [0] rfl ?_
 try simp only [slices_DeleteFunc_api_Reading.h0, del1_i.sh, del1_i.frz, del1_i.br, del1_i.refs, del1_i.imp, del1_i.ren, del1_i.un, c2, go_sem]
 rintro ⟨i3, i4, l5⟩ x_1 Bk1 Br1 h1 hnext1 hbrk1 hret1
 refine rS ?_
 simp only [slices_DeleteFunc_api_Reading.b0] at h1
 try simp only [F97.s0, slices_DeleteFunc_api_Reading.h0, del1_i.sh, del1_i.frz, del1_i.br, del1_i.refs, del1_i.imp, del1_i.ren, del1_i.un, c2, go_sem]
 refine AKev_bif h1 ?_ ?_ <;> intro c8 h1
 try simp only [c8, del1_i.sh, del1_i.frz, del1_i.br, del1_i.refs, del1_i.imp, del1_i.ren, del1_i.un, c2, go_sem]
 obtain ⟨x9, yx9, h1⟩ := bs h1
 try simp only [aa yx9, del1_i.sh, del1_i.frz, del1_i.br, del1_i.refs, del1_i.imp, del1_i.ren, del1_i.un, c2, c8, go_sem]
 obtain ⟨x10, yx10, h1⟩ := bs h1
 refine zc0 (del1_h _ _ yx10) ?_ (by first | rfl | simp [AV.refsL, AV.refs, AV.scal, AV.leaf, del1_i.refs]) ?_
 try simp only [del1_i.sh, del1_i.frz, del1_i.br, del1_i.refs, del1_i.imp, del1_i.ren, del1_i.un, c2, c8, aa yx9, go_sem]
 try simp only [del1_i.sh, del1_i.frz, del1_i.br, del1_i.refs, del1_i.imp, del1_i.ren, del1_i.un, c2, c8, aa yx9, go_sem]
 refine AKev_bif h1 ?_ ?_ <;> intro c11 h1
 have c11 := bnot_t c11
 try simp only [c11, del1_i.sh, del1_i.frz, del1_i.br, del1_i.refs, del1_i.imp, del1_i.ren, del1_i.un, c2, c8, aa yx9, go_sem]
 obtain ⟨x12, yx12, h1⟩ := bs h1
 try simp only [aa yx12, del1_i.sh, del1_i.frz, del1_i.br, del1_i.refs, del1_i.imp, del1_i.ren, del1_i.un, c2, c8, aa yx9, c11, go_sem]
 obtain ⟨l13, yl13, h1⟩ := bs h1
 have eyl13 := set_map Reading.c yl13
 simp only [go_sem] at eyl13
 try simp only [eyl13, del1_i.sh, del1_i.frz, del1_i.br, del1_i.refs, del1_i.imp, del1_i.ren, del1_i.un, c2, c8, aa yx9, c11, aa yx12, set_len yl13, set_take Reading.c yl13, go_sem]
 refine AKev_backB (hnext1 _ _ (Option.some.inj h1).symm ?_)
 refine Weak.go [0, 1, 5, 6] [0] rfl ?_
 try simp only [slices_DeleteFunc_api_Reading.h0, del1_i.sh, del1_i.frz, del1_i.br, del1_i.refs, del1_i.imp, del1_i.ren, del1_i.un, c2, c8, aa yx9, c11, aa yx12, eyl13, set_len yl13, set_take Reading.c yl13, go_sem]
 have c11 := bnot_f c11
 try simp only [c11, del1_i.sh, del1_i.frz, del1_i.br, del1_i.refs, del1_i.imp, del1_i.ren, del1_i.un, c2, c8, aa yx9, go_sem]
 refine AKev_backB (hnext1 _ _ (Option.some.inj h1).symm ?_)
 refine Weak.go [0, 1, 5, 6] [0] rfl ?_
 try simp only [slices_DeleteFunc_api_Reading.h0, del1_i.sh, del1_i.frz, del1_i.br, del1_i.refs, del1_i.imp, del1_i.ren, del1_i.un, c2, c8, aa yx9, c11, go_sem]
 try simp only [c8, del1_i.sh, del1_i.frz, del1_i.br, del1_i.refs, del1_i.imp, del1_i.ren, del1_i.un, c2, go_sem]
 refine AKev_backB (hbrk1 _ _ (Option.some.inj h1).symm ?_)
 refine Weak.go [0, 5] [0] rfl ?_
 try simp only [slices_DeleteFunc_api_Reading.x0, del1_i.sh, del1_i.frz, del1_i.br, del1_i.refs, del1_i.imp, del1_i.ren, del1_i.un, c2, c8, go_sem]
 rintro ⟨i6, l7⟩ hr_
 subst hr_
 simp only at h0
 refine rS ?_
 try simp only [slices_DeleteFunc_api_Reading.x0, del1_i.sh, del1_i.frz, del1_i.br, del1_i.refs, del1_i.imp, del1_i.ren, del1_i.un, c2, go_sem]
 obtain ⟨u15, yu15, h0⟩ := bs h0
 have lyu15 := ls_le yu15
 have eq16 := clr_map Reading.c l7 i6.toNat (l7.length - i6.toNat) (⟨0, 0, 0, 0, (⟨0, 0⟩ : Range)⟩ : Reading)
 have lq16 : (clr l7 i6.toNat (l7.length - i6.toNat) (⟨0, 0, 0, 0, (⟨0, 0⟩ : Range)⟩ : Reading)).length = l7.length := by rw [clr_len] <;> simp only [del1_i.sh, del1_i.frz, del1_i.br, del1_i.refs, del1_i.imp, del1_i.ren, del1_i.un, c2, lyu15, go_sem]
 try simp only [go_sem] at eq16
 try simp only [ls_bounds yu15, lyu15, eq16, del1_i.sh, del1_i.frz, del1_i.br, del1_i.refs, del1_i.imp, del1_i.ren, del1_i.un, c2, lq16, go_sem]
 obtain ⟨u17, yu17, h0⟩ := bs h0
 have lyu17 := hs_le yu17
 try simp only [hs_bounds yu17, lyu17, del1_i.sh, del1_i.frz, del1_i.br, del1_i.refs, del1_i.imp, del1_i.ren, del1_i.un, c2, lyu15, lq16, go_sem]
 obtain rfl := Option.some.inj h0
 refine AKev_gret rfl ?_
 try simp only [F97.rs, oOK, Option.map_some, tupOf, cut0_map, cut_map, Nat.le_refl, List.take_length, del1_i.sh, del1_i.frz, del1_i.br, del1_i.refs, del1_i.imp, del1_i.ren, del1_i.un, c2, lyu15, lq16, lyu17, go_sem]
def F98.c : SC :=
 (.seq
 (.reg [oq 2 (.box 60 (.tmp 0)) 0 [0],
 sb 3 false 4 [3]])
 (.seq
 (.reg [ld 4 122 1 [1],
 fa 5 60 2 0 [2],
 ld 6 3 5 [5],
 oq 7 (.call ⟨.value (.tmp 4), #[.tmp 6], #[3]⟩) 4 [4, 6],
 sg 3 7 4 [7]])
 .ret))
theorem F98.rs : Try.f98.results.toList = [.tmp 3] := rfl
def heat_without_1 (k : Nat) (r0 : Reading) (c1 : Int → Option (Bool)) : Option (Bool) :=
 (c1 r0.Source).bind fun x1 =>
 some x1
theorem heat_without_1_ok (k : Nat) (r0 : Reading) (c1_f : Nat) (c1_c : List AV) (c1_i : Ice c1_c) (c1 : Int → Option (Bool)) (c1_h : ∀ q0 qr, c1 q0 = some qr → PCall Try.prog c1_f (.int .i64 q0 :: c1_c) (fun y => y = .bool qr)) (r : Bool) (h0 : heat_without_1 k r0 c1 = some r) : PCall Try.prog 98 [.agg (Reading.c r0), .rptr 1 [[.fn (.func c1_f) [] c1_c]] 0 0] (fun y => y = .bool r) := by
 refine PB (fn := Try.f98) (sc := F98.c) ?_
 refine rS ?_
 simp only [heat_without_1] at h0
 try simp only [F98.c, c1_i.sh, c1_i.frz, c1_i.br, c1_i.refs, c1_i.imp, c1_i.ren, c1_i.un, go_sem]
 obtain ⟨x1, yx1, h0⟩ := bs h0
 refine zc0 (c1_h _ _ yx1) ?_ (by first | rfl | simp [AV.refsL, AV.refs, AV.scal, AV.leaf, c1_i.refs]) ?_
 try simp only [c1_i.sh, c1_i.frz, c1_i.br, c1_i.refs, c1_i.imp, c1_i.ren, c1_i.un, go_sem]
 try simp only [c1_i.sh, c1_i.frz, c1_i.br, c1_i.refs, c1_i.imp, c1_i.ren, c1_i.un, go_sem]
 obtain rfl := Option.some.inj h0
 refine AKev_ret rfl ?_
 try simp only [F98.rs, c1_i.sh, c1_i.frz, c1_i.br, c1_i.refs, c1_i.imp, c1_i.ren, c1_i.un, go_sem]
def F66.c : SC :=
 (.seq
 (.reg [oq 2 (.box 32 (.tmp 0)) 0 [0],
 oq 3 (.box 122 (.tmp 1)) 0 [1],
 oq 4 (.alloc 32) 0 []])
 (.seq
 (.dreg [fa 5 32 2 0 [],
 ld 6 29 5 [],
 cf1 7 54 6 29 29 [],
 fa 8 32 2 1 [],
 ld 9 30 8 [],
 cf1 10 55 9 30 30 [],
 oq 11 (.makeFunc (.func 98) #[] #[.tmp 3]) 152 [],
 cf2 12 97 10 11 30 152 30 [],
 oq 13 (.build 32 #[(0, .tmp 7), (1, .tmp 12)]) 32 [],
 ⟨none, .store 32 (.tmp 4) (.tmp 13), 0, none, []⟩] [[], [0], [0, 1], [], [3], [3, 4, 0, 1, 2], [], [3, 4, 0, 1, 2, 5, 6], [0, 1, 2, 3, 4, 5, 6, 7], [0, 1, 2, 3, 4, 5, 6, 7, 8]] [2, 3, 5, 6, 7, 8, 9, 10, 11, 12, 13])
 .ret))
theorem F66.rs : Try.f66.results.toList = [.cell 4 32] := rfl
def heat_without (k : Nat) (f0 : Firing) (gone1 : Int → Option (Bool)) : Option (Firing) :=
 (heat_kilnCopy k f0.Kiln).bind fun x1 =>
 (slices_Clone_api_Reading k f0.Readings).bind fun x3 =>
 (slices_DeleteFunc_api_Reading k x3 (fun q0 => heat_without_1 k q0 gone1)).bind fun x5 =>
 some (⟨x1, x5⟩ : Firing)
theorem heat_without_ok (k : Nat) (f0 : Firing) (gone1_f : Nat) (gone1_c : List AV) (gone1_i : Ice gone1_c) (gone1 : Int → Option (Bool)) (gone1_h : ∀ q0 qr, gone1 q0 = some qr → PCall Try.prog gone1_f (.int .i64 q0 :: gone1_c) (fun y => y = .bool qr)) (r : Firing) (h0 : heat_without k f0 gone1 = some r) : PCall Try.prog 66 [.agg (Firing.c f0), .fn (.func gone1_f) [] gone1_c] (fun y => y = .agg (Firing.c r)) := by
 refine PB (fn := Try.f66) (sc := F66.c) ?_
 refine rS ?_
 simp only [heat_without] at h0
 try simp only [F66.c, gone1_i.sh, gone1_i.frz, gone1_i.br, gone1_i.refs, gone1_i.imp, gone1_i.ren, gone1_i.un, go_sem]
 refine AKev_region T_ok follows_ok 1000 ?_
 try simp only [gone1_i.sh, gone1_i.frz, gone1_i.br, gone1_i.refs, gone1_i.imp, gone1_i.ren, gone1_i.un, go_sem]
 obtain ⟨x1, yx1, h0⟩ := bs h0
 refine DG_call0 1000 (heat_kilnCopy_ok k _ _ yx1) ?_ (by first | rfl | simp [AV.refsL, AV.refs, AV.scal, AV.leaf, gone1_i.refs]) ?_
 try simp only [gone1_i.sh, gone1_i.frz, gone1_i.br, gone1_i.refs, gone1_i.imp, gone1_i.ren, gone1_i.un, go_sem]
 try simp only [gone1_i.sh, gone1_i.frz, gone1_i.br, gone1_i.refs, gone1_i.imp, gone1_i.ren, gone1_i.un, go_sem]
 obtain ⟨x3, yx3, h0⟩ := bs h0
 refine DG_give 1000 [] [] (slices_Clone_api_Reading_ok k _ _ yx3) ?_ rfl ?_
 try simp only [gOK, List.length_map, gone1_i.sh, gone1_i.frz, gone1_i.br, gone1_i.refs, gone1_i.imp, gone1_i.ren, gone1_i.un, go_sem]
 try simp only [gone1_i.sh, gone1_i.frz, gone1_i.br, gone1_i.refs, gone1_i.imp, gone1_i.ren, gone1_i.un, go_sem]
 obtain ⟨x5, yx5, h0⟩ := bs h0
 refine DG_give 1000 [16] [128] (slices_DeleteFunc_api_Reading_ok k _ 98 [.rptr 1 [[.fn (.func gone1_f) [] gone1_c]] 0 0] ⟨fun _ => rfl, fun _ => rfl, fun _ _ => rfl, rfl, fun _ => rfl, fun _ => rfl, fun _ => rfl⟩ (fun q0 => heat_without_1 k q0 gone1) (fun q0 qr qh => heat_without_1_ok k q0 gone1_f gone1_c gone1_i gone1 gone1_h qr qh) _ yx5) ?_ rfl ?_
 try simp only [gOK, List.length_map, gone1_i.sh, gone1_i.frz, gone1_i.br, gone1_i.refs, gone1_i.imp, gone1_i.ren, gone1_i.un, go_sem]
 try simp only [gone1_i.sh, gone1_i.frz, gone1_i.br, gone1_i.refs, gone1_i.imp, gone1_i.ren, gone1_i.un, go_sem]
 refine DG_done ⟨rfl, run_sound T_ok 1000 _ _ ?_⟩
 try simp only [gone1_i.sh, gone1_i.frz, gone1_i.br, gone1_i.refs, gone1_i.imp, gone1_i.ren, gone1_i.un, go_sem]
 obtain rfl := Option.some.inj h0
 refine AKev_ret rfl ?_
 try simp only [F66.rs, gone1_i.sh, gone1_i.frz, gone1_i.br, gone1_i.refs, gone1_i.imp, gone1_i.ren, gone1_i.un, go_sem]
def F93.s0 : SC :=
 (.seq
 (.reg [b2 9 .lss 3 8 7 3 0 []])
 (.seq
 (.cond (.tmp 9)
 .skip
 (.exit 0))
 (.seq
 (.block 1
 (.seq
 (.reg [mv 10 8 3 [],
 sg 5 10 3 [10]])
 (.seq
 (.reg [mv 11 1 3 [],
 mv 12 0 23 [],
 mv 13 5 3 [],
 ia 14 23 12 13 [12, 13],
 ld 15 3 14 [14],
 b2 16 .eql 3 11 15 3 4 [11, 15]])
 (.cond (.tmp 16)
 (.seq
 (.reg [mv 17 5 3 [5],
 sg 4 17 3 [17]])
 .ret)
 .skip))))
 (.reg [bn 18 .add 3 8 1 3 3 [8],
 mv 8 18 3 [18]]))))
def F93.c : SC :=
 (.seq
 (.reg [sn 4 0 3 [4]])
 (.seq
 (.seq
 (.reg [mv 6 0 23 [],
 ln 7 6 23 3 [6],
 oq 8 (.move (.const (.int .i64 0))) 3 []])
 (.block 0
 (.loop F93.s0)))
 (.seq
 (.reg [sn 4 (-1) 3 []])
 .ret)))
theorem F93.rs : Try.f93.results.toList = [.tmp 4] := rfl
def slices_Index_int.b0 (k : Nat) (s0 : (List Int)) (v1 : Int) : Int → Option (Stp (Int) (Unit) (Int)) := fun (i1 : Int) =>
 bif decide (i1 < (s0.length : Int)) then
  (at? s0 i1).bind fun x3 =>
  bif decide (v1 = x3) then
   some (.ret i1)
  else
   some (.next (w64 (i1 + 1)))
 else
  some (.brk ())
noncomputable def slices_Index_int.h0 (s0 : (List Int)) (v1 : Int) : Int → St := fun (i1 : Int) => ⟨[(0, .sl 1 (List.map eI s0)), (1, .int .i64 v1), (7, .int .i64 (s0.length : Int)), (8, .int .i64 i1)], [], [], 1, Try.f93.ntmps⟩
noncomputable def slices_Index_int.x0 : Unit → St := fun (_ : Unit) => ⟨[], [], [], 1, Try.f93.ntmps⟩
def slices_Index_int (k : Nat) (s0 : (List Int)) (v1 : Int) : Option (Int) :=
 (whl (slices_Index_int.b0 k s0 v1) k 0).bind fun r5 => match r5 with
 | .next _ => none
 | .ret v_ => some v_
 | .brk _ =>
  some (-1)
theorem slices_Index_int_ok (k : Nat) (s0 : (List Int)) (v1 : Int) (r : Int) (h0 : slices_Index_int k s0 v1 = some r) : PCall Try.prog 93 [.sl 1 (List.map eI s0), .int .i64 v1] (fun y => y = .int .i64 r) := by
 refine PB (fn := Try.f93) (sc := F93.c) ?_
 refine rS ?_
 simp only [slices_Index_int] at h0
 try simp only [F93.c, go_sem]
 obtain ⟨r5, yr5, h0⟩ := bs h0
 refine AKev_loopS yr5 (slices_Index_int.h0 s0 v1) (slices_Index_int.x0) ?_ ?_ ?_
 refine Weak.go [0, 1, 7, 8] [] rfl ?_
 try simp only [slices_Index_int.h0, go_sem]
 rintro i1 x_1 Bk1 Br1 h1 hnext1 hbrk1 hret1
 refine rS ?_
 simp only [slices_Index_int.b0] at h1
 try simp only [F93.s0, slices_Index_int.h0, go_sem]
 refine AKev_bif h1 ?_ ?_ <;> intro c2 h1
 try simp only [c2, go_sem]
 obtain ⟨x3, yx3, h1⟩ := bs h1
 try simp only [aa yx3, c2, go_sem]
 refine AKev_bif h1 ?_ ?_ <;> intro c4 h1
 try simp only [c4, c2, aa yx3, go_sem]
 obtain rfl := hret1 _ (Option.some.inj h1).symm
 simp only at h0
 obtain rfl := Option.some.inj h0
 refine AKev_ret rfl ?_
 try simp only [F93.rs, c2, aa yx3, c4, go_sem]
 try simp only [c4, c2, aa yx3, go_sem]
 refine AKev_backB (hnext1 _ _ (Option.some.inj h1).symm ?_)
 refine Weak.go [0, 1, 7, 8] [] rfl ?_
 try simp only [slices_Index_int.h0, c2, aa yx3, c4, go_sem]
 try simp only [c2, go_sem]
 refine AKev_backB (hbrk1 _ _ (Option.some.inj h1).symm ?_)
 refine Weak.go [] [] rfl ?_
 try simp only [slices_Index_int.x0, c2, go_sem]
 rintro _ hr_
 subst hr_
 simp only at h0
 refine rS ?_
 try simp only [slices_Index_int.x0, go_sem]
 obtain rfl := Option.some.inj h0
 refine AKev_ret rfl ?_
 try simp only [F93.rs, go_sem]
def F60.c : SC :=
 (.seq
 (.reg [sb 4 false 4 [4]])
 (.seq
 (.reg [mv 5 0 23 [0],
 mv 6 1 3 [1],
 cf2 7 93 5 6 23 3 3 [5, 6],
 bn 8 .geq 3 7 0 3 4 [7],
 sg 4 8 4 [8]])
 .ret))
theorem F60.rs : Try.f60.results.toList = [.tmp 4] := rfl
def slices_Contains_int (k : Nat) (s0 : (List Int)) (v1 : Int) : Option (Bool) :=
 (slices_Index_int k s0 v1).bind fun x1 =>
 some (decide ((0 : Int) ≤ x1))
theorem slices_Contains_int_ok (k : Nat) (s0 : (List Int)) (v1 : Int) (r : Bool) (h0 : slices_Contains_int k s0 v1 = some r) : PCall Try.prog 60 [.sl 1 (List.map eI s0), .int .i64 v1] (fun y => y = .bool r) := by
 refine PB (fn := Try.f60) (sc := F60.c) ?_
 refine rS ?_
 simp only [slices_Contains_int] at h0
 try simp only [F60.c, go_sem]
 obtain ⟨x1, yx1, h0⟩ := bs h0
 refine zc0 (slices_Index_int_ok k _ _ _ yx1) ?_ (by first | rfl | simp [AV.refsL, AV.refs, AV.scal, AV.leaf]) ?_
 try simp only [go_sem]
 try simp only [go_sem]
 obtain rfl := Option.some.inj h0
 refine AKev_ret rfl ?_
 try simp only [F60.rs, go_sem]
def F92.c : SC :=
 (.seq
 (.reg [sb 3 false 4 [3]])
 (.seq
 (.reg [ld 4 23 1 [1],
 mv 5 0 3 [0],
 cf2 6 60 4 5 23 3 4 [4, 5],
 oq 7 (.unOp .not 4 (.tmp 6)) 4 [6],
 sg 3 7 4 [7]])
 .ret))
theorem F92.rs : Try.f92.results.toList = [.tmp 3] := rfl
def heat_only_1 (k : Nat) (n0 : Int) (c1 : (List Int)) : Option (Bool) :=
 (slices_Contains_int k c1 n0).bind fun x1 =>
 some (!x1)
theorem heat_only_1_ok (k : Nat) (n0 : Int) (c1 : (List Int)) (r : Bool) (h0 : heat_only_1 k n0 c1 = some r) : PCall Try.prog 92 [.int .i64 n0, .rptr 1 [(eL 1 eI) c1] 0 0] (fun y => y = .bool r) := by
 refine PB (fn := Try.f92) (sc := F92.c) ?_
 refine rS ?_
 simp only [heat_only_1] at h0
 try simp only [F92.c, go_sem]
 obtain ⟨x1, yx1, h0⟩ := bs h0
 refine zc0 (slices_Contains_int_ok k _ _ _ yx1) ?_ (by first | rfl | simp [AV.refsL, AV.refs, AV.scal, AV.leaf]) ?_
 try simp only [go_sem]
 try simp only [go_sem]
 obtain rfl := Option.some.inj h0
 refine AKev_ret rfl ?_
 try simp only [F92.rs, go_sem]
def F59.c : SC :=
 (.seq
 (.reg [oq 2 (.box 32 (.tmp 0)) 0 [0],
 oq 3 (.box 23 (.tmp 1)) 0 [1],
 oq 4 (.alloc 94) 0 []])
 (.seq
 (.reg [ld 5 32 2 [2],
 oq 6 (.makeFunc (.func 92) #[] #[.tmp 3]) 122 [3],
 cf2 7 66 5 6 32 122 32 [5, 6],
 cf1 8 47 7 32 94 [7],
 ⟨none, .store 94 (.tmp 4) (.tmp 8), 0, none, [8]⟩])
 .ret))
theorem F59.rs : Try.f59.results.toList = [.cell 4 94] := rfl
def heat_only (k : Nat) (f0 : Firing) (by1 : (List Int)) : Option (heat_furnace) :=
 (heat_without k f0 (fun q0 => heat_only_1 k q0 by1)).bind fun x1 =>
 (heat_newFurnace k x1).bind fun x2 =>
 some x2
theorem heat_only_ok (k : Nat) (f0 : Firing) (by1 : (List Int)) (r : heat_furnace) (h0 : heat_only k f0 by1 = some r) : PCall Try.prog 59 [.agg (Firing.c f0), .sl 1 (List.map eI by1)] (fun y => y = .agg (heat_furnace.c r)) := by
 refine PB (fn := Try.f59) (sc := F59.c) ?_
 refine rS ?_
 simp only [heat_only] at h0
 try simp only [F59.c, go_sem]
 obtain ⟨x1, yx1, h0⟩ := bs h0
 refine zcT [16] (heat_without_ok k _ 92 [.rptr 1 [(eL 1 eI) by1] 0 0] ⟨fun _ => rfl, fun _ => rfl, fun _ _ => rfl, rfl, fun _ => rfl, fun _ => rfl, fun _ => rfl⟩ (fun q0 => heat_only_1 k q0 by1) (fun q0 qr qh => heat_only_1_ok k q0 _ qr qh) _ yx1) ?_ ?_
 try simp only [go_sem]
 try simp only [go_sem]
 obtain ⟨x2, yx2, h0⟩ := bs h0
 refine zc0 (heat_newFurnace_ok k _ _ yx2) ?_ (by first | rfl | simp [AV.refsL, AV.refs, AV.scal, AV.leaf]) ?_
 try simp only [go_sem]
 try simp only [go_sem]
 obtain rfl := Option.some.inj h0
 refine AKev_ret rfl ?_
 try simp only [F59.rs, go_sem]
def F22.s0 : SC :=
 (.seq
 (.seq
 (.reg [mv 21 5 3 [],
 bn 22 .geq 3 21 0 3 4 [21]])
 (.cond (.tmp 22)
 .skip
 (.exit 1)))
 (.seq
 (.block 2
 (.seq
 (.reg [mv 25 4 23 [],
 cf1 26 58 25 23 23 [25],
 mv 27 5 3 [],
 mv 28 5 3 [],
 bn 29 .add 3 28 1 3 3 [28],
 oq 30 (.call ⟨.value (.func 57), #[.tmp 26, .tmp 27, .tmp 29], #[23, 3, 3]⟩) 23 [26, 27, 29],
 sg 6 30 23 [30]])
 (.seq
 (.reg [ld 31 32 1 [],
 mv 32 6 23 [],
 cf2 33 59 31 32 32 23 94 [31, 32],
 cf1 34 56 33 94 4 [33],
 oq 35 (.unOp .not 4 (.tmp 34)) 4 [34]])
 (.cond (.tmp 35)
 (.reg [mv 36 6 23 [6],
 sg 4 36 23 [36]])
 .skip))))
 (.reg [mv 23 5 3 [5],
 bn 24 .sub 3 23 1 3 3 [23],
 sg 5 24 3 [24]])))
def F22.c : SC :=
 (.seq
 (.reg [oq 1 (.box 32 (.tmp 0)) 0 [0],
 oq 2 (.assign (.const (.slice none 0 0))) 23 [2],
 sn 3 0 43 [3]])
 (.seq
 (.block 0
 (.seq
 (.reg [ld 8 32 1 [],
 cf1 9 41 8 32 43 [8],
 bn 10 .neq 43 9 0 43 4 [9],
 sg 7 10 4 [10]])
 (.cond (.tmp 7)
 (.seq
 (.reg [oq 2 (.assign (.const (.slice none 0 0))) 23 [],
 sn 3 42 43 []])
 .ret)
 (.seq
 (.reg [ld 12 32 1 [],
 cf1 13 47 12 32 94 [12],
 cf1 14 56 13 94 4 [13],
 sg 11 14 4 [14]])
 (.cond (.tmp 11)
 (.seq
 (.reg [oq 2 (.assign (.const (.slice none 0 0))) 23 [],
 sn 3 3 43 []])
 .ret)
 .skip)))))
 (.seq
 (.reg [fa 15 32 1 1 [],
 ld 16 30 15 [15],
 cf1 17 43 16 30 23 [16],
 sg 4 17 23 [17]])
 (.seq
 (.seq
 (.reg [mv 18 4 23 [],
 ln 19 18 23 3 [18],
 bn 20 .sub 3 19 1 3 3 [19],
 sg 5 20 3 [20]])
 (.block 1
 (.loop F22.s0)))
 (.seq
 (.reg [mv 37 4 23 [4],
 sg 2 37 23 [37],
 sn 3 0 43 []])
 .ret)))))
theorem F22.rs : Try.f22.results.toList = [.tmp 2, .tmp 3] := rfl
def heat_Conflict.b0 (k : Nat) (f0 : Firing) : ((List Int) × Int) → Option (Stp ((List Int) × Int) ((List Int)) ((List Int) × Int)) := fun (s : (List Int) × Int) => match s with
 | (l7, i8) =>
   bif decide ((0 : Int) ≤ i8) then
    (slices_Clone_int k l7).bind fun x12 =>
    (slices_Delete_int k x12 i8 (w64 (i8 + 1))).bind fun x14 =>
    (heat_only k f0 x14).bind fun x15 =>
    (heat_furnace_sound k x15).bind fun x16 =>
    bif (!x16) then
     some (.next (x14, w64 (i8 - 1)))
    else
     some (.next (l7, w64 (i8 - 1)))
   else
    some (.brk l7)
noncomputable def heat_Conflict.h0 (f0 : Firing) : ((List Int) × Int) → St := fun (s : (List Int) × Int) => match s with
 | (l7, i8) => ⟨[(1, .ptr 0 0 0), (4, .sl 1 (List.map eI l7)), (5, .int .i64 i8)], [(0, .box [.sl 1 (List.map (eL 2 Range.c) f0.Kiln.Falls), .sl 6 (List.map Reading.c f0.Readings)])], [], 1, Try.f22.ntmps⟩
noncomputable def heat_Conflict.x0 : (List Int) → St := fun (l9 : (List Int)) => ⟨[(4, .sl 1 (List.map eI l9))], [], [], 1, Try.f22.ntmps⟩
def heat_Conflict (k : Nat) (f0 : Firing) : Option ((List Int) × Int) :=
 (heat_Check k f0).bind fun x1 =>
 bif (!decide (x1 = (0 : Int))) then
  some ([], 42)
 else
  (heat_newFurnace k f0).bind fun x3 =>
  (heat_furnace_sound k x3).bind fun x4 =>
  bif x4 then
   some ([], 3)
  else
   (heat_sources k f0.Readings).bind fun x6 =>
   (whl (heat_Conflict.b0 k f0) k (x6, w64 ((x6.length : Int) - 1))).bind fun r18 => match r18 with
   | .next _ => none
   | .ret v_ => some v_
   | .brk l9 =>
    some (l9, 0)
theorem heat_Conflict_ok (k : Nat) (f0 : Firing) (r : (List Int) × Int) (h0 : heat_Conflict k f0 = some r) : PCall Try.prog 22 [.agg (Firing.c f0)] (fun y => y = .tup [.sl 1 (List.map eI r.1), .int .i64 r.2]) := by
 refine PB (fn := Try.f22) (sc := F22.c) ?_
 refine rS ?_
 simp only [heat_Conflict] at h0
 try simp only [F22.c, go_sem]
 obtain ⟨x1, yx1, h0⟩ := bs h0
 refine zc0 (heat_Check_ok k _ _ yx1) ?_ (by first | rfl | simp [AV.refsL, AV.refs, AV.scal, AV.leaf]) ?_
 try simp only [go_sem]
 try simp only [go_sem]
 refine AKev_bif h0 ?_ ?_ <;> intro c2 h0
 have c2 := bnot_t c2
 try simp only [c2, go_sem]
 obtain rfl := Option.some.inj h0
 refine AKev_ret rfl ?_
 try simp only [F22.rs, c2, go_sem]
 have c2 := bnot_f c2
 try simp only [c2, go_sem]
 obtain ⟨x3, yx3, h0⟩ := bs h0
 refine zc0 (heat_newFurnace_ok k _ _ yx3) ?_ (by first | rfl | simp [AV.refsL, AV.refs, AV.scal, AV.leaf]) ?_
 try simp only [c2, go_sem]
 try simp only [c2, go_sem]
 obtain ⟨x4, yx4, h0⟩ := bs h0
 refine zc0 (heat_furnace_sound_ok k _ _ yx4) ?_ (by first | rfl | simp [AV.refsL, AV.refs, AV.scal, AV.leaf]) ?_
 try simp only [c2, go_sem]
 try simp only [c2, go_sem]
 refine AKev_bif h0 ?_ ?_ <;> intro c5 h0
 try simp only [c5, c2, go_sem]
 obtain rfl := Option.some.inj h0
 refine AKev_ret rfl ?_
 try simp only [F22.rs, c2, c5, go_sem]
 try simp only [c5, c2, go_sem]
 obtain ⟨x6, yx6, h0⟩ := bs h0
 refine zc0 (heat_sources_ok k _ _ yx6) ?_ (by first | rfl | simp [AV.refsL, AV.refs, AV.scal, AV.leaf]) ?_
 try simp only [c2, c5, go_sem]
 try simp only [c2, c5, go_sem]
 obtain ⟨r18, yr18, h0⟩ := bs h0
 refine AKev_loopS yr18 (heat_Conflict.h0 f0) (heat_Conflict.x0) ?_ ?_ ?_
 refine Weak.go [1, 4, 5] [0] rfl ?_
 try simp only [heat_Conflict.h0, c2, c5, go_sem]
 rintro ⟨l7, i8⟩ x_1 Bk1 Br1 h1 hnext1 hbrk1 hret1
 refine rS ?_
 simp only [heat_Conflict.b0] at h1
 try simp only [F22.s0, heat_Conflict.h0, c2, c5, go_sem]
 refine AKev_bif h1 ?_ ?_ <;> intro c10 h1
 try simp only [c10, c2, c5, go_sem]
 obtain ⟨x12, yx12, h1⟩ := bs h1
 refine AKev_give T_ok 1000 [] [] (slices_Clone_int_ok k _ _ yx12) ?_ rfl ?_
 try simp only [gOK, List.length_map, c2, c5, c10, go_sem]
 try simp only [c2, c5, c10, go_sem]
 obtain ⟨x14, yx14, h1⟩ := bs h1
 refine AKev_giveF [] [49] (slices_Delete_int_ok k _ _ _ _ yx14) ?_ rfl ?_
 try simp only [gOK, List.length_map, c2, c5, c10, go_sem]
 try simp only [c2, c5, c10, go_sem]
 refine AK.fz 1000 T_ok 113 rfl (fun _ h => by cases h) ?_
 try simp only [c2, c5, c10, go_sem]
 obtain ⟨x15, yx15, h1⟩ := bs h1
 refine zc0 (heat_only_ok k _ _ _ yx15) ?_ (by first | rfl | simp [AV.refsL, AV.refs, AV.scal, AV.leaf]) ?_
 try simp only [c2, c5, c10, go_sem]
 try simp only [c2, c5, c10, go_sem]
 obtain ⟨x16, yx16, h1⟩ := bs h1
 refine zc0 (heat_furnace_sound_ok k _ _ yx16) ?_ (by first | rfl | simp [AV.refsL, AV.refs, AV.scal, AV.leaf]) ?_
 try simp only [c2, c5, c10, go_sem]
 try simp only [c2, c5, c10, go_sem]
 refine AKev_bif h1 ?_ ?_ <;> intro c17 h1
 have c17 := bnot_t c17
 try simp only [c17, c2, c5, c10, go_sem]
 refine AKev_backB (hnext1 _ _ (Option.some.inj h1).symm ?_)
 refine Weak.go [1, 4, 5] [0] rfl ?_
 try simp only [heat_Conflict.h0, c2, c5, c10, c17, go_sem]
 have c17 := bnot_f c17
 try simp only [c17, c2, c5, c10, go_sem]
 refine AKev_backB (hnext1 _ _ (Option.some.inj h1).symm ?_)
 refine Weak.go [1, 4, 5] [0] rfl ?_
 try simp only [heat_Conflict.h0, c2, c5, c10, c17, go_sem]
 try simp only [c10, c2, c5, go_sem]
 refine AKev_backB (hbrk1 _ _ (Option.some.inj h1).symm ?_)
 refine Weak.go [4] [] rfl ?_
 try simp only [heat_Conflict.x0, c2, c5, c10, go_sem]
 rintro l9 hr_
 subst hr_
 simp only at h0
 refine rS ?_
 try simp only [heat_Conflict.x0, c2, c5, go_sem]
 obtain rfl := Option.some.inj h0
 refine AKev_ret rfl ?_
 try simp only [F22.rs, c2, c5, go_sem]
def F101.c : SC :=
 (.seq
 (.reg [oq 2 (.assign (.const (.slice none 0 0))) 92 [2]])
 (.seq
 (.seq
 (.reg [mv 3 0 92 [],
 oq 4 (.binOp .eql 92 (.tmp 3) (.const (.slice none 0 0)) 92) 4 [3]])
 (.cond (.tmp 4)
 (.seq
 (.reg [oq 2 (.assign (.const (.slice none 0 0))) 92 []])
 .ret)
 .skip))
 (.seq
 (.reg [oq 5 (.buildSlice 92 0 #[]) 92 [],
 mv 6 0 92 [0],
 oq 7 (.call ⟨.builtin .append, #[.tmp 5, .tmp 6], #[92, 92]⟩) 92 [5, 6],
 sg 2 7 92 [7]])
 .ret)))
theorem F101.rs : Try.f101.results.toList = [.tmp 2] := rfl
def slices_Clone_heat_limit (k : Nat) (s0 : (List heat_limit)) : Option ((List heat_limit)) :=
 (room? s0.length 24).bind fun _ =>
 some s0
theorem slices_Clone_heat_limit_ok (k : Nat) (s0 : (List heat_limit)) (r : (List heat_limit)) (h0 : slices_Clone_heat_limit k s0 = some r) : GCall Try.prog 101 [.sl 3 (List.map heat_limit.c s0)] [] (fun y fr => y = .loc 0 0 3 0 r.length r.length ∧ fr = [(0, .arr 136 3 (List.map heat_limit.c r))]) := by
 have hr := GCall.own (et := 136) (sz := 3) (ls := List.map heat_limit.c r) (GCall.of_body T_ok (f := 101) (fn := Try.f101) (sc := F101.c) (args := [.sl 3 (List.map heat_limit.c s0)]) (fr0 := []) (by rfl) (by rfl) (by decide +kernel) (by rfl) (by decide +kernel) (Nat.le_of_ble_eq_true rfl) (fun H => ?_))
 ·simpa only [List.length_map] using hr
 refine run_sound T_ok 1000 _ _ ?_
 simp only [slices_Clone_heat_limit] at h0
 try simp only [F101.c, go_sem]
 refine ⟨fun he => ?_, ?_⟩
 ·refine run_sound T_ok 1000 _ _ ?_
  try simp only [go_sem]
  obtain ⟨u_, hu_, h0⟩ := bind_some h0
  obtain rfl := Option.some.inj h0
  refine AKev_gret rfl ?_
  simp only [he, F101.rs, oOK, Option.map_some, tupOf, List.length_nil, List.take_nil, go_sem]
  try simp
 ·refine run_sound T_ok 1000 _ _ ?_
  try simp only [go_sem]
  obtain ⟨u1, yu1, h0⟩ := bind_some h0
  try simp only [room_some yu1, go_sem]
  obtain rfl := Option.some.inj h0
  refine AKev_gret rfl ?_
  try simp only [F101.rs, oOK, Option.map_some, tupOf, cut0_map, cut_map, Nat.le_refl, List.take_length, go_sem]
def F72.c : SC :=
 (.seq
 (.reg [oq 3 (.box 94 (.tmp 0)) 0 [0],
 oq 5 (.box 39 (.tmp 2)) 0 [2],
 oq 6 (.alloc 94) 0 []])
 (.seq
 (.dreg [fa 7 94 3 1 [],
 ld 8 92 7 [],
 cf1 9 101 8 92 92 [],
 mv 10 1 3 [],
 fa 11 39 5 0 [],
 ld 12 3 11 [],
 oq 13 (.build 136 #[(0, .tmp 10), (1, .tmp 12), (2, .const (.int .i64 (-1)))]) 136 [],
 oq 14 (.buildSlice 92 1 #[(0, .tmp 13)]) 92 [],
 oq 15 (.call ⟨.builtin .append, #[.tmp 9, .tmp 14], #[92, 92]⟩) 92 [],
 fa 16 94 3 1 [],
 ⟨none, .store 92 (.tmp 16) (.tmp 15), 0, none, []⟩] [[], [0], [0, 1], [], [], [4], [3, 4, 5], [3, 4, 5, 6], [0, 1, 2, 3, 4, 5, 6, 7], [0, 1, 2, 3, 4, 5, 6, 7, 8], [0, 1, 2, 3, 4, 5, 6, 7, 8, 9]] [7, 8, 9, 10, 11, 12, 13, 14, 15, 16])
 (.seq
 (.dreg [fa 17 94 3 2 [],
 ld 18 92 17 [],
 cf1 19 101 18 92 92 [],
 mv 20 1 3 [],
 fa 21 39 5 1 [],
 ld 22 3 21 [],
 oq 23 (.build 136 #[(0, .tmp 20), (1, .tmp 22), (2, .const (.int .i64 (-1)))]) 136 [],
 oq 24 (.buildSlice 92 1 #[(0, .tmp 23)]) 92 [],
 oq 25 (.call ⟨.builtin .append, #[.tmp 19, .tmp 24], #[92, 92]⟩) 92 [],
 fa 26 94 3 2 [],
 ⟨none, .store 92 (.tmp 26) (.tmp 25), 0, none, []⟩] [[], [0], [0, 1], [], [], [4], [3, 4, 5], [3, 4, 5, 6], [0, 1, 2, 3, 4, 5, 6, 7], [0, 1, 2, 3, 4, 5, 6, 7, 8], [0, 1, 2, 3, 4, 5, 6, 7, 8, 9]] [1, 5, 17, 18, 19, 20, 21, 22, 23, 24, 25, 26])
 (.seq
 (.reg [ld 27 94 3 [3],
 ⟨none, .store 94 (.tmp 6) (.tmp 27), 0, none, [27]⟩])
 .ret))))
theorem F72.rs : Try.f72.results.toList = [.cell 6 94] := rfl
def heat_furnace_asked (k : Nat) (f0 : heat_furnace) (place1 : Int) (heat2 : Range) : Option (heat_furnace) :=
 (slices_Clone_heat_limit k f0.least).bind fun x2 =>
 (push? 24 x2 (⟨place1, heat2.Lo, -1⟩ : heat_limit)).bind fun l3 =>
 (slices_Clone_heat_limit k f0.most).bind fun x5 =>
 (push? 24 x5 (⟨place1, heat2.Hi, -1⟩ : heat_limit)).bind fun l6 =>
 some (⟨f0.Firing, l3, l6⟩ : heat_furnace)
theorem heat_furnace_asked_ok (k : Nat) (f0 : heat_furnace) (place1 : Int) (heat2 : Range) (r : heat_furnace) (h0 : heat_furnace_asked k f0 place1 heat2 = some r) : PCall Try.prog 72 [.agg (heat_furnace.c f0), .int .i64 place1, .agg (Range.c heat2)] (fun y => y = .agg (heat_furnace.c r)) := by
 refine PB (fn := Try.f72) (sc := F72.c) ?_
 refine rS ?_
 simp only [heat_furnace_asked] at h0
 try simp only [F72.c, go_sem]
 refine AKev_region T_ok follows_ok 1000 ?_
 try simp only [go_sem]
 obtain ⟨x2, yx2, h0⟩ := bs h0
 refine DG_give 1000 [] [] (slices_Clone_heat_limit_ok k _ _ yx2) ?_ rfl ?_
 try simp only [gOK, List.length_map, go_sem]
 try simp only [go_sem]
 obtain ⟨l3, yl3, h0⟩ := bs h0
 have eyl3 := push_map heat_limit.c yl3
 have tyl3 := push_take heat_limit.c yl3
 have nyl3 := push_len yl3
 have myl3 := push_room yl3
 try simp only [go_sem] at eyl3 tyl3 nyl3 myl3
 try simp only [myl3, eyl3, nyl3, tyl3, go_sem]
 refine DG_done ⟨rfl, run_sound T_ok 1000 _ _ ?_⟩
 try simp only [eyl3, nyl3, tyl3, go_sem]
 refine AKev_region T_ok follows_ok 1000 ?_
 try simp only [eyl3, nyl3, tyl3, go_sem]
 obtain ⟨x5, yx5, h0⟩ := bs h0
 refine DG_give 1000 [] [] (slices_Clone_heat_limit_ok k _ _ yx5) ?_ rfl ?_
 try simp only [gOK, List.length_map, eyl3, nyl3, tyl3, go_sem]
 try simp only [eyl3, nyl3, tyl3, go_sem]
 obtain ⟨l6, yl6, h0⟩ := bs h0
 have eyl6 := push_map heat_limit.c yl6
 have tyl6 := push_take heat_limit.c yl6
 have nyl6 := push_len yl6
 have myl6 := push_room yl6
 try simp only [eyl3, nyl3, tyl3, go_sem] at eyl6 tyl6 nyl6 myl6
 try simp only [myl6, eyl6, eyl3, nyl3, tyl3, nyl6, tyl6, go_sem]
 refine DG_done ⟨rfl, run_sound T_ok 1000 _ _ ?_⟩
 try simp only [eyl3, nyl3, tyl3, eyl6, nyl6, tyl6, go_sem]
 obtain rfl := Option.some.inj h0
 refine AKev_ret rfl ?_
 try simp only [F72.rs, eyl3, nyl3, tyl3, eyl6, nyl6, tyl6, go_sem]
def F102.c : SC :=
 (.seq
 (.reg [oq 2 (.box 79 (.tmp 0)) 0 [0],
 sb 3 false 4 [3]])
 (.seq
 (.dreg [fa 4 79 2 0 [],
 ld 5 3 4 [],
 fa 6 32 1 0 [],
 fa 7 29 6 0 [],
 ld 8 27 7 [],
 oq 9 (.indexAddr 27 (.tmp 8) (.const (.int .i64 0))) 0 [],
 ld 10 40 9 [],
 ln 11 10 40 3 [],
 bn 12 .sub 3 11 1 3 3 [],
 oq 13 (.call ⟨.value (.func 42), #[.tmp 5, .const (.int .i64 0), .tmp 12], #[3, 3, 3]⟩) 4 [],
 mv 14 13 4 [],
 og 15 (.fieldAddr 79 (.tmp 2) 1) 0 14 true [],
 og 16 (.fieldAddr 39 (.tmp 15) 0) 0 14 true [],
 og 17 (.load 3 (.tmp 16)) 3 14 true [],
 og 18 (.binOp .geq 3 (.tmp 17) (.const (.int .i64 (-3000))) 3) 4 14 true [],
 oq 19 (.pick (.tmp 14) (.tmp 18) (.const (.bool false))) 4 [],
 mv 20 19 4 [],
 og 21 (.fieldAddr 79 (.tmp 2) 1) 0 20 true [],
 og 22 (.fieldAddr 39 (.tmp 21) 0) 0 20 true [],
 og 23 (.load 3 (.tmp 22)) 3 20 true [],
 og 24 (.fieldAddr 79 (.tmp 2) 1) 0 20 true [],
 og 25 (.fieldAddr 39 (.tmp 24) 1) 0 20 true [],
 og 26 (.load 3 (.tmp 25)) 3 20 true [],
 og 27 (.binOp .leq 3 (.tmp 23) (.tmp 26) 3) 4 20 true [],
 oq 28 (.pick (.tmp 20) (.tmp 27) (.const (.bool false))) 4 [],
 mv 29 28 4 [],
 og 30 (.fieldAddr 79 (.tmp 2) 1) 0 29 true [],
 og 31 (.fieldAddr 39 (.tmp 30) 1) 0 29 true [],
 og 32 (.load 3 (.tmp 31)) 3 29 true [],
 og 33 (.binOp .leq 3 (.tmp 32) (.const (.int .i64 3000)) 3) 4 29 true [],
 oq 34 (.pick (.tmp 29) (.tmp 33) (.const (.bool false))) 4 [],
 sg 3 34 4 []] [[], [0], [], [2], [2, 3], [2, 3, 4], [2, 3, 4, 5], [2, 3, 4, 5, 6], [2, 3, 4, 5, 6, 7], [0, 1, 2, 3, 4, 5, 6, 7, 8], [0, 1, 2, 3, 4, 5, 6, 7, 8, 9], [0, 1, 2, 3, 4, 5, 6, 7, 8, 9, 10], [0, 1, 2, 3, 4, 5, 6, 7, 8, 9, 10, 11], [0, 1, 2, 3, 4, 5, 6, 7, 8, 9, 10, 11, 12], [0, 1, 2, 3, 4, 5, 6, 7, 8, 9, 10, 11, 12, 13], [0, 1, 2, 3, 4, 5, 6, 7, 8, 9, 10, 11, 12, 13, 14], [0, 1, 2, 3, 4, 5, 6, 7, 8, 9, 10, 11, 12, 13, 14, 15], [0, 1, 2, 3, 4, 5, 6, 7, 8, 9, 10, 11, 12, 13, 14, 15, 16], [0, 1, 2, 3, 4, 5, 6, 7, 8, 9, 10, 11, 12, 13, 14, 15, 16, 17], [0, 1, 2, 3, 4, 5, 6, 7, 8, 9, 10, 11, 12, 13, 14, 15, 16, 17, 18], [0, 1, 2, 3, 4, 5, 6, 7, 8, 9, 10, 11, 12, 13, 14, 15, 16], [0, 1, 2, 3, 4, 5, 6, 7, 8, 9, 10, 11, 12, 13, 14, 15, 16, 20], [0, 1, 2, 3, 4, 5, 6, 7, 8, 9, 10, 11, 12, 13, 14, 15, 16, 20, 21], [0, 1, 2, 3, 4, 5, 6, 7, 8, 9, 10, 11, 12, 13, 14, 15, 16, 17, 18, 19, 20, 21, 22], [0, 1, 2, 3, 4, 5, 6, 7, 8, 9, 10, 11, 12, 13, 14, 15, 16, 17, 18, 19, 20, 21, 22, 23], [0, 1, 2, 3, 4, 5, 6, 7, 8, 9, 10, 11, 12, 13, 14, 15, 16, 17, 18, 19, 20, 21, 22, 23, 24], [0, 1, 2, 3, 4, 5, 6, 7, 8, 9, 10, 11, 12, 13, 14, 15, 16, 17, 18, 19, 20, 21, 22, 23, 24, 25], [0, 1, 2, 3, 4, 5, 6, 7, 8, 9, 10, 11, 12, 13, 14, 15, 16, 17, 18, 19, 20, 21, 22, 23, 24, 25, 26], [0, 1, 2, 3, 4, 5, 6, 7, 8, 9, 10, 11, 12, 13, 14, 15, 16, 17, 18, 19, 20, 21, 22, 23, 24, 25, 26, 27], [0, 1, 2, 3, 4, 5, 6, 7, 8, 9, 10, 11, 12, 13, 14, 15, 16, 17, 18, 19, 20, 21, 22, 23, 24, 25, 26, 27, 28], [0, 1, 2, 3, 4, 5, 6, 7, 8, 9, 10, 11, 12, 13, 14, 15, 16, 17, 18, 19, 20, 21, 22, 23, 24, 25, 26, 27, 28, 29], [0, 1, 2, 3, 4, 5, 6, 7, 8, 9, 10, 11, 12, 13, 14, 15, 16, 17, 18, 19, 20, 21, 22, 23, 24, 25, 26, 27, 28, 29, 30]] [1, 2, 4, 5, 6, 7, 8, 9, 10, 11, 12, 13, 14, 15, 16, 17, 18, 19, 20, 21, 22, 23, 24, 25, 26, 27, 28, 29, 30, 31, 32, 33, 34])
 .ret))
theorem F102.rs : Try.f102.results.toList = [.tmp 3] := rfl
def heat_wanted_1 (k : Nat) (w0 : Want) (c1 : Firing) : Option (Bool) :=
 (at? c1.Kiln.Falls 0).bind fun x1 =>
 (heat_in k w0.Place 0 (w64 ((x1.length : Int) - 1))).bind fun x2 =>
 bif x2 then
  bif decide ((-3000 : Int) ≤ w0.Heat.Lo) then
   bif decide (w0.Heat.Lo ≤ w0.Heat.Hi) then
    some (decide (w0.Heat.Hi ≤ (3000 : Int)))
   else
    some false
  else
   some false
 else
  some false
theorem heat_wanted_1_ok (k : Nat) (w0 : Want) (c1 : Firing) (r : Bool) (h0 : heat_wanted_1 k w0 c1 = some r) : PCall Try.prog 102 [.agg (Want.c w0), .rptr 2 [Firing.c c1] 0 0] (fun y => y = .bool r) := by
 refine PB (fn := Try.f102) (sc := F102.c) ?_
 refine rS ?_
 simp only [heat_wanted_1] at h0
 try simp only [F102.c, go_sem]
 refine AKev_region T_ok follows_ok 1000 ?_
 try simp only [go_sem]
 obtain ⟨x1, yx1, h0⟩ := bs h0
 try simp only [aa yx1, go_sem]
 obtain ⟨x2, yx2, h0⟩ := bs h0
 refine DG_call0 1000 (heat_in_ok k _ _ _ _ yx2) ?_ (by first | rfl | simp [AV.refsL, AV.refs, AV.scal, AV.leaf]) ?_
 try simp only [aa yx1, go_sem]
 try simp only [aa yx1, go_sem]
 refine DG_bif h0 ?_ ?_ <;> intro c3 h0
 try simp only [c3, aa yx1, go_sem]
 refine DG_bif h0 ?_ ?_ <;> intro c4 h0
 try simp only [c4, aa yx1, c3, go_sem]
 refine DG_bif h0 ?_ ?_ <;> intro c5 h0
 try simp only [c5, aa yx1, c3, c4, go_sem]
 refine DG_done ⟨rfl, run_sound T_ok 1000 _ _ ?_⟩
 try simp only [aa yx1, c3, c4, c5, go_sem]
 obtain rfl := Option.some.inj h0
 refine AKev_ret rfl ?_
 try simp only [F102.rs, aa yx1, c3, c4, c5, go_sem]
 try simp only [c5, aa yx1, c3, c4, go_sem]
 refine DG_done ⟨rfl, run_sound T_ok 1000 _ _ ?_⟩
 try simp only [aa yx1, c3, c4, c5, go_sem]
 obtain rfl := Option.some.inj h0
 refine AKev_ret rfl ?_
 try simp only [F102.rs, aa yx1, c3, c4, c5, go_sem]
 try simp only [c4, aa yx1, c3, go_sem]
 refine DG_done ⟨rfl, run_sound T_ok 1000 _ _ ?_⟩
 try simp only [aa yx1, c3, c4, go_sem]
 obtain rfl := Option.some.inj h0
 refine AKev_ret rfl ?_
 try simp only [F102.rs, aa yx1, c3, c4, go_sem]
 try simp only [c3, aa yx1, go_sem]
 refine DG_done ⟨rfl, run_sound T_ok 1000 _ _ ?_⟩
 try simp only [aa yx1, c3, go_sem]
 obtain rfl := Option.some.inj h0
 refine AKev_ret rfl ?_
 try simp only [F102.rs, aa yx1, c3, go_sem]
def F111.s0 : SC :=
 (.seq
 (.reg [b2 9 .lss 3 8 7 3 0 []])
 (.seq
 (.cond (.tmp 9)
 .skip
 (.exit 0))
 (.seq
 (.block 1
 (.seq
 (.reg [mv 10 8 3 [],
 sg 5 10 3 [10]])
 (.seq
 (.reg [mv 11 1 156 [],
 mv 12 0 80 [],
 mv 13 5 3 [],
 ia 14 80 12 13 [12, 13],
 ld 15 79 14 [14],
 oq 16 (.call ⟨.value (.tmp 11), #[.tmp 15], #[79]⟩) 4 [11, 15]])
 (.cond (.tmp 16)
 (.seq
 (.reg [mv 17 5 3 [5],
 sg 4 17 3 [17]])
 .ret)
 .skip))))
 (.reg [bn 18 .add 3 8 1 3 3 [8],
 mv 8 18 3 [18]]))))
def F111.c : SC :=
 (.seq
 (.reg [sn 4 0 3 [4]])
 (.seq
 (.seq
 (.reg [mv 6 0 80 [],
 ln 7 6 80 3 [6],
 oq 8 (.move (.const (.int .i64 0))) 3 []])
 (.block 0
 (.loop F111.s0)))
 (.seq
 (.reg [sn 4 (-1) 3 []])
 .ret)))
theorem F111.rs : Try.f111.results.toList = [.tmp 4] := rfl
def slices_IndexFunc_api_Want.b0 (k : Nat) (f1 : Want → Option (Bool)) (s0 : (List Want)) : Int → Option (Stp (Int) (Unit) (Int)) := fun (i1 : Int) =>
 bif decide (i1 < (s0.length : Int)) then
  (at? s0 i1).bind fun x3 =>
  (f1 x3).bind fun x4 =>
  bif x4 then
   some (.ret i1)
  else
   some (.next (w64 (i1 + 1)))
 else
  some (.brk ())
noncomputable def slices_IndexFunc_api_Want.h0 (f1_f : Nat) (f1_c : List AV) (s0 : (List Want)) : Int → St := fun (i1 : Int) => ⟨[(0, .sl 3 (List.map Want.c s0)), (1, .fn (.func f1_f) [] f1_c), (7, .int .i64 (s0.length : Int)), (8, .int .i64 i1)], [], [], 1, Try.f111.ntmps⟩
noncomputable def slices_IndexFunc_api_Want.x0 : Unit → St := fun (_ : Unit) => ⟨[], [], [], 1, Try.f111.ntmps⟩
def slices_IndexFunc_api_Want (k : Nat) (s0 : (List Want)) (f1 : Want → Option (Bool)) : Option (Int) :=
 (whl (slices_IndexFunc_api_Want.b0 k f1 s0) k 0).bind fun r6 => match r6 with
 | .next _ => none
 | .ret v_ => some v_
 | .brk _ =>
  some (-1)
theorem slices_IndexFunc_api_Want_ok (k : Nat) (s0 : (List Want)) (f1_f : Nat) (f1_c : List AV) (f1_i : Ice f1_c) (f1 : Want → Option (Bool)) (f1_h : ∀ q0 qr, f1 q0 = some qr → PCall Try.prog f1_f (.agg (Want.c q0) :: f1_c) (fun y => y = .bool qr)) (r : Int) (h0 : slices_IndexFunc_api_Want k s0 f1 = some r) : PCall Try.prog 111 [.sl 3 (List.map Want.c s0), .fn (.func f1_f) [] f1_c] (fun y => y = .int .i64 r) := by
 refine PB (fn := Try.f111) (sc := F111.c) ?_
 refine rS ?_
 simp only [slices_IndexFunc_api_Want] at h0
 try simp only [F111.c, f1_i.sh, f1_i.frz, f1_i.br, f1_i.refs, f1_i.imp, f1_i.ren, f1_i.un, go_sem]
 obtain ⟨r6, yr6, h0⟩ := bs h0
 refine AKev_loopS yr6 (slices_IndexFunc_api_Want.h0 f1_f f1_c s0) (slices_IndexFunc_api_Want.x0) ?_ ?_ ?_
 refine Weak.go [0, 1, 7, 8] [] rfl ?_
 try simp only [slices_IndexFunc_api_Want.h0, f1_i.sh, f1_i.frz, f1_i.br, f1_i.refs, f1_i.imp, f1_i.ren, f1_i.un, go_sem]
 rintro i1 x_1 Bk1 Br1 h1 hnext1 hbrk1 hret1
 refine rS ?_
 simp only [slices_IndexFunc_api_Want.b0] at h1
 try simp only [F111.s0, slices_IndexFunc_api_Want.h0, f1_i.sh, f1_i.frz, f1_i.br, f1_i.refs, f1_i.imp, f1_i.ren, f1_i.un, go_sem]
 refine AKev_bif h1 ?_ ?_ <;> intro c2 h1
 try simp only [c2, f1_i.sh, f1_i.frz, f1_i.br, f1_i.refs, f1_i.imp, f1_i.ren, f1_i.un, go_sem]
 obtain ⟨x3, yx3, h1⟩ := bs h1
 try simp only [aa yx3, f1_i.sh, f1_i.frz, f1_i.br, f1_i.refs, f1_i.imp, f1_i.ren, f1_i.un, c2, go_sem]
 obtain ⟨x4, yx4, h1⟩ := bs h1
 refine zc0 (f1_h _ _ yx4) ?_ (by first | rfl | simp [AV.refsL, AV.refs, AV.scal, AV.leaf, f1_i.refs]) ?_
 try simp only [f1_i.sh, f1_i.frz, f1_i.br, f1_i.refs, f1_i.imp, f1_i.ren, f1_i.un, c2, aa yx3, go_sem]
 try simp only [f1_i.sh, f1_i.frz, f1_i.br, f1_i.refs, f1_i.imp, f1_i.ren, f1_i.un, c2, aa yx3, go_sem]
 refine AKev_bif h1 ?_ ?_ <;> intro c5 h1
 try simp only [c5, f1_i.sh, f1_i.frz, f1_i.br, f1_i.refs, f1_i.imp, f1_i.ren, f1_i.un, c2, aa yx3, go_sem]
 obtain rfl := hret1 _ (Option.some.inj h1).symm
 simp only at h0
 obtain rfl := Option.some.inj h0
 refine AKev_ret rfl ?_
 try simp only [F111.rs, f1_i.sh, f1_i.frz, f1_i.br, f1_i.refs, f1_i.imp, f1_i.ren, f1_i.un, c2, aa yx3, c5, go_sem]
 try simp only [c5, f1_i.sh, f1_i.frz, f1_i.br, f1_i.refs, f1_i.imp, f1_i.ren, f1_i.un, c2, aa yx3, go_sem]
 refine AKev_backB (hnext1 _ _ (Option.some.inj h1).symm ?_)
 refine Weak.go [0, 1, 7, 8] [] rfl ?_
 try simp only [slices_IndexFunc_api_Want.h0, f1_i.sh, f1_i.frz, f1_i.br, f1_i.refs, f1_i.imp, f1_i.ren, f1_i.un, c2, aa yx3, c5, go_sem]
 try simp only [c2, f1_i.sh, f1_i.frz, f1_i.br, f1_i.refs, f1_i.imp, f1_i.ren, f1_i.un, go_sem]
 refine AKev_backB (hbrk1 _ _ (Option.some.inj h1).symm ?_)
 refine Weak.go [] [] rfl ?_
 try simp only [slices_IndexFunc_api_Want.x0, f1_i.sh, f1_i.frz, f1_i.br, f1_i.refs, f1_i.imp, f1_i.ren, f1_i.un, c2, go_sem]
 rintro _ hr_
 subst hr_
 simp only at h0
 refine rS ?_
 try simp only [slices_IndexFunc_api_Want.x0, f1_i.sh, f1_i.frz, f1_i.br, f1_i.refs, f1_i.imp, f1_i.ren, f1_i.un, go_sem]
 obtain rfl := Option.some.inj h0
 refine AKev_ret rfl ?_
 try simp only [F111.rs, f1_i.sh, f1_i.frz, f1_i.br, f1_i.refs, f1_i.imp, f1_i.ren, f1_i.un, go_sem]
def F103.c : SC :=
 (.seq
 (.reg [sb 4 false 4 [4]])
 (.seq
 (.reg [mv 5 0 80 [0],
 mv 6 1 156 [1],
 cf2 7 111 5 6 80 156 3 [5, 6],
 bn 8 .geq 3 7 0 3 4 [7],
 sg 4 8 4 [8]])
 .ret))
theorem F103.rs : Try.f103.results.toList = [.tmp 4] := rfl
def slices_ContainsFunc_api_Want (k : Nat) (s0 : (List Want)) (f1 : Want → Option (Bool)) : Option (Bool) :=
 (slices_IndexFunc_api_Want k s0 f1).bind fun x1 =>
 some (decide ((0 : Int) ≤ x1))
theorem slices_ContainsFunc_api_Want_ok (k : Nat) (s0 : (List Want)) (f1_f : Nat) (f1_c : List AV) (f1_i : Ice f1_c) (f1 : Want → Option (Bool)) (f1_h : ∀ q0 qr, f1 q0 = some qr → PCall Try.prog f1_f (.agg (Want.c q0) :: f1_c) (fun y => y = .bool qr)) (r : Bool) (h0 : slices_ContainsFunc_api_Want k s0 f1 = some r) : PCall Try.prog 103 [.sl 3 (List.map Want.c s0), .fn (.func f1_f) [] f1_c] (fun y => y = .bool r) := by
 refine PB (fn := Try.f103) (sc := F103.c) ?_
 refine rS ?_
 simp only [slices_ContainsFunc_api_Want] at h0
 try simp only [F103.c, f1_i.sh, f1_i.frz, f1_i.br, f1_i.refs, f1_i.imp, f1_i.ren, f1_i.un, go_sem]
 obtain ⟨x1, yx1, h0⟩ := bs h0
 refine zc0 (slices_IndexFunc_api_Want_ok k _ f1_f f1_c f1_i f1 f1_h _ yx1) ?_ (by first | rfl | simp [AV.refsL, AV.refs, AV.scal, AV.leaf, f1_i.refs]) ?_
 try simp only [f1_i.sh, f1_i.frz, f1_i.br, f1_i.refs, f1_i.imp, f1_i.ren, f1_i.un, go_sem]
 try simp only [f1_i.sh, f1_i.frz, f1_i.br, f1_i.refs, f1_i.imp, f1_i.ren, f1_i.un, go_sem]
 obtain rfl := Option.some.inj h0
 refine AKev_ret rfl ?_
 try simp only [F103.rs, f1_i.sh, f1_i.frz, f1_i.br, f1_i.refs, f1_i.imp, f1_i.ren, f1_i.un, go_sem]
def F104.c : SC :=
 (.seq
 (.reg [oq 2 (.box 79 (.tmp 0)) 0 [0],
 sb 3 false 4 [3]])
 (.seq
 (.reg [ld 4 156 1 [1],
 ld 5 79 2 [2],
 oq 6 (.call ⟨.value (.tmp 4), #[.tmp 5], #[79]⟩) 4 [4, 5],
 oq 7 (.unOp .not 4 (.tmp 6)) 4 [6],
 sg 3 7 4 [7]])
 .ret))
theorem F104.rs : Try.f104.results.toList = [.tmp 3] := rfl
def heat_wanted_2 (k : Nat) (w0 : Want) (c1 : Want → Option (Bool)) : Option (Bool) :=
 (c1 w0).bind fun x1 =>
 some (!x1)
theorem heat_wanted_2_ok (k : Nat) (w0 : Want) (c1_f : Nat) (c1_c : List AV) (c1_i : Ice c1_c) (c1 : Want → Option (Bool)) (c1_h : ∀ q0 qr, c1 q0 = some qr → PCall Try.prog c1_f (.agg (Want.c q0) :: c1_c) (fun y => y = .bool qr)) (r : Bool) (h0 : heat_wanted_2 k w0 c1 = some r) : PCall Try.prog 104 [.agg (Want.c w0), .rptr 1 [[.fn (.func c1_f) [] c1_c]] 0 0] (fun y => y = .bool r) := by
 refine PB (fn := Try.f104) (sc := F104.c) ?_
 refine rS ?_
 simp only [heat_wanted_2] at h0
 try simp only [F104.c, c1_i.sh, c1_i.frz, c1_i.br, c1_i.refs, c1_i.imp, c1_i.ren, c1_i.un, go_sem]
 obtain ⟨x1, yx1, h0⟩ := bs h0
 refine zc0 (c1_h _ _ yx1) ?_ (by first | rfl | simp [AV.refsL, AV.refs, AV.scal, AV.leaf, c1_i.refs]) ?_
 try simp only [c1_i.sh, c1_i.frz, c1_i.br, c1_i.refs, c1_i.imp, c1_i.ren, c1_i.un, go_sem]
 try simp only [c1_i.sh, c1_i.frz, c1_i.br, c1_i.refs, c1_i.imp, c1_i.ren, c1_i.un, go_sem]
 obtain rfl := Option.some.inj h0
 refine AKev_ret rfl ?_
 try simp only [F104.rs, c1_i.sh, c1_i.frz, c1_i.br, c1_i.refs, c1_i.imp, c1_i.ren, c1_i.un, go_sem]
def F74.s0 : SC :=
 (.seq
 (.reg [b2 43 .lss 3 42 41 3 0 []])
 (.seq
 (.cond (.tmp 43)
 .skip
 (.exit 0))
 (.seq
 (.block 1
 (.seq
 (.reg [ia 44 80 40 42 [],
 ld 45 79 44 [44],
 oq 12 (.alloc 79) 0 [],
 ⟨none, .store 79 (.tmp 12) (.tmp 45), 0, none, [45]⟩])
 (.reg [ld 46 94 10 [],
 fa 47 79 12 0 [],
 ld 48 3 47 [47],
 fa 49 79 12 1 [12],
 ld 50 39 49 [49],
 oq 51 (.call ⟨.value (.func 72), #[.tmp 46, .tmp 48, .tmp 50], #[94, 3, 39]⟩) 94 [46, 48, 50],
 ⟨none, .store 94 (.tmp 10) (.tmp 51), 0, none, [51]⟩])))
 (.reg [bn 52 .add 3 42 1 3 3 [42],
 mv 42 52 3 [52]]))))
def F74.c : SC :=
 (.seq
 (.reg [oq 2 (.box 32 (.tmp 0)) 0 [0],
 oq 4 (.alloc 94) 0 [],
 oq 5 (.alloc 94) 0 [],
 sn 6 0 43 [6]])
 (.seq
 (.seq
 (.reg [ld 13 32 2 [],
 cf1 14 41 13 32 43 [13],
 bn 15 .neq 43 14 0 43 4 [14]])
 (.cond (.tmp 15)
 (.seq
 (.reg [oq 16 (.build 94 #[]) 94 [],
 oq 17 (.build 94 #[]) 94 [],
 ⟨none, .store 94 (.tmp 4) (.tmp 16), 0, none, [16]⟩,
 ⟨none, .store 94 (.tmp 5) (.tmp 17), 0, none, [17]⟩,
 sn 6 42 43 []])
 .ret)
 .skip))
 (.seq
 (.reg [oq 18 (.makeFunc (.func 102) #[] #[.tmp 2]) 156 [],
 oq 7 (.alloc 156) 0 [],
 ⟨none, .store 156 (.tmp 7) (.tmp 18), 0, none, [18]⟩])
 (.seq
 (.seq
 (.reg [mv 19 1 80 [],
 ln 20 19 80 3 [19],
 bn 21 .gtr 3 20 24 3 4 [20],
 mv 22 21 4 [21],
 og 23 (.move (.tmp 1)) 80 22 false [],
 og 24 (.makeFunc (.func 104) #[] #[.tmp 7]) 156 22 false [7],
 og 25 (.call ⟨.value (.func 103), #[.tmp 23, .tmp 24], #[80, 156]⟩) 4 22 false [23, 24],
 oq 26 (.pick (.tmp 22) (.const (.bool true)) (.tmp 25)) 4 [22, 25]])
 (.cond (.tmp 26)
 (.seq
 (.reg [oq 27 (.build 94 #[]) 94 [],
 oq 28 (.build 94 #[]) 94 [],
 ⟨none, .store 94 (.tmp 4) (.tmp 27), 0, none, [27]⟩,
 ⟨none, .store 94 (.tmp 5) (.tmp 28), 0, none, [28]⟩,
 sn 6 49 43 []])
 .ret)
 .skip))
 (.seq
 (.reg [ld 30 32 2 [2],
 oq 31 (.call ⟨.value (.func 36), #[.tmp 30, .const (.int .i64 0)], #[32, 3]⟩) 95 [30],
 mv 29 31 95 [31],
 xt 32 29 0 94 [],
 xt 33 29 1 43 [29],
 oq 8 (.alloc 94) 0 [],
 ⟨none, .store 94 (.tmp 8) (.tmp 32), 0, none, [32]⟩,
 sg 9 33 43 [33]])
 (.seq
 (.seq
 (.reg [mv 34 9 43 [],
 bn 35 .neq 43 34 0 43 4 [34]])
 (.cond (.tmp 35)
 (.seq
 (.reg [oq 36 (.build 94 #[]) 94 [],
 oq 37 (.build 94 #[]) 94 [],
 mv 38 9 43 [9],
 ⟨none, .store 94 (.tmp 4) (.tmp 36), 0, none, [36]⟩,
 ⟨none, .store 94 (.tmp 5) (.tmp 37), 0, none, [37]⟩,
 sg 6 38 43 [38]])
 .ret)
 .skip))
 (.seq
 (.reg [ld 39 94 8 [],
 oq 10 (.alloc 94) 0 [],
 ⟨none, .store 94 (.tmp 10) (.tmp 39), 0, none, [39]⟩])
 (.seq
 (.seq
 (.reg [mv 40 1 80 [1],
 ln 41 40 80 3 [],
 oq 42 (.move (.const (.int .i64 0))) 3 []])
 (.block 0
 (.loop F74.s0)))
 (.seq
 (.dreg [ld 53 94 8 [],
 ld 54 94 10 [],
 ⟨none, .store 94 (.tmp 4) (.tmp 53), 0, none, []⟩,
 ⟨none, .store 94 (.tmp 5) (.tmp 54), 0, none, []⟩,
 sn 6 0 43 []] [[], [], [0], [1, 0, 2], [1, 0, 2, 3]] [8, 10, 53, 54])
 .ret)))))))))
theorem F74.rs : Try.f74.results.toList = [.cell 4 94, .cell 5 94, .tmp 6] := rfl
def heat_wanted.b0 (k : Nat) (l1 : (List Want)) : (heat_furnace × Int) → Option (Stp (heat_furnace × Int) (heat_furnace) (heat_furnace × heat_furnace × Int)) := fun (s : heat_furnace × Int) => match s with
 | (s8, i9) =>
   bif decide (i9 < (l1.length : Int)) then
    (at? l1 i9).bind fun x12 =>
    (heat_furnace_asked k s8 x12.Place x12.Heat).bind fun x13 =>
    some (.next (x13, w64 (i9 + 1)))
   else
    some (.brk s8)
noncomputable def heat_wanted.h0 (l1 : (List Want)) (x6 : heat_furnace × Int) : (heat_furnace × Int) → St := fun (s : heat_furnace × Int) => match s with
 | (s8, i9) => ⟨[(4, .ptr 0 0 0), (5, .ptr 0 5 0), (8, .ptr 0 10 0), (10, .ptr 0 11 0), (40, .sl 3 (List.map Want.c l1)), (41, .int .i64 (l1.length : Int)), (42, .int .i64 i9)], [(0, .box [.loc 0 1 1 0 0 0, .loc 0 2 6 0 0 0, .loc 0 3 3 0 0 0, .loc 0 4 3 0 0 0]), (1, .arr 40 1 (List.map (eL 2 Range.c) [])), (2, .arr 60 6 (List.map Reading.c [])), (3, .arr 136 3 (List.map heat_limit.c [])), (4, .arr 136 3 (List.map heat_limit.c [])), (5, .box [.loc 0 6 1 0 0 0, .loc 0 7 6 0 0 0, .loc 0 8 3 0 0 0, .loc 0 9 3 0 0 0]), (6, .arr 40 1 (List.map (eL 2 Range.c) [])), (7, .arr 60 6 (List.map Reading.c [])), (8, .arr 136 3 (List.map heat_limit.c [])), (9, .arr 136 3 (List.map heat_limit.c [])), (10, .box [.sl 1 (List.map (eL 2 Range.c) x6.1.Firing.Kiln.Falls), .sl 6 (List.map Reading.c x6.1.Firing.Readings), .sl 3 (List.map heat_limit.c x6.1.least), .sl 3 (List.map heat_limit.c x6.1.most)]), (11, .box [.sl 1 (List.map (eL 2 Range.c) s8.Firing.Kiln.Falls), .sl 6 (List.map Reading.c s8.Firing.Readings), .sl 3 (List.map heat_limit.c s8.least), .sl 3 (List.map heat_limit.c s8.most)])], [], 12, Try.f74.ntmps⟩
noncomputable def heat_wanted.x0 (x6 : heat_furnace × Int) : heat_furnace → St := fun (s10 : heat_furnace) => ⟨[(4, .ptr 0 0 0), (5, .ptr 0 5 0), (8, .ptr 0 10 0), (10, .ptr 0 11 0)], [(0, .box [.loc 0 1 1 0 0 0, .loc 0 2 6 0 0 0, .loc 0 3 3 0 0 0, .loc 0 4 3 0 0 0]), (1, .arr 40 1 (List.map (eL 2 Range.c) [])), (2, .arr 60 6 (List.map Reading.c [])), (3, .arr 136 3 (List.map heat_limit.c [])), (4, .arr 136 3 (List.map heat_limit.c [])), (5, .box [.loc 0 6 1 0 0 0, .loc 0 7 6 0 0 0, .loc 0 8 3 0 0 0, .loc 0 9 3 0 0 0]), (6, .arr 40 1 (List.map (eL 2 Range.c) [])), (7, .arr 60 6 (List.map Reading.c [])), (8, .arr 136 3 (List.map heat_limit.c [])), (9, .arr 136 3 (List.map heat_limit.c [])), (10, .box [.sl 1 (List.map (eL 2 Range.c) x6.1.Firing.Kiln.Falls), .sl 6 (List.map Reading.c x6.1.Firing.Readings), .sl 3 (List.map heat_limit.c x6.1.least), .sl 3 (List.map heat_limit.c x6.1.most)]), (11, .box [.sl 1 (List.map (eL 2 Range.c) s10.Firing.Kiln.Falls), .sl 6 (List.map Reading.c s10.Firing.Readings), .sl 3 (List.map heat_limit.c s10.least), .sl 3 (List.map heat_limit.c s10.most)])], [], 12, Try.f74.ntmps⟩
def heat_wanted (k : Nat) (f0 : Firing) (l1 : (List Want)) : Option (heat_furnace × heat_furnace × Int) :=
 (heat_Check k f0).bind fun x1 =>
 bif (!decide (x1 = (0 : Int))) then
  some ((⟨(⟨(⟨[]⟩ : Kiln), []⟩ : Firing), [], []⟩ : heat_furnace), (⟨(⟨(⟨[]⟩ : Kiln), []⟩ : Firing), [], []⟩ : heat_furnace), 42)
 else
  bif (!decide ((24 : Int) < (l1.length : Int))) then
   (slices_ContainsFunc_api_Want k l1 (fun q0 => heat_wanted_2 k q0 (fun q0 => heat_wanted_1 k q0 f0))).bind fun x4 =>
   bif x4 then
    some ((⟨(⟨(⟨[]⟩ : Kiln), []⟩ : Firing), [], []⟩ : heat_furnace), (⟨(⟨(⟨[]⟩ : Kiln), []⟩ : Firing), [], []⟩ : heat_furnace), 49)
   else
    (heat_asks k f0 0).bind fun x6 =>
    bif (!decide (x6.2 = (0 : Int))) then
     some ((⟨(⟨(⟨[]⟩ : Kiln), []⟩ : Firing), [], []⟩ : heat_furnace), (⟨(⟨(⟨[]⟩ : Kiln), []⟩ : Firing), [], []⟩ : heat_furnace), x6.2)
    else
     (whl (heat_wanted.b0 k l1) k (x6.1, 0)).bind fun r14 => match r14 with
     | .next _ => none
     | .ret v_ => some v_
     | .brk s10 =>
      some (x6.1, s10, 0)
  else
   some ((⟨(⟨(⟨[]⟩ : Kiln), []⟩ : Firing), [], []⟩ : heat_furnace), (⟨(⟨(⟨[]⟩ : Kiln), []⟩ : Firing), [], []⟩ : heat_furnace), 49)
theorem heat_wanted_ok (k : Nat) (f0 : Firing) (l1 : (List Want)) (r : heat_furnace × heat_furnace × Int) (h0 : heat_wanted k f0 l1 = some r) : PCall Try.prog 74 [.agg (Firing.c f0), .sl 3 (List.map Want.c l1)] (fun y => y = .tup [.agg (heat_furnace.c r.1), .agg (heat_furnace.c r.2.1), .int .i64 r.2.2]) := by
 refine PB (fn := Try.f74) (sc := F74.c) ?_
 refine rS ?_
 simp only [heat_wanted] at h0
 try simp only [F74.c, go_sem]
 obtain ⟨x1, yx1, h0⟩ := bs h0
 refine zc0 (heat_Check_ok k _ _ yx1) ?_ (by first | rfl | simp [AV.refsL, AV.refs, AV.scal, AV.leaf]) ?_
 try simp only [go_sem]
 try simp only [go_sem]
 refine AKev_bif h0 ?_ ?_ <;> intro c2 h0
 have c2 := bnot_t c2
 try simp only [c2, go_sem]
 obtain rfl := Option.some.inj h0
 refine AKev_ret rfl ?_
 try simp only [F74.rs, c2, go_sem]
 have c2 := bnot_f c2
 try simp only [c2, go_sem]
 refine AKev_bif h0 ?_ ?_ <;> intro c3 h0
 have c3 := bnot_t c3
 try simp only [c3, c2, go_sem]
 obtain ⟨x4, yx4, h0⟩ := bs h0
 refine zcL (slices_ContainsFunc_api_Want_ok k _ 104 [.rptr 1 [[.fn (.func 102) [] [.rptr 2 [Firing.c f0] 0 0]]] 0 0] ⟨fun _ => rfl, fun _ => rfl, fun _ _ => rfl, rfl, fun _ => rfl, fun _ => rfl, fun _ => rfl⟩ (fun q0 => heat_wanted_2 k q0 (fun q0 => heat_wanted_1 k q0 f0)) (fun q0 qr qh => heat_wanted_2_ok k q0 102 [.rptr 2 [Firing.c f0] 0 0] ⟨fun _ => rfl, fun _ => rfl, fun _ _ => rfl, rfl, fun _ => rfl, fun _ => rfl, fun _ => rfl⟩ (fun q0 => heat_wanted_1 k q0 f0) (fun q0 qr qh => heat_wanted_1_ok k q0 _ qr qh) qr qh) _ yx4) ?_ (by first | rfl | simp [AV.refsL, AV.refs, AV.scal, AV.leaf]) ?_
 try simp only [c2, c3, go_sem]
 try simp only [c2, c3, go_sem]
 refine AKev_bif h0 ?_ ?_ <;> intro c5 h0
 try simp only [c5, c2, c3, go_sem]
 obtain rfl := Option.some.inj h0
 refine AKev_ret rfl ?_
 try simp only [F74.rs, c2, c3, c5, go_sem]
 try simp only [c5, c2, c3, go_sem]
 obtain ⟨x6, yx6, h0⟩ := bs h0
 refine zc0 (heat_asks_ok k _ _ _ yx6) ?_ (by first | rfl | simp [AV.refsL, AV.refs, AV.scal, AV.leaf]) ?_
 try simp only [c2, c3, c5, go_sem]
 try simp only [c2, c3, c5, go_sem]
 refine AKev_bif h0 ?_ ?_ <;> intro c7 h0
 have c7 := bnot_t c7
 try simp only [c7, c2, c3, c5, go_sem]
 obtain rfl := Option.some.inj h0
 refine AKev_ret rfl ?_
 try simp only [F74.rs, c2, c3, c5, c7, go_sem]
 have c7 := bnot_f c7
 try simp only [c7, c2, c3, c5, go_sem]
 obtain ⟨r14, yr14, h0⟩ := bs h0
 refine AKev_loopS yr14 (heat_wanted.h0 l1 x6) (heat_wanted.x0 x6) ?_ ?_ ?_
 refine Weak.go [4, 5, 8, 10, 40, 41, 42] [16, 17, 18, 19, 20, 32, 33, 34, 35, 36, 368, 464] rfl ?_
 try simp only [heat_wanted.h0, c2, c3, c5, c7, go_sem]
 rintro ⟨s8, i9⟩ x_1 Bk1 Br1 h1 hnext1 hbrk1 hret1
 refine rS ?_
 simp only [heat_wanted.b0] at h1
 try simp only [F74.s0, heat_wanted.h0, c2, c3, c5, c7, go_sem]
 refine AKev_bif h1 ?_ ?_ <;> intro c11 h1
 try simp only [c11, c2, c3, c5, c7, go_sem]
 obtain ⟨x12, yx12, h1⟩ := bs h1
 try simp only [aa yx12, c2, c3, c5, c7, c11, go_sem]
 obtain ⟨x13, yx13, h1⟩ := bs h1
 refine zc0 (heat_furnace_asked_ok k _ _ _ _ yx13) ?_ (by first | rfl | simp [AV.refsL, AV.refs, AV.scal, AV.leaf]) ?_
 try simp only [c2, c3, c5, c7, c11, aa yx12, go_sem]
 try simp only [c2, c3, c5, c7, c11, aa yx12, go_sem]
 refine AKev_backB (hnext1 _ _ (Option.some.inj h1).symm ?_)
 refine Weak.go [4, 5, 8, 10, 40, 41, 42] [0, 1, 2, 3, 4, 5, 6, 7, 8, 9, 10, 11] rfl ?_
 try simp only [heat_wanted.h0, c2, c3, c5, c7, c11, aa yx12, go_sem]
 try simp only [c11, c2, c3, c5, c7, go_sem]
 refine AKev_backB (hbrk1 _ _ (Option.some.inj h1).symm ?_)
 refine Weak.go [4, 5, 8, 10] [0, 1, 2, 3, 4, 5, 6, 7, 8, 9, 10, 11] rfl ?_
 try simp only [heat_wanted.x0, c2, c3, c5, c7, c11, go_sem]
 rintro s10 hr_
 subst hr_
 simp only at h0
 refine rS ?_
 try simp only [heat_wanted.x0, c2, c3, c5, c7, go_sem]
 refine AKev_region T_ok follows_ok 1000 ?_
 try simp only [c2, c3, c5, c7, go_sem]
 refine DG_done ⟨rfl, run_sound T_ok 1000 _ _ ?_⟩
 try simp only [c2, c3, c5, c7, go_sem]
 obtain rfl := Option.some.inj h0
 refine AKev_ret rfl ?_
 try simp only [F74.rs, c2, c3, c5, c7, go_sem]
 have c3 := bnot_f c3
 try simp only [c3, c2, go_sem]
 obtain rfl := Option.some.inj h0
 refine AKev_ret rfl ?_
 try simp only [F74.rs, c2, c3, go_sem]
def F33.s0 : SC :=
 (.seq
 (.reg [b2 28 .lss 3 27 26 3 0 []])
 (.seq
 (.cond (.tmp 28)
 .skip
 (.exit 0))
 (.seq
 (.block 1
 (.seq
 (.reg [ia 29 80 25 27 [],
 ld 30 79 29 [29],
 oq 10 (.alloc 79) 0 [],
 ⟨none, .store 79 (.tmp 10) (.tmp 30), 0, none, [30]⟩])
 (.seq
 (.reg [ld 31 94 6 [],
 fa 32 79 10 0 [],
 ld 33 3 32 [32],
 cf2 34 37 31 33 94 3 39 [31, 33],
 oq 11 (.alloc 39) 0 [],
 ⟨none, .store 39 (.tmp 11) (.tmp 34), 0, none, [34]⟩])
 (.seq
 (.reg [fa 35 39 11 0 [],
 ld 36 3 35 [35],
 fa 37 79 10 1 [],
 fa 38 39 37 0 [37],
 ld 39 3 38 [38],
 b2 40 .lss 3 36 39 3 4 [36, 39],
 mv 41 40 4 [40],
 og 42 (.fieldAddr 39 (.tmp 11) 1) 0 41 false [11],
 og 43 (.load 3 (.tmp 42)) 3 41 false [42],
 og 44 (.fieldAddr 79 (.tmp 10) 1) 0 41 false [10],
 og 45 (.fieldAddr 39 (.tmp 44) 1) 0 41 false [44],
 og 46 (.load 3 (.tmp 45)) 3 41 false [45],
 og 47 (.binOp .gtr 3 (.tmp 43) (.tmp 46) 3) 4 41 false [43, 46],
 oq 48 (.pick (.tmp 41) (.const (.bool true)) (.tmp 47)) 4 [41, 47]])
 (.cond (.tmp 48)
 (.seq
 (.reg [sn 4 2 3 [],
 sn 5 0 43 []])
 .ret)
 .skip)))))
 (.reg [bn 49 .add 3 27 1 3 3 [27],
 mv 27 49 3 [49]]))))
def F33.c : SC :=
 (.seq
 (.reg [oq 2 (.box 32 (.tmp 0)) 0 [0],
 sn 4 0 3 [4],
 sn 5 0 43 [5]])
 (.seq
 (.reg [ld 13 32 2 [2],
 mv 14 1 80 [],
 cf2 15 74 13 14 32 80 130 [13, 14],
 mv 12 15 130 [15],
 xt 16 12 0 94 [],
 xt 17 12 1 94 [],
 xt 18 12 2 43 [12],
 oq 6 (.alloc 94) 0 [],
 oq 7 (.alloc 94) 0 [],
 ⟨none, .store 94 (.tmp 6) (.tmp 16), 0, none, [16]⟩,
 ⟨none, .store 94 (.tmp 7) (.tmp 17), 0, none, [17]⟩,
 sg 8 18 43 [18]])
 (.seq
 (.seq
 (.reg [mv 19 8 43 [],
 bn 20 .neq 43 19 0 43 4 [19]])
 (.cond (.tmp 20)
 (.seq
 (.reg [mv 21 8 43 [8],
 sn 4 0 3 [],
 sg 5 21 43 [21]])
 .ret)
 .skip))
 (.seq
 (.seq
 (.reg [ld 22 94 7 [7],
 cf1 23 56 22 94 4 [22],
 oq 24 (.unOp .not 4 (.tmp 23)) 4 [23]])
 (.cond (.tmp 24)
 (.seq
 (.reg [sn 4 0 3 [],
 sn 5 0 43 []])
 .ret)
 .skip))
 (.seq
 (.seq
 (.reg [mv 25 1 80 [1],
 ln 26 25 80 3 [],
 oq 27 (.move (.const (.int .i64 0))) 3 []])
 (.block 0
 (.loop F33.s0)))
 (.seq
 (.reg [sn 4 1 3 [],
 sn 5 0 43 []])
 .ret))))))
theorem F33.rs : Try.f33.results.toList = [.tmp 4, .tmp 5] := rfl
def heat_Together.b0 (k : Nat) (l1 : (List Want)) (x1 : heat_furnace × heat_furnace × Int) : Int → Option (Stp (Int) (Unit) (Int × Int)) := fun (i5 : Int) =>
 bif decide (i5 < (l1.length : Int)) then
  (at? l1 i5).bind fun x7 =>
  (heat_furnace_bound k x1.1 x7.Place).bind fun x8 =>
  bif (!decide (x8.Lo < x7.Heat.Lo)) then
   bif decide (x7.Heat.Hi < x8.Hi) then
    some (.ret (2, 0))
   else
    some (.next (w64 (i5 + 1)))
  else
   some (.ret (2, 0))
 else
  some (.brk ())
noncomputable def heat_Together.h0 (l1 : (List Want)) (x1 : heat_furnace × heat_furnace × Int) : Int → St := fun (i5 : Int) => ⟨[(6, .ptr 0 0 0), (25, .sl 3 (List.map Want.c l1)), (26, .int .i64 (l1.length : Int)), (27, .int .i64 i5)], [(0, .box [.sl 1 (List.map (eL 2 Range.c) x1.1.Firing.Kiln.Falls), .sl 6 (List.map Reading.c x1.1.Firing.Readings), .sl 3 (List.map heat_limit.c x1.1.least), .sl 3 (List.map heat_limit.c x1.1.most)])], [], 1, Try.f33.ntmps⟩
noncomputable def heat_Together.x0 : Unit → St := fun (_ : Unit) => ⟨[], [], [], 1, Try.f33.ntmps⟩
def heat_Together (k : Nat) (f0 : Firing) (l1 : (List Want)) : Option (Int × Int) :=
 (heat_wanted k f0 l1).bind fun x1 =>
 bif (!decide (x1.2.2 = (0 : Int))) then
  some (0, x1.2.2)
 else
  (heat_furnace_sound k x1.2.1).bind fun x3 =>
  bif (!x3) then
   some (0, 0)
  else
   (whl (heat_Together.b0 k l1 x1) k 0).bind fun r11 => match r11 with
   | .next _ => none
   | .ret v_ => some v_
   | .brk _ =>
    some (1, 0)
theorem heat_Together_ok (k : Nat) (f0 : Firing) (l1 : (List Want)) (r : Int × Int) (h0 : heat_Together k f0 l1 = some r) : PCall Try.prog 33 [.agg (Firing.c f0), .sl 3 (List.map Want.c l1)] (fun y => y = .tup [.int .i64 r.1, .int .i64 r.2]) := by
 refine PB (fn := Try.f33) (sc := F33.c) ?_
 refine rS ?_
 simp only [heat_Together] at h0
 try simp only [F33.c, go_sem]
 obtain ⟨x1, yx1, h0⟩ := bs h0
 refine zc0 (heat_wanted_ok k _ _ _ yx1) ?_ (by first | rfl | simp [AV.refsL, AV.refs, AV.scal, AV.leaf]) ?_
 try simp only [go_sem]
 try simp only [go_sem]
 refine AKev_bif h0 ?_ ?_ <;> intro c2 h0
 have c2 := bnot_t c2
 try simp only [c2, go_sem]
 obtain rfl := Option.some.inj h0
 refine AKev_ret rfl ?_
 try simp only [F33.rs, c2, go_sem]
 have c2 := bnot_f c2
 try simp only [c2, go_sem]
 obtain ⟨x3, yx3, h0⟩ := bs h0
 refine zc0 (heat_furnace_sound_ok k _ _ yx3) ?_ (by first | rfl | simp [AV.refsL, AV.refs, AV.scal, AV.leaf]) ?_
 try simp only [c2, go_sem]
 try simp only [c2, go_sem]
 refine AKev_bif h0 ?_ ?_ <;> intro c4 h0
 have c4 := bnot_t c4
 try simp only [c4, c2, go_sem]
 obtain rfl := Option.some.inj h0
 refine AKev_ret rfl ?_
 try simp only [F33.rs, c2, c4, go_sem]
 have c4 := bnot_f c4
 try simp only [c4, c2, go_sem]
 obtain ⟨r11, yr11, h0⟩ := bs h0
 refine AKev_loopS yr11 (heat_Together.h0 l1 x1) (heat_Together.x0) ?_ ?_ ?_
 refine Weak.go [6, 25, 26, 27] [160] rfl ?_
 try simp only [heat_Together.h0, c2, c4, go_sem]
 rintro i5 x_1 Bk1 Br1 h1 hnext1 hbrk1 hret1
 refine rS ?_
 simp only [heat_Together.b0] at h1
 try simp only [F33.s0, heat_Together.h0, c2, c4, go_sem]
 refine AKev_bif h1 ?_ ?_ <;> intro c6 h1
 try simp only [c6, c2, c4, go_sem]
 obtain ⟨x7, yx7, h1⟩ := bs h1
 try simp only [aa yx7, c2, c4, c6, go_sem]
 obtain ⟨x8, yx8, h1⟩ := bs h1
 refine zc0 (heat_furnace_bound_ok k _ _ _ yx8) ?_ (by first | rfl | simp [AV.refsL, AV.refs, AV.scal, AV.leaf]) ?_
 try simp only [c2, c4, c6, aa yx7, go_sem]
 try simp only [c2, c4, c6, aa yx7, go_sem]
 refine AKev_bif h1 ?_ ?_ <;> intro c9 h1
 have c9 := bnot_t c9
 try simp only [c9, c2, c4, c6, aa yx7, go_sem]
 refine AKev_bif h1 ?_ ?_ <;> intro c10 h1
 try simp only [c10, c2, c4, c6, aa yx7, c9, go_sem]
 obtain rfl := hret1 _ (Option.some.inj h1).symm
 simp only at h0
 obtain rfl := Option.some.inj h0
 refine AKev_ret rfl ?_
 try simp only [F33.rs, c2, c4, c6, aa yx7, c9, c10, go_sem]
 try simp only [c10, c2, c4, c6, aa yx7, c9, go_sem]
 refine AKev_backB (hnext1 _ _ (Option.some.inj h1).symm ?_)
 refine Weak.go [6, 25, 26, 27] [0] rfl ?_
 try simp only [heat_Together.h0, c2, c4, c6, aa yx7, c9, c10, go_sem]
 have c9 := bnot_f c9
 try simp only [c9, c2, c4, c6, aa yx7, go_sem]
 obtain rfl := hret1 _ (Option.some.inj h1).symm
 simp only at h0
 obtain rfl := Option.some.inj h0
 refine AKev_ret rfl ?_
 try simp only [F33.rs, c2, c4, c6, aa yx7, c9, go_sem]
 try simp only [c6, c2, c4, go_sem]
 refine AKev_backB (hbrk1 _ _ (Option.some.inj h1).symm ?_)
 refine Weak.go [] [] rfl ?_
 try simp only [heat_Together.x0, c2, c4, c6, go_sem]
 rintro _ hr_
 subst hr_
 simp only at h0
 refine rS ?_
 try simp only [heat_Together.x0, c2, c4, go_sem]
 obtain rfl := Option.some.inj h0
 refine AKev_ret rfl ?_
 try simp only [F33.rs, c2, c4, go_sem]
def F32.c : SC :=
 (.seq
 (.reg [oq 3 (.box 32 (.tmp 0)) 0 [0],
 oq 5 (.box 39 (.tmp 2)) 0 [2],
 sn 6 0 3 [6],
 sn 7 0 43 [7]])
 (.seq
 (.block 0
 (.seq
 (.reg [ld 9 32 3 [],
 cf1 10 41 9 32 43 [9],
 bn 11 .neq 43 10 0 43 4 [10],
 sg 8 11 4 [11]])
 (.cond (.tmp 8)
 (.seq
 (.reg [sn 6 0 3 [],
 sn 7 42 43 []])
 .ret)
 (.seq
 (.reg [mv 13 1 3 [],
 fa 14 32 3 0 [],
 fa 15 29 14 0 [14],
 ld 16 27 15 [15],
 oq 17 (.indexAddr 27 (.tmp 16) (.const (.int .i64 0))) 0 [16],
 ld 18 40 17 [17],
 ln 19 18 40 3 [18],
 bn 20 .sub 3 19 1 3 3 [19],
 oq 21 (.call ⟨.value (.func 42), #[.tmp 13, .const (.int .i64 0), .tmp 20], #[3, 3, 3]⟩) 4 [13, 20],
 oq 22 (.unOp .not 4 (.tmp 21)) 4 [21],
 sg 12 22 4 [22]])
 (.cond (.tmp 12)
 (.seq
 (.reg [sn 6 0 3 [],
 sn 7 43 43 []])
 .ret)
 .skip)))))
 (.seq
 (.reg [ld 23 32 3 [3],
 mv 24 1 3 [1],
 ld 25 39 5 [5],
 oq 26 (.build 79 #[(0, .tmp 24), (1, .tmp 25)]) 79 [24, 25],
 oq 27 (.buildSlice 80 1 #[(0, .tmp 26)]) 80 [26],
 cf2 28 33 23 27 32 80 83 [23, 27],
 xt 29 28 0 3 [],
 xt 30 28 1 43 [28],
 sg 6 29 3 [29],
 sg 7 30 43 [30]])
 .ret)))
theorem F32.rs : Try.f32.results.toList = [.tmp 6, .tmp 7] := rfl
def heat_Verdict (k : Nat) (f0 : Firing) (place1 : Int) (want2 : Range) : Option (Int × Int) :=
 (heat_Check k f0).bind fun x1 =>
 bif (!decide (x1 = (0 : Int))) then
  some (0, 42)
 else
  (at? f0.Kiln.Falls 0).bind fun x3 =>
  (heat_in k place1 0 (w64 ((x3.length : Int) - 1))).bind fun x4 =>
  bif (!x4) then
   some (0, 43)
  else
   (heat_Together k f0 [(⟨place1, want2⟩ : Want)]).bind fun x6 =>
   some (x6.1, x6.2)
theorem heat_Verdict_ok (k : Nat) (f0 : Firing) (place1 : Int) (want2 : Range) (r : Int × Int) (h0 : heat_Verdict k f0 place1 want2 = some r) : PCall Try.prog 32 [.agg (Firing.c f0), .int .i64 place1, .agg (Range.c want2)] (fun y => y = .tup [.int .i64 r.1, .int .i64 r.2]) := by
 refine PB (fn := Try.f32) (sc := F32.c) ?_
 refine rS ?_
 simp only [heat_Verdict] at h0
 try simp only [F32.c, go_sem]
 obtain ⟨x1, yx1, h0⟩ := bs h0
 refine zc0 (heat_Check_ok k _ _ yx1) ?_ (by first | rfl | simp [AV.refsL, AV.refs, AV.scal, AV.leaf]) ?_
 try simp only [go_sem]
 try simp only [go_sem]
 refine AKev_bif h0 ?_ ?_ <;> intro c2 h0
 have c2 := bnot_t c2
 try simp only [c2, go_sem]
 obtain rfl := Option.some.inj h0
 refine AKev_ret rfl ?_
 try simp only [F32.rs, c2, go_sem]
 have c2 := bnot_f c2
 try simp only [c2, go_sem]
 obtain ⟨x3, yx3, h0⟩ := bs h0
 try simp only [aa yx3, c2, go_sem]
 obtain ⟨x4, yx4, h0⟩ := bs h0
 refine zc0 (heat_in_ok k _ _ _ _ yx4) ?_ (by first | rfl | simp [AV.refsL, AV.refs, AV.scal, AV.leaf]) ?_
 try simp only [c2, aa yx3, go_sem]
 try simp only [c2, aa yx3, go_sem]
 refine AKev_bif h0 ?_ ?_ <;> intro c5 h0
 have c5 := bnot_t c5
 try simp only [c5, c2, aa yx3, go_sem]
 obtain rfl := Option.some.inj h0
 refine AKev_ret rfl ?_
 try simp only [F32.rs, c2, aa yx3, c5, go_sem]
 have c5 := bnot_f c5
 try simp only [c5, c2, aa yx3, go_sem]
 obtain ⟨x6, yx6, h0⟩ := bs h0
 refine zc0 (heat_Together_ok k _ _ _ yx6) ?_ (by first | rfl | simp [AV.refsL, AV.refs, AV.scal, AV.leaf]) ?_
 try simp only [c2, aa yx3, c5, go_sem]
 try simp only [c2, aa yx3, c5, go_sem]
 obtain rfl := Option.some.inj h0
 refine AKev_ret rfl ?_
 try simp only [F32.rs, c2, aa yx3, c5, go_sem]
def F73.s1 : SC :=
 (.seq
 (.reg [b2 39 .lss 3 38 37 3 0 []])
 (.seq
 (.cond (.tmp 39)
 .skip
 (.exit 2))
 (.seq
 (.block 3
 (.seq
 (.reg [mv 40 38 3 [],
 ia 41 40 36 38 [],
 ld 42 39 41 [41],
 oq 10 (.alloc 39) 0 [],
 sg 9 40 3 [40],
 ⟨none, .store 39 (.tmp 10) (.tmp 42), 0, none, [42]⟩])
 (.seq
 (.reg [fa 43 39 10 0 [10],
 ld 44 3 43 [43],
 sg 11 44 3 [44]])
 (.seq
 (.seq
 (.reg [fa 46 94 1 2 [],
 ld 47 92 46 [46],
 mv 48 9 3 [9],
 oq 49 (.call ⟨.value (.func 89), #[.tmp 47, .tmp 48, .func 90], #[92, 3, 147]⟩) 137 [47, 48],
 mv 45 49 137 [49],
 xt 50 45 0 136 [],
 xt 51 45 1 4 [45],
 oq 12 (.alloc 136) 0 [],
 ⟨none, .store 136 (.tmp 12) (.tmp 50), 0, none, [50]⟩,
 sg 13 51 4 [51]])
 (.seq
 (.reg [mv 52 13 4 [13]])
 (.cond (.tmp 52)
 (.reg [mv 53 11 3 [11],
 mv 54 6 3 [],
 fa 55 136 12 1 [12],
 ld 56 3 55 [55],
 b2 57 .sub 3 54 56 3 3 [54, 56],
 oq 58 (.call ⟨.builtin .max, #[.tmp 53, .tmp 57], #[3, 3]⟩) 3 [53, 57],
 sg 11 58 3 [58]])
 .skip)))
 (.reg [mv 59 8 23 [8],
 mv 60 11 3 [11],
 oq 61 (.buildSlice 23 1 #[(0, .tmp 60)]) 23 [60],
 oq 62 (.call ⟨.builtin .append, #[.tmp 59, .tmp 61], #[23, 23]⟩) 23 [59, 61],
 sg 8 62 23 [62]])))))
 (.reg [bn 63 .add 3 38 1 3 3 [38],
 mv 38 63 3 [63]]))))
def F73.s0 : SC :=
 (.seq
 (.reg [b2 20 .lss 3 19 18 3 0 []])
 (.seq
 (.cond (.tmp 20)
 .skip
 (.exit 0))
 (.seq
 (.block 1
 (.seq
 (.reg [mv 21 19 3 [],
 ia 22 27 17 19 [],
 ld 23 40 22 [22],
 sg 4 21 3 [21],
 sg 5 23 40 [23]])
 (.seq
 (.reg [ld 25 94 1 [],
 mv 26 4 3 [4],
 cf2 27 88 25 26 94 3 141 [25, 26],
 mv 24 27 141 [27],
 xt 28 24 0 3 [],
 xt 29 24 1 3 [24],
 sg 6 28 3 [28],
 sg 7 29 3 [7, 29]])
 (.seq
 (.reg [fa 30 35 3 0 [],
 ld 31 23 30 [30],
 mv 32 6 3 [],
 oq 33 (.buildSlice 23 1 #[(0, .tmp 32)]) 23 [32],
 oq 34 (.call ⟨.builtin .append, #[.tmp 31, .tmp 33], #[23, 23]⟩) 23 [31, 33],
 fa 35 35 3 0 [],
 ⟨none, .store 23 (.tmp 35) (.tmp 34), 0, none, [34, 35]⟩])
 (.seq
 (.reg [oq 8 (.assign (.const (.slice none 0 0))) 23 []])
 (.seq
 (.seq
 (.reg [mv 36 5 40 [5],
 ln 37 36 40 3 [],
 oq 38 (.move (.const (.int .i64 0))) 3 []])
 (.block 2
 (.loop F73.s1)))
 (.reg [fa 64 35 3 1 [],
 ld 65 33 64 [64],
 mv 66 8 23 [8],
 oq 67 (.buildSlice 33 1 #[(0, .tmp 66)]) 33 [66],
 oq 68 (.call ⟨.builtin .append, #[.tmp 65, .tmp 67], #[33, 33]⟩) 33 [65, 67],
 fa 69 35 3 1 [],
 ⟨none, .store 33 (.tmp 69) (.tmp 68), 0, none, [68, 69]⟩])))))))
 (.reg [bn 70 .add 3 19 1 3 3 [19],
 mv 19 70 3 [70]]))))
def F73.c : SC :=
 (.seq
 (.reg [oq 1 (.box 94 (.tmp 0)) 0 [0],
 oq 2 (.alloc 35) 0 []])
 (.seq
 (.reg [oq 3 (.alloc 35) 0 []])
 (.seq
 (.seq
 (.reg [fa 14 94 1 0 [],
 fa 15 32 14 0 [14],
 fa 16 29 15 0 [15],
 ld 17 27 16 [16],
 ln 18 17 27 3 [],
 oq 19 (.move (.const (.int .i64 0))) 3 []])
 (.block 0
 (.loop F73.s0)))
 (.seq
 (.reg [ld 71 35 3 [3],
 ⟨none, .store 35 (.tmp 2) (.tmp 71), 0, none, [71]⟩])
 .ret))))
theorem F73.rs : Try.f73.results.toList = [.cell 2 35] := rfl
def heat_furnace_greatest.b1 (k : Nat) (f0 : heat_furnace) (x7 : (List Range)) (x8 : Int × Int) : (Int × (List Int)) → Option (Stp (Int × (List Int)) ((List Int)) (Field)) := fun (s : Int × (List Int)) => match s with
 | (i10, l11) =>
   bif decide (i10 < (x7.length : Int)) then
    (at? x7 i10).bind fun x14 =>
    (heat_best k f0.most i10 (fun q0 q1 => heat_less k q0 q1)).bind fun x15 =>
    bif x15.2 then
     (push? 8 l11 (max x14.Lo (w64 (x8.1 - x15.1.heat)))).bind fun l17 =>
     some (.next (w64 (i10 + 1), l17))
    else
     (push? 8 l11 x14.Lo).bind fun l18 =>
     some (.next (w64 (i10 + 1), l18))
   else
    some (.brk l11)
def heat_furnace_greatest.b0 (k : Nat) (f0 : heat_furnace) : (Int × (List Int) × (List (List Int))) → Option (Stp (Int × (List Int) × (List (List Int))) ((List Int) × (List (List Int))) (Field)) := fun (s : Int × (List Int) × (List (List Int))) => match s with
 | (i1, l2, l3) =>
   bif decide (i1 < (f0.Firing.Kiln.Falls.length : Int)) then
    (at? f0.Firing.Kiln.Falls i1).bind fun x7 =>
    (heat_furnace_hottest k f0 i1).bind fun x8 =>
    (push? 8 l2 x8.1).bind fun l9 =>
    (whl (heat_furnace_greatest.b1 k f0 x7 x8) k (0, [])).bind fun r19 => match r19 with
    | .next _ => none
    | .ret v_ => some (.ret v_)
    | .brk l12 =>
     (push? 24 l3 l12).bind fun l20 =>
     some (.next (w64 (i1 + 1), l9, l20))
   else
    some (.brk (l2, l3))
noncomputable def heat_furnace_greatest.h1 (f0 : heat_furnace) (i1 : Int) (l2 : (List Int)) (l3 : (List (List Int))) (x7 : (List Range)) (x8 : Int × Int) (l9 : List Int) : (Int × (List Int)) → St := fun (s : Int × (List Int)) => match s with
 | (i10, l11) => ⟨[(1, .ptr 0 0 0), (2, .ptr 0 1 0), (3, .ptr 0 4 0), (6, .int .i64 x8.1), (8, .loc 0 7 1 0 l11.length l11.length), (17, .sl 1 (List.map (eL 2 Range.c) f0.Firing.Kiln.Falls)), (18, .int .i64 (f0.Firing.Kiln.Falls.length : Int)), (19, .int .i64 i1), (36, .sl 2 (List.map Range.c x7)), (37, .int .i64 (x7.length : Int)), (38, .int .i64 i10)], [(0, .box [.sl 1 (List.map (eL 2 Range.c) f0.Firing.Kiln.Falls), .sl 6 (List.map Reading.c f0.Firing.Readings), .sl 3 (List.map heat_limit.c f0.least), .sl 3 (List.map heat_limit.c f0.most)]), (1, .box [.loc 0 2 1 0 0 0, .loc 0 3 1 0 0 0]), (2, .arr 3 1 (List.map eI [])), (3, .arr 23 1 (List.map (eL 1 eI) [])), (4, .box [.loc 0 5 1 0 (l2.length + 1) (l2.length + 1), .loc 0 6 1 0 l3.length l3.length]), (5, .arr 3 1 (List.map eI l9)), (6, .arr 23 1 (List.map (eL 1 eI) l3)), (7, .arr 3 1 (List.map eI l11))], [], 8, Try.f73.ntmps⟩
noncomputable def heat_furnace_greatest.x1 (f0 : heat_furnace) (i1 : Int) (l2 : (List Int)) (l3 : (List (List Int))) (l9 : List Int) : (List Int) → St := fun (l12 : (List Int)) => ⟨[(1, .ptr 0 0 0), (2, .ptr 0 1 0), (3, .ptr 0 4 0), (8, .loc 0 7 1 0 l12.length l12.length), (17, .sl 1 (List.map (eL 2 Range.c) f0.Firing.Kiln.Falls)), (18, .int .i64 (f0.Firing.Kiln.Falls.length : Int)), (19, .int .i64 i1)], [(0, .box [.sl 1 (List.map (eL 2 Range.c) f0.Firing.Kiln.Falls), .sl 6 (List.map Reading.c f0.Firing.Readings), .sl 3 (List.map heat_limit.c f0.least), .sl 3 (List.map heat_limit.c f0.most)]), (1, .box [.loc 0 2 1 0 0 0, .loc 0 3 1 0 0 0]), (2, .arr 3 1 (List.map eI [])), (3, .arr 23 1 (List.map (eL 1 eI) [])), (4, .box [.loc 0 5 1 0 (l2.length + 1) (l2.length + 1), .loc 0 6 1 0 l3.length l3.length]), (5, .arr 3 1 (List.map eI l9)), (6, .arr 23 1 (List.map (eL 1 eI) l3)), (7, .arr 3 1 (List.map eI l12))], [], 8, Try.f73.ntmps⟩
noncomputable def heat_furnace_greatest.h0 (f0 : heat_furnace) : (Int × (List Int) × (List (List Int))) → St := fun (s : Int × (List Int) × (List (List Int))) => match s with
 | (i1, l2, l3) => ⟨[(1, .ptr 0 0 0), (2, .ptr 0 1 0), (3, .ptr 0 4 0), (17, .sl 1 (List.map (eL 2 Range.c) f0.Firing.Kiln.Falls)), (18, .int .i64 (f0.Firing.Kiln.Falls.length : Int)), (19, .int .i64 i1)], [(0, .box [.sl 1 (List.map (eL 2 Range.c) f0.Firing.Kiln.Falls), .sl 6 (List.map Reading.c f0.Firing.Readings), .sl 3 (List.map heat_limit.c f0.least), .sl 3 (List.map heat_limit.c f0.most)]), (1, .box [.loc 0 2 1 0 0 0, .loc 0 3 1 0 0 0]), (2, .arr 3 1 (List.map eI [])), (3, .arr 23 1 (List.map (eL 1 eI) [])), (4, .box [.loc 0 5 1 0 l2.length l2.length, .loc 0 6 1 0 l3.length l3.length]), (5, .arr 3 1 (List.map eI l2)), (6, .arr 23 1 (List.map (eL 1 eI) l3))], [], 7, Try.f73.ntmps⟩
noncomputable def heat_furnace_greatest.x0 : ((List Int) × (List (List Int))) → St := fun (s : (List Int) × (List (List Int))) => match s with
 | (l4, l5) => ⟨[(2, .ptr 0 0 0), (3, .ptr 0 3 0)], [(0, .box [.loc 0 1 1 0 0 0, .loc 0 2 1 0 0 0]), (1, .arr 3 1 (List.map eI [])), (2, .arr 23 1 (List.map (eL 1 eI) [])), (3, .box [.loc 0 4 1 0 l4.length l4.length, .loc 0 5 1 0 l5.length l5.length]), (4, .arr 3 1 (List.map eI l4)), (5, .arr 23 1 (List.map (eL 1 eI) l5))], [], 6, Try.f73.ntmps⟩
def heat_furnace_greatest (k : Nat) (f0 : heat_furnace) : Option (Field) :=
 (whl (heat_furnace_greatest.b0 k f0) k (0, [], [])).bind fun r21 => match r21 with
 | .next _ => none
 | .ret v_ => some v_
 | .brk (l4, l5) =>
  some (⟨l4, l5⟩ : Field)
theorem heat_furnace_greatest_ok (k : Nat) (f0 : heat_furnace) (r : Field) (h0 : heat_furnace_greatest k f0 = some r) : PCall Try.prog 73 [.agg (heat_furnace.c f0)] (fun y => y = .agg (Field.c r)) := by
 refine PB (fn := Try.f73) (sc := F73.c) ?_
 refine rS ?_
 simp only [heat_furnace_greatest] at h0
 try simp only [F73.c, go_sem]
 obtain ⟨r21, yr21, h0⟩ := bs h0
 refine AKev_loopS yr21 (heat_furnace_greatest.h0 f0) (heat_furnace_greatest.x0) ?_ ?_ ?_
 refine Weak.go [1, 2, 3, 17, 18, 19] [0, 16, 17, 18, 32, 33, 34] rfl ?_
 try simp only [heat_furnace_greatest.h0, go_sem]
 rintro ⟨i1, l2, l3⟩ x_1 Bk1 Br1 h1 hnext1 hbrk1 hret1
 refine rS ?_
 simp only [heat_furnace_greatest.b0] at h1
 try simp only [F73.s0, heat_furnace_greatest.h0, go_sem]
 refine AKev_bif h1 ?_ ?_ <;> intro c6 h1
 try simp only [c6, go_sem]
 obtain ⟨x7, yx7, h1⟩ := bs h1
 try simp only [aa yx7, c6, go_sem]
 obtain ⟨x8, yx8, h1⟩ := bs h1
 refine zc0 (heat_furnace_hottest_ok k _ _ _ yx8) ?_ (by first | rfl | simp [AV.refsL, AV.refs, AV.scal, AV.leaf]) ?_
 try simp only [c6, aa yx7, go_sem]
 try simp only [c6, aa yx7, go_sem]
 obtain ⟨l9, yl9, h1⟩ := bs h1
 have eyl9 := push_map eI yl9
 have tyl9 := push_take eI yl9
 have nyl9 := push_len yl9
 have myl9 := push_room yl9
 try simp only [c6, aa yx7, go_sem] at eyl9 tyl9 nyl9 myl9
 try simp only [myl9, eyl9, c6, aa yx7, nyl9, tyl9, go_sem]
 obtain ⟨r19, yr19, h1⟩ := bs h1
 refine AKev_loopS yr19 (heat_furnace_greatest.h1 f0 i1 l2 l3 x7 x8 l9) (heat_furnace_greatest.x1 f0 i1 l2 l3 l9) ?_ ?_ ?_
 refine Weak.go [1, 2, 3, 6, 8, 17, 18, 19, 36, 37, 38] [0, 1, 2, 3, 4, 5, 6, 343] rfl ?_
 try simp only [heat_furnace_greatest.h1, c6, aa yx7, eyl9, nyl9, tyl9, go_sem]
 rintro ⟨i10, l11⟩ x_2 Bk2 Br2 h2 hnext2 hbrk2 hret2
 refine rS ?_
 simp only [heat_furnace_greatest.b1] at h2
 try simp only [F73.s1, heat_furnace_greatest.h1, c6, aa yx7, eyl9, nyl9, tyl9, go_sem]
 refine AKev_bif h2 ?_ ?_ <;> intro c13 h2
 try simp only [c13, c6, aa yx7, eyl9, nyl9, tyl9, go_sem]
 obtain ⟨x14, yx14, h2⟩ := bs h2
 try simp only [aa yx14, c6, aa yx7, eyl9, nyl9, tyl9, c13, go_sem]
 obtain ⟨x15, yx15, h2⟩ := bs h2
 refine zc0 (heat_best_ok k _ _ 90 [] ⟨fun _ => rfl, fun _ => rfl, fun _ _ => rfl, rfl, fun _ => rfl, fun _ => rfl, fun _ => rfl⟩ (fun q0 q1 => heat_less k q0 q1) (fun q0 q1 qr qh => heat_less_ok k q0 q1 qr qh) _ yx15) ?_ (by first | rfl | simp [AV.refsL, AV.refs, AV.scal, AV.leaf]) ?_
 try simp only [c6, aa yx7, eyl9, nyl9, tyl9, c13, aa yx14, go_sem]
 try simp only [c6, aa yx7, eyl9, nyl9, tyl9, c13, aa yx14, go_sem]
 refine AKev_bif h2 ?_ ?_ <;> intro c16 h2
 try simp only [c16, c6, aa yx7, eyl9, nyl9, tyl9, c13, aa yx14, go_sem]
 obtain ⟨l17, yl17, h2⟩ := bs h2
 have eyl17 := push_map eI yl17
 have tyl17 := push_take eI yl17
 have nyl17 := push_len yl17
 have myl17 := push_room yl17
 try simp only [c6, aa yx7, eyl9, nyl9, tyl9, c13, aa yx14, c16, go_sem] at eyl17 tyl17 nyl17 myl17
 try simp only [myl17, eyl17, c6, aa yx7, eyl9, nyl9, tyl9, c13, aa yx14, c16, nyl17, tyl17, go_sem]
 refine AKev_backB (hnext2 _ _ (Option.some.inj h2).symm ?_)
 refine Weak.go [1, 2, 3, 6, 8, 17, 18, 19, 36, 37, 38] [0, 1, 2, 3, 4, 5, 6, 7] rfl ?_
 try simp only [heat_furnace_greatest.h1, c6, aa yx7, eyl9, nyl9, tyl9, c13, aa yx14, c16, eyl17, nyl17, tyl17, go_sem]
 try simp only [c16, c6, aa yx7, eyl9, nyl9, tyl9, c13, aa yx14, go_sem]
 obtain ⟨l18, yl18, h2⟩ := bs h2
 have eyl18 := push_map eI yl18
 have tyl18 := push_take eI yl18
 have nyl18 := push_len yl18
 have myl18 := push_room yl18
 try simp only [c6, aa yx7, eyl9, nyl9, tyl9, c13, aa yx14, c16, go_sem] at eyl18 tyl18 nyl18 myl18
 try simp only [myl18, eyl18, c6, aa yx7, eyl9, nyl9, tyl9, c13, aa yx14, c16, nyl18, tyl18, go_sem]
 refine AKev_backB (hnext2 _ _ (Option.some.inj h2).symm ?_)
 refine Weak.go [1, 2, 3, 6, 8, 17, 18, 19, 36, 37, 38] [0, 1, 2, 3, 4, 5, 6, 7] rfl ?_
 try simp only [heat_furnace_greatest.h1, c6, aa yx7, eyl9, nyl9, tyl9, c13, aa yx14, c16, eyl18, nyl18, tyl18, go_sem]
 try simp only [c13, c6, aa yx7, eyl9, nyl9, tyl9, go_sem]
 refine AKev_backB (hbrk2 _ _ (Option.some.inj h2).symm ?_)
 refine Weak.go [1, 2, 3, 8, 17, 18, 19] [0, 1, 2, 3, 4, 5, 6, 7] rfl ?_
 try simp only [heat_furnace_greatest.x1, c6, aa yx7, eyl9, nyl9, tyl9, c13, go_sem]
 rintro l12 hr_
 subst hr_
 simp only at h1
 refine rS ?_
 try simp only [heat_furnace_greatest.x1, c6, aa yx7, eyl9, nyl9, tyl9, go_sem]
 obtain ⟨l20, yl20, h1⟩ := bs h1
 have eyl20 := push_map (eL 1 eI) yl20
 have tyl20 := push_take (eL 1 eI) yl20
 have nyl20 := push_len yl20
 have myl20 := push_room yl20
 try simp only [c6, aa yx7, eyl9, nyl9, tyl9, go_sem] at eyl20 tyl20 nyl20 myl20
 try simp only [myl20, eyl20, c6, aa yx7, eyl9, nyl9, tyl9, nyl20, tyl20, go_sem]
 refine AKev_backB (hnext1 _ _ (Option.some.inj h1).symm ?_)
 refine Weak.go [1, 2, 3, 17, 18, 19] [0, 1, 2, 3, 4, 5, 6] rfl ?_
 try simp only [heat_furnace_greatest.h0, c6, aa yx7, eyl9, nyl9, tyl9, eyl20, nyl20, tyl20, go_sem]
 try simp only [c6, go_sem]
 refine AKev_backB (hbrk1 _ _ (Option.some.inj h1).symm ?_)
 refine Weak.go [2, 3] [1, 2, 3, 4, 5, 6] rfl ?_
 try simp only [heat_furnace_greatest.x0, c6, go_sem]
 rintro ⟨l4, l5⟩ hr_
 subst hr_
 simp only at h0
 refine rS ?_
 try simp only [heat_furnace_greatest.x0, go_sem]
 obtain rfl := Option.some.inj h0
 refine AKev_ret rfl ?_
 try simp only [F73.rs, go_sem]
def F38.c : SC :=
 (.seq
 (.reg [oq 1 (.box 32 (.tmp 0)) 0 [0],
 oq 2 (.assign (.const (.slice none 0 0))) 23 [2],
 sn 3 0 43 [3]])
 (.seq
 (.reg [ld 7 32 1 [1],
 oq 8 (.call ⟨.value (.func 36), #[.tmp 7, .const (.int .i64 0)], #[32, 3]⟩) 95 [7],
 mv 6 8 95 [8],
 xt 9 6 0 94 [],
 xt 10 6 1 43 [6],
 oq 4 (.alloc 94) 0 [],
 ⟨none, .store 94 (.tmp 4) (.tmp 9), 0, none, [9]⟩,
 sg 5 10 43 [10]])
 (.seq
 (.seq
 (.reg [mv 11 5 43 [],
 bn 12 .neq 43 11 0 43 4 [11]])
 (.cond (.tmp 12)
 (.seq
 (.reg [mv 13 5 43 [5],
 oq 2 (.assign (.const (.slice none 0 0))) 23 [],
 sg 3 13 43 [13]])
 .ret)
 .skip))
 (.seq
 (.reg [ld 14 94 4 [4],
 cf1 15 73 14 94 35 [14],
 oq 16 (.field 35 (.tmp 15) 0) 23 [15],
 sg 2 16 23 [16],
 sn 3 0 43 []])
 .ret))))
theorem F38.rs : Try.f38.results.toList = [.tmp 2, .tmp 3] := rfl
def heat_Hottest (k : Nat) (f0 : Firing) : Option ((List Int) × Int) :=
 (heat_asks k f0 0).bind fun x1 =>
 bif (!decide (x1.2 = (0 : Int))) then
  some ([], x1.2)
 else
  (heat_furnace_greatest k x1.1).bind fun x3 =>
  some (x3.Mouths, 0)
theorem heat_Hottest_ok (k : Nat) (f0 : Firing) (r : (List Int) × Int) (h0 : heat_Hottest k f0 = some r) : PCall Try.prog 38 [.agg (Firing.c f0)] (fun y => y = .tup [.sl 1 (List.map eI r.1), .int .i64 r.2]) := by
 refine PB (fn := Try.f38) (sc := F38.c) ?_
 refine rS ?_
 simp only [heat_Hottest] at h0
 try simp only [F38.c, go_sem]
 obtain ⟨x1, yx1, h0⟩ := bs h0
 refine zc0 (heat_asks_ok k _ _ _ yx1) ?_ (by first | rfl | simp [AV.refsL, AV.refs, AV.scal, AV.leaf]) ?_
 try simp only [go_sem]
 try simp only [go_sem]
 refine AKev_bif h0 ?_ ?_ <;> intro c2 h0
 have c2 := bnot_t c2
 try simp only [c2, go_sem]
 obtain rfl := Option.some.inj h0
 refine AKev_ret rfl ?_
 try simp only [F38.rs, c2, go_sem]
 have c2 := bnot_f c2
 try simp only [c2, go_sem]
 obtain ⟨x3, yx3, h0⟩ := bs h0
 refine zc0 (heat_furnace_greatest_ok k _ _ yx3) ?_ (by first | rfl | simp [AV.refsL, AV.refs, AV.scal, AV.leaf]) ?_
 try simp only [c2, go_sem]
 try simp only [c2, go_sem]
 obtain rfl := Option.some.inj h0
 refine AKev_ret rfl ?_
 try simp only [F38.rs, c2, go_sem]
def F40.c : SC :=
 (.seq
 (.reg [oq 0 (.alloc 29) 0 []])
 (.seq
 (.reg [oq 4 (.build 39 #[(0, .const (.int .i64 100)), (1, .const (.int .i64 200))]) 39 [],
 oq 1 (.alloc 39) 0 [],
 ⟨none, .store 39 (.tmp 1) (.tmp 4), 0, none, [4]⟩])
 (.seq
 (.reg [oq 5 (.build 39 #[(0, .const (.int .i64 300)), (1, .const (.int .i64 400))]) 39 [],
 oq 2 (.alloc 39) 0 [],
 ⟨none, .store 39 (.tmp 2) (.tmp 5), 0, none, [5]⟩])
 (.seq
 (.reg [oq 6 (.build 39 #[(0, .const (.int .i64 600)), (1, .const (.int .i64 800))]) 39 [],
 oq 3 (.alloc 39) 0 [],
 ⟨none, .store 39 (.tmp 3) (.tmp 6), 0, none, [6]⟩])
 (.seq
 (.reg [ld 7 39 1 [],
 ld 8 39 2 [],
 ld 9 39 3 [],
 oq 10 (.buildSlice 40 3 #[(0, .tmp 7), (1, .tmp 8), (2, .tmp 9)]) 40 [7, 8, 9],
 ld 11 39 3 [3],
 ld 12 39 2 [2],
 ld 13 39 1 [1],
 oq 14 (.buildSlice 40 3 #[(0, .tmp 11), (1, .tmp 12), (2, .tmp 13)]) 40 [11, 12, 13],
 oq 15 (.buildSlice 27 2 #[(0, .tmp 10), (1, .tmp 14)]) 27 [10, 14],
 oq 16 (.build 29 #[(0, .tmp 15)]) 29 [15],
 ⟨none, .store 29 (.tmp 0) (.tmp 16), 0, none, [16]⟩])
 .ret)))))
theorem F40.rs : Try.f40.results.toList = [.cell 0 29] := rfl
def L04_kiln (k : Nat) : Option (Kiln) :=
 some (⟨[[(⟨100, 200⟩ : Range), (⟨300, 400⟩ : Range), (⟨600, 800⟩ : Range)], [(⟨600, 800⟩ : Range), (⟨300, 400⟩ : Range), (⟨100, 200⟩ : Range)]]⟩ : Kiln)
theorem L04_kiln_ok (k : Nat) (r : Kiln) (h0 : L04_kiln k = some r) : PCall Try.prog 40 [] (fun y => y = .agg (Kiln.c r)) := by
 refine PB (fn := Try.f40) (sc := F40.c) ?_
 refine rS ?_
 simp only [L04_kiln] at h0
 try simp only [F40.c, go_sem]
 obtain rfl := Option.some.inj h0
 refine AKev_ret rfl ?_
 try simp only [F40.rs, go_sem]
def F39.c : SC :=
 (.seq
 (.reg [oq 0 (.alloc 32) 0 []])
 (.seq
 (.reg [oq 1 (.call ⟨.value (.func 40), #[], #[]⟩) 29 [],
 oq 2 (.build 60 #[(0, .const (.int .i64 1)), (2, .const (.int .i64 1)), (3, .const (.int .i64 1000))]) 60 [],
 oq 3 (.build 60 #[(0, .const (.int .i64 2)), (2, .const (.int .i64 2)), (3, .const (.int .i64 1101))]) 60 [],
 oq 4 (.build 60 #[(0, .const (.int .i64 3)), (1, .const (.int .i64 2)), (2, .const (.int .i64 2)), (3, .const (.int .i64 901))]) 60 [],
 oq 5 (.buildSlice 30 3 #[(0, .tmp 2), (1, .tmp 3), (2, .tmp 4)]) 30 [2, 3, 4],
 oq 6 (.build 32 #[(0, .tmp 1), (1, .tmp 5)]) 32 [1, 5],
 ⟨none, .store 32 (.tmp 0) (.tmp 6), 0, none, [6]⟩])
 .ret))
theorem F39.rs : Try.f39.results.toList = [.cell 0 32] := rfl
def L04_firing_o (k : Nat) : Option (Firing) :=
 (L04_kiln k).bind fun x1 =>
 some (⟨x1, [(⟨1, 0, 1, 1000, (⟨0, 0⟩ : Range)⟩ : Reading), (⟨2, 0, 2, 1101, (⟨0, 0⟩ : Range)⟩ : Reading), (⟨3, 2, 2, 901, (⟨0, 0⟩ : Range)⟩ : Reading)]⟩ : Firing)
theorem L04_firing_o_ok (k : Nat) (r : Firing) (h0 : L04_firing_o k = some r) : GCall Try.prog 39 [] [] (fun y fr => y = .agg [.sl 1 (List.map (eL 2 Range.c) r.Kiln.Falls), .loc 0 0 6 0 r.Readings.length r.Readings.length] ∧ fr = [(0, .arr 60 6 (List.map Reading.c r.Readings))]) := by
 refine GCall.of_body T_ok (f := 39) (fn := Try.f39) (sc := F39.c) (by rfl) (by rfl) (by decide +kernel) (by rfl) (by decide +kernel) (Nat.le_of_ble_eq_true rfl) (fun H => ?_)
 refine rS ?_
 simp only [L04_firing_o] at h0
 try simp only [F39.c, go_sem]
 obtain ⟨x1, yx1, h0⟩ := bs h0
 refine zc0 (L04_kiln_ok k _ yx1) ?_ (by first | rfl | simp [AV.refsL, AV.refs, AV.scal, AV.leaf]) ?_
 try simp only [go_sem]
 try simp only [go_sem]
 obtain rfl := Option.some.inj h0
 refine AKev_gown [96] (by simp) rfl rfl ?_
 try simp only [F39.rs, gwOK, tupOf, Option.bind_some, go_sem]
def F14.c : SC :=
 (.seq
 (.reg [sb 0 false 4 [0]])
 (.seq
 (.reg [oq 12 (.call ⟨.value (.func 39), #[], #[]⟩) 32 [],
 cf1 13 38 12 32 53 [12],
 mv 11 13 53 [13],
 xt 14 11 0 23 [],
 xt 15 11 1 43 [11],
 sg 1 14 23 [14],
 sg 2 15 43 [15]])
 (.seq
 (.reg [oq 17 (.call ⟨.value (.func 39), #[], #[]⟩) 32 [],
 oq 18 (.call ⟨.value (.func 13), #[.tmp 17, .const (.int .i64 1)], #[32, 3]⟩) 44 [17],
 mv 16 18 44 [18],
 xt 19 16 0 39 [],
 xt 20 16 1 43 [16],
 oq 3 (.alloc 39) 0 [],
 ⟨none, .store 39 (.tmp 3) (.tmp 19), 0, none, [19]⟩,
 sg 4 20 43 [20]])
 (.seq
 (.reg [oq 22 (.call ⟨.value (.func 39), #[], #[]⟩) 32 [],
 oq 23 (.build 39 #[(0, .const (.int .i64 900)), (1, .const (.int .i64 950))]) 39 [],
 oq 24 (.call ⟨.value (.func 32), #[.tmp 22, .const (.int .i64 1), .tmp 23], #[32, 3, 39]⟩) 83 [22, 23],
 mv 21 24 83 [24],
 xt 25 21 0 3 [],
 xt 26 21 1 43 [21],
 sg 5 25 3 [25],
 sg 6 26 43 [26]])
 (.seq
 (.reg [oq 28 (.call ⟨.value (.func 40), #[], #[]⟩) 29 [],
 oq 29 (.call ⟨.value (.func 39), #[], #[]⟩) 32 [],
 oq 30 (.field 32 (.tmp 29) 1) 30 [29],
 oq 31 (.build 60 #[(0, .const (.int .i64 4)), (1, .const (.int .i64 1)), (2, .const (.int .i64 2)), (3, .const (.int .i64 600))]) 60 [],
 oq 32 (.buildSlice 30 1 #[(0, .tmp 31)]) 30 [31],
 oq 33 (.call ⟨.builtin .append, #[.tmp 30, .tmp 32], #[30, 30]⟩) 30 [30, 32],
 oq 34 (.build 32 #[(0, .tmp 28), (1, .tmp 33)]) 32 [28, 33],
 cf1 35 22 34 32 53 [34],
 mv 27 35 53 [35],
 xt 36 27 0 23 [],
 xt 37 27 1 43 [27],
 sg 7 36 23 [36],
 sg 8 37 43 [37]])
 (.seq
 (.reg [oq 38 (.call ⟨.value (.func 39), #[], #[]⟩) 32 [],
 oq 39 (.buildSlice 23 2 #[(0, .const (.int .i64 (-1))), (1, .const (.int .i64 2))]) 23 [],
 oq 40 (.build 51 #[(0, .const (.int .i64 0)), (1, .tmp 39)]) 51 [39],
 oq 41 (.call ⟨.value (.func 17), #[.tmp 38, .const (.int .i64 1), .const (.bool false), .const (.int .i64 700), .tmp 40], #[32, 3, 4, 3, 51]⟩) 43 [38, 40],
 sg 9 41 43 [41]])
 (.seq
 (.reg [mv 42 2 43 [2],
 bn 43 .eql 43 42 0 43 4 [42],
 mv 44 43 4 [43],
 og 45 (.move (.tmp 4)) 43 44 true [4],
 og 46 (.binOp .eql 43 (.tmp 45) (.const (.int .i64 0)) 43) 4 44 true [45],
 oq 47 (.pick (.tmp 44) (.tmp 46) (.const (.bool false))) 4 [44, 46],
 mv 48 47 4 [47],
 og 49 (.move (.tmp 6)) 43 48 true [6],
 og 50 (.binOp .eql 43 (.tmp 49) (.const (.int .i64 0)) 43) 4 48 true [49],
 oq 51 (.pick (.tmp 48) (.tmp 50) (.const (.bool false))) 4 [48, 50],
 mv 52 51 4 [51],
 og 53 (.move (.tmp 8)) 43 52 true [8],
 og 54 (.binOp .eql 43 (.tmp 53) (.const (.int .i64 0)) 43) 4 52 true [53],
 oq 55 (.pick (.tmp 52) (.tmp 54) (.const (.bool false))) 4 [52, 54],
 mv 56 55 4 [55],
 og 57 (.move (.tmp 9)) 43 56 true [9],
 og 58 (.binOp .eql 43 (.tmp 57) (.const (.int .i64 0)) 43) 4 56 true [57],
 oq 59 (.pick (.tmp 56) (.tmp 58) (.const (.bool false))) 4 [56, 58],
 sg 10 59 4 [59]])
 (.seq
 (.reg [mv 60 10 4 [10],
 mv 61 60 4 [60],
 og 62 (.move (.tmp 1)) 23 61 true [1],
 og 63 (.buildSlice 23 2 #[(0, .const (.int .i64 1300)), (1, .const (.int .i64 1100))]) 23 61 true [],
 og 64 (.call ⟨.value (.func 19), #[.tmp 62, .tmp 63], #[23, 23]⟩) 4 61 true [62, 63],
 oq 65 (.pick (.tmp 61) (.tmp 64) (.const (.bool false))) 4 [61, 64],
 mv 66 65 4 [65],
 og 67 (.load 39 (.tmp 3)) 39 66 true [3],
 og 68 (.build 39 #[(0, .const (.int .i64 700)), (1, .const (.int .i64 1000))]) 39 66 true [],
 og 69 (.binOp .eql 39 (.tmp 67) (.tmp 68) 39) 4 66 true [67, 68],
 oq 70 (.pick (.tmp 66) (.tmp 69) (.const (.bool false))) 4 [66, 69],
 mv 71 70 4 [70],
 og 72 (.move (.tmp 5)) 3 71 true [5],
 og 73 (.binOp .eql 3 (.tmp 72) (.const (.int .i64 2)) 3) 4 71 true [72],
 oq 74 (.pick (.tmp 71) (.tmp 73) (.const (.bool false))) 4 [71, 73],
 mv 75 74 4 [74],
 og 76 (.move (.tmp 7)) 23 75 true [7],
 og 77 (.buildSlice 23 2 #[(0, .const (.int .i64 1)), (1, .const (.int .i64 4))]) 23 75 true [],
 og 78 (.call ⟨.value (.func 19), #[.tmp 76, .tmp 77], #[23, 23]⟩) 4 75 true [76, 77],
 oq 79 (.pick (.tmp 75) (.tmp 78) (.const (.bool false))) 4 [75, 78],
 sg 0 79 4 [79]])
 .ret))))))))
theorem F14.rs : Try.f14.results.toList = [.tmp 0] := rfl
def L04_sane (k : Nat) : Option (Bool) :=
 (L04_firing_o k).bind fun x2 =>
 (heat_Hottest k x2).bind fun x3 =>
 (L04_firing_o k).bind fun x5 =>
 (heat_Bound k x5 1).bind fun x6 =>
 (L04_firing_o k).bind fun x8 =>
 (heat_Verdict k x8 1 (⟨900, 950⟩ : Range)).bind fun x9 =>
 (L04_kiln k).bind fun x10 =>
 (L04_firing_o k).bind fun x12 =>
 (push? 48 x12.Readings (⟨4, 1, 2, 600, (⟨0, 0⟩ : Range)⟩ : Reading)).bind fun l13 =>
 (heat_Conflict k (⟨x10, l13⟩ : Firing)).bind fun x14 =>
 (L04_firing_o k).bind fun x16 =>
 (heat_CheckProof k x16 1 false 700 (⟨0, [-1, 2]⟩ : HeatProof)).bind fun x17 =>
 bif decide (x3.2 = (0 : Int)) then
  bif decide (x6.2 = (0 : Int)) then
   bif decide (x9.2 = (0 : Int)) then
    bif decide (x14.2 = (0 : Int)) then
     bif decide (x17 = (0 : Int)) then
      (R01_Same k x3.1 [1300, 1100]).bind fun x23 =>
      bif x23 then
       bif (decide (x6.1.Lo = (700 : Int)) && decide (x6.1.Hi = (1000 : Int))) then
        bif decide (x9.1 = (2 : Int)) then
         (R01_Same k x14.1 [1, 4]).bind fun x27 =>
         some x27
        else
         some false
       else
        some false
      else
       some false
     else
      some false
    else
     some false
   else
    some false
  else
   some false
 else
  some false
theorem L04_sane_ok (k : Nat) (r : Bool) (h0 : L04_sane k = some r) : PCall Try.prog 14 [] (fun y => y = .bool r) := by
 refine PB (fn := Try.f14) (sc := F14.c) ?_
 refine rS ?_
 simp only [L04_sane] at h0
 try simp only [F14.c, go_sem]
 obtain ⟨x2, yx2, h0⟩ := bs h0
 refine AKev_giveF [] [] (L04_firing_o_ok k _ yx2) ?_ rfl ?_
 try simp only [gOK, go_sem]
 try simp only [go_sem]
 refine rS ?_
 try simp only [go_sem]
 obtain ⟨x3, yx3, h0⟩ := bs h0
 refine zcT [16] (heat_Hottest_ok k _ _ yx3) ?_ ?_
 try simp only [go_sem]
 try simp only [go_sem]
 obtain ⟨x5, yx5, h0⟩ := bs h0
 refine AKev_giveF [] [] (L04_firing_o_ok k _ yx5) ?_ rfl ?_
 try simp only [gOK, go_sem]
 try simp only [go_sem]
 refine rS ?_
 try simp only [go_sem]
 obtain ⟨x6, yx6, h0⟩ := bs h0
 refine zcT [128] (heat_Bound_ok k _ _ _ yx6) ?_ ?_
 try simp only [go_sem]
 try simp only [go_sem]
 obtain ⟨x8, yx8, h0⟩ := bs h0
 refine AKev_giveF [] [] (L04_firing_o_ok k _ yx8) ?_ rfl ?_
 try simp only [gOK, go_sem]
 try simp only [go_sem]
 refine rS ?_
 try simp only [go_sem]
 obtain ⟨x9, yx9, h0⟩ := bs h0
 refine zc0 (heat_Verdict_ok k _ _ _ _ yx9) ?_ (by first | rfl | simp [AV.refsL, AV.refs, AV.scal, AV.leaf]) ?_
 try simp only [go_sem]
 try simp only [go_sem]
 obtain ⟨x10, yx10, h0⟩ := bs h0
 refine zc0 (L04_kiln_ok k _ yx10) ?_ (by first | rfl | simp [AV.refsL, AV.refs, AV.scal, AV.leaf]) ?_
 try simp only [go_sem]
 try simp only [go_sem]
 obtain ⟨x12, yx12, h0⟩ := bs h0
 refine AKev_giveF [] [] (L04_firing_o_ok k _ yx12) ?_ rfl ?_
 try simp only [gOK, go_sem]
 try simp only [go_sem]
 refine rS ?_
 try simp only [go_sem]
 obtain ⟨l13, yl13, h0⟩ := bs h0
 have eyl13 := push_map Reading.c yl13
 have tyl13 := push_take Reading.c yl13
 have nyl13 := push_len yl13
 have myl13 := push_room yl13
 try simp only [go_sem] at eyl13 tyl13 nyl13 myl13
 try simp only [myl13, eyl13, nyl13, tyl13, go_sem]
 obtain ⟨x14, yx14, h0⟩ := bs h0
 refine zcT [400] (heat_Conflict_ok k _ _ yx14) ?_ ?_
 try simp only [eyl13, nyl13, tyl13, go_sem]
 try simp only [eyl13, nyl13, tyl13, go_sem]
 obtain ⟨x16, yx16, h0⟩ := bs h0
 refine AKev_giveF [] [] (L04_firing_o_ok k _ yx16) ?_ rfl ?_
 try simp only [gOK, eyl13, nyl13, tyl13, go_sem]
 try simp only [eyl13, nyl13, tyl13, go_sem]
 refine rS ?_
 try simp only [eyl13, nyl13, tyl13, go_sem]
 obtain ⟨x17, yx17, h0⟩ := bs h0
 refine zc0 (heat_CheckProof_ok k _ _ _ _ _ _ yx17) ?_ (by first | rfl | simp [AV.refsL, AV.refs, AV.scal, AV.leaf]) ?_
 try simp only [eyl13, nyl13, tyl13, go_sem]
 try simp only [eyl13, nyl13, tyl13, go_sem]
 refine AKev_bif h0 ?_ ?_ <;> intro c18 h0
 try simp only [c18, eyl13, nyl13, tyl13, go_sem]
 refine AKev_bif h0 ?_ ?_ <;> intro c19 h0
 try simp only [c19, eyl13, nyl13, tyl13, c18, go_sem]
 refine AKev_bif h0 ?_ ?_ <;> intro c20 h0
 try simp only [c20, eyl13, nyl13, tyl13, c18, c19, go_sem]
 refine AKev_bif h0 ?_ ?_ <;> intro c21 h0
 try simp only [c21, eyl13, nyl13, tyl13, c18, c19, c20, go_sem]
 refine AKev_bif h0 ?_ ?_ <;> intro c22 h0
 try simp only [c22, eyl13, nyl13, tyl13, c18, c19, c20, c21, go_sem]
 obtain ⟨x23, yx23, h0⟩ := bs h0
 refine zc0 (R01_Same_ok k _ _ _ yx23) ?_ (by first | rfl | simp [AV.refsL, AV.refs, AV.scal, AV.leaf]) ?_
 try simp only [eyl13, nyl13, tyl13, c18, c19, c20, c21, c22, go_sem]
 try simp only [eyl13, nyl13, tyl13, c18, c19, c20, c21, c22, go_sem]
 refine AKev_bif h0 ?_ ?_ <;> intro c24 h0
 try simp only [c24, eyl13, nyl13, tyl13, c18, c19, c20, c21, c22, go_sem]
 refine AKev_bif h0 ?_ ?_ <;> intro c25 h0
 try simp only [c25, eyl13, nyl13, tyl13, c18, c19, c20, c21, c22, c24, go_sem]
 refine AKev_bif h0 ?_ ?_ <;> intro c26 h0
 try simp only [c26, eyl13, nyl13, tyl13, c18, c19, c20, c21, c22, c24, c25, go_sem]
 obtain ⟨x27, yx27, h0⟩ := bs h0
 refine zc0 (R01_Same_ok k _ _ _ yx27) ?_ (by first | rfl | simp [AV.refsL, AV.refs, AV.scal, AV.leaf]) ?_
 try simp only [eyl13, nyl13, tyl13, c18, c19, c20, c21, c22, c24, c25, c26, go_sem]
 try simp only [eyl13, nyl13, tyl13, c18, c19, c20, c21, c22, c24, c25, c26, go_sem]
 obtain rfl := Option.some.inj h0
 refine AKev_ret rfl ?_
 try simp only [F14.rs, eyl13, nyl13, tyl13, c18, c19, c20, c21, c22, c24, c25, c26, go_sem]
 try simp only [c26, eyl13, nyl13, tyl13, c18, c19, c20, c21, c22, c24, c25, go_sem]
 obtain rfl := Option.some.inj h0
 refine AKev_ret rfl ?_
 try simp only [F14.rs, eyl13, nyl13, tyl13, c18, c19, c20, c21, c22, c24, c25, c26, go_sem]
 try simp only [c25, eyl13, nyl13, tyl13, c18, c19, c20, c21, c22, c24, go_sem]
 obtain rfl := Option.some.inj h0
 refine AKev_ret rfl ?_
 try simp only [F14.rs, eyl13, nyl13, tyl13, c18, c19, c20, c21, c22, c24, c25, go_sem]
 try simp only [c24, eyl13, nyl13, tyl13, c18, c19, c20, c21, c22, go_sem]
 obtain rfl := Option.some.inj h0
 refine AKev_ret rfl ?_
 try simp only [F14.rs, eyl13, nyl13, tyl13, c18, c19, c20, c21, c22, c24, go_sem]
 try simp only [c22, eyl13, nyl13, tyl13, c18, c19, c20, c21, go_sem]
 obtain rfl := Option.some.inj h0
 refine AKev_ret rfl ?_
 try simp only [F14.rs, eyl13, nyl13, tyl13, c18, c19, c20, c21, c22, go_sem]
 try simp only [c21, eyl13, nyl13, tyl13, c18, c19, c20, go_sem]
 obtain rfl := Option.some.inj h0
 refine AKev_ret rfl ?_
 try simp only [F14.rs, eyl13, nyl13, tyl13, c18, c19, c20, c21, go_sem]
 try simp only [c20, eyl13, nyl13, tyl13, c18, c19, go_sem]
 obtain rfl := Option.some.inj h0
 refine AKev_ret rfl ?_
 try simp only [F14.rs, eyl13, nyl13, tyl13, c18, c19, c20, go_sem]
 try simp only [c19, eyl13, nyl13, tyl13, c18, go_sem]
 obtain rfl := Option.some.inj h0
 refine AKev_ret rfl ?_
 try simp only [F14.rs, eyl13, nyl13, tyl13, c18, c19, go_sem]
 try simp only [c18, eyl13, nyl13, tyl13, go_sem]
 obtain rfl := Option.some.inj h0
 refine AKev_ret rfl ?_
 try simp only [F14.rs, eyl13, nyl13, tyl13, c18, go_sem]
def F15.s0 : SC :=
 (.seq
 (.reg [b2 26 .lss 3 25 24 3 0 []])
 (.seq
 (.cond (.tmp 26)
 .skip
 (.exit 0))
 (.seq
 (.block 1
 (.seq
 (.reg [ia 27 23 23 25 [],
 ld 28 3 27 [27],
 sg 8 28 3 [28]])
 (.seq
 (.seq
 (.reg [mv 29 8 3 [],
 bn 30 .lss 3 29 0 3 4 [29]])
 (.cond (.tmp 30)
 (.exit 1)
 .skip))
 (.seq
 (.seq
 (.reg [mv 31 8 3 [],
 fa 32 32 2 1 [],
 ld 33 30 32 [32],
 ln 34 33 30 3 [33],
 bn 35 .sub 3 34 1 3 3 [34],
 oq 36 (.call ⟨.value (.func 42), #[.tmp 31, .const (.int .i64 0), .tmp 35], #[3, 3, 3]⟩) 4 [31, 35],
 oq 37 (.unOp .not 4 (.tmp 36)) 4 [36]])
 (.cond (.tmp 37)
 (.seq
 (.reg [oq 4 (.assign (.const (.slice none 0 0))) 23 [],
 sn 5 46 43 []])
 .ret)
 .skip))
 (.reg [mv 38 6 30 [6],
 fa 39 32 2 1 [],
 ld 40 30 39 [39],
 mv 41 8 3 [8],
 ia 42 30 40 41 [40, 41],
 ld 43 60 42 [42],
 oq 44 (.buildSlice 30 1 #[(0, .tmp 43)]) 30 [43],
 oq 45 (.call ⟨.builtin .append, #[.tmp 38, .tmp 44], #[30, 30]⟩) 30 [38, 44],
 sg 6 45 30 [45]])))))
 (.reg [bn 46 .add 3 25 1 3 3 [25],
 mv 25 46 3 [46]]))))
def F15.c : SC :=
 (.seq
 (.reg [oq 2 (.box 32 (.tmp 0)) 0 [0],
 oq 3 (.box 51 (.tmp 1)) 0 [1],
 oq 4 (.assign (.const (.slice none 0 0))) 23 [4],
 sn 5 0 43 [5]])
 (.seq
 (.seq
 (.reg [ld 9 32 2 [],
 cf1 10 41 9 32 43 [9],
 bn 11 .neq 43 10 0 43 4 [10]])
 (.cond (.tmp 11)
 (.seq
 (.reg [oq 4 (.assign (.const (.slice none 0 0))) 23 [],
 sn 5 42 43 []])
 .ret)
 .skip))
 (.seq
 (.seq
 (.reg [fa 12 51 3 0 [],
 ld 13 3 12 [12],
 bn 14 .lss 3 13 (-2) 3 4 [13]])
 (.cond (.tmp 14)
 (.seq
 (.reg [oq 4 (.assign (.const (.slice none 0 0))) 23 [],
 sn 5 46 43 []])
 .ret)
 .skip))
 (.seq
 (.seq
 (.reg [fa 15 51 3 0 [],
 ld 16 3 15 [15],
 bn 17 .eql 3 16 (-2) 3 4 [16]])
 (.cond (.tmp 17)
 (.seq
 (.reg [oq 4 (.assign (.const (.slice none 0 0))) 23 [],
 sn 5 0 43 []])
 .ret)
 .skip))
 (.seq
 (.reg [oq 6 (.assign (.const (.slice none 0 0))) 30 []])
 (.seq
 (.seq
 (.reg [fa 18 51 3 0 [],
 ld 19 3 18 [18],
 oq 20 (.buildSlice 23 1 #[(0, .tmp 19)]) 23 [19],
 fa 21 51 3 1 [3],
 ld 22 23 21 [21],
 oq 23 (.call ⟨.builtin .append, #[.tmp 20, .tmp 22], #[23, 23]⟩) 23 [20, 22],
 ln 24 23 23 3 [],
 oq 25 (.move (.const (.int .i64 0))) 3 []])
 (.block 0
 (.loop F15.s0)))
 (.seq
 (.reg [mv 47 6 30 [6],
 cf1 48 43 47 30 23 [47],
 sg 4 48 23 [48],
 sn 5 0 43 []])
 .ret)))))))
theorem F15.rs : Try.f15.results.toList = [.tmp 4, .tmp 5] := rfl
def heat_Rests.b0 (k : Nat) (f0 : Firing) (p1 : HeatProof) (l5 : List Int) : (Int × (List Reading)) → Option (Stp (Int × (List Reading)) ((List Reading)) ((List Int) × Int)) := fun (s : Int × (List Reading)) => match s with
 | (i6, l7) =>
   bif decide (i6 < ((1 + p1.By.length : Nat) : Int)) then
    (at? l5 i6).bind fun x10 =>
    bif decide (x10 < (0 : Int)) then
     some (.next (w64 (i6 + 1), l7))
    else
     (heat_in k x10 0 (w64 ((f0.Readings.length : Int) - 1))).bind fun x12 =>
     bif (!x12) then
      some (.ret ([], 46))
     else
      (at? f0.Readings x10).bind fun x14 =>
      (push? 48 l7 x14).bind fun l15 =>
      some (.next (w64 (i6 + 1), l15))
   else
    some (.brk l7)
noncomputable def heat_Rests.h0 (f0 : Firing) (p1 : HeatProof) (l5 : List Int) : (Int × (List Reading)) → St := fun (s : Int × (List Reading)) => match s with
 | (i6, l7) => ⟨[(2, .ptr 0 0 0), (6, .loc 0 1 6 0 l7.length l7.length), (23, .loc 0 2 1 0 (1 + p1.By.length) (1 + p1.By.length)), (24, .int .i64 ((1 + p1.By.length : Nat) : Int)), (25, .int .i64 i6)], [(0, .box [.sl 1 (List.map (eL 2 Range.c) f0.Kiln.Falls), .sl 6 (List.map Reading.c f0.Readings)]), (1, .arr 60 6 (List.map Reading.c l7)), (2, .arr 3 1 (List.map eI l5))], [], 3, Try.f15.ntmps⟩
noncomputable def heat_Rests.x0 : (List Reading) → St := fun (l8 : (List Reading)) => ⟨[(6, .loc 0 0 6 0 l8.length l8.length)], [(0, .arr 60 6 (List.map Reading.c l8))], [], 1, Try.f15.ntmps⟩
def heat_Rests (k : Nat) (f0 : Firing) (p1 : HeatProof) : Option ((List Int) × Int) :=
 (heat_Check k f0).bind fun x1 =>
 bif (!decide (x1 = (0 : Int))) then
  some ([], 42)
 else
  bif decide (p1.Reading < (-2 : Int)) then
   some ([], 46)
  else
   bif decide (p1.Reading = (-2 : Int)) then
    some ([], 0)
   else
    (app? 8 [p1.Reading] p1.By).bind fun l5 =>
    (whl (heat_Rests.b0 k f0 p1 l5) k (0, [])).bind fun r16 => match r16 with
    | .next _ => none
    | .ret v_ => some v_
    | .brk l8 =>
     (heat_sources k l8).bind fun x17 =>
     some (x17, 0)
theorem heat_Rests_ok (k : Nat) (f0 : Firing) (p1 : HeatProof) (r : (List Int) × Int) (h0 : heat_Rests k f0 p1 = some r) : PCall Try.prog 15 [.agg (Firing.c f0), .agg (HeatProof.c p1)] (fun y => y = .tup [.sl 1 (List.map eI r.1), .int .i64 r.2]) := by
 refine PB (fn := Try.f15) (sc := F15.c) ?_
 refine rS ?_
 simp only [heat_Rests] at h0
 try simp only [F15.c, go_sem]
 obtain ⟨x1, yx1, h0⟩ := bs h0
 refine zc0 (heat_Check_ok k _ _ yx1) ?_ (by first | rfl | simp [AV.refsL, AV.refs, AV.scal, AV.leaf]) ?_
 try simp only [go_sem]
 try simp only [go_sem]
 refine AKev_bif h0 ?_ ?_ <;> intro c2 h0
 have c2 := bnot_t c2
 try simp only [c2, go_sem]
 obtain rfl := Option.some.inj h0
 refine AKev_ret rfl ?_
 try simp only [F15.rs, c2, go_sem]
 have c2 := bnot_f c2
 try simp only [c2, go_sem]
 refine AKev_bif h0 ?_ ?_ <;> intro c3 h0
 try simp only [c3, c2, go_sem]
 obtain rfl := Option.some.inj h0
 refine AKev_ret rfl ?_
 try simp only [F15.rs, c2, c3, go_sem]
 try simp only [c3, c2, go_sem]
 refine AKev_bif h0 ?_ ?_ <;> intro c4 h0
 try simp only [c4, c2, c3, go_sem]
 obtain rfl := Option.some.inj h0
 refine AKev_ret rfl ?_
 try simp only [F15.rs, c2, c3, c4, go_sem]
 try simp only [c4, c2, c3, go_sem]
 obtain ⟨l5, yl5, h0⟩ := bs h0
 have eyl5 := app_map eI yl5
 have tyl5 := app_take eI yl5
 have nyl5 := app_len yl5
 have myl5 := app_room yl5
 try simp only [c2, c3, c4, go_sem] at eyl5 tyl5 nyl5 myl5
 try simp only [myl5, eyl5, c2, c3, c4, nyl5, tyl5, go_sem]
 obtain ⟨r16, yr16, h0⟩ := bs h0
 refine AKev_loopS yr16 (heat_Rests.h0 f0 p1 l5) (heat_Rests.x0) ?_ ?_ ?_
 refine Weak.go [2, 6, 23, 24, 25] [0, 208, 256] rfl ?_
 try simp only [heat_Rests.h0, c2, c3, c4, eyl5, nyl5, tyl5, go_sem]
 rintro ⟨i6, l7⟩ x_1 Bk1 Br1 h1 hnext1 hbrk1 hret1
 refine rS ?_
 simp only [heat_Rests.b0] at h1
 try simp only [F15.s0, heat_Rests.h0, c2, c3, c4, eyl5, nyl5, tyl5, go_sem]
 refine AKev_bif h1 ?_ ?_ <;> intro c9 h1
 try simp only [c9, c2, c3, c4, eyl5, nyl5, tyl5, go_sem]
 obtain ⟨x10, yx10, h1⟩ := bs h1
 have eyx10 := at_in yx10
 simp only [c2, c3, c4, eyl5, nyl5, tyl5, c9, go_sem] at eyx10
 try simp only [eyx10, at_get eI yx10, c2, c3, c4, eyl5, nyl5, tyl5, c9, go_sem]
 refine AKev_bif h1 ?_ ?_ <;> intro c11 h1
 try simp only [c11, c2, c3, c4, eyl5, nyl5, tyl5, c9, eyx10, at_get eI yx10, go_sem]
 refine AKev_backB (hnext1 _ _ (Option.some.inj h1).symm ?_)
 refine Weak.go [2, 6, 23, 24, 25] [0, 1, 2] rfl ?_
 try simp only [heat_Rests.h0, c2, c3, c4, eyl5, nyl5, tyl5, c9, eyx10, at_get eI yx10, c11, go_sem]
 try simp only [c11, c2, c3, c4, eyl5, nyl5, tyl5, c9, eyx10, at_get eI yx10, go_sem]
 obtain ⟨x12, yx12, h1⟩ := bs h1
 refine zc0 (heat_in_ok k _ _ _ _ yx12) ?_ (by first | rfl | simp [AV.refsL, AV.refs, AV.scal, AV.leaf]) ?_
 try simp only [c2, c3, c4, eyl5, nyl5, tyl5, c9, eyx10, at_get eI yx10, c11, go_sem]
 try simp only [c2, c3, c4, eyl5, nyl5, tyl5, c9, eyx10, at_get eI yx10, c11, go_sem]
 refine AKev_bif h1 ?_ ?_ <;> intro c13 h1
 have c13 := bnot_t c13
 try simp only [c13, c2, c3, c4, eyl5, nyl5, tyl5, c9, eyx10, at_get eI yx10, c11, go_sem]
 obtain rfl := hret1 _ (Option.some.inj h1).symm
 simp only at h0
 obtain rfl := Option.some.inj h0
 refine AKev_ret rfl ?_
 try simp only [F15.rs, c2, c3, c4, eyl5, nyl5, tyl5, c9, eyx10, at_get eI yx10, c11, c13, go_sem]
 have c13 := bnot_f c13
 try simp only [c13, c2, c3, c4, eyl5, nyl5, tyl5, c9, eyx10, at_get eI yx10, c11, go_sem]
 obtain ⟨x14, yx14, h1⟩ := bs h1
 try simp only [aa yx14, c2, c3, c4, eyl5, nyl5, tyl5, c9, eyx10, at_get eI yx10, c11, c13, go_sem]
 obtain ⟨l15, yl15, h1⟩ := bs h1
 have eyl15 := push_map Reading.c yl15
 have tyl15 := push_take Reading.c yl15
 have nyl15 := push_len yl15
 have myl15 := push_room yl15
 try simp only [c2, c3, c4, eyl5, nyl5, tyl5, c9, eyx10, at_get eI yx10, c11, c13, aa yx14, go_sem] at eyl15 tyl15 nyl15 myl15
 try simp only [myl15, eyl15, c2, c3, c4, eyl5, nyl5, tyl5, c9, eyx10, at_get eI yx10, c11, c13, aa yx14, nyl15, tyl15, go_sem]
 refine AKev_backB (hnext1 _ _ (Option.some.inj h1).symm ?_)
 refine Weak.go [2, 6, 23, 24, 25] [0, 1, 2] rfl ?_
 try simp only [heat_Rests.h0, c2, c3, c4, eyl5, nyl5, tyl5, c9, eyx10, at_get eI yx10, c11, c13, aa yx14, eyl15, nyl15, tyl15, go_sem]
 try simp only [c9, c2, c3, c4, eyl5, nyl5, tyl5, go_sem]
 refine AKev_backB (hbrk1 _ _ (Option.some.inj h1).symm ?_)
 refine Weak.go [6] [1] rfl ?_
 try simp only [heat_Rests.x0, c2, c3, c4, eyl5, nyl5, tyl5, c9, go_sem]
 rintro l8 hr_
 subst hr_
 simp only at h0
 refine rS ?_
 try simp only [heat_Rests.x0, c2, c3, c4, eyl5, nyl5, tyl5, go_sem]
 obtain ⟨x17, yx17, h0⟩ := bs h0
 refine zcT [0] (heat_sources_ok k _ _ yx17) ?_ ?_
 try simp only [c2, c3, c4, eyl5, nyl5, tyl5, go_sem]
 try simp only [c2, c3, c4, eyl5, nyl5, tyl5, go_sem]
 obtain rfl := Option.some.inj h0
 refine AKev_ret rfl ?_
 try simp only [F15.rs, c2, c3, c4, eyl5, nyl5, tyl5, go_sem]
def F24.s0 : SC :=
 (.seq
 (.seq
 (.reg [mv 6 5 3 [],
 mv 7 0 23 [],
 ln 8 7 23 3 [7],
 b2 9 .lss 3 6 8 3 4 [6, 8]])
 (.cond (.tmp 9)
 .skip
 (.exit 0)))
 (.seq
 (.block 1
 (.seq
 (.reg [mv 12 0 23 [],
 mv 13 5 3 [],
 ia 14 23 12 13 [12, 13],
 ld 15 3 14 [14],
 mv 16 1 3 [],
 b2 17 .eql 3 15 16 3 4 [15, 16]])
 (.cond (.tmp 17)
 (.seq
 (.reg [sb 4 true 4 []])
 .ret)
 .skip)))
 (.reg [mv 10 5 3 [5],
 bn 11 .add 3 10 1 3 3 [10],
 sg 5 11 3 [11]])))
def F24.c : SC :=
 (.seq
 (.reg [sb 4 false 4 [4]])
 (.seq
 (.seq
 (.reg [sn 5 0 3 []])
 (.block 0
 (.loop F24.s0)))
 (.seq
 (.reg [sb 4 false 4 []])
 .ret)))
theorem F24.rs : Try.f24.results.toList = [.tmp 4] := rfl
def R01_Has.b0 (k : Nat) (l0 : (List Int)) (n1 : Int) : Int → Option (Stp (Int) (Unit) (Bool)) := fun (i1 : Int) =>
 bif decide (i1 < (l0.length : Int)) then
  (at? l0 i1).bind fun x3 =>
  bif decide (x3 = n1) then
   some (.ret true)
  else
   some (.next (w64 (i1 + 1)))
 else
  some (.brk ())
noncomputable def R01_Has.h0 (l0 : (List Int)) (n1 : Int) : Int → St := fun (i1 : Int) => ⟨[(0, .sl 1 (List.map eI l0)), (1, .int .i64 n1), (5, .int .i64 i1)], [], [], 1, Try.f24.ntmps⟩
noncomputable def R01_Has.x0 : Unit → St := fun (_ : Unit) => ⟨[], [], [], 1, Try.f24.ntmps⟩
def R01_Has (k : Nat) (l0 : (List Int)) (n1 : Int) : Option (Bool) :=
 (whl (R01_Has.b0 k l0 n1) k 0).bind fun r5 => match r5 with
 | .next _ => none
 | .ret v_ => some v_
 | .brk _ =>
  some false
theorem R01_Has_ok (k : Nat) (l0 : (List Int)) (n1 : Int) (r : Bool) (h0 : R01_Has k l0 n1 = some r) : PCall Try.prog 24 [.sl 1 (List.map eI l0), .int .i64 n1] (fun y => y = .bool r) := by
 refine PB (fn := Try.f24) (sc := F24.c) ?_
 refine rS ?_
 simp only [R01_Has] at h0
 try simp only [F24.c, go_sem]
 obtain ⟨r5, yr5, h0⟩ := bs h0
 refine AKev_loopS yr5 (R01_Has.h0 l0 n1) (R01_Has.x0) ?_ ?_ ?_
 refine Weak.go [0, 1, 5] [] rfl ?_
 try simp only [R01_Has.h0, go_sem]
 rintro i1 x_1 Bk1 Br1 h1 hnext1 hbrk1 hret1
 refine rS ?_
 simp only [R01_Has.b0] at h1
 try simp only [F24.s0, R01_Has.h0, go_sem]
 refine AKev_bif h1 ?_ ?_ <;> intro c2 h1
 try simp only [c2, go_sem]
 obtain ⟨x3, yx3, h1⟩ := bs h1
 try simp only [aa yx3, c2, go_sem]
 refine AKev_bif h1 ?_ ?_ <;> intro c4 h1
 try simp only [c4, c2, aa yx3, go_sem]
 obtain rfl := hret1 _ (Option.some.inj h1).symm
 simp only at h0
 obtain rfl := Option.some.inj h0
 refine AKev_ret rfl ?_
 try simp only [F24.rs, c2, aa yx3, c4, go_sem]
 try simp only [c4, c2, aa yx3, go_sem]
 refine AKev_backB (hnext1 _ _ (Option.some.inj h1).symm ?_)
 refine Weak.go [0, 1, 5] [] rfl ?_
 try simp only [R01_Has.h0, c2, aa yx3, c4, go_sem]
 try simp only [c2, go_sem]
 refine AKev_backB (hbrk1 _ _ (Option.some.inj h1).symm ?_)
 refine Weak.go [] [] rfl ?_
 try simp only [R01_Has.x0, c2, go_sem]
 rintro _ hr_
 subst hr_
 simp only at h0
 refine rS ?_
 try simp only [R01_Has.x0, go_sem]
 obtain rfl := Option.some.inj h0
 refine AKev_ret rfl ?_
 try simp only [F24.rs, go_sem]
def F62.s1 : SC :=
 (.seq
 (.reg [b2 54 .lss 3 53 52 3 0 []])
 (.seq
 (.cond (.tmp 54)
 .skip
 (.exit 2))
 (.seq
 (.block 3
 (.seq
 (.reg [mv 55 53 3 [],
 ia 56 40 51 53 [],
 ld 57 39 56 [56],
 oq 8 (.alloc 39) 0 [],
 sg 7 55 3 [55],
 ⟨none, .store 39 (.tmp 8) (.tmp 57), 0, none, [57]⟩])
 (.seq
 (.dreg [fa 58 35 3 1 [],
 ld 59 33 58 [],
 mv 60 5 3 [],
 ia 61 33 59 60 [],
 ld 62 23 61 [],
 mv 63 7 3 [],
 ia 64 23 62 63 [],
 ld 65 3 64 [],
 fa 66 39 8 0 [],
 ld 67 3 66 [],
 fa 68 39 8 1 [],
 ld 69 3 68 [],
 oq 70 (.call ⟨.value (.func 42), #[.tmp 65, .tmp 67, .tmp 69], #[3, 3, 3]⟩) 4 [],
 oq 71 (.unOp .not 4 (.tmp 70)) 4 []] [[], [0], [], [0, 1, 2], [0, 1, 2, 3], [], [0, 1, 2, 3, 4, 5], [0, 1, 2, 3, 4, 5, 6], [], [8], [], [10], [0, 1, 2, 3, 4, 5, 6, 7, 8, 9, 10, 11], [0, 1, 2, 3, 4, 5, 6, 7, 8, 9, 10, 11, 12]] [7, 8, 58, 59, 60, 61, 62, 63, 64, 65, 66, 67, 68, 69, 70])
 (.cond (.tmp 71)
 (.seq
 (.reg [sb 4 false 4 []])
 .ret)
 .skip))))
 (.reg [bn 72 .add 3 53 1 3 3 [53],
 mv 53 72 3 [72]]))))
def F62.s0 : SC :=
 (.seq
 (.reg [b2 29 .lss 3 28 27 3 0 []])
 (.seq
 (.cond (.tmp 29)
 .skip
 (.exit 0))
 (.seq
 (.block 1
 (.seq
 (.reg [mv 30 28 3 [],
 ia 31 27 26 28 [],
 ld 32 40 31 [31],
 sg 5 30 3 [30],
 sg 6 32 40 [32]])
 (.seq
 (.seq
 (.reg [fa 33 35 3 0 [],
 ld 34 23 33 [33],
 mv 35 5 3 [],
 ia 36 23 34 35 [34, 35],
 ld 37 3 36 [36],
 oq 38 (.call ⟨.value (.func 42), #[.tmp 37, .const (.int .i64 0), .const (.int .i64 3000)], #[3, 3, 3]⟩) 4 [37],
 oq 39 (.unOp .not 4 (.tmp 38)) 4 [38],
 mv 40 39 4 [39],
 og 41 (.fieldAddr 35 (.tmp 3) 1) 0 40 false [],
 og 42 (.load 33 (.tmp 41)) 33 40 false [41],
 og 43 (.move (.tmp 5)) 3 40 false [],
 og 44 (.indexAddr 33 (.tmp 42) (.tmp 43)) 0 40 false [42, 43],
 og 45 (.load 23 (.tmp 44)) 23 40 false [44],
 og 46 (.call ⟨.builtin .len, #[.tmp 45], #[23]⟩) 3 40 false [45],
 og 47 (.move (.tmp 6)) 40 40 false [],
 og 48 (.call ⟨.builtin .len, #[.tmp 47], #[40]⟩) 3 40 false [47],
 og 49 (.binOp .neq 3 (.tmp 46) (.tmp 48) 3) 4 40 false [46, 48],
 oq 50 (.pick (.tmp 40) (.const (.bool true)) (.tmp 49)) 4 [40, 49]])
 (.cond (.tmp 50)
 (.seq
 (.reg [sb 4 false 4 []])
 .ret)
 .skip))
 (.seq
 (.reg [mv 51 6 40 [6],
 ln 52 51 40 3 [],
 oq 53 (.move (.const (.int .i64 0))) 3 []])
 (.block 2
 (.loop F62.s1))))))
 (.reg [bn 73 .add 3 28 1 3 3 [28],
 mv 28 73 3 [73]]))))
def F62.c : SC :=
 (.seq
 (.reg [oq 2 (.box 29 (.tmp 0)) 0 [0],
 oq 3 (.box 35 (.tmp 1)) 0 [1],
 sb 4 false 4 [4]])
 (.seq
 (.seq
 (.reg [fa 9 35 3 0 [],
 ld 10 23 9 [9],
 ln 11 10 23 3 [10],
 fa 12 29 2 0 [],
 ld 13 27 12 [12],
 ln 14 13 27 3 [13],
 b2 15 .neq 3 11 14 3 4 [11, 14],
 mv 16 15 4 [15],
 og 17 (.fieldAddr 35 (.tmp 3) 1) 0 16 false [],
 og 18 (.load 33 (.tmp 17)) 33 16 false [17],
 og 19 (.call ⟨.builtin .len, #[.tmp 18], #[33]⟩) 3 16 false [18],
 og 20 (.fieldAddr 29 (.tmp 2) 0) 0 16 false [],
 og 21 (.load 27 (.tmp 20)) 27 16 false [20],
 og 22 (.call ⟨.builtin .len, #[.tmp 21], #[27]⟩) 3 16 false [21],
 og 23 (.binOp .neq 3 (.tmp 19) (.tmp 22) 3) 4 16 false [19, 22],
 oq 24 (.pick (.tmp 16) (.const (.bool true)) (.tmp 23)) 4 [16, 23]])
 (.cond (.tmp 24)
 (.seq
 (.reg [sb 4 false 4 []])
 .ret)
 .skip))
 (.seq
 (.seq
 (.reg [fa 25 29 2 0 [2],
 ld 26 27 25 [25],
 ln 27 26 27 3 [],
 oq 28 (.move (.const (.int .i64 0))) 3 []])
 (.block 0
 (.loop F62.s0)))
 (.seq
 (.reg [sb 4 true 4 []])
 .ret))))
theorem F62.rs : Try.f62.results.toList = [.tmp 4] := rfl
def heat_isField.b1 (k : Nat) (x5 : (List Range)) (x9 : (List Int)) : Int → Option (Stp (Int) (Unit) (Bool)) := fun (i11 : Int) =>
 bif decide (i11 < (x5.length : Int)) then
  (at? x5 i11).bind fun x13 =>
  (at? x9 i11).bind fun x14 =>
  (heat_in k x14 x13.Lo x13.Hi).bind fun x15 =>
  bif (!x15) then
   some (.ret false)
  else
   some (.next (w64 (i11 + 1)))
 else
  some (.brk ())
def heat_isField.b0 (k : Nat) (k0 : Kiln) (x1 : Field) : Int → Option (Stp (Int) (Unit) (Bool)) := fun (i3 : Int) =>
 bif decide (i3 < (k0.Falls.length : Int)) then
  (at? k0.Falls i3).bind fun x5 =>
  (at? x1.Mouths i3).bind fun x6 =>
  (heat_in k x6 0 3000).bind fun x7 =>
  bif x7 then
   (at? x1.Falls i3).bind fun x9 =>
   bif (!decide ((x9.length : Int) = (x5.length : Int))) then
    some (.ret false)
   else
    (whl (heat_isField.b1 k x5 x9) k 0).bind fun r17 => match r17 with
    | .next _ => none
    | .ret v_ => some (.ret v_)
    | .brk _ =>
     some (.next (w64 (i3 + 1)))
  else
   some (.ret false)
 else
  some (.brk ())
noncomputable def heat_isField.h1 (k0 : Kiln) (x1 : Field) (i3 : Int) (x5 : (List Range)) : Int → St := fun (i11 : Int) => ⟨[(3, .ptr 0 0 0), (5, .int .i64 i3), (26, .sl 1 (List.map (eL 2 Range.c) k0.Falls)), (27, .int .i64 (k0.Falls.length : Int)), (28, .int .i64 i3), (51, .sl 2 (List.map Range.c x5)), (52, .int .i64 (x5.length : Int)), (53, .int .i64 i11)], [(0, .box [.sl 1 (List.map eI x1.Mouths), .sl 1 (List.map (eL 1 eI) x1.Falls)])], [], 1, Try.f62.ntmps⟩
noncomputable def heat_isField.x1 (k0 : Kiln) (x1 : Field) (i3 : Int) : Unit → St := fun (_ : Unit) => ⟨[(3, .ptr 0 0 0), (26, .sl 1 (List.map (eL 2 Range.c) k0.Falls)), (27, .int .i64 (k0.Falls.length : Int)), (28, .int .i64 i3)], [(0, .box [.sl 1 (List.map eI x1.Mouths), .sl 1 (List.map (eL 1 eI) x1.Falls)])], [], 1, Try.f62.ntmps⟩
noncomputable def heat_isField.h0 (k0 : Kiln) (x1 : Field) : Int → St := fun (i3 : Int) => ⟨[(3, .ptr 0 0 0), (26, .sl 1 (List.map (eL 2 Range.c) k0.Falls)), (27, .int .i64 (k0.Falls.length : Int)), (28, .int .i64 i3)], [(0, .box [.sl 1 (List.map eI x1.Mouths), .sl 1 (List.map (eL 1 eI) x1.Falls)])], [], 1, Try.f62.ntmps⟩
noncomputable def heat_isField.x0 : Unit → St := fun (_ : Unit) => ⟨[], [], [], 1, Try.f62.ntmps⟩
def heat_isField (k : Nat) (k0 : Kiln) (x1 : Field) : Option (Bool) :=
 bif decide ((x1.Mouths.length : Int) = (k0.Falls.length : Int)) then
  bif (!decide ((x1.Falls.length : Int) = (k0.Falls.length : Int))) then
   some false
  else
   (whl (heat_isField.b0 k k0 x1) k 0).bind fun r18 => match r18 with
   | .next _ => none
   | .ret v_ => some v_
   | .brk _ =>
    some true
 else
  some false
theorem heat_isField_ok (k : Nat) (k0 : Kiln) (x1 : Field) (r : Bool) (h0 : heat_isField k k0 x1 = some r) : PCall Try.prog 62 [.agg (Kiln.c k0), .agg (Field.c x1)] (fun y => y = .bool r) := by
 refine PB (fn := Try.f62) (sc := F62.c) ?_
 refine rS ?_
 simp only [heat_isField] at h0
 try simp only [F62.c, go_sem]
 refine AKev_bif h0 ?_ ?_ <;> intro c1 h0
 try simp only [c1, go_sem]
 refine AKev_bif h0 ?_ ?_ <;> intro c2 h0
 have c2 := bnot_t c2
 try simp only [c2, c1, go_sem]
 obtain rfl := Option.some.inj h0
 refine AKev_ret rfl ?_
 try simp only [F62.rs, c1, c2, go_sem]
 have c2 := bnot_f c2
 try simp only [c2, c1, go_sem]
 obtain ⟨r18, yr18, h0⟩ := bs h0
 refine AKev_loopS yr18 (heat_isField.h0 k0 x1) (heat_isField.x0) ?_ ?_ ?_
 refine Weak.go [3, 26, 27, 28] [16] rfl ?_
 try simp only [heat_isField.h0, c1, c2, go_sem]
 rintro i3 x_1 Bk1 Br1 h1 hnext1 hbrk1 hret1
 refine rS ?_
 simp only [heat_isField.b0] at h1
 try simp only [F62.s0, heat_isField.h0, c1, c2, go_sem]
 refine AKev_bif h1 ?_ ?_ <;> intro c4 h1
 try simp only [c4, c1, c2, go_sem]
 obtain ⟨x5, yx5, h1⟩ := bs h1
 try simp only [aa yx5, c1, c2, c4, go_sem]
 obtain ⟨x6, yx6, h1⟩ := bs h1
 try simp only [aa yx6, c1, c2, c4, aa yx5, go_sem]
 obtain ⟨x7, yx7, h1⟩ := bs h1
 refine zc0 (heat_in_ok k _ _ _ _ yx7) ?_ (by first | rfl | simp [AV.refsL, AV.refs, AV.scal, AV.leaf]) ?_
 try simp only [c1, c2, c4, aa yx5, aa yx6, go_sem]
 try simp only [c1, c2, c4, aa yx5, aa yx6, go_sem]
 refine AKev_bif h1 ?_ ?_ <;> intro c8 h1
 try simp only [c8, c1, c2, c4, aa yx5, aa yx6, go_sem]
 obtain ⟨x9, yx9, h1⟩ := bs h1
 try simp only [aa yx9, c1, c2, c4, aa yx5, aa yx6, c8, go_sem]
 refine AKev_bif h1 ?_ ?_ <;> intro c10 h1
 have c10 := bnot_t c10
 try simp only [c10, c1, c2, c4, aa yx5, aa yx6, c8, aa yx9, go_sem]
 obtain rfl := hret1 _ (Option.some.inj h1).symm
 simp only at h0
 obtain rfl := Option.some.inj h0
 refine AKev_ret rfl ?_
 try simp only [F62.rs, c1, c2, c4, aa yx5, aa yx6, c8, aa yx9, c10, go_sem]
 have c10 := bnot_f c10
 try simp only [c10, c1, c2, c4, aa yx5, aa yx6, c8, aa yx9, go_sem]
 obtain ⟨r17, yr17, h1⟩ := bs h1
 refine AKev_loopS yr17 (heat_isField.h1 k0 x1 i3 x5) (heat_isField.x1 k0 x1 i3) ?_ ?_ ?_
 refine Weak.go [3, 5, 26, 27, 28, 51, 52, 53] [0] rfl ?_
 try simp only [heat_isField.h1, c1, c2, c4, aa yx5, aa yx6, c8, aa yx9, c10, go_sem]
 rintro i11 x_2 Bk2 Br2 h2 hnext2 hbrk2 hret2
 refine rS ?_
 simp only [heat_isField.b1] at h2
 try simp only [F62.s1, heat_isField.h1, c1, c2, c4, aa yx5, aa yx6, c8, aa yx9, c10, go_sem]
 refine AKev_bif h2 ?_ ?_ <;> intro c12 h2
 try simp only [c12, c1, c2, c4, aa yx5, aa yx6, c8, aa yx9, c10, go_sem]
 obtain ⟨x13, yx13, h2⟩ := bs h2
 try simp only [aa yx13, c1, c2, c4, aa yx5, aa yx6, c8, aa yx9, c10, c12, go_sem]
 refine AKev_region T_ok follows_ok 1000 ?_
 try simp only [aa yx9, c1, c2, c4, aa yx5, aa yx6, c8, c10, c12, aa yx13, go_sem]
 obtain ⟨x14, yx14, h2⟩ := bs h2
 try simp only [aa yx14, c1, c2, c4, aa yx5, aa yx6, c8, aa yx9, c10, c12, aa yx13, go_sem]
 obtain ⟨x15, yx15, h2⟩ := bs h2
 refine DG_call0 1000 (heat_in_ok k _ _ _ _ yx15) ?_ (by first | rfl | simp [AV.refsL, AV.refs, AV.scal, AV.leaf]) ?_
 try simp only [c1, c2, c4, aa yx5, aa yx6, c8, aa yx9, c10, c12, aa yx13, aa yx14, go_sem]
 try simp only [c1, c2, c4, aa yx5, aa yx6, c8, aa yx9, c10, c12, aa yx13, aa yx14, go_sem]
 refine DG_done ⟨rfl, run_sound T_ok 1000 _ _ ?_⟩
 try simp only [c1, c2, c4, aa yx5, aa yx6, c8, aa yx9, c10, c12, aa yx13, aa yx14, go_sem]
 refine AKev_bif h2 ?_ ?_ <;> intro c16 h2
 have c16 := bnot_t c16
 try simp only [c16, c1, c2, c4, aa yx5, aa yx6, c8, aa yx9, c10, c12, aa yx13, aa yx14, go_sem]
 obtain rfl := hret2 _ (Option.some.inj h2).symm
 simp only at h1
 obtain rfl := hret1 _ (Option.some.inj h1).symm
 simp only at h0
 obtain rfl := Option.some.inj h0
 refine AKev_ret rfl ?_
 try simp only [F62.rs, c1, c2, c4, aa yx5, aa yx6, c8, aa yx9, c10, c12, aa yx13, aa yx14, c16, go_sem]
 have c16 := bnot_f c16
 try simp only [c16, c1, c2, c4, aa yx5, aa yx6, c8, aa yx9, c10, c12, aa yx13, aa yx14, go_sem]
 refine AKev_backB (hnext2 _ _ (Option.some.inj h2).symm ?_)
 refine Weak.go [3, 5, 26, 27, 28, 51, 52, 53] [0] rfl ?_
 try simp only [heat_isField.h1, c1, c2, c4, aa yx5, aa yx6, c8, aa yx9, c10, c12, aa yx13, aa yx14, c16, go_sem]
 try simp only [c12, c1, c2, c4, aa yx5, aa yx6, c8, aa yx9, c10, go_sem]
 refine AKev_backB (hbrk2 _ _ (Option.some.inj h2).symm ?_)
 refine Weak.go [3, 26, 27, 28] [0] rfl ?_
 try simp only [heat_isField.x1, c1, c2, c4, aa yx5, aa yx6, c8, aa yx9, c10, c12, go_sem]
 rintro _ hr_
 subst hr_
 simp only at h1
 refine rS ?_
 try simp only [heat_isField.x1, c1, c2, c4, aa yx5, aa yx6, c8, aa yx9, c10, go_sem]
 refine AKev_backB (hnext1 _ _ (Option.some.inj h1).symm ?_)
 refine Weak.go [3, 26, 27, 28] [0] rfl ?_
 try simp only [heat_isField.h0, c1, c2, c4, aa yx5, aa yx6, c8, aa yx9, c10, go_sem]
 try simp only [c8, c1, c2, c4, aa yx5, aa yx6, go_sem]
 obtain rfl := hret1 _ (Option.some.inj h1).symm
 simp only at h0
 obtain rfl := Option.some.inj h0
 refine AKev_ret rfl ?_
 try simp only [F62.rs, c1, c2, c4, aa yx5, aa yx6, c8, go_sem]
 try simp only [c4, c1, c2, go_sem]
 refine AKev_backB (hbrk1 _ _ (Option.some.inj h1).symm ?_)
 refine Weak.go [] [] rfl ?_
 try simp only [heat_isField.x0, c1, c2, c4, go_sem]
 rintro _ hr_
 subst hr_
 simp only at h0
 refine rS ?_
 try simp only [heat_isField.x0, c1, c2, go_sem]
 obtain rfl := Option.some.inj h0
 refine AKev_ret rfl ?_
 try simp only [F62.rs, c1, c2, go_sem]
 try simp only [c1, go_sem]
 obtain rfl := Option.some.inj h0
 refine AKev_ret rfl ?_
 try simp only [F62.rs, c1, go_sem]
def F63.s1 : SC :=
 (.seq
 (.reg [b2 31 .lss 3 30 29 3 0 []])
 (.seq
 (.cond (.tmp 31)
 .skip
 (.exit 2))
 (.seq
 (.block 3
 (.seq
 (.reg [mv 32 30 3 [],
 sg 6 32 3 [32]])
 (.dreg [mv 33 5 3 [],
 fa 34 35 1 0 [],
 ld 35 23 34 [],
 mv 36 6 3 [],
 ia 37 23 35 36 [],
 ld 38 3 37 [],
 fa 39 35 1 1 [],
 ld 40 33 39 [],
 mv 41 6 3 [],
 ia 42 33 40 41 [],
 ld 43 23 42 [],
 mv 44 4 3 [],
 ia 45 23 43 44 [],
 ld 46 3 45 [],
 b2 47 .sub 3 38 46 3 3 [],
 oq 48 (.call ⟨.builtin .max, #[.tmp 33, .tmp 47], #[3, 3]⟩) 3 [],
 sg 5 48 3 []] [[], [], [1], [], [1, 2, 3], [1, 2, 3, 4], [], [6], [], [6, 7, 8], [6, 7, 8, 9], [], [6, 7, 8, 9, 10, 11], [6, 7, 8, 9, 10, 11, 12], [1, 2, 3, 4, 5, 6, 7, 8, 9, 10, 11, 12, 13], [0, 1, 2, 3, 4, 5, 6, 7, 8, 9, 10, 11, 12, 13, 14], [0, 1, 2, 3, 4, 5, 6, 7, 8, 9, 10, 11, 12, 13, 14, 15]] [6, 33, 34, 35, 36, 37, 38, 39, 40, 41, 42, 43, 44, 45, 46, 47, 48])))
 (.reg [bn 49 .add 3 30 1 3 3 [30],
 mv 30 49 3 [49]]))))
def F63.s0 : SC :=
 (.seq
 (.reg [b2 13 .lss 3 12 11 3 0 []])
 (.seq
 (.cond (.tmp 13)
 .skip
 (.exit 0))
 (.seq
 (.block 1
 (.seq
 (.reg [mv 14 12 3 [],
 sg 4 14 3 [14]])
 (.seq
 (.dreg [fa 15 35 1 0 [],
 ld 16 23 15 [],
 oq 17 (.indexAddr 23 (.tmp 16) (.const (.int .i64 0))) 0 [],
 ld 18 3 17 [],
 fa 19 35 1 1 [],
 ld 20 33 19 [],
 oq 21 (.indexAddr 33 (.tmp 20) (.const (.int .i64 0))) 0 [],
 ld 22 23 21 [],
 mv 23 4 3 [],
 ia 24 23 22 23 [],
 ld 25 3 24 [],
 b2 26 .sub 3 18 25 3 3 [],
 sg 5 26 3 []] [[], [0], [0, 1], [0, 1, 2], [], [4], [4, 5], [4, 5, 6], [], [4, 5, 6, 7, 8], [4, 5, 6, 7, 8, 9], [0, 1, 2, 3, 4, 5, 6, 7, 8, 9, 10], [0, 1, 2, 3, 4, 5, 6, 7, 8, 9, 10, 11]] [15, 16, 17, 18, 19, 20, 21, 22, 23, 24, 25, 26])
 (.seq
 (.seq
 (.reg [fa 27 35 1 0 [],
 ld 28 23 27 [27],
 ln 29 28 23 3 [28],
 oq 30 (.move (.const (.int .i64 0))) 3 []])
 (.block 2
 (.loop F63.s1)))
 (.reg [mv 50 3 23 [3],
 mv 51 5 3 [5],
 oq 52 (.buildSlice 23 1 #[(0, .tmp 51)]) 23 [51],
 oq 53 (.call ⟨.builtin .append, #[.tmp 50, .tmp 52], #[23, 23]⟩) 23 [50, 52],
 sg 3 53 23 [53]])))))
 (.reg [bn 54 .add 3 12 1 3 3 [12],
 mv 12 54 3 [54]]))))
def F63.c : SC :=
 (.seq
 (.reg [oq 1 (.box 35 (.tmp 0)) 0 [0],
 oq 2 (.assign (.const (.slice none 0 0))) 23 [2]])
 (.seq
 (.reg [oq 3 (.assign (.const (.slice none 0 0))) 23 []])
 (.seq
 (.seq
 (.reg [fa 7 35 1 1 [],
 ld 8 33 7 [7],
 oq 9 (.indexAddr 33 (.tmp 8) (.const (.int .i64 0))) 0 [8],
 ld 10 23 9 [9],
 ln 11 10 23 3 [10],
 oq 12 (.move (.const (.int .i64 0))) 3 []])
 (.block 0
 (.loop F63.s0)))
 (.seq
 (.reg [mv 55 3 23 [3],
 sg 2 55 23 [55]])
 .ret))))
theorem F63.rs : Try.f63.results.toList = [.tmp 2] := rfl
def heat_heats.b1 (k : Nat) (x0 : Field) (i2 : Int) : (Int × Int) → Option (Stp (Int × Int) (Int) ((List Int))) := fun (s : Int × Int) => match s with
 | (i8, i9) =>
   bif decide (i9 < (x0.Mouths.length : Int)) then
    (at? x0.Mouths i9).bind fun x12 =>
    (at? x0.Falls i9).bind fun x13 =>
    (at? x13 i2).bind fun x14 =>
    some (.next (max i8 (w64 (x12 - x14)), w64 (i9 + 1)))
   else
    some (.brk i8)
def heat_heats.b0 (k : Nat) (x0 : Field) (x1 : (List Int)) : (Int × (List Int)) → Option (Stp (Int × (List Int)) ((List Int)) ((List Int))) := fun (s : Int × (List Int)) => match s with
 | (i2, l3) =>
   bif decide (i2 < (x1.length : Int)) then
    (at? x0.Mouths 0).bind fun x6 =>
    (at? x1 i2).bind fun x7 =>
    (whl (heat_heats.b1 k x0 i2) k (w64 (x6 - x7), 0)).bind fun r15 => match r15 with
    | .next _ => none
    | .ret v_ => some (.ret v_)
    | .brk i10 =>
     (push? 8 l3 i10).bind fun l16 =>
     some (.next (w64 (i2 + 1), l16))
   else
    some (.brk l3)
noncomputable def heat_heats.h1 (x0 : Field) (x1 : (List Int)) (i2 : Int) (l3 : (List Int)) : (Int × Int) → St := fun (s : Int × Int) => match s with
 | (i8, i9) => ⟨[(1, .ptr 0 0 0), (3, .loc 0 1 1 0 l3.length l3.length), (4, .int .i64 i2), (5, .int .i64 i8), (11, .int .i64 (x1.length : Int)), (12, .int .i64 i2), (29, .int .i64 (x0.Mouths.length : Int)), (30, .int .i64 i9)], [(0, .box [.sl 1 (List.map eI x0.Mouths), .sl 1 (List.map (eL 1 eI) x0.Falls)]), (1, .arr 3 1 (List.map eI l3))], [], 2, Try.f63.ntmps⟩
noncomputable def heat_heats.x1 (x0 : Field) (x1 : (List Int)) (i2 : Int) (l3 : (List Int)) : Int → St := fun (i10 : Int) => ⟨[(1, .ptr 0 0 0), (3, .loc 0 1 1 0 l3.length l3.length), (5, .int .i64 i10), (11, .int .i64 (x1.length : Int)), (12, .int .i64 i2)], [(0, .box [.sl 1 (List.map eI x0.Mouths), .sl 1 (List.map (eL 1 eI) x0.Falls)]), (1, .arr 3 1 (List.map eI l3))], [], 2, Try.f63.ntmps⟩
noncomputable def heat_heats.h0 (x0 : Field) (x1 : (List Int)) : (Int × (List Int)) → St := fun (s : Int × (List Int)) => match s with
 | (i2, l3) => ⟨[(1, .ptr 0 0 0), (3, .loc 0 1 1 0 l3.length l3.length), (11, .int .i64 (x1.length : Int)), (12, .int .i64 i2)], [(0, .box [.sl 1 (List.map eI x0.Mouths), .sl 1 (List.map (eL 1 eI) x0.Falls)]), (1, .arr 3 1 (List.map eI l3))], [], 2, Try.f63.ntmps⟩
noncomputable def heat_heats.x0 : (List Int) → St := fun (l4 : (List Int)) => ⟨[(3, .loc 0 0 1 0 l4.length l4.length)], [(0, .arr 3 1 (List.map eI l4))], [], 1, Try.f63.ntmps⟩
def heat_heats (k : Nat) (x0 : Field) : Option ((List Int)) :=
 (at? x0.Falls 0).bind fun x1 =>
 (whl (heat_heats.b0 k x0 x1) k (0, [])).bind fun r17 => match r17 with
 | .next _ => none
 | .ret v_ => some v_
 | .brk l4 =>
  some l4
theorem heat_heats_ok (k : Nat) (x0 : Field) (r : (List Int)) (h0 : heat_heats k x0 = some r) : PCall Try.prog 63 [.agg (Field.c x0)] (fun y => y = .sl 1 (List.map eI r)) := by
 refine PB (fn := Try.f63) (sc := F63.c) ?_
 refine rS ?_
 simp only [heat_heats] at h0
 try simp only [F63.c, go_sem]
 obtain ⟨x1, yx1, h0⟩ := bs h0
 try simp only [aa yx1, go_sem]
 obtain ⟨r17, yr17, h0⟩ := bs h0
 refine AKev_loopS yr17 (heat_heats.h0 x0 x1) (heat_heats.x0) ?_ ?_ ?_
 refine Weak.go [1, 3, 11, 12] [0, 32] rfl ?_
 try simp only [heat_heats.h0, aa yx1, go_sem]
 rintro ⟨i2, l3⟩ x_1 Bk1 Br1 h1 hnext1 hbrk1 hret1
 refine rS ?_
 simp only [heat_heats.b0] at h1
 try simp only [F63.s0, heat_heats.h0, aa yx1, go_sem]
 refine AKev_bif h1 ?_ ?_ <;> intro c5 h1
 try simp only [c5, aa yx1, go_sem]
 refine AKev_region T_ok follows_ok 1000 ?_
 try simp only [aa yx1, c5, go_sem]
 obtain ⟨x6, yx6, h1⟩ := bs h1
 try simp only [aa yx6, aa yx1, c5, go_sem]
 obtain ⟨x7, yx7, h1⟩ := bs h1
 try simp only [aa yx7, aa yx1, c5, aa yx6, go_sem]
 refine DG_done ⟨rfl, run_sound T_ok 1000 _ _ ?_⟩
 try simp only [aa yx1, c5, aa yx6, aa yx7, go_sem]
 obtain ⟨r15, yr15, h1⟩ := bs h1
 refine AKev_loopS yr15 (heat_heats.h1 x0 x1 i2 l3) (heat_heats.x1 x0 x1 i2 l3) ?_ ?_ ?_
 refine Weak.go [1, 3, 4, 5, 11, 12, 29, 30] [0, 1] rfl ?_
 try simp only [heat_heats.h1, aa yx1, c5, aa yx6, aa yx7, go_sem]
 rintro ⟨i8, i9⟩ x_2 Bk2 Br2 h2 hnext2 hbrk2 hret2
 refine rS ?_
 simp only [heat_heats.b1] at h2
 try simp only [F63.s1, heat_heats.h1, aa yx1, c5, aa yx6, aa yx7, go_sem]
 refine AKev_bif h2 ?_ ?_ <;> intro c11 h2
 try simp only [c11, aa yx1, c5, aa yx6, aa yx7, go_sem]
 refine AKev_region T_ok follows_ok 1000 ?_
 try simp only [aa yx1, c5, aa yx6, aa yx7, c11, go_sem]
 obtain ⟨x12, yx12, h2⟩ := bs h2
 try simp only [aa yx12, aa yx1, c5, aa yx6, aa yx7, c11, go_sem]
 obtain ⟨x13, yx13, h2⟩ := bs h2
 try simp only [aa yx13, aa yx1, c5, aa yx6, aa yx7, c11, aa yx12, go_sem]
 obtain ⟨x14, yx14, h2⟩ := bs h2
 try simp only [aa yx14, aa yx1, c5, aa yx6, aa yx7, c11, aa yx12, aa yx13, go_sem]
 refine DG_done ⟨rfl, run_sound T_ok 1000 _ _ ?_⟩
 try simp only [aa yx1, c5, aa yx6, aa yx7, c11, aa yx12, aa yx13, aa yx14, go_sem]
 refine AKev_backB (hnext2 _ _ (Option.some.inj h2).symm ?_)
 refine Weak.go [1, 3, 4, 5, 11, 12, 29, 30] [0, 1] rfl ?_
 try simp only [heat_heats.h1, aa yx1, c5, aa yx6, aa yx7, c11, aa yx12, aa yx13, aa yx14, go_sem]
 try simp only [c11, aa yx1, c5, aa yx6, aa yx7, go_sem]
 refine AKev_backB (hbrk2 _ _ (Option.some.inj h2).symm ?_)
 refine Weak.go [1, 3, 5, 11, 12] [0, 1] rfl ?_
 try simp only [heat_heats.x1, aa yx1, c5, aa yx6, aa yx7, c11, go_sem]
 rintro i10 hr_
 subst hr_
 simp only at h1
 refine rS ?_
 try simp only [heat_heats.x1, aa yx1, c5, aa yx6, aa yx7, go_sem]
 obtain ⟨l16, yl16, h1⟩ := bs h1
 have eyl16 := push_map eI yl16
 have tyl16 := push_take eI yl16
 have nyl16 := push_len yl16
 have myl16 := push_room yl16
 try simp only [aa yx1, c5, aa yx6, aa yx7, go_sem] at eyl16 tyl16 nyl16 myl16
 try simp only [myl16, eyl16, aa yx1, c5, aa yx6, aa yx7, nyl16, tyl16, go_sem]
 refine AKev_backB (hnext1 _ _ (Option.some.inj h1).symm ?_)
 refine Weak.go [1, 3, 11, 12] [0, 1] rfl ?_
 try simp only [heat_heats.h0, aa yx1, c5, aa yx6, aa yx7, eyl16, nyl16, tyl16, go_sem]
 try simp only [c5, aa yx1, go_sem]
 refine AKev_backB (hbrk1 _ _ (Option.some.inj h1).symm ?_)
 refine Weak.go [3] [1] rfl ?_
 try simp only [heat_heats.x0, aa yx1, c5, go_sem]
 rintro l4 hr_
 subst hr_
 simp only at h0
 refine rS ?_
 try simp only [heat_heats.x0, aa yx1, go_sem]
 obtain rfl := Option.some.inj h0
 refine AKev_ret rfl ?_
 try simp only [F63.rs, aa yx1, go_sem]
def F25.c : SC :=
 (.seq
 (.reg [oq 2 (.box 29 (.tmp 0)) 0 [0],
 oq 3 (.box 35 (.tmp 1)) 0 [1],
 oq 4 (.assign (.const (.slice none 0 0))) 23 [4],
 sn 5 0 43 [5]])
 (.seq
 (.block 0
 (.seq
 (.reg [ld 7 29 2 [],
 cf1 8 61 7 29 43 [7],
 bn 9 .neq 43 8 0 43 4 [8],
 sg 6 9 4 [9]])
 (.cond (.tmp 6)
 (.seq
 (.reg [oq 4 (.assign (.const (.slice none 0 0))) 23 [],
 sn 5 40 43 []])
 .ret)
 (.seq
 (.reg [ld 11 29 2 [2],
 ld 12 35 3 [],
 cf2 13 62 11 12 29 35 4 [11, 12],
 oq 14 (.unOp .not 4 (.tmp 13)) 4 [13],
 sg 10 14 4 [14]])
 (.cond (.tmp 10)
 (.seq
 (.reg [oq 4 (.assign (.const (.slice none 0 0))) 23 [],
 sn 5 45 43 []])
 .ret)
 .skip)))))
 (.seq
 (.reg [ld 15 35 3 [3],
 cf1 16 63 15 35 23 [15],
 sg 4 16 23 [16],
 sn 5 0 43 []])
 .ret)))
theorem F25.rs : Try.f25.results.toList = [.tmp 4, .tmp 5] := rfl
def heat_Heats (k : Nat) (k0 : Kiln) (x1 : Field) : Option ((List Int) × Int) :=
 (heat_CheckKiln k k0).bind fun x2 =>
 bif (!decide (x2 = (0 : Int))) then
  some ([], 40)
 else
  (heat_isField k k0 x1).bind fun x4 =>
  bif (!x4) then
   some ([], 45)
  else
   (heat_heats k x1).bind fun x6 =>
   some (x6, 0)
theorem heat_Heats_ok (k : Nat) (k0 : Kiln) (x1 : Field) (r : (List Int) × Int) (h0 : heat_Heats k k0 x1 = some r) : PCall Try.prog 25 [.agg (Kiln.c k0), .agg (Field.c x1)] (fun y => y = .tup [.sl 1 (List.map eI r.1), .int .i64 r.2]) := by
 refine PB (fn := Try.f25) (sc := F25.c) ?_
 refine rS ?_
 simp only [heat_Heats] at h0
 try simp only [F25.c, go_sem]
 obtain ⟨x2, yx2, h0⟩ := bs h0
 refine zc0 (heat_CheckKiln_ok k _ _ yx2) ?_ (by first | rfl | simp [AV.refsL, AV.refs, AV.scal, AV.leaf]) ?_
 try simp only [go_sem]
 try simp only [go_sem]
 refine AKev_bif h0 ?_ ?_ <;> intro c3 h0
 have c3 := bnot_t c3
 try simp only [c3, go_sem]
 obtain rfl := Option.some.inj h0
 refine AKev_ret rfl ?_
 try simp only [F25.rs, c3, go_sem]
 have c3 := bnot_f c3
 try simp only [c3, go_sem]
 obtain ⟨x4, yx4, h0⟩ := bs h0
 refine zc0 (heat_isField_ok k _ _ _ yx4) ?_ (by first | rfl | simp [AV.refsL, AV.refs, AV.scal, AV.leaf]) ?_
 try simp only [c3, go_sem]
 try simp only [c3, go_sem]
 refine AKev_bif h0 ?_ ?_ <;> intro c5 h0
 have c5 := bnot_t c5
 try simp only [c5, c3, go_sem]
 obtain rfl := Option.some.inj h0
 refine AKev_ret rfl ?_
 try simp only [F25.rs, c3, c5, go_sem]
 have c5 := bnot_f c5
 try simp only [c5, c3, go_sem]
 obtain ⟨x6, yx6, h0⟩ := bs h0
 refine zc0 (heat_heats_ok k _ _ yx6) ?_ (by first | rfl | simp [AV.refsL, AV.refs, AV.scal, AV.leaf]) ?_
 try simp only [c3, c5, go_sem]
 try simp only [c3, c5, go_sem]
 obtain rfl := Option.some.inj h0
 refine AKev_ret rfl ?_
 try simp only [F25.rs, c3, c5, go_sem]
def F27.c : SC :=
 (.seq
 (.reg [oq 1 (.box 32 (.tmp 0)) 0 [0],
 oq 2 (.assign (.const (.slice none 0 0))) 23 [2],
 sn 3 0 43 [3]])
 (.seq
 (.seq
 (.reg [ld 4 32 1 [],
 cf1 5 41 4 32 43 [4],
 bn 6 .neq 43 5 0 43 4 [5]])
 (.cond (.tmp 6)
 (.seq
 (.reg [oq 2 (.assign (.const (.slice none 0 0))) 23 [],
 sn 3 42 43 []])
 .ret)
 .skip))
 (.seq
 (.reg [fa 7 32 1 1 [1],
 ld 8 30 7 [7],
 cf1 9 43 8 30 23 [8],
 sg 2 9 23 [9],
 sn 3 0 43 []])
 .ret)))
theorem F27.rs : Try.f27.results.toList = [.tmp 2, .tmp 3] := rfl
def heat_Sources (k : Nat) (f0 : Firing) : Option ((List Int) × Int) :=
 (heat_Check k f0).bind fun x1 =>
 bif (!decide (x1 = (0 : Int))) then
  some ([], 42)
 else
  (heat_sources k f0.Readings).bind fun x3 =>
  some (x3, 0)
theorem heat_Sources_ok (k : Nat) (f0 : Firing) (r : (List Int) × Int) (h0 : heat_Sources k f0 = some r) : PCall Try.prog 27 [.agg (Firing.c f0)] (fun y => y = .tup [.sl 1 (List.map eI r.1), .int .i64 r.2]) := by
 refine PB (fn := Try.f27) (sc := F27.c) ?_
 refine rS ?_
 simp only [heat_Sources] at h0
 try simp only [F27.c, go_sem]
 obtain ⟨x1, yx1, h0⟩ := bs h0
 refine zc0 (heat_Check_ok k _ _ yx1) ?_ (by first | rfl | simp [AV.refsL, AV.refs, AV.scal, AV.leaf]) ?_
 try simp only [go_sem]
 try simp only [go_sem]
 refine AKev_bif h0 ?_ ?_ <;> intro c2 h0
 have c2 := bnot_t c2
 try simp only [c2, go_sem]
 obtain rfl := Option.some.inj h0
 refine AKev_ret rfl ?_
 try simp only [F27.rs, c2, go_sem]
 have c2 := bnot_f c2
 try simp only [c2, go_sem]
 obtain ⟨x3, yx3, h0⟩ := bs h0
 refine zc0 (heat_sources_ok k _ _ yx3) ?_ (by first | rfl | simp [AV.refsL, AV.refs, AV.scal, AV.leaf]) ?_
 try simp only [c2, go_sem]
 try simp only [c2, go_sem]
 obtain rfl := Option.some.inj h0
 refine AKev_ret rfl ?_
 try simp only [F27.rs, c2, go_sem]
def F68.c : SC :=
 (.seq
 (.reg [sb 3 false 4 [3]])
 (.seq
 (.reg [mv 4 0 3 [0],
 ld 5 3 1 [1],
 b2 6 .eql 3 4 5 3 4 [4, 5],
 sg 3 6 4 [6]])
 .ret))
theorem F68.rs : Try.f68.results.toList = [.tmp 3] := rfl
def heat_Without_1 (k : Nat) (n0 : Int) (c1 : Int) : Option (Bool) :=
 some (decide (n0 = c1))
theorem heat_Without_1_ok (k : Nat) (n0 : Int) (c1 : Int) (r : Bool) (h0 : heat_Without_1 k n0 c1 = some r) : PCall Try.prog 68 [.int .i64 n0, .rptr 1 [eI c1] 0 0] (fun y => y = .bool r) := by
 refine PB (fn := Try.f68) (sc := F68.c) ?_
 refine rS ?_
 simp only [heat_Without_1] at h0
 try simp only [F68.c, go_sem]
 obtain rfl := Option.some.inj h0
 refine AKev_ret rfl ?_
 try simp only [F68.rs, go_sem]
def F28.c : SC :=
 (.seq
 (.reg [oq 2 (.box 32 (.tmp 0)) 0 [0],
 oq 3 (.box 3 (.tmp 1)) 0 [1],
 oq 4 (.alloc 32) 0 [],
 sn 5 0 43 [5]])
 (.seq
 (.seq
 (.reg [ld 7 32 2 [],
 cf1 8 41 7 32 43 [7],
 bn 9 .neq 43 8 0 43 4 [8]])
 (.cond (.tmp 9)
 (.seq
 (.reg [oq 10 (.build 32 #[]) 32 [],
 ⟨none, .store 32 (.tmp 4) (.tmp 10), 0, none, [10]⟩,
 sn 5 42 43 []])
 .ret)
 .skip))
 (.seq
 (.reg [ld 11 32 2 [],
 oq 12 (.makeFunc (.func 68) #[] #[.tmp 3]) 122 [3],
 cf2 13 66 11 12 32 122 32 [11, 12],
 oq 6 (.alloc 32) 0 [],
 ⟨none, .store 32 (.tmp 6) (.tmp 13), 0, none, [13]⟩])
 (.seq
 (.seq
 (.reg [fa 14 32 6 1 [],
 ld 15 30 14 [14],
 ln 16 15 30 3 [15],
 fa 17 32 2 1 [2],
 ld 18 30 17 [17],
 ln 19 18 30 3 [18],
 b2 20 .eql 3 16 19 3 4 [16, 19]])
 (.cond (.tmp 20)
 (.seq
 (.reg [oq 21 (.build 32 #[]) 32 [],
 ⟨none, .store 32 (.tmp 4) (.tmp 21), 0, none, [21]⟩,
 sn 5 3 43 []])
 .ret)
 .skip))
 (.seq
 (.reg [ld 22 32 6 [6],
 ⟨none, .store 32 (.tmp 4) (.tmp 22), 0, none, [22]⟩,
 sn 5 0 43 []])
 .ret)))))
theorem F28.rs : Try.f28.results.toList = [.cell 4 32, .tmp 5] := rfl
def heat_Without (k : Nat) (f0 : Firing) (source1 : Int) : Option (Firing × Int) :=
 (heat_Check k f0).bind fun x1 =>
 bif (!decide (x1 = (0 : Int))) then
  some ((⟨(⟨[]⟩ : Kiln), []⟩ : Firing), 42)
 else
  (heat_without k f0 (fun q0 => heat_Without_1 k q0 source1)).bind fun x3 =>
  bif decide ((x3.Readings.length : Int) = (f0.Readings.length : Int)) then
   some ((⟨(⟨[]⟩ : Kiln), []⟩ : Firing), 3)
  else
   some (x3, 0)
theorem heat_Without_ok (k : Nat) (f0 : Firing) (source1 : Int) (r : Firing × Int) (h0 : heat_Without k f0 source1 = some r) : PCall Try.prog 28 [.agg (Firing.c f0), .int .i64 source1] (fun y => y = .tup [.agg (Firing.c r.1), .int .i64 r.2]) := by
 refine PB (fn := Try.f28) (sc := F28.c) ?_
 refine rS ?_
 simp only [heat_Without] at h0
 try simp only [F28.c, go_sem]
 obtain ⟨x1, yx1, h0⟩ := bs h0
 refine zc0 (heat_Check_ok k _ _ yx1) ?_ (by first | rfl | simp [AV.refsL, AV.refs, AV.scal, AV.leaf]) ?_
 try simp only [go_sem]
 try simp only [go_sem]
 refine AKev_bif h0 ?_ ?_ <;> intro c2 h0
 have c2 := bnot_t c2
 try simp only [c2, go_sem]
 obtain rfl := Option.some.inj h0
 refine AKev_ret rfl ?_
 try simp only [F28.rs, c2, go_sem]
 have c2 := bnot_f c2
 try simp only [c2, go_sem]
 obtain ⟨x3, yx3, h0⟩ := bs h0
 refine zcT [16] (heat_without_ok k _ 68 [.rptr 1 [eI source1] 0 0] ⟨fun _ => rfl, fun _ => rfl, fun _ _ => rfl, rfl, fun _ => rfl, fun _ => rfl, fun _ => rfl⟩ (fun q0 => heat_Without_1 k q0 source1) (fun q0 qr qh => heat_Without_1_ok k q0 _ qr qh) _ yx3) ?_ ?_
 try simp only [c2, go_sem]
 try simp only [c2, go_sem]
 refine AKev_bif h0 ?_ ?_ <;> intro c4 h0
 try simp only [c4, c2, go_sem]
 obtain rfl := Option.some.inj h0
 refine AKev_ret rfl ?_
 try simp only [F28.rs, c2, c4, go_sem]
 try simp only [c4, c2, go_sem]
 obtain rfl := Option.some.inj h0
 refine AKev_ret rfl ?_
 try simp only [F28.rs, c2, c4, go_sem]
def F34.c : SC :=
 (.seq
 (.reg [oq 3 (.box 32 (.tmp 0)) 0 [0],
 oq 6 (.alloc 51) 0 [],
 sn 7 0 43 [7]])
 (.seq
 (.reg [ld 14 32 3 [3],
 mv 15 1 3 [],
 cf2 16 36 14 15 32 3 95 [14, 15],
 mv 13 16 95 [16],
 xt 17 13 0 94 [],
 xt 18 13 1 43 [13],
 oq 8 (.alloc 94) 0 [],
 ⟨none, .store 94 (.tmp 8) (.tmp 17), 0, none, [17]⟩,
 sg 9 18 43 [18]])
 (.seq
 (.seq
 (.reg [mv 19 9 43 [],
 bn 20 .neq 43 19 0 43 4 [19]])
 (.cond (.tmp 20)
 (.seq
 (.reg [oq 21 (.build 51 #[]) 51 [],
 mv 22 9 43 [9],
 ⟨none, .store 51 (.tmp 6) (.tmp 21), 0, none, [21]⟩,
 sg 7 22 43 [22]])
 .ret)
 .skip))
 (.seq
 (.reg [ld 23 94 8 [],
 oq 24 (.makeFunc (.func 71) #[.tmp 23] #[]) 127 [23],
 sg 10 24 127 [24]])
 (.seq
 (.seq
 (.reg [mv 25 2 4 [2]])
 (.cond (.tmp 25)
 (.reg [ld 26 94 8 [8],
 oq 27 (.makeFunc (.func 75) #[.tmp 26] #[]) 127 [26],
 sg 10 27 127 [27]])
 .skip))
 (.seq
 (.reg [mv 29 10 127 [10],
 mv 30 1 3 [1],
 oq 31 (.call ⟨.value (.tmp 29), #[.tmp 30], #[3]⟩) 126 [29, 30],
 mv 28 31 126 [31],
 xt 32 28 0 3 [],
 xt 33 28 1 51 [28],
 oq 12 (.alloc 51) 0 [],
 sg 11 32 3 [11, 32],
 ⟨none, .store 51 (.tmp 12) (.tmp 33), 0, none, [33]⟩])
 (.seq
 (.reg [ld 34 51 12 [12],
 ⟨none, .store 51 (.tmp 6) (.tmp 34), 0, none, [34]⟩,
 sn 7 0 43 []])
 .ret)))))))
theorem F34.rs : Try.f34.results.toList = [.cell 6 51, .tmp 7] := rfl
def heat_Prove (k : Nat) (f0 : Firing) (place1 : Int) (high2 : Bool) : Option (HeatProof × Int) :=
 (heat_asks k f0 place1).bind fun x1 =>
 bif (!decide (x1.2 = (0 : Int))) then
  some ((⟨0, []⟩ : HeatProof), x1.2)
 else
  bif high2 then
   (heat_furnace_highest k x1.1 place1).bind fun x4 =>
   some (x4.2, 0)
  else
   (heat_furnace_lowest k x1.1 place1).bind fun x5 =>
   some (x5.2, 0)
theorem heat_Prove_ok (k : Nat) (f0 : Firing) (place1 : Int) (high2 : Bool) (r : HeatProof × Int) (h0 : heat_Prove k f0 place1 high2 = some r) : PCall Try.prog 34 [.agg (Firing.c f0), .int .i64 place1, .bool high2] (fun y => y = .tup [.agg (HeatProof.c r.1), .int .i64 r.2]) := by
 refine PB (fn := Try.f34) (sc := F34.c) ?_
 refine rS ?_
 simp only [heat_Prove] at h0
 try simp only [F34.c, go_sem]
 obtain ⟨x1, yx1, h0⟩ := bs h0
 refine zc0 (heat_asks_ok k _ _ _ yx1) ?_ (by first | rfl | simp [AV.refsL, AV.refs, AV.scal, AV.leaf]) ?_
 try simp only [go_sem]
 try simp only [go_sem]
 refine AKev_bif h0 ?_ ?_ <;> intro c2 h0
 have c2 := bnot_t c2
 try simp only [c2, go_sem]
 obtain rfl := Option.some.inj h0
 refine AKev_ret rfl ?_
 try simp only [F34.rs, c2, go_sem]
 have c2 := bnot_f c2
 try simp only [c2, go_sem]
 refine AKev_bif h0 ?_ ?_ <;> intro c3 h0
 try simp only [c3, c2, go_sem]
 obtain ⟨x4, yx4, h0⟩ := bs h0
 refine zc0 (heat_furnace_highest_ok k _ _ _ yx4) ?_ (by first | rfl | simp [AV.refsL, AV.refs, AV.scal, AV.leaf]) ?_
 try simp only [c2, c3, go_sem]
 try simp only [c2, c3, go_sem]
 obtain rfl := Option.some.inj h0
 refine AKev_ret rfl ?_
 try simp only [F34.rs, c2, c3, go_sem]
 try simp only [c3, c2, go_sem]
 obtain ⟨x5, yx5, h0⟩ := bs h0
 refine zc0 (heat_furnace_lowest_ok k _ _ _ yx5) ?_ (by first | rfl | simp [AV.refsL, AV.refs, AV.scal, AV.leaf]) ?_
 try simp only [c2, c3, go_sem]
 try simp only [c2, c3, go_sem]
 obtain rfl := Option.some.inj h0
 refine AKev_ret rfl ?_
 try simp only [F34.rs, c2, c3, go_sem]
def F9.s0 : SC :=
 (.seq
 (.seq
 (.reg [mv 89 16 3 [],
 bn 90 .lss 3 89 2 3 4 [89]])
 (.cond (.tmp 90)
 .skip
 (.exit 0)))
 (.seq
 (.block 1
 (.seq
 (.reg [fa 93 39 12 0 [],
 ld 94 3 93 [93],
 sg 17 94 3 [94]])
 (.seq
 (.seq
 (.reg [mv 95 16 3 [],
 bn 96 .eql 3 95 1 3 4 [95]])
 (.cond (.tmp 96)
 (.reg [fa 97 39 12 1 [],
 ld 98 3 97 [97],
 sg 17 98 3 [98]])
 .skip))
 (.seq
 (.reg [ld 100 32 7 [],
 mv 101 11 3 [],
 mv 102 16 3 [],
 bn 103 .eql 3 102 1 3 4 [102],
 oq 104 (.call ⟨.value (.func 34), #[.tmp 100, .tmp 101, .tmp 103], #[32, 3, 4]⟩) 87 [100, 101, 103],
 mv 99 104 87 [104],
 xt 105 99 0 51 [],
 xt 106 99 1 43 [99],
 oq 18 (.alloc 51) 0 [],
 ⟨none, .store 51 (.tmp 18) (.tmp 105), 0, none, [105]⟩,
 sg 19 106 43 [106]])
 (.seq
 (.reg [ld 108 32 7 [],
 ld 109 51 18 [],
 cf2 110 15 108 109 32 51 53 [108, 109],
 mv 107 110 53 [110],
 xt 111 107 0 23 [],
 xt 112 107 1 43 [107],
 sg 20 111 23 [111],
 sg 21 112 43 [112]])
 (.seq
 (.seq
 (.reg [mv 113 19 43 [19],
 bn 114 .neq 43 113 0 43 4 [113],
 mv 115 114 4 [114],
 og 116 (.move (.tmp 21)) 43 115 false [21],
 og 117 (.binOp .neq 43 (.tmp 116) (.const (.int .i64 0)) 43) 4 115 false [116],
 oq 118 (.pick (.tmp 115) (.const (.bool true)) (.tmp 117)) 4 [115, 117],
 mv 119 118 4 [118],
 og 120 (.load 32 (.tmp 7)) 32 119 false [],
 og 121 (.move (.tmp 11)) 3 119 false [],
 og 122 (.move (.tmp 16)) 3 119 false [],
 og 123 (.binOp .eql 3 (.tmp 122) (.const (.int .i64 1)) 3) 4 119 false [122],
 og 124 (.move (.tmp 17)) 3 119 false [17],
 og 125 (.load 51 (.tmp 18)) 51 119 false [18],
 og 126 (.call ⟨.value (.func 17), #[.tmp 120, .tmp 121, .tmp 123, .tmp 124, .tmp 125], #[32, 3, 4, 3, 51]⟩) 43 119 false [120, 121, 123, 124, 125],
 og 127 (.binOp .neq 43 (.tmp 126) (.const (.int .i64 0)) 43) 4 119 false [126],
 oq 128 (.pick (.tmp 119) (.const (.bool true)) (.tmp 127)) 4 [119, 127]])
 (.cond (.tmp 128)
 (.seq
 (.reg [sb 6 false 4 []])
 .ret)
 .skip))
 (.seq
 (.seq
 (.reg [mv 129 14 23 [],
 ln 130 129 23 3 [129],
 bn 131 .eql 3 130 0 3 4 [130],
 mv 132 131 4 [131],
 og 133 (.move (.tmp 20)) 23 132 false [20],
 og 134 (.move (.tmp 14)) 23 132 false [],
 og 135 (.indexAddr 52 (.tmp 5) (.const (.int .i64 1))) 0 132 false [],
 og 136 (.load 3 (.tmp 135)) 3 132 false [135],
 og 137 (.move (.tmp 14)) 23 132 false [],
 og 138 (.call ⟨.builtin .len, #[.tmp 137], #[23]⟩) 3 132 false [137],
 og 139 (.call ⟨.value (.func 11), #[.tmp 136, .tmp 138], #[3, 3]⟩) 3 132 false [136, 138],
 og 140 (.indexAddr 23 (.tmp 134) (.tmp 139)) 0 132 false [134, 139],
 og 141 (.load 3 (.tmp 140)) 3 132 false [140],
 og 142 (.call ⟨.value (.func 24), #[.tmp 133, .tmp 141], #[23, 3]⟩) 4 132 false [133, 141],
 oq 143 (.pick (.tmp 132) (.const (.bool true)) (.tmp 142)) 4 [132, 142]])
 (.cond (.tmp 143)
 (.exit 1)
 .skip))
 (.seq
 (.dreg [ld 145 32 7 [],
 mv 146 14 23 [],
 oq 147 (.indexAddr 52 (.tmp 5) (.const (.int .i64 1))) 0 [],
 ld 148 3 147 [],
 mv 149 14 23 [],
 ln 150 149 23 3 [],
 cf2 151 11 148 150 3 3 3 [],
 ia 152 23 146 151 [],
 ld 153 3 152 [],
 cf2 154 28 145 153 32 3 61 [],
 mv 144 154 61 [],
 xt 155 144 0 32 [],
 xt 156 144 1 43 [],
 oq 22 (.alloc 32) 0 [],
 ⟨none, .store 32 (.tmp 22) (.tmp 155), 0, none, []⟩,
 sg 23 156 43 []] [[], [], [], [2], [], [4], [2, 3, 4, 5], [1, 2, 3, 4, 5, 6], [1, 2, 3, 4, 5, 6, 7], [0, 1, 2, 3, 4, 5, 6, 7, 8], [0, 1, 2, 3, 4, 5, 6, 7, 8, 9], [0, 1, 2, 3, 4, 5, 6, 7, 8, 9, 10], [0, 1, 2, 3, 4, 5, 6, 7, 8, 9, 10], [], [13, 0, 1, 2, 3, 4, 5, 6, 7, 8, 9, 10, 11], [0, 1, 2, 3, 4, 5, 6, 7, 8, 9, 10, 12, 13, 11, 14]] [144, 145, 146, 147, 148, 149, 150, 151, 152, 153, 154, 155, 156])
 (.seq
 (.reg [ld 158 32 22 [22],
 mv 159 11 3 [],
 cf2 160 13 158 159 32 3 44 [158, 159],
 mv 157 160 44 [160],
 xt 161 157 0 39 [],
 xt 162 157 1 43 [157],
 oq 24 (.alloc 39) 0 [],
 ⟨none, .store 39 (.tmp 24) (.tmp 161), 0, none, [161]⟩,
 sg 25 162 43 [162]])
 (.seq
 (.reg [mv 163 23 43 [23],
 bn 164 .neq 43 163 0 43 4 [163],
 mv 165 164 4 [164],
 og 166 (.move (.tmp 25)) 43 165 false [25],
 og 167 (.binOp .neq 43 (.tmp 166) (.const (.int .i64 0)) 43) 4 165 false [166],
 oq 168 (.pick (.tmp 165) (.const (.bool true)) (.tmp 167)) 4 [165, 167],
 mv 169 168 4 [168],
 og 170 (.move (.tmp 16)) 3 169 false [],
 og 171 (.binOp .eql 3 (.tmp 170) (.const (.int .i64 0)) 3) 4 169 false [170],
 og 172 (.move (.tmp 171)) 4 169 false [171],
 og 173 (.fieldAddr 39 (.tmp 24) 0) 0 172 true [],
 og 174 (.load 3 (.tmp 173)) 3 172 true [173],
 og 175 (.fieldAddr 39 (.tmp 12) 0) 0 172 true [],
 og 176 (.load 3 (.tmp 175)) 3 172 true [175],
 og 177 (.binOp .neq 3 (.tmp 174) (.tmp 176) 3) 4 172 true [174, 176],
 og 178 (.pick (.tmp 172) (.tmp 177) (.const (.bool false))) 4 169 false [172, 177],
 oq 179 (.pick (.tmp 169) (.const (.bool true)) (.tmp 178)) 4 [169, 178],
 mv 180 179 4 [179],
 og 181 (.move (.tmp 16)) 3 180 false [],
 og 182 (.binOp .eql 3 (.tmp 181) (.const (.int .i64 1)) 3) 4 180 false [181],
 og 183 (.move (.tmp 182)) 4 180 false [182],
 og 184 (.fieldAddr 39 (.tmp 24) 1) 0 183 true [24],
 og 185 (.load 3 (.tmp 184)) 3 183 true [184],
 og 186 (.fieldAddr 39 (.tmp 12) 1) 0 183 true [],
 og 187 (.load 3 (.tmp 186)) 3 183 true [186],
 og 188 (.binOp .neq 3 (.tmp 185) (.tmp 187) 3) 4 183 true [185, 187],
 og 189 (.pick (.tmp 183) (.tmp 188) (.const (.bool false))) 4 180 false [183, 188],
 oq 190 (.pick (.tmp 180) (.const (.bool true)) (.tmp 189)) 4 [180, 189]])
 (.cond (.tmp 190)
 (.seq
 (.reg [sb 6 false 4 []])
 .ret)
 .skip)))))))))))
 (.reg [mv 91 16 3 [16],
 bn 92 .add 3 91 1 3 3 [91],
 sg 16 92 3 [92]])))
def F9.c : SC :=
 (.seq
 (.reg [oq 3 (.box 26 (.tmp 0)) 0 [0],
 oq 4 (.box 51 (.tmp 1)) 0 [1],
 oq 5 (.box 52 (.tmp 2)) 0 [2],
 sb 6 false 4 [6]])
 (.seq
 (.reg [ld 27 26 3 [3],
 cf1 28 10 27 26 36 [27],
 mv 26 28 36 [28],
 xt 29 26 0 32 [],
 xt 30 26 1 35 [26],
 oq 7 (.alloc 32) 0 [],
 oq 8 (.alloc 35) 0 [],
 ⟨none, .store 32 (.tmp 7) (.tmp 29), 0, none, [29]⟩,
 ⟨none, .store 35 (.tmp 8) (.tmp 30), 0, none, [30]⟩])
 (.seq
 (.reg [fa 32 32 7 0 [],
 ld 33 29 32 [32],
 ld 34 35 8 [8],
 cf2 35 25 33 34 29 35 53 [33, 34],
 mv 31 35 53 [35],
 xt 36 31 0 23 [],
 xt 37 31 1 43 [31],
 sg 9 36 23 [36],
 sg 10 37 43 [37]])
 (.seq
 (.seq
 (.reg [mv 38 10 43 [10],
 bn 39 .neq 43 38 0 43 4 [38],
 mv 40 39 4 [39],
 og 41 (.move (.tmp 9)) 23 40 false [],
 og 42 (.call ⟨.builtin .len, #[.tmp 41], #[23]⟩) 3 40 false [41],
 og 43 (.binOp .eql 3 (.tmp 42) (.const (.int .i64 0)) 3) 4 40 false [42],
 oq 44 (.pick (.tmp 40) (.const (.bool true)) (.tmp 43)) 4 [40, 43]])
 (.cond (.tmp 44)
 (.seq
 (.reg [sb 6 false 4 []])
 .ret)
 .skip))
 (.seq
 (.reg [oq 45 (.indexAddr 52 (.tmp 5) (.const (.int .i64 0))) 0 [],
 ld 46 3 45 [45],
 mv 47 9 23 [],
 ln 48 47 23 3 [47],
 cf2 49 11 46 48 3 3 3 [46, 48],
 sg 11 49 3 [49]])
 (.seq
 (.seq
 (.dreg [ld 50 32 7 [],
 mv 51 11 3 [],
 mv 52 9 23 [],
 mv 53 11 3 [],
 ia 54 23 52 53 [],
 ld 55 3 54 [],
 bn 56 .sub 3 55 1 3 3 [],
 ld 57 51 4 [],
 oq 58 (.call ⟨.value (.func 17), #[.tmp 50, .tmp 51, .const (.bool true), .tmp 56, .tmp 57], #[32, 3, 4, 3, 51]⟩) 43 [],
 bn 59 .eql 43 58 0 43 4 [],
 mv 60 59 4 [],
 og 61 (.load 32 (.tmp 7)) 32 60 false [],
 og 62 (.move (.tmp 11)) 3 60 false [],
 og 63 (.move (.tmp 9)) 23 60 false [],
 og 64 (.move (.tmp 11)) 3 60 false [],
 og 65 (.indexAddr 23 (.tmp 63) (.tmp 64)) 0 60 false [],
 og 66 (.load 3 (.tmp 65)) 3 60 false [],
 og 67 (.binOp .add 3 (.tmp 66) (.const (.int .i64 1)) 3) 3 60 false [],
 og 68 (.load 51 (.tmp 4)) 51 60 false [],
 og 69 (.call ⟨.value (.func 17), #[.tmp 61, .tmp 62, .const (.bool false), .tmp 67, .tmp 68], #[32, 3, 4, 3, 51]⟩) 43 60 false [],
 og 70 (.binOp .eql 43 (.tmp 69) (.const (.int .i64 0)) 43) 4 60 false [],
 oq 71 (.pick (.tmp 60) (.const (.bool true)) (.tmp 70)) 4 []] [[], [], [], [], [2, 3], [2, 3, 4], [2, 3, 4, 5], [], [0, 1, 2, 3, 4, 5, 6, 7], [0, 1, 2, 3, 4, 5, 6, 7, 8], [0, 1, 2, 3, 4, 5, 6, 7, 8, 9], [0, 1, 2, 3, 4, 5, 6, 7, 8, 9, 10], [0, 1, 2, 3, 4, 5, 6, 7, 8, 9, 10], [0, 1, 2, 3, 4, 5, 6, 7, 8, 9, 10], [0, 1, 2, 3, 4, 5, 6, 7, 8, 9, 10], [0, 1, 2, 3, 4, 5, 6, 7, 8, 9, 10, 13, 14], [0, 1, 2, 3, 4, 5, 6, 7, 8, 9, 10, 13, 14, 15], [0, 1, 2, 3, 4, 5, 6, 7, 8, 9, 10, 13, 14, 15, 16], [0, 1, 2, 3, 4, 5, 6, 7, 8, 9, 10], [0, 1, 2, 3, 4, 5, 6, 7, 8, 9, 10, 11, 12, 13, 14, 15, 16, 17, 18], [0, 1, 2, 3, 4, 5, 6, 7, 8, 9, 10, 11, 12, 13, 14, 15, 16, 17, 18, 19], [0, 1, 2, 3, 4, 5, 6, 7, 8, 9, 10, 11, 12, 13, 14, 15, 16, 17, 18, 19, 20]] [4, 9, 50, 51, 52, 53, 54, 55, 56, 57, 58, 59, 60, 61, 62, 63, 64, 65, 66, 67, 68, 69, 70])
 (.cond (.tmp 71)
 (.seq
 (.reg [sb 6 false 4 []])
 .ret)
 .skip))
 (.seq
 (.reg [ld 73 32 7 [],
 mv 74 11 3 [],
 cf2 75 13 73 74 32 3 44 [73, 74],
 mv 72 75 44 [75],
 xt 76 72 0 39 [],
 xt 77 72 1 43 [72],
 oq 12 (.alloc 39) 0 [],
 ⟨none, .store 39 (.tmp 12) (.tmp 76), 0, none, [76]⟩,
 sg 13 77 43 [77]])
 (.seq
 (.reg [ld 79 32 7 [],
 cf1 80 27 79 32 53 [79],
 mv 78 80 53 [80],
 xt 81 78 0 23 [],
 xt 82 78 1 43 [78],
 sg 14 81 23 [81],
 sg 15 82 43 [82]])
 (.seq
 (.seq
 (.reg [mv 83 13 43 [13],
 bn 84 .neq 43 83 0 43 4 [83],
 mv 85 84 4 [84],
 og 86 (.move (.tmp 15)) 43 85 false [15],
 og 87 (.binOp .neq 43 (.tmp 86) (.const (.int .i64 0)) 43) 4 85 false [86],
 oq 88 (.pick (.tmp 85) (.const (.bool true)) (.tmp 87)) 4 [85, 87]])
 (.cond (.tmp 88)
 (.seq
 (.reg [sb 6 false 4 []])
 .ret)
 .skip))
 (.seq
 (.seq
 (.reg [sn 16 0 3 []])
 (.block 0
 (.loop F9.s0)))
 (.seq
 (.reg [oq 191 (.call ⟨.value (.func 14), #[], #[]⟩) 4 [],
 sg 6 191 4 [191]])
 .ret)))))))))))
theorem F9.rs : Try.f9.results.toList = [.tmp 6] := rfl
def L04_HeatShown.b0 (k : Nat) (n2 : (A2 Int)) (x1 : Firing × Field) (x5 : Int) (x11 : Range × Int) (x12 : (List Int) × Int) : Int → Option (Stp (Int) (Unit) (Bool)) := fun (i15 : Int) =>
 bif decide (i15 < (2 : Int)) then
  bif decide (i15 = (1 : Int)) then
   (heat_Prove k x1.1 x5 true).bind fun x18 =>
   (heat_Rests k x1.1 x18.1).bind fun x19 =>
   bif decide (x18.2 = (0 : Int)) then
    bif decide (x19.2 = (0 : Int)) then
     (heat_CheckProof k x1.1 x5 true x11.1.Hi x18.1).bind fun x22 =>
     bif (!decide (x22 = (0 : Int))) then
      some (.ret false)
     else
      bif (!decide ((x12.1.length : Int) = (0 : Int))) then
       (R01_Mod k n2.x1 (x12.1.length : Int)).bind fun x25 =>
       (at? x12.1 x25).bind fun x26 =>
       (R01_Has k x19.1 x26).bind fun x27 =>
       bif x27 then
        some (.next (w64 (i15 + 1)))
       else
        (R01_Mod k n2.x1 (x12.1.length : Int)).bind fun x29 =>
        (at? x12.1 x29).bind fun x30 =>
        (heat_Without k x1.1 x30).bind fun x31 =>
        (heat_Bound k x31.1 x5).bind fun x32 =>
        bif decide (x31.2 = (0 : Int)) then
         bif decide (x32.2 = (0 : Int)) then
          bif decide (i15 = (0 : Int)) then
           bif decide (x32.1.Lo = x11.1.Lo) then
            bif (!decide (x32.1.Hi = x11.1.Hi)) then
             some (.ret false)
            else
             some (.next (w64 (i15 + 1)))
           else
            some (.ret false)
          else
           bif (!decide (x32.1.Hi = x11.1.Hi)) then
            some (.ret false)
           else
            some (.next (w64 (i15 + 1)))
         else
          some (.ret false)
        else
         some (.ret false)
      else
       some (.next (w64 (i15 + 1)))
    else
     some (.ret false)
   else
    some (.ret false)
  else
   (heat_Prove k x1.1 x5 false).bind fun x39 =>
   (heat_Rests k x1.1 x39.1).bind fun x40 =>
   bif decide (x39.2 = (0 : Int)) then
    bif decide (x40.2 = (0 : Int)) then
     (heat_CheckProof k x1.1 x5 false x11.1.Lo x39.1).bind fun x43 =>
     bif (!decide (x43 = (0 : Int))) then
      some (.ret false)
     else
      bif (!decide ((x12.1.length : Int) = (0 : Int))) then
       (R01_Mod k n2.x1 (x12.1.length : Int)).bind fun x46 =>
       (at? x12.1 x46).bind fun x47 =>
       (R01_Has k x40.1 x47).bind fun x48 =>
       bif x48 then
        some (.next (w64 (i15 + 1)))
       else
        (R01_Mod k n2.x1 (x12.1.length : Int)).bind fun x50 =>
        (at? x12.1 x50).bind fun x51 =>
        (heat_Without k x1.1 x51).bind fun x52 =>
        (heat_Bound k x52.1 x5).bind fun x53 =>
        bif decide (x52.2 = (0 : Int)) then
         bif decide (x53.2 = (0 : Int)) then
          bif decide (i15 = (0 : Int)) then
           bif decide (x53.1.Lo = x11.1.Lo) then
            some (.next (w64 (i15 + 1)))
           else
            some (.ret false)
          else
           some (.next (w64 (i15 + 1)))
         else
          some (.ret false)
        else
         some (.ret false)
      else
       some (.next (w64 (i15 + 1)))
    else
     some (.ret false)
   else
    some (.ret false)
 else
  some (.brk ())
noncomputable def L04_HeatShown.h0 (n2 : (A2 Int)) (x1 : Firing × Field) (x5 : Int) (x11 : Range × Int) (x12 : (List Int) × Int) : Int → St := fun (i15 : Int) => ⟨[(5, .ptr 0 0 0), (7, .ptr 0 1 0), (11, .int .i64 x5), (12, .ptr 0 2 0), (14, .sl 1 (List.map eI x12.1)), (16, .int .i64 i15)], [(0, .box [.int .i64 n2.x0, .int .i64 n2.x1]), (1, .box [.sl 1 (List.map (eL 2 Range.c) x1.1.Kiln.Falls), .sl 6 (List.map Reading.c x1.1.Readings)]), (2, .box [.int .i64 x11.1.Lo, .int .i64 x11.1.Hi])], [], 3, Try.f9.ntmps⟩
noncomputable def L04_HeatShown.x0 : Unit → St := fun (_ : Unit) => ⟨[], [], [], 1, Try.f9.ntmps⟩
def L04_HeatShown (k : Nat) (r0 : R04_Raw) (p1 : HeatProof) (n2 : (A2 Int)) : Option (Bool) :=
 (R04_Made k r0).bind fun x1 =>
 (heat_Heats k x1.1.Kiln x1.2).bind fun x2 =>
 bif decide (x2.2 = (0 : Int)) then
  bif decide ((x2.1.length : Int) = (0 : Int)) then
   some false
  else
   (R01_Mod k n2.x0 (x2.1.length : Int)).bind fun x5 =>
   (at? x2.1 x5).bind fun x6 =>
   (heat_CheckProof k x1.1 x5 true (w64 (x6 - 1)) p1).bind fun x7 =>
   bif (!decide (x7 = (0 : Int))) then
    (heat_CheckProof k x1.1 x5 false (w64 (x6 + 1)) p1).bind fun x9 =>
    bif decide (x9 = (0 : Int)) then
     some false
    else
     (heat_Bound k x1.1 x5).bind fun x11 =>
     (heat_Sources k x1.1).bind fun x12 =>
     bif decide (x11.2 = (0 : Int)) then
      bif (!decide (x12.2 = (0 : Int))) then
       some false
      else
       (whl (L04_HeatShown.b0 k n2 x1 x5 x11 x12) k 0).bind fun r58 => match r58 with
       | .next _ => none
       | .ret v_ => some v_
       | .brk _ =>
        (L04_sane k).bind fun x59 =>
        some x59
     else
      some false
   else
    some false
 else
  some false
theorem L04_HeatShown_ok (k : Nat) (r0 : R04_Raw) (p1 : HeatProof) (n2 : (A2 Int)) (r : Bool) (h0 : L04_HeatShown k r0 p1 n2 = some r) : PCall Try.prog 9 [.agg (R04_Raw.c r0), .agg (HeatProof.c p1), .agg ((A2.c eI) n2)] (fun y => y = .bool r) := by
 refine PB (fn := Try.f9) (sc := F9.c) ?_
 refine rS ?_
 simp only [L04_HeatShown] at h0
 try simp only [F9.c, go_sem]
 obtain ⟨x1, yx1, h0⟩ := bs h0
 refine zc0 (R04_Made_ok k _ _ yx1) ?_ (by first | rfl | simp [AV.refsL, AV.refs, AV.scal, AV.leaf]) ?_
 try simp only [go_sem]
 try simp only [go_sem]
 obtain ⟨x2, yx2, h0⟩ := bs h0
 refine zc0 (heat_Heats_ok k _ _ _ yx2) ?_ (by first | rfl | simp [AV.refsL, AV.refs, AV.scal, AV.leaf]) ?_
 try simp only [go_sem]
 try simp only [go_sem]
 refine AKev_bif h0 ?_ ?_ <;> intro c3 h0
 try simp only [c3, go_sem]
 refine AKev_bif h0 ?_ ?_ <;> intro c4 h0
 try simp only [c4, c3, go_sem]
 obtain rfl := Option.some.inj h0
 refine AKev_ret rfl ?_
 try simp only [F9.rs, c3, c4, go_sem]
 try simp only [c4, (by decide : inRange (0 : Int) 2 = some 0), c3, go_sem]
 obtain ⟨x5, yx5, h0⟩ := bs h0
 refine zc0 (R01_Mod_ok k _ _ _ yx5) ?_ (by first | rfl | simp [AV.refsL, AV.refs, AV.scal, AV.leaf]) ?_
 try simp only [c3, c4, go_sem]
 try simp only [c3, c4, go_sem]
 refine AKev_region T_ok follows_ok 1000 ?_
 try simp only [c3, c4, go_sem]
 obtain ⟨x6, yx6, h0⟩ := bs h0
 try simp only [aa yx6, c3, c4, go_sem]
 obtain ⟨x7, yx7, h0⟩ := bs h0
 refine DG_call0 1000 (heat_CheckProof_ok k _ _ _ _ _ _ yx7) ?_ (by first | rfl | simp [AV.refsL, AV.refs, AV.scal, AV.leaf]) ?_
 try simp only [c3, c4, aa yx6, go_sem]
 try simp only [c3, c4, aa yx6, go_sem]
 refine DG_bif h0 ?_ ?_ <;> intro c8 h0
 have c8 := bnot_t c8
 try simp only [c8, aa yx6, c3, c4, go_sem]
 obtain ⟨x9, yx9, h0⟩ := bs h0
 refine DG_call0 1000 (heat_CheckProof_ok k _ _ _ _ _ _ yx9) ?_ (by first | rfl | simp [AV.refsL, AV.refs, AV.scal, AV.leaf]) ?_
 try simp only [c3, c4, aa yx6, c8, go_sem]
 try simp only [c3, c4, aa yx6, c8, go_sem]
 refine DG_done ⟨rfl, run_sound T_ok 1000 _ _ ?_⟩
 try simp only [c3, c4, aa yx6, c8, go_sem]
 refine AKev_bif h0 ?_ ?_ <;> intro c10 h0
 try simp only [c10, c3, c4, aa yx6, c8, go_sem]
 obtain rfl := Option.some.inj h0
 refine AKev_ret rfl ?_
 try simp only [F9.rs, c3, c4, aa yx6, c8, c10, go_sem]
 try simp only [c10, c3, c4, aa yx6, c8, go_sem]
 obtain ⟨x11, yx11, h0⟩ := bs h0
 refine zc0 (heat_Bound_ok k _ _ _ yx11) ?_ (by first | rfl | simp [AV.refsL, AV.refs, AV.scal, AV.leaf]) ?_
 try simp only [c3, c4, aa yx6, c8, c10, go_sem]
 try simp only [c3, c4, aa yx6, c8, c10, go_sem]
 obtain ⟨x12, yx12, h0⟩ := bs h0
 refine zc0 (heat_Sources_ok k _ _ yx12) ?_ (by first | rfl | simp [AV.refsL, AV.refs, AV.scal, AV.leaf]) ?_
 try simp only [c3, c4, aa yx6, c8, c10, go_sem]
 try simp only [c3, c4, aa yx6, c8, c10, go_sem]
 refine AKev_bif h0 ?_ ?_ <;> intro c13 h0
 try simp only [c13, c3, c4, aa yx6, c8, c10, go_sem]
 refine AKev_bif h0 ?_ ?_ <;> intro c14 h0
 have c14 := bnot_t c14
 try simp only [c14, c3, c4, aa yx6, c8, c10, c13, go_sem]
 obtain rfl := Option.some.inj h0
 refine AKev_ret rfl ?_
 try simp only [F9.rs, c3, c4, aa yx6, c8, c10, c13, c14, go_sem]
 have c14 := bnot_f c14
 try simp only [c14, c3, c4, aa yx6, c8, c10, c13, go_sem]
 obtain ⟨r58, yr58, h0⟩ := bs h0
 refine AKev_loopS yr58 (L04_HeatShown.h0 n2 x1 x5 x11 x12) (L04_HeatShown.x0) ?_ ?_ ?_
 refine Weak.go [5, 7, 11, 12, 14, 16] [32, 144, 1008] rfl ?_
 try simp only [L04_HeatShown.h0, c3, c4, aa yx6, c8, c10, c13, c14, go_sem]
 rintro i15 x_1 Bk1 Br1 h1 hnext1 hbrk1 hret1
 refine rS ?_
 simp only [L04_HeatShown.b0] at h1
 try simp only [F9.s0, L04_HeatShown.h0, c3, c4, aa yx6, c8, c10, c13, c14, go_sem]
 refine AKev_bif h1 ?_ ?_ <;> intro c16 h1
 try simp only [c16, c3, c4, aa yx6, c8, c10, c13, c14, go_sem]
 refine AKev_bif h1 ?_ ?_ <;> intro c17 h1
 try simp only [c17, c3, c4, aa yx6, c8, c10, c13, c14, c16, go_sem]
 obtain ⟨x18, yx18, h1⟩ := bs h1
 refine zc0 (heat_Prove_ok k _ _ _ _ yx18) ?_ (by first | rfl | simp [AV.refsL, AV.refs, AV.scal, AV.leaf]) ?_
 try simp only [c3, c4, aa yx6, c8, c10, c13, c14, c16, c17, go_sem]
 try simp only [c3, c4, aa yx6, c8, c10, c13, c14, c16, c17, go_sem]
 obtain ⟨x19, yx19, h1⟩ := bs h1
 refine zc0 (heat_Rests_ok k _ _ _ yx19) ?_ (by first | rfl | simp [AV.refsL, AV.refs, AV.scal, AV.leaf]) ?_
 try simp only [c3, c4, aa yx6, c8, c10, c13, c14, c16, c17, go_sem]
 try simp only [c3, c4, aa yx6, c8, c10, c13, c14, c16, c17, go_sem]
 refine AKev_bif h1 ?_ ?_ <;> intro c20 h1
 try simp only [c20, c3, c4, aa yx6, c8, c10, c13, c14, c16, c17, go_sem]
 refine AKev_bif h1 ?_ ?_ <;> intro c21 h1
 try simp only [c21, c3, c4, aa yx6, c8, c10, c13, c14, c16, c17, c20, go_sem]
 obtain ⟨x22, yx22, h1⟩ := bs h1
 refine zc0 (heat_CheckProof_ok k _ _ _ _ _ _ yx22) ?_ (by first | rfl | simp [AV.refsL, AV.refs, AV.scal, AV.leaf]) ?_
 try simp only [c3, c4, aa yx6, c8, c10, c13, c14, c16, c17, c20, c21, go_sem]
 try simp only [c3, c4, aa yx6, c8, c10, c13, c14, c16, c17, c20, c21, go_sem]
 refine AKev_bif h1 ?_ ?_ <;> intro c23 h1
 have c23 := bnot_t c23
 try simp only [c23, c3, c4, aa yx6, c8, c10, c13, c14, c16, c17, c20, c21, go_sem]
 obtain rfl := hret1 _ (Option.some.inj h1).symm
 simp only at h0
 obtain rfl := Option.some.inj h0
 refine AKev_ret rfl ?_
 try simp only [F9.rs, c3, c4, aa yx6, c8, c10, c13, c14, c16, c17, c20, c21, c23, go_sem]
 have c23 := bnot_f c23
 try simp only [c23, c3, c4, aa yx6, c8, c10, c13, c14, c16, c17, c20, c21, go_sem]
 refine AKev_bif h1 ?_ ?_ <;> intro c24 h1
 have c24 := bnot_t c24
 try simp only [c24, (by decide : inRange (1 : Int) 2 = some 1), c3, c4, aa yx6, c8, c10, c13, c14, c16, c17, c20, c21, c23, go_sem]
 obtain ⟨x25, yx25, h1⟩ := bs h1
 refine zc0 (R01_Mod_ok k _ _ _ yx25) ?_ (by first | rfl | simp [AV.refsL, AV.refs, AV.scal, AV.leaf]) ?_
 try simp only [c3, c4, aa yx6, c8, c10, c13, c14, c16, c17, c20, c21, c23, c24, go_sem]
 try simp only [c3, c4, aa yx6, c8, c10, c13, c14, c16, c17, c20, c21, c23, c24, go_sem]
 obtain ⟨x26, yx26, h1⟩ := bs h1
 try simp only [aa yx26, c3, c4, aa yx6, c8, c10, c13, c14, c16, c17, c20, c21, c23, c24, go_sem]
 obtain ⟨x27, yx27, h1⟩ := bs h1
 refine zc0 (R01_Has_ok k _ _ _ yx27) ?_ (by first | rfl | simp [AV.refsL, AV.refs, AV.scal, AV.leaf]) ?_
 try simp only [c3, c4, aa yx6, c8, c10, c13, c14, c16, c17, c20, c21, c23, c24, aa yx26, go_sem]
 try simp only [c3, c4, aa yx6, c8, c10, c13, c14, c16, c17, c20, c21, c23, c24, aa yx26, go_sem]
 refine AKev_bif h1 ?_ ?_ <;> intro c28 h1
 try simp only [c28, c3, c4, aa yx6, c8, c10, c13, c14, c16, c17, c20, c21, c23, c24, aa yx26, go_sem]
 refine AKev_backB (hnext1 _ _ (Option.some.inj h1).symm ?_)
 refine Weak.go [5, 7, 11, 12, 14, 16] [0, 1, 2] rfl ?_
 try simp only [L04_HeatShown.h0, c3, c4, aa yx6, c8, c10, c13, c14, c16, c17, c20, c21, c23, c24, aa yx26, c28, go_sem]
 try simp only [c28, c3, c4, aa yx6, c8, c10, c13, c14, c16, c17, c20, c21, c23, c24, aa yx26, go_sem]
 refine AKev_region T_ok follows_ok 1000 ?_
 try simp only [(by decide : inRange (1 : Int) 2 = some 1), c3, c4, aa yx6, c8, c10, c13, c14, c16, c17, c20, c21, c23, c24, aa yx26, c28, go_sem]
 obtain ⟨x29, yx29, h1⟩ := bs h1
 refine DG_call0 1000 (R01_Mod_ok k _ _ _ yx29) ?_ (by first | rfl | simp [AV.refsL, AV.refs, AV.scal, AV.leaf]) ?_
 try simp only [c3, c4, aa yx6, c8, c10, c13, c14, c16, c17, c20, c21, c23, c24, aa yx26, c28, go_sem]
 try simp only [c3, c4, aa yx6, c8, c10, c13, c14, c16, c17, c20, c21, c23, c24, aa yx26, c28, go_sem]
 obtain ⟨x30, yx30, h1⟩ := bs h1
 try simp only [aa yx30, c3, c4, aa yx6, c8, c10, c13, c14, c16, c17, c20, c21, c23, c24, aa yx26, c28, go_sem]
 obtain ⟨x31, yx31, h1⟩ := bs h1
 refine DG_call0 1000 (heat_Without_ok k _ _ _ yx31) ?_ (by first | rfl | simp [AV.refsL, AV.refs, AV.scal, AV.leaf]) ?_
 try simp only [c3, c4, aa yx6, c8, c10, c13, c14, c16, c17, c20, c21, c23, c24, aa yx26, c28, aa yx30, go_sem]
 try simp only [c3, c4, aa yx6, c8, c10, c13, c14, c16, c17, c20, c21, c23, c24, aa yx26, c28, aa yx30, go_sem]
 refine DG_done ⟨rfl, run_sound T_ok 1000 _ _ ?_⟩
 try simp only [c3, c4, aa yx6, c8, c10, c13, c14, c16, c17, c20, c21, c23, c24, aa yx26, c28, aa yx30, go_sem]
 obtain ⟨x32, yx32, h1⟩ := bs h1
 refine zc0 (heat_Bound_ok k _ _ _ yx32) ?_ (by first | rfl | simp [AV.refsL, AV.refs, AV.scal, AV.leaf]) ?_
 try simp only [c3, c4, aa yx6, c8, c10, c13, c14, c16, c17, c20, c21, c23, c24, aa yx26, c28, aa yx30, go_sem]
 try simp only [c3, c4, aa yx6, c8, c10, c13, c14, c16, c17, c20, c21, c23, c24, aa yx26, c28, aa yx30, go_sem]
 refine AKev_bif h1 ?_ ?_ <;> intro c33 h1
 try simp only [c33, c3, c4, aa yx6, c8, c10, c13, c14, c16, c17, c20, c21, c23, c24, aa yx26, c28, aa yx30, go_sem]
 refine AKev_bif h1 ?_ ?_ <;> intro c34 h1
 try simp only [c34, c3, c4, aa yx6, c8, c10, c13, c14, c16, c17, c20, c21, c23, c24, aa yx26, c28, aa yx30, c33, go_sem]
 refine AKev_bif h1 ?_ ?_ <;> intro c35 h1
 try simp only [c35, c3, c4, aa yx6, c8, c10, c13, c14, c16, c17, c20, c21, c23, c24, aa yx26, c28, aa yx30, c33, c34, go_sem]
 refine AKev_bif h1 ?_ ?_ <;> intro c36 h1
 try simp only [c36, c3, c4, aa yx6, c8, c10, c13, c14, c16, c17, c20, c21, c23, c24, aa yx26, c28, aa yx30, c33, c34, c35, go_sem]
 refine AKev_bif h1 ?_ ?_ <;> intro c37 h1
 have c37 := bnot_t c37
 try simp only [c37, c3, c4, aa yx6, c8, c10, c13, c14, c16, c17, c20, c21, c23, c24, aa yx26, c28, aa yx30, c33, c34, c35, c36, go_sem]
 obtain rfl := hret1 _ (Option.some.inj h1).symm
 simp only at h0
 obtain rfl := Option.some.inj h0
 refine AKev_ret rfl ?_
 try simp only [F9.rs, c3, c4, aa yx6, c8, c10, c13, c14, c16, c17, c20, c21, c23, c24, aa yx26, c28, aa yx30, c33, c34, c35, c36, c37, go_sem]
 have c37 := bnot_f c37
 try simp only [c37, c3, c4, aa yx6, c8, c10, c13, c14, c16, c17, c20, c21, c23, c24, aa yx26, c28, aa yx30, c33, c34, c35, c36, go_sem]
 refine AKev_backB (hnext1 _ _ (Option.some.inj h1).symm ?_)
 refine Weak.go [5, 7, 11, 12, 14, 16] [0, 1, 2] rfl ?_
 try simp only [L04_HeatShown.h0, c3, c4, aa yx6, c8, c10, c13, c14, c16, c17, c20, c21, c23, c24, aa yx26, c28, aa yx30, c33, c34, c35, c36, c37, go_sem]
 try simp only [c36, c3, c4, aa yx6, c8, c10, c13, c14, c16, c17, c20, c21, c23, c24, aa yx26, c28, aa yx30, c33, c34, c35, go_sem]
 obtain rfl := hret1 _ (Option.some.inj h1).symm
 simp only at h0
 obtain rfl := Option.some.inj h0
 refine AKev_ret rfl ?_
 try simp only [F9.rs, c3, c4, aa yx6, c8, c10, c13, c14, c16, c17, c20, c21, c23, c24, aa yx26, c28, aa yx30, c33, c34, c35, c36, go_sem]
 try simp only [c35, c3, c4, aa yx6, c8, c10, c13, c14, c16, c17, c20, c21, c23, c24, aa yx26, c28, aa yx30, c33, c34, go_sem]
 refine AKev_bif h1 ?_ ?_ <;> intro c38 h1
 have c38 := bnot_t c38
 try simp only [c38, c3, c4, aa yx6, c8, c10, c13, c14, c16, c17, c20, c21, c23, c24, aa yx26, c28, aa yx30, c33, c34, c35, go_sem]
 obtain rfl := hret1 _ (Option.some.inj h1).symm
 simp only at h0
 obtain rfl := Option.some.inj h0
 refine AKev_ret rfl ?_
 try simp only [F9.rs, c3, c4, aa yx6, c8, c10, c13, c14, c16, c17, c20, c21, c23, c24, aa yx26, c28, aa yx30, c33, c34, c35, c38, go_sem]
 have c38 := bnot_f c38
 try simp only [c38, c3, c4, aa yx6, c8, c10, c13, c14, c16, c17, c20, c21, c23, c24, aa yx26, c28, aa yx30, c33, c34, c35, go_sem]
 refine AKev_backB (hnext1 _ _ (Option.some.inj h1).symm ?_)
 refine Weak.go [5, 7, 11, 12, 14, 16] [0, 1, 2] rfl ?_
 try simp only [L04_HeatShown.h0, c3, c4, aa yx6, c8, c10, c13, c14, c16, c17, c20, c21, c23, c24, aa yx26, c28, aa yx30, c33, c34, c35, c38, go_sem]
 try simp only [c34, c3, c4, aa yx6, c8, c10, c13, c14, c16, c17, c20, c21, c23, c24, aa yx26, c28, aa yx30, c33, go_sem]
 obtain rfl := hret1 _ (Option.some.inj h1).symm
 simp only at h0
 obtain rfl := Option.some.inj h0
 refine AKev_ret rfl ?_
 try simp only [F9.rs, c3, c4, aa yx6, c8, c10, c13, c14, c16, c17, c20, c21, c23, c24, aa yx26, c28, aa yx30, c33, c34, go_sem]
 try simp only [c33, c3, c4, aa yx6, c8, c10, c13, c14, c16, c17, c20, c21, c23, c24, aa yx26, c28, aa yx30, go_sem]
 obtain rfl := hret1 _ (Option.some.inj h1).symm
 simp only at h0
 obtain rfl := Option.some.inj h0
 refine AKev_ret rfl ?_
 try simp only [F9.rs, c3, c4, aa yx6, c8, c10, c13, c14, c16, c17, c20, c21, c23, c24, aa yx26, c28, aa yx30, c33, go_sem]
 have c24 := bnot_f c24
 try simp only [c24, c3, c4, aa yx6, c8, c10, c13, c14, c16, c17, c20, c21, c23, go_sem]
 refine AKev_backB (hnext1 _ _ (Option.some.inj h1).symm ?_)
 refine Weak.go [5, 7, 11, 12, 14, 16] [0, 1, 2] rfl ?_
 try simp only [L04_HeatShown.h0, c3, c4, aa yx6, c8, c10, c13, c14, c16, c17, c20, c21, c23, c24, go_sem]
 try simp only [c21, c3, c4, aa yx6, c8, c10, c13, c14, c16, c17, c20, go_sem]
 obtain rfl := hret1 _ (Option.some.inj h1).symm
 simp only at h0
 obtain rfl := Option.some.inj h0
 refine AKev_ret rfl ?_
 try simp only [F9.rs, c3, c4, aa yx6, c8, c10, c13, c14, c16, c17, c20, c21, go_sem]
 try simp only [c20, c3, c4, aa yx6, c8, c10, c13, c14, c16, c17, go_sem]
 obtain rfl := hret1 _ (Option.some.inj h1).symm
 simp only at h0
 obtain rfl := Option.some.inj h0
 refine AKev_ret rfl ?_
 try simp only [F9.rs, c3, c4, aa yx6, c8, c10, c13, c14, c16, c17, c20, go_sem]
 try simp only [c17, c3, c4, aa yx6, c8, c10, c13, c14, c16, go_sem]
 obtain ⟨x39, yx39, h1⟩ := bs h1
 refine zc0 (heat_Prove_ok k _ _ _ _ yx39) ?_ (by first | rfl | simp [AV.refsL, AV.refs, AV.scal, AV.leaf]) ?_
 try simp only [c3, c4, aa yx6, c8, c10, c13, c14, c16, c17, go_sem]
 try simp only [c3, c4, aa yx6, c8, c10, c13, c14, c16, c17, go_sem]
 obtain ⟨x40, yx40, h1⟩ := bs h1
 refine zc0 (heat_Rests_ok k _ _ _ yx40) ?_ (by first | rfl | simp [AV.refsL, AV.refs, AV.scal, AV.leaf]) ?_
 try simp only [c3, c4, aa yx6, c8, c10, c13, c14, c16, c17, go_sem]
 try simp only [c3, c4, aa yx6, c8, c10, c13, c14, c16, c17, go_sem]
 refine AKev_bif h1 ?_ ?_ <;> intro c41 h1
 try simp only [c41, c3, c4, aa yx6, c8, c10, c13, c14, c16, c17, go_sem]
 refine AKev_bif h1 ?_ ?_ <;> intro c42 h1
 try simp only [c42, c3, c4, aa yx6, c8, c10, c13, c14, c16, c17, c41, go_sem]
 obtain ⟨x43, yx43, h1⟩ := bs h1
 refine zc0 (heat_CheckProof_ok k _ _ _ _ _ _ yx43) ?_ (by first | rfl | simp [AV.refsL, AV.refs, AV.scal, AV.leaf]) ?_
 try simp only [c3, c4, aa yx6, c8, c10, c13, c14, c16, c17, c41, c42, go_sem]
 try simp only [c3, c4, aa yx6, c8, c10, c13, c14, c16, c17, c41, c42, go_sem]
 refine AKev_bif h1 ?_ ?_ <;> intro c44 h1
 have c44 := bnot_t c44
 try simp only [c44, c3, c4, aa yx6, c8, c10, c13, c14, c16, c17, c41, c42, go_sem]
 obtain rfl := hret1 _ (Option.some.inj h1).symm
 simp only at h0
 obtain rfl := Option.some.inj h0
 refine AKev_ret rfl ?_
 try simp only [F9.rs, c3, c4, aa yx6, c8, c10, c13, c14, c16, c17, c41, c42, c44, go_sem]
 have c44 := bnot_f c44
 try simp only [c44, c3, c4, aa yx6, c8, c10, c13, c14, c16, c17, c41, c42, go_sem]
 refine AKev_bif h1 ?_ ?_ <;> intro c45 h1
 have c45 := bnot_t c45
 try simp only [c45, (by decide : inRange (1 : Int) 2 = some 1), c3, c4, aa yx6, c8, c10, c13, c14, c16, c17, c41, c42, c44, go_sem]
 obtain ⟨x46, yx46, h1⟩ := bs h1
 refine zc0 (R01_Mod_ok k _ _ _ yx46) ?_ (by first | rfl | simp [AV.refsL, AV.refs, AV.scal, AV.leaf]) ?_
 try simp only [c3, c4, aa yx6, c8, c10, c13, c14, c16, c17, c41, c42, c44, c45, go_sem]
 try simp only [c3, c4, aa yx6, c8, c10, c13, c14, c16, c17, c41, c42, c44, c45, go_sem]
 obtain ⟨x47, yx47, h1⟩ := bs h1
 try simp only [aa yx47, c3, c4, aa yx6, c8, c10, c13, c14, c16, c17, c41, c42, c44, c45, go_sem]
 obtain ⟨x48, yx48, h1⟩ := bs h1
 refine zc0 (R01_Has_ok k _ _ _ yx48) ?_ (by first | rfl | simp [AV.refsL, AV.refs, AV.scal, AV.leaf]) ?_
 try simp only [c3, c4, aa yx6, c8, c10, c13, c14, c16, c17, c41, c42, c44, c45, aa yx47, go_sem]
 try simp only [c3, c4, aa yx6, c8, c10, c13, c14, c16, c17, c41, c42, c44, c45, aa yx47, go_sem]
 refine AKev_bif h1 ?_ ?_ <;> intro c49 h1
 try simp only [c49, c3, c4, aa yx6, c8, c10, c13, c14, c16, c17, c41, c42, c44, c45, aa yx47, go_sem]
 refine AKev_backB (hnext1 _ _ (Option.some.inj h1).symm ?_)
 refine Weak.go [5, 7, 11, 12, 14, 16] [0, 1, 2] rfl ?_
 try simp only [L04_HeatShown.h0, c3, c4, aa yx6, c8, c10, c13, c14, c16, c17, c41, c42, c44, c45, aa yx47, c49, go_sem]
 try simp only [c49, c3, c4, aa yx6, c8, c10, c13, c14, c16, c17, c41, c42, c44, c45, aa yx47, go_sem]
 refine AKev_region T_ok follows_ok 1000 ?_
 try simp only [(by decide : inRange (1 : Int) 2 = some 1), c3, c4, aa yx6, c8, c10, c13, c14, c16, c17, c41, c42, c44, c45, aa yx47, c49, go_sem]
 obtain ⟨x50, yx50, h1⟩ := bs h1
 refine DG_call0 1000 (R01_Mod_ok k _ _ _ yx50) ?_ (by first | rfl | simp [AV.refsL, AV.refs, AV.scal, AV.leaf]) ?_
 try simp only [c3, c4, aa yx6, c8, c10, c13, c14, c16, c17, c41, c42, c44, c45, aa yx47, c49, go_sem]
 try simp only [c3, c4, aa yx6, c8, c10, c13, c14, c16, c17, c41, c42, c44, c45, aa yx47, c49, go_sem]
 obtain ⟨x51, yx51, h1⟩ := bs h1
 try simp only [aa yx51, c3, c4, aa yx6, c8, c10, c13, c14, c16, c17, c41, c42, c44, c45, aa yx47, c49, go_sem]
 obtain ⟨x52, yx52, h1⟩ := bs h1
 refine DG_call0 1000 (heat_Without_ok k _ _ _ yx52) ?_ (by first | rfl | simp [AV.refsL, AV.refs, AV.scal, AV.leaf]) ?_
 try simp only [c3, c4, aa yx6, c8, c10, c13, c14, c16, c17, c41, c42, c44, c45, aa yx47, c49, aa yx51, go_sem]
 try simp only [c3, c4, aa yx6, c8, c10, c13, c14, c16, c17, c41, c42, c44, c45, aa yx47, c49, aa yx51, go_sem]
 refine DG_done ⟨rfl, run_sound T_ok 1000 _ _ ?_⟩
 try simp only [c3, c4, aa yx6, c8, c10, c13, c14, c16, c17, c41, c42, c44, c45, aa yx47, c49, aa yx51, go_sem]
 obtain ⟨x53, yx53, h1⟩ := bs h1
 refine zc0 (heat_Bound_ok k _ _ _ yx53) ?_ (by first | rfl | simp [AV.refsL, AV.refs, AV.scal, AV.leaf]) ?_
 try simp only [c3, c4, aa yx6, c8, c10, c13, c14, c16, c17, c41, c42, c44, c45, aa yx47, c49, aa yx51, go_sem]
 try simp only [c3, c4, aa yx6, c8, c10, c13, c14, c16, c17, c41, c42, c44, c45, aa yx47, c49, aa yx51, go_sem]
 refine AKev_bif h1 ?_ ?_ <;> intro c54 h1
 try simp only [c54, c3, c4, aa yx6, c8, c10, c13, c14, c16, c17, c41, c42, c44, c45, aa yx47, c49, aa yx51, go_sem]
 refine AKev_bif h1 ?_ ?_ <;> intro c55 h1
 try simp only [c55, c3, c4, aa yx6, c8, c10, c13, c14, c16, c17, c41, c42, c44, c45, aa yx47, c49, aa yx51, c54, go_sem]
 refine AKev_bif h1 ?_ ?_ <;> intro c56 h1
 try simp only [c56, c3, c4, aa yx6, c8, c10, c13, c14, c16, c17, c41, c42, c44, c45, aa yx47, c49, aa yx51, c54, c55, go_sem]
 refine AKev_bif h1 ?_ ?_ <;> intro c57 h1
 try simp only [c57, c3, c4, aa yx6, c8, c10, c13, c14, c16, c17, c41, c42, c44, c45, aa yx47, c49, aa yx51, c54, c55, c56, go_sem]
 refine AKev_backB (hnext1 _ _ (Option.some.inj h1).symm ?_)
 refine Weak.go [5, 7, 11, 12, 14, 16] [0, 1, 2] rfl ?_
 try simp only [L04_HeatShown.h0, c3, c4, aa yx6, c8, c10, c13, c14, c16, c17, c41, c42, c44, c45, aa yx47, c49, aa yx51, c54, c55, c56, c57, go_sem]
 try simp only [c57, c3, c4, aa yx6, c8, c10, c13, c14, c16, c17, c41, c42, c44, c45, aa yx47, c49, aa yx51, c54, c55, c56, go_sem]
 obtain rfl := hret1 _ (Option.some.inj h1).symm
 simp only at h0
 obtain rfl := Option.some.inj h0
 refine AKev_ret rfl ?_
 try simp only [F9.rs, c3, c4, aa yx6, c8, c10, c13, c14, c16, c17, c41, c42, c44, c45, aa yx47, c49, aa yx51, c54, c55, c56, c57, go_sem]
 try simp only [c56, c3, c4, aa yx6, c8, c10, c13, c14, c16, c17, c41, c42, c44, c45, aa yx47, c49, aa yx51, c54, c55, go_sem]
 refine AKev_backB (hnext1 _ _ (Option.some.inj h1).symm ?_)
 refine Weak.go [5, 7, 11, 12, 14, 16] [0, 1, 2] rfl ?_
 try simp only [L04_HeatShown.h0, c3, c4, aa yx6, c8, c10, c13, c14, c16, c17, c41, c42, c44, c45, aa yx47, c49, aa yx51, c54, c55, c56, go_sem]
 try simp only [c55, c3, c4, aa yx6, c8, c10, c13, c14, c16, c17, c41, c42, c44, c45, aa yx47, c49, aa yx51, c54, go_sem]
 obtain rfl := hret1 _ (Option.some.inj h1).symm
 simp only at h0
 obtain rfl := Option.some.inj h0
 refine AKev_ret rfl ?_
 try simp only [F9.rs, c3, c4, aa yx6, c8, c10, c13, c14, c16, c17, c41, c42, c44, c45, aa yx47, c49, aa yx51, c54, c55, go_sem]
 try simp only [c54, c3, c4, aa yx6, c8, c10, c13, c14, c16, c17, c41, c42, c44, c45, aa yx47, c49, aa yx51, go_sem]
 obtain rfl := hret1 _ (Option.some.inj h1).symm
 simp only at h0
 obtain rfl := Option.some.inj h0
 refine AKev_ret rfl ?_
 try simp only [F9.rs, c3, c4, aa yx6, c8, c10, c13, c14, c16, c17, c41, c42, c44, c45, aa yx47, c49, aa yx51, c54, go_sem]
 have c45 := bnot_f c45
 try simp only [c45, c3, c4, aa yx6, c8, c10, c13, c14, c16, c17, c41, c42, c44, go_sem]
 refine AKev_backB (hnext1 _ _ (Option.some.inj h1).symm ?_)
 refine Weak.go [5, 7, 11, 12, 14, 16] [0, 1, 2] rfl ?_
 try simp only [L04_HeatShown.h0, c3, c4, aa yx6, c8, c10, c13, c14, c16, c17, c41, c42, c44, c45, go_sem]
 try simp only [c42, c3, c4, aa yx6, c8, c10, c13, c14, c16, c17, c41, go_sem]
 obtain rfl := hret1 _ (Option.some.inj h1).symm
 simp only at h0
 obtain rfl := Option.some.inj h0
 refine AKev_ret rfl ?_
 try simp only [F9.rs, c3, c4, aa yx6, c8, c10, c13, c14, c16, c17, c41, c42, go_sem]
 try simp only [c41, c3, c4, aa yx6, c8, c10, c13, c14, c16, c17, go_sem]
 obtain rfl := hret1 _ (Option.some.inj h1).symm
 simp only at h0
 obtain rfl := Option.some.inj h0
 refine AKev_ret rfl ?_
 try simp only [F9.rs, c3, c4, aa yx6, c8, c10, c13, c14, c16, c17, c41, go_sem]
 try simp only [c16, c3, c4, aa yx6, c8, c10, c13, c14, go_sem]
 refine AKev_backB (hbrk1 _ _ (Option.some.inj h1).symm ?_)
 refine Weak.go [] [] rfl ?_
 try simp only [L04_HeatShown.x0, c3, c4, aa yx6, c8, c10, c13, c14, c16, go_sem]
 rintro _ hr_
 subst hr_
 simp only at h0
 refine rS ?_
 try simp only [L04_HeatShown.x0, c3, c4, aa yx6, c8, c10, c13, c14, go_sem]
 obtain ⟨x59, yx59, h0⟩ := bs h0
 refine zc0 (L04_sane_ok k _ yx59) ?_ (by first | rfl | simp [AV.refsL, AV.refs, AV.scal, AV.leaf]) ?_
 try simp only [c3, c4, aa yx6, c8, c10, c13, c14, go_sem]
 try simp only [c3, c4, aa yx6, c8, c10, c13, c14, go_sem]
 obtain rfl := Option.some.inj h0
 refine AKev_ret rfl ?_
 try simp only [F9.rs, c3, c4, aa yx6, c8, c10, c13, c14, go_sem]
 try simp only [c13, c3, c4, aa yx6, c8, c10, go_sem]
 obtain rfl := Option.some.inj h0
 refine AKev_ret rfl ?_
 try simp only [F9.rs, c3, c4, aa yx6, c8, c10, c13, go_sem]
 have c8 := bnot_f c8
 try simp only [c8, c3, c4, aa yx6, go_sem]
 refine DG_done ⟨rfl, run_sound T_ok 1000 _ _ ?_⟩
 try simp only [c3, c4, aa yx6, c8, go_sem]
 obtain rfl := Option.some.inj h0
 refine AKev_ret rfl ?_
 try simp only [F9.rs, c3, c4, aa yx6, c8, go_sem]
 try simp only [c3, go_sem]
 obtain rfl := Option.some.inj h0
 refine AKev_ret rfl ?_
 try simp only [F9.rs, c3, go_sem]
end Go.Abs
namespace Go.Abs
open Go Go.Proofs Go.RowKit
set_option maxRecDepth 20000
def qB : Nat := reachBytes
theorem qB_le : qB ≤ 140737488351232 := by decide
theorem reads_3 : Reads qB Try.prog 3 eI i64ok := Reads.int Try.underlying3
theorem reads_52 : Reads qB Try.prog 52 (A2.c eI) (fun x : (A2 Int) => i64ok x.x0 ∧ i64ok x.x1) := (Reads.array Try.underlying52 (by kernel_rfl) (ReadsL.cons (off := 0) (sz := 1) (off' := 1) (tot := 2) rfl (by kernel_rfl) rfl reads_3 (ReadsL.cons (off := 1) (sz := 1) (off' := 2) (tot := 2) rfl (by kernel_rfl) rfl reads_3 (ReadsL.nil (off := 2) (tot := 2) (by decide))))).as (fun p => ⟨p.1, p.2.1⟩) (fun _ => rfl) (fun _ h => ⟨h.1, h.2.1⟩)
theorem reads_22 : Reads qB Try.prog 22 (eL 2 (A2.c eI)) (fun l => l.length ≤ Go.maxLen ∧ l.length * 16 ≤ qB ∧ ∀ a ∈ l, (fun x : (A2 Int) => i64ok x.x0 ∧ i64ok x.x1) a) := Reads.slice Try.underlying22 (by kernel_rfl) (by kernel_rfl) (by decide) reads_52
theorem reads_23 : Reads qB Try.prog 23 (eL 1 eI) (fun l => l.length ≤ Go.maxLen ∧ l.length * 8 ≤ qB ∧ ∀ a ∈ l, i64ok a) := Reads.slice Try.underlying23 (by kernel_rfl) (by kernel_rfl) (by decide) reads_3
theorem reads_90 : Reads qB Try.prog 90 (A4.c eI) (fun x : (A4 Int) => i64ok x.x0 ∧ i64ok x.x1 ∧ i64ok x.x2 ∧ i64ok x.x3) := (Reads.array Try.underlying90 (by kernel_rfl) (ReadsL.cons (off := 0) (sz := 1) (off' := 1) (tot := 4) rfl (by kernel_rfl) rfl reads_3 (ReadsL.cons (off := 1) (sz := 1) (off' := 2) (tot := 4) rfl (by kernel_rfl) rfl reads_3 (ReadsL.cons (off := 2) (sz := 1) (off' := 3) (tot := 4) rfl (by kernel_rfl) rfl reads_3 (ReadsL.cons (off := 3) (sz := 1) (off' := 4) (tot := 4) rfl (by kernel_rfl) rfl reads_3 (ReadsL.nil (off := 4) (tot := 4) (by decide))))))).as (fun p => ⟨p.1, p.2.1, p.2.2.1, p.2.2.2.1⟩) (fun _ => rfl) (fun _ h => ⟨h.1, h.2.1, h.2.2.1, h.2.2.2.1⟩)
theorem reads_24 : Reads qB Try.prog 24 (eL 4 (A4.c eI)) (fun l => l.length ≤ Go.maxLen ∧ l.length * 32 ≤ qB ∧ ∀ a ∈ l, (fun x : (A4 Int) => i64ok x.x0 ∧ i64ok x.x1 ∧ i64ok x.x2 ∧ i64ok x.x3) a) := Reads.slice Try.underlying24 (by kernel_rfl) (by kernel_rfl) (by decide) reads_90
def R04_Raw.q (x : R04_Raw) : Prop := i64ok x.Mouths ∧ i64ok x.Places ∧ (fun l => l.length ≤ Go.maxLen ∧ l.length * 16 ≤ qB ∧ ∀ a ∈ l, (fun x : (A2 Int) => i64ok x.x0 ∧ i64ok x.x1) a) x.Falls ∧ (fun l => l.length ≤ Go.maxLen ∧ l.length * 8 ≤ qB ∧ ∀ a ∈ l, i64ok a) x.Heats ∧ (fun l => l.length ≤ Go.maxLen ∧ l.length * 32 ≤ qB ∧ ∀ a ∈ l, (fun x : (A4 Int) => i64ok x.x0 ∧ i64ok x.x1 ∧ i64ok x.x2 ∧ i64ok x.x3) a) x.Readings
theorem reads_26 : Reads qB Try.prog 26 R04_Raw.c R04_Raw.q := (Reads.struct Try.underlying26 (by kernel_rfl) (ReadsL.cons (off := 0) (sz := 1) (off' := 1) (tot := 5) rfl (by kernel_rfl) rfl reads_3 (ReadsL.cons (off := 1) (sz := 1) (off' := 2) (tot := 5) rfl (by kernel_rfl) rfl reads_3 (ReadsL.cons (off := 2) (sz := 1) (off' := 3) (tot := 5) rfl (by kernel_rfl) rfl reads_22 (ReadsL.cons (off := 3) (sz := 1) (off' := 4) (tot := 5) rfl (by kernel_rfl) rfl reads_23 (ReadsL.cons (off := 4) (sz := 1) (off' := 5) (tot := 5) rfl (by kernel_rfl) rfl reads_24 (ReadsL.nil (off := 5) (tot := 5) (by decide)))))))).as (fun p => ⟨p.1, p.2.1, p.2.2.1, p.2.2.2.1, p.2.2.2.2.1⟩) (fun _ => rfl) (fun _ h => ⟨h.1, h.2.1, h.2.2.1, h.2.2.2.1, h.2.2.2.2.1⟩)
def Range.q (x : Range) : Prop := i64ok x.Lo ∧ i64ok x.Hi
def Kiln.q (x : Kiln) : Prop := (fun l => l.length ≤ Go.maxLen ∧ l.length * 24 ≤ qB ∧ ∀ a ∈ l, (fun l => l.length ≤ Go.maxLen ∧ l.length * 16 ≤ qB ∧ ∀ a ∈ l, Range.q a) a) x.Falls
def Reading.q (x : Reading) : Prop := i64ok x.Source ∧ i64ok x.Place ∧ i64ok x.Kind ∧ i64ok x.Mark ∧ Range.q x.Heat
def Firing.q (x : Firing) : Prop := Kiln.q x.Kiln ∧ (fun l => l.length ≤ Go.maxLen ∧ l.length * 48 ≤ qB ∧ ∀ a ∈ l, Reading.q a) x.Readings
def L04_Told.q (x : L04_Told) : Prop := i64ok x.Place ∧ i64ok x.N ∧ (fun _ => True) x.High
def HeatProof.q (x : HeatProof) : Prop := i64ok x.Reading ∧ (fun l => l.length ≤ Go.maxLen ∧ l.length * 8 ≤ qB ∧ ∀ a ∈ l, i64ok a) x.By
theorem reads_51 : Reads qB Try.prog 51 HeatProof.c HeatProof.q := (Reads.struct Try.underlying51 (by kernel_rfl) (ReadsL.cons (off := 0) (sz := 1) (off' := 1) (tot := 2) rfl (by kernel_rfl) rfl reads_3 (ReadsL.cons (off := 1) (sz := 1) (off' := 2) (tot := 2) rfl (by kernel_rfl) rfl reads_23 (ReadsL.nil (off := 2) (tot := 2) (by decide))))).as (fun p => ⟨p.1, p.2.1⟩) (fun _ => rfl) (fun _ h => ⟨h.1, h.2.1⟩)
end Go.Abs
namespace Go.Abs
open Go
set_option linter.unusedVariables false
theorem at_getD {α : Type} (d : α) {l : List α} {i : Int} (h0 : 0 ≤ i) (h1 : i < l.length) : at? l i = some (l.getD i.toNat d) := by
 unfold at?
 rw [if_pos ⟨h0, by omega⟩]
 rw [List.getElem?_eq_getElem (by omega), List.getD_eq_getElem?_getD, List.getElem?_eq_getElem (by omega)]
 rfl
theorem at_nat {α : Type} (d : α) {l : List α} {i : Nat} (h1 : i < l.length) : at? l (i : Int) = some (l.getD i d) := by
 have := at_getD d (l := l) (i := (i : Int)) (by omega) (by omega)
 simpa using this
theorem getD_mem {α : Type} (d : α) {l : List α} {i : Nat} (h : i < l.length) : l.getD i d ∈ l := by
 rw [List.getD_eq_getElem?_getD, List.getElem?_eq_getElem h]
 exact List.getElem_mem h
theorem getD_none {α : Type} {d : α} {l : List α} {i : Nat} (h : l.length ≤ i) : l.getD i d = d := by
 rw [List.getD_eq_getElem?_getD, List.getElem?_eq_none h]; rfl
theorem getD_of {α : Type} (d : α) {l : List α} {i : Nat} {x : α} (h : l[i]? = some x) : l.getD i d = x := by
 rw [List.getD_eq_getElem?_getD, h]; rfl
theorem range_drop_cons {i d : Nat} : (List.range' i (d + 1)) = i :: List.range' (i + 1) d := by
 rw [List.range'_succ]
theorem whl_eachN {R : Type} {body : Int → Option (Stp Int Unit R)} {n : Nat} {f : Nat → Option R} (hn : n ≤ 9223372036854775807) {k : Nat} (hk : n < k)
  (h1 : ∀ i, i < n → body (i : Int) = some (match f i with | some r => .ret r | none => .next (w64 ((i : Int) + 1)))) (h2 : body (n : Int) = some (.brk ())) :
  whl body k 0 = some (match (List.range n).findSome? f with | some r => .ret r | none => .brk ()) := by
 have h := whl_for (body := body) (n := n) (g := f) hn h1 h2 k n 0 (by omega) hk
 rw [Int.natCast_zero] at h
 rw [h]
 have key : ∀ d i, scan f i d = (List.range' i d).findSome? f := by
  intro d
  induction d with
  | zero => intro i; rfl
  | succ d ih =>
   intro i
   rw [range_drop_cons, List.findSome?_cons, scan, ih]
   cases f i <;> rfl
 rw [key, List.range_eq_range']
 cases (List.range' 0 n).findSome? f <;> rfl
theorem whl_allN {R : Type} {body : Int → Option (Stp Int Unit R)} {n : Nat} {p : Nat → Bool} {c : R} (hn : n ≤ 9223372036854775807) {k : Nat} (hk : n < k)
  (h1 : ∀ i, i < n → body (i : Int) = some (bif p i then .next (w64 ((i : Int) + 1)) else .ret c)) (h2 : body (n : Int) = some (.brk ())) :
  whl body k 0 = some (bif (List.range n).all p then .brk () else .ret c) := by
 have h := whl_eachN (body := body) (n := n) (f := fun i => bif p i then none else some c) hn hk (fun i hi => by rw [h1 i hi]; cases p i <;> rfl) h2
 rw [h]
 have : ∀ l : List Nat, l.findSome? (fun i => bif p i then none else some c) = bif l.all p then none else some c := by
  intro l
  induction l with
  | nil => rfl
  | cons x l ih =>
   rw [List.findSome?_cons, List.all_cons]
   cases hp : p x with
   | true => simpa using ih
   | false => simp
 rw [this]
 cases (List.range n).all p <;> rfl
theorem whl_allL {α R : Type} {l : List α} {body : Int → Option (Stp Int Unit R)} {p : α → Bool} {c : R} (hn : l.length ≤ 9223372036854775807) {k : Nat} (hk : l.length < k)
  (h1 : ∀ (i : Nat) x, l[i]? = some x → body (i : Int) = some (bif p x then .next (w64 ((i : Int) + 1)) else .ret c)) (h2 : body (l.length : Int) = some (.brk ())) :
  whl body k 0 = some (bif l.all p then .brk () else .ret c) := by
 have h := whl_each (body := body) (l := l) (f := fun i => bif p i then none else some c) hn hk (fun i x hi => by rw [h1 i x hi]; cases p x <;> rfl) h2
 rw [h]
 have : l.findSome? (fun i => bif p i then none else some c) = bif l.all p then none else some c := by
  clear h h1 h2 hn hk
  induction l with
  | nil => rfl
  | cons x l ih =>
   rw [List.findSome?_cons, List.all_cons]
   cases hp : p x with
   | true => simpa using ih
   | false => simp
 rw [this]
 cases l.all p <;> rfl
theorem whl_foldN {S R τ : Type} {n : Nat} {body : τ → Option (Stp τ S R)} (mk : Int → S → τ) (f : S → Nat → S) (Inv : Nat → S → Prop) (hn : n ≤ 9223372036854775807) {k : Nat} (hk : n < k) {s0 : S} (h0 : Inv 0 s0)
  (h1 : ∀ i s, i < n → Inv i s → body (mk (i : Int) s) = some (.next (mk (w64 ((i : Int) + 1)) (f s i))) ∧ Inv (i + 1) (f s i)) (h2 : ∀ s, Inv n s → body (mk (n : Int) s) = some (.brk s)) :
  whl body k (mk 0 s0) = some (.brk ((List.range n).foldl f s0)) ∧ Inv n ((List.range n).foldl f s0) := by
 have h := whl_fold (l := List.range n) (body := body) mk f Inv (by simpa using hn) (k := k) (by simpa using hk) h0 (fun i x s hx hI => by
  have hi : i < n := by have := (List.getElem?_eq_some_iff.1 hx).1; simpa using this
  have e : x = i := by have := hx; rw [List.getElem?_range hi] at this; exact (Option.some.inj this).symm
  subst e
  exact h1 x s hi hI) (fun s hI => by have := h2 s (by simpa using hI); simpa using this)
 exact ⟨h.1, by simpa using h.2⟩
theorem foldl_pushN {α : Type} (g : Nat → α) : ∀ (l : List Nat) (s : List α), l.foldl (fun s i => s ++ [g i]) s = s ++ l.map g
 | [], s => by simp
 | x :: l, s => by simp [foldl_pushN g l]
end Go.Abs
namespace Go.Abs
set_option linter.unusedVariables false
def mx (f : Nat → Int) : Nat → Int
 | 0 => f 0
 | n + 1 => max (mx f n) (f (n + 1))
theorem mx_le_iff (f : Nat → Int) (t : Int) : ∀ n, mx f n ≤ t ↔ ∀ j, j ≤ n → f j ≤ t
 | 0 => ⟨fun h j hj => by have h0 : j = 0 := Nat.le_zero.1 hj; subst h0; exact h, fun h => h 0 (Nat.le_refl _)⟩
 | n + 1 => by
  rw [mx, Int.max_le, mx_le_iff f t n]
  constructor
  ·rintro ⟨h1, h2⟩ j hj
   rcases Nat.lt_or_ge n j with h | h
   ·obtain rfl : j = n + 1 := by omega
    exact h2
   ·exact h1 j h
  ·exact fun h => ⟨fun j hj => h j (by omega), h _ (Nat.le_refl _)⟩
theorem le_mx_iff (f : Nat → Int) (t : Int) : ∀ n, t ≤ mx f n ↔ ∃ j, j ≤ n ∧ t ≤ f j
 | 0 => ⟨fun h => ⟨0, Nat.le_refl _, h⟩, fun ⟨j, hj, h⟩ => by have h0 : j = 0 := Nat.le_zero.1 hj; subst h0; exact h⟩
 | n + 1 => by
  rw [mx, show t ≤ max (mx f n) (f (n + 1)) ↔ t ≤ mx f n ∨ t ≤ f (n + 1) by omega, le_mx_iff f t n]
  constructor
  ·rintro (⟨j, h1, h2⟩ | h)
   ·exact ⟨j, by omega, h2⟩
   ·exact ⟨n + 1, Nat.le_refl _, h⟩
  ·rintro ⟨j, h1, h2⟩
   rcases Nat.lt_or_ge n j with h | h
   ·obtain rfl : j = n + 1 := by omega
    exact .inr h2
   ·exact .inl ⟨j, h, h2⟩
theorem eq_of_le_iff {a b : Int} (h : ∀ t, t ≤ a ↔ t ≤ b) : a = b := by
 have h1 := (h a).1 (Int.le_refl _)
 have h2 := (h b).2 (Int.le_refl _)
 omega
theorem eq_of_ge_iff {a b : Int} (h : ∀ t, a ≤ t ↔ b ≤ t) : a = b := by
 have h1 := (h a).1 (Int.le_refl _)
 have h2 := (h b).2 (Int.le_refl _)
 omega
structure Fur where
 m : Nat
 lo : Nat → Nat → Int
 hi : Nat → Nat → Int
 L : List (Nat × Int)
 M : List (Nat × Int)
namespace Fur
def Ok (f : Fur) : Prop := ∀ j p, 0 ≤ f.lo j p ∧ f.lo j p ≤ f.hi j p ∧ f.hi j p ≤ 3000
def U (f : Fur) (j : Nat) : Int := f.M.foldl (fun n x => min n (x.2 + f.hi j x.1)) 3000
theorem U_iff (f : Fur) (j : Nat) (t : Int) : t ≤ f.U j ↔ t ≤ 3000 ∧ ∀ x ∈ f.M, t ≤ x.2 + f.hi j x.1 := by
 have key : ∀ (M : List (Nat × Int)) (a : Int), t ≤ M.foldl (fun n x => min n (x.2 + f.hi j x.1)) a ↔ t ≤ a ∧ ∀ x ∈ M, t ≤ x.2 + f.hi j x.1 := by
  intro M
  induction M with
  | nil => simp
  | cons y M ih =>
   intro a
   rw [List.foldl_cons, ih, Int.le_min]
   simp only [List.forall_mem_cons, and_assoc]
 exact key _ _
theorem U_le (f : Fur) (j : Nat) : f.U j ≤ 3000 := ((f.U_iff j _).1 (Int.le_refl _)).1
theorem U_lim (f : Fur) (j : Nat) {x : Nat × Int} (h : x ∈ f.M) : f.U j ≤ x.2 + f.hi j x.1 := ((f.U_iff j _).1 (Int.le_refl _)).2 x h
def Sound (f : Fur) : Prop :=
 (∀ j, j ≤ f.m → 0 ≤ f.U j) ∧ ∀ x ∈ f.L, (∀ y ∈ f.M, y.1 = x.1 → x.2 ≤ y.2) ∧ ∃ j, j ≤ f.m ∧ x.2 + f.lo j x.1 ≤ f.U j
def High (f : Fur) (q : Nat) (t : Int) : Prop := (∃ j, j ≤ f.m ∧ t + f.lo j q ≤ f.U j) ∧ ∀ y ∈ f.M, y.1 = q → t ≤ y.2
def Low (f : Fur) (q : Nat) (t : Int) : Prop :=
 (∀ j, j ≤ f.m → -f.hi j q ≤ t) ∧ (∀ x ∈ f.L, x.1 = q → x.2 ≤ t) ∧ ∀ x ∈ f.L, x.1 ≠ q → ∃ j, j ≤ f.m ∧ x.2 + f.lo j x.1 ≤ f.U j ∧ x.2 + f.lo j x.1 - f.hi j q ≤ t
def IsField (f : Fur) (u : Nat → Int) (d : Nat → Nat → Int) : Prop := ∀ j, j ≤ f.m → 0 ≤ u j ∧ u j ≤ 3000 ∧ ∀ p, f.lo j p ≤ d j p ∧ d j p ≤ f.hi j p
def heat (f : Fur) (u : Nat → Int) (d : Nat → Nat → Int) (p : Nat) : Int := mx (fun j => u j - d j p) f.m
def Agrees (f : Fur) (u : Nat → Int) (d : Nat → Nat → Int) : Prop :=
 (∀ x ∈ f.L, x.2 ≤ f.heat u d x.1) ∧ ∀ y ∈ f.M, f.heat u d y.1 ≤ y.2
theorem Agrees.u {f : Fur} {u d} (hF : f.IsField u d) (h : f.Agrees u d) (j : Nat) (hj : j ≤ f.m) : u j ≤ f.U j := by
 rw [U_iff]
 refine ⟨(hF j hj).2.1, fun x hx => ?_⟩
 have h1 := (mx_le_iff _ _ _).1 (h.2 x hx) j hj
 have h2 := (hF j hj).2.2 x.1
 omega
theorem Agrees.high {f : Fur} {u d} (hF : f.IsField u d) (h : f.Agrees u d) (p : Nat) : f.High p (f.heat u d p) := by
 refine ⟨?_, fun y hy e => e ▸ h.2 y hy⟩
 obtain ⟨j, h1, h2⟩ := (le_mx_iff _ _ _).1 (Int.le_refl (f.heat u d p))
 refine ⟨j, h1, ?_⟩
 have h3 := h.u hF j h1
 have h4 := (hF j h1).2.2 p
 omega
theorem Agrees.low {f : Fur} {u d} (hF : f.IsField u d) (h : f.Agrees u d) (p : Nat) : f.Low p (f.heat u d p) := by
 have hm := (mx_le_iff (fun j => u j - d j p) (f.heat u d p) f.m).1 (Int.le_refl _)
 refine ⟨fun j hj => ?_, fun x hx e => e ▸ h.1 x hx, fun x hx _ => ?_⟩
 ·have h1 := hm j hj
  have h2 := hF j hj
  have h3 := h2.2.2 p
  omega
 ·obtain ⟨j, h1, h2⟩ := (le_mx_iff _ _ _).1 (h.1 x hx)
  have h3 := h.u hF j h1
  have h4 := (hF j h1).2.2 x.1
  have h5 := (hF j h1).2.2 p
  have h6 := hm j h1
  exact ⟨j, h1, by omega, by omega⟩
theorem Agrees.sound {f : Fur} {u d} (hF : f.IsField u d) (h : f.Agrees u d) : f.Sound := by
 refine ⟨fun j hj => Int.le_trans (hF j hj).1 (h.u hF j hj), fun x hx => ⟨fun y hy e => ?_, ?_⟩⟩
 ·have h1 := h.1 x hx
  have h2 := h.2 y hy
  rw [e] at h2
  omega
 ·obtain ⟨j, h1, h2⟩ := (le_mx_iff _ _ _).1 (h.1 x hx)
  have h3 := h.u hF j h1
  have h4 := (hF j h1).2.2 x.1
  exact ⟨j, h1, by omega⟩
def bst (p : Nat) (o : Option Int) (x : Nat × Int) : Option Int := if x.1 = p then some (match o with | none => x.2 | some n => min n x.2) else o
def best (M : List (Nat × Int)) (p : Nat) : Option Int := M.foldl (bst p) none
theorem best_iff (M : List (Nat × Int)) (p : Nat) : (best M p = none ↔ ∀ y ∈ M, y.1 ≠ p) ∧ ∀ n, best M p = some n → (∀ t, t ≤ n ↔ ∀ y ∈ M, y.1 = p → t ≤ y.2) ∧ ∃ y ∈ M, y.1 = p ∧ y.2 = n := by
 have key : ∀ (M K : List (Nat × Int)) (o : Option Int), ((o = none ↔ ∀ y ∈ K, y.1 ≠ p) ∧ ∀ n, o = some n → (∀ t, t ≤ n ↔ ∀ y ∈ K, y.1 = p → t ≤ y.2) ∧ ∃ y ∈ K, y.1 = p ∧ y.2 = n) →
   ((M.foldl (bst p) o = none ↔ ∀ y ∈ K ++ M, y.1 ≠ p) ∧ ∀ n, M.foldl (bst p) o = some n → (∀ t, t ≤ n ↔ ∀ y ∈ K ++ M, y.1 = p → t ≤ y.2) ∧ ∃ y ∈ K ++ M, y.1 = p ∧ y.2 = n) := by
  intro M
  induction M with
  | nil => intro K o h; simpa using h
  | cons x M ih =>
   intro K o h
   have h2 := ih (K ++ [x]) (bst p o x) ?_
   ·simpa only [List.append_assoc, List.cons_append, List.nil_append, List.foldl_cons] using h2
   ·by_cases hx : x.1 = p
    ·simp only [bst, hx, if_true]
     refine ⟨?_, fun n hn => ?_⟩
     ·constructor
      ·intro h; cases h
      ·intro h; exact absurd hx (h x (by simp))
     ·cases o with
      | none =>
       simp only [Option.some.injEq] at hn
       have h3 := h.1.1 rfl
       refine ⟨fun t => ⟨fun ht y hy e => ?_, fun ht => ?_⟩, x, by simp, hx, hn⟩
       ·rcases List.mem_append.1 hy with hy | hy
        ·exact absurd e (h3 y hy)
        ·simp only [List.mem_singleton] at hy; subst hy; omega
       ·have := ht x (by simp) hx; omega
      | some n0 =>
       simp only [Option.some.injEq] at hn
       obtain ⟨h3, y0, h4, h5, h6⟩ := h.2 n0 rfl
       refine ⟨fun t => ⟨fun ht y hy e => ?_, fun ht => ?_⟩, ?_⟩
       ·rcases List.mem_append.1 hy with hy | hy
        ·exact (h3 t).1 (by omega) y hy e
        ·simp only [List.mem_singleton] at hy; subst hy; omega
       ·have h7 := (h3 t).2 (fun y hy e => ht y (by simp [hy]) e)
        have h8 := ht x (by simp) hx
        omega
       ·by_cases hlt : n0 ≤ x.2
        ·exact ⟨y0, by simp [h4], h5, by omega⟩
        ·exact ⟨x, by simp, hx, by omega⟩
    ·simp only [bst, hx, if_false]
     refine ⟨?_, fun n hn => ?_⟩
     ·rw [h.1]
      constructor
      ·intro g y hy
       rcases List.mem_append.1 hy with hy | hy
       ·exact g y hy
       ·simp only [List.mem_singleton] at hy; subst hy; exact hx
      ·intro g y hy; exact g y (by simp [hy])
     ·obtain ⟨h3, y0, h4, h5, h6⟩ := h.2 n hn
      refine ⟨fun t => ?_, y0, by simp [h4], h5, h6⟩
      rw [h3]
      constructor
      ·intro g y hy e
       rcases List.mem_append.1 hy with hy | hy
       ·exact g y hy e
       ·simp only [List.mem_singleton] at hy; subst hy; exact absurd e hx
      ·intro g y hy e; exact g y (by simp [hy]) e
 have := key M [] none (by simp)
 simpa [best] using this
end Fur
end Go.Abs
namespace Go.Abs
set_option linter.unusedVariables false
namespace Fur
def Small (f : Fur) (P : Nat) : Prop := (∀ x ∈ f.L, x.1 < P ∧ -3000 ≤ x.2 ∧ x.2 ≤ 3000) ∧ ∀ x ∈ f.M, x.1 < P ∧ -3000 ≤ x.2 ∧ x.2 ≤ 3000
structure Lims (f : Fur) (P : Nat) (a b : Nat → Int) : Prop where
 hk : f.Ok
 sm : f.Small P
 A : ∀ p t, p < P → (a p ≤ t ↔ -1000000 ≤ t ∧ ∀ x ∈ f.L, x.1 = p → x.2 ≤ t)
 B : ∀ p t, p < P → (t ≤ b p ↔ t ≤ 1000000 ∧ ∀ y ∈ f.M, y.1 = p → t ≤ y.2)
namespace Lims
variable {f : Fur} {P : Nat} {a b : Nat → Int}
theorem b_le (h : Lims f P a b) {p : Nat} (hp : p < P) : b p ≤ 1000000 := ((h.B p _ hp).1 (Int.le_refl _)).1
theorem b_lim (h : Lims f P a b) {y : Nat × Int} (hy : y ∈ f.M) : b y.1 ≤ y.2 := ((h.B y.1 _ (h.sm.2 y hy).1).1 (Int.le_refl _)).2 y hy rfl
theorem b_att (h : Lims f P a b) {p : Nat} (hp : p < P) (hn : b p ≠ 1000000) : ∃ x ∈ f.M, x.1 = p ∧ x.2 = b p := by
 by_cases hc : ∃ x ∈ f.M, x.1 = p ∧ x.2 = b p
 ·exact hc
 ·exfalso
  have h0 := h.b_le hp
  have : b p + 1 ≤ b p := by
   rw [h.B p _ hp]
   refine ⟨by omega, fun x hx e => ?_⟩
   have h1 := h.b_lim hx
   rw [e] at h1
   have h2 : x.2 ≠ b p := fun e2 => hc ⟨x, hx, e, e2⟩
   omega
  omega
theorem U_iff (h : Lims f P a b) (j : Nat) (t : Int) : t ≤ f.U j ↔ t ≤ 3000 ∧ ∀ p, p < P → b p < 1000000 → t ≤ b p + f.hi j p := by
 rw [Fur.U_iff]
 constructor
 ·rintro ⟨h1, h2⟩
  refine ⟨h1, fun p hp hb => ?_⟩
  obtain ⟨y, hy, e, e2⟩ := h.b_att hp (by omega)
  have := h2 y hy
  rw [e, e2] at this
  exact this
 ·rintro ⟨h1, h2⟩
  refine ⟨h1, fun y hy => ?_⟩
  have h3 := h.b_lim hy
  have h4 := h.sm.2 y hy
  have := h2 y.1 h4.1 (by omega)
  omega
end Lims
end Fur
end Go.Abs
namespace Go.Abs
open Go
set_option linter.unusedVariables false
def KK : Nat := 18446744073709551616
theorem KK_big {n : Nat} (h : n ≤ Go.maxLen) : n < KK := by unfold KK; unfold Go.maxLen at h; omega
def Kiln.s (a : Kiln) : Prop := a.Falls.length ≤ Go.maxLen ∧ ∀ x ∈ a.Falls, x.length ≤ Go.maxLen
def Firing.s (f : Firing) : Prop := Kiln.s f.Kiln ∧ f.Readings.length ≤ Go.maxLen
theorem Kiln.q.s {a : Kiln} (q : Kiln.q a) : Kiln.s a := ⟨q.1, fun x hx => (q.2.2 x hx).1⟩
theorem Firing.q.s {f : Firing} (q : Firing.q f) : Firing.s f := ⟨q.1.s, q.2.1⟩
theorem maxLen_le {n : Nat} (h : n ≤ Go.maxLen) : n ≤ 9223372036854775807 := by unfold Go.maxLen at h; omega
theorem sane_KK : L04_sane KK = some true := by unfold KK; decide +kernel
set_option maxRecDepth 10000
def inB (n lo hi : Int) : Bool := decide (lo ≤ n) && decide (n ≤ hi)
theorem heat_in_eq (k : Nat) (n lo hi : Int) : heat_in k n lo hi = some (inB n lo hi) := by
 unfold heat_in inB; cases decide (lo ≤ n) <;> rfl
def rangeB (r : Range) (lo hi : Int) : Bool := decide (lo ≤ r.Lo) && (decide (r.Lo ≤ r.Hi) && decide (r.Hi ≤ hi))
def readB (places : Int) (r : Reading) : Bool :=
 inB r.Source 1 99999 && (inB r.Place 0 (w64 (places - 1)) &&
  (bif decide (r.Kind = (1 : Int)) then (inB r.Mark 1 2000 && (decide (r.Heat.Lo = (0 : Int)) && decide (r.Heat.Hi = (0 : Int))))
  else bif decide (r.Kind = (2 : Int)) then (inB r.Mark 1 2000 && (decide (r.Heat.Lo = (0 : Int)) && decide (r.Heat.Hi = (0 : Int))))
  else bif decide (r.Kind = (3 : Int)) then (decide (r.Mark = (0 : Int)) && rangeB r.Heat 1 2000) else false))
theorem heat_isReading_eq (k : Nat) (places : Int) (r : Reading) : heat_isReading k places r = some (readB places r) := by
 unfold heat_isReading readB rangeB
 simp only [heat_in_eq, Option.bind_some]
 cases inB r.Source 1 99999 <;> cases inB r.Place 0 (w64 (places - 1)) <;> cases decide (r.Kind = (1 : Int)) <;> cases decide (r.Kind = (2 : Int)) <;> cases decide (r.Kind = (3 : Int)) <;> cases inB r.Mark 1 2000 <;> cases decide (r.Mark = (0 : Int)) <;> cases decide ((1 : Int) ≤ r.Heat.Lo) <;> cases decide (r.Heat.Lo ≤ r.Heat.Hi) <;> rfl
theorem findSome_bif {α R : Type} (p : α → Bool) (c : R) : ∀ l : List α, l.findSome? (fun x => bif p x then none else some c) = bif l.all p then none else some c
 | [] => rfl
 | x :: l => by
  rw [List.findSome?_cons, List.all_cons]
  cases h : p x with
  | true => simp [findSome_bif p c l]
  | false => simp
theorem lt_dec {i n : Nat} (h : i < n) : decide ((i : Int) < (n : Int)) = true := by simp; omega
theorem lt_dec_self (n : Nat) : decide ((n : Int) < (n : Int)) = false := by simp
theorem len_dec {α β : Type} (a : List α) (b : List β) : decide ((a.length : Int) = (b.length : Int)) = decide (a.length = b.length) := by
 by_cases h : a.length = b.length
 ·simp [h]
 ·have : ¬ ((a.length : Int) = (b.length : Int)) := by omega
  simp [h, this]
def kilnB (a : Kiln) : Bool := inB a.Falls.length 1 6 && (inB (a.Falls.headD []).length 1 24 && a.Falls.all fun l => decide (l.length = (a.Falls.headD []).length) && l.all fun r => rangeB r 0 3000)
theorem bad_eq (k : Nat) (r : Range) : heat_CheckKiln_1 k r = some (!rangeB r 0 3000) := by
 unfold heat_CheckKiln_1 rangeB
 have h1 : decide (r.Lo < (0 : Int)) = !decide (0 ≤ r.Lo) := by by_cases h : 0 ≤ r.Lo <;> simp [h] <;> omega
 have h2 : decide (r.Hi < r.Lo) = !decide (r.Lo ≤ r.Hi) := by by_cases h : r.Lo ≤ r.Hi <;> simp [h] <;> omega
 have h3 : decide ((3000 : Int) < r.Hi) = !decide (r.Hi ≤ 3000) := by by_cases h : r.Hi ≤ 3000 <;> simp [h] <;> omega
 rw [h1, h2, h3]
 cases decide (0 ≤ r.Lo) <;> cases decide (r.Lo ≤ r.Hi) <;> rfl
theorem contains_Range {l : List Range} (hl : l.length ≤ Go.maxLen) {f : Range → Option Bool} {p : Range → Bool} (hf : ∀ x, f x = some (p x)) : slices_ContainsFunc_api_Range KK l f = some (l.any p) := by
 unfold slices_ContainsFunc_api_Range slices_IndexFunc_api_Range
 rw [indexFunc_gen (body := slices_IndexFunc_api_Range.b0 KK f l) (p := p) (fun x _ => hf x) (maxLen_le hl) (KK_big hl) rfl]
 have : l.any p = (l.findIdx? p).isSome := by rw [List.findIdx?_isSome]
 rw [this]
 cases l.findIdx? p with
 | none => rfl
 | some i => simp
theorem heat_CheckKiln_eq (a : Kiln) (q : Kiln.s a) : heat_CheckKiln KK a = some (bif kilnB a then 0 else 40) := by
 obtain ⟨q1, q2⟩ := q
 unfold heat_CheckKiln kilnB
 simp only [heat_in_eq, Option.bind_some]
 cases h0 : inB (a.Falls.length : Int) 1 6 with
 | false => rfl
 | true =>
  obtain ⟨x3, hx⟩ : ∃ x3, a.Falls[0]? = some x3 := by
   have : 0 < a.Falls.length := by simp [inB] at h0; omega
   exact ⟨_, List.getElem?_eq_getElem this⟩
  have hd : a.Falls.headD [] = x3 := by cases hF : a.Falls with | nil => rw [hF] at hx; cases hx | cons y l => rw [hF] at hx; simpa using hx
  have ha : at? a.Falls 0 = some x3 := by have := at_of hx; simpa using this
  simp only [ha, hd, cond_true, Option.bind_some, Bool.true_and]
  cases h1 : inB (x3.length : Int) 1 24 with
  | false => rfl
  | true =>
   simp only [Bool.not_true, cond_false, Bool.true_and]
   rw [whl_each (l := a.Falls) (f := fun l => bif (decide (l.length = x3.length) && l.all fun r => rangeB r 0 3000) then none else some 40) (maxLen_le q1) (KK_big q1) ?_ ?_]
   ·rw [findSome_bif]
    cases a.Falls.all _ <;> rfl
   ·intro i x hx
    have hi : i < a.Falls.length := (List.getElem?_eq_some_iff.1 hx).1
    unfold heat_CheckKiln.b0
    rw [lt_dec hi, at_of hx]
    simp only [cond_true, Option.bind_some, len_dec]
    rw [contains_Range (q2 x (List.mem_of_getElem? hx)) (fun r => bad_eq KK r)]
    have : (x.any fun r => !rangeB r 0 3000) = !(x.all fun r => rangeB r 0 3000) := by simp [List.all_eq_not_any_not]
    rw [this]
    cases decide (x.length = x3.length) <;> cases (x.all fun r => rangeB r 0 3000) <;> rfl
   ·unfold heat_CheckKiln.b0
    rw [lt_dec_self]; rfl
theorem kilnB_head {a : Kiln} (h : kilnB a = true) : ∃ x3, a.Falls[0]? = some x3 ∧ at? a.Falls 0 = some x3 ∧ a.Falls.headD [] = x3 := by
 have hpos : 0 < a.Falls.length := by simp [kilnB, inB] at h; omega
 obtain ⟨x3, hx⟩ : ∃ x3, a.Falls[0]? = some x3 := ⟨_, List.getElem?_eq_getElem hpos⟩
 exact ⟨x3, hx, by have := at_of hx; simpa using this, by cases hF : a.Falls with | nil => rw [hF] at hx; cases hx | cons y l => rw [hF] at hx; simpa using hx⟩
def firingCode (f : Firing) : Int := bif kilnB f.Kiln then (bif decide ((60 : Int) < (f.Readings.length : Int)) then 2 else bif f.Readings.all (readB ((f.Kiln.Falls.headD []).length : Int)) then 0 else 41) else 40
theorem heat_Check_eq (f : Firing) (q : Firing.s f) : heat_Check KK f = some (firingCode f) := by
 obtain ⟨q1, q2⟩ := q
 unfold heat_Check firingCode
 rw [heat_CheckKiln_eq _ q1]
 cases h : kilnB f.Kiln with
 | false => rfl
 | true =>
  obtain ⟨x3, h1, h2, h3⟩ := kilnB_head h
  simp only [Option.bind_some, cond_true, h3]
  simp only [decide_true, Bool.not_true, cond_false]
  cases decide ((60 : Int) < (f.Readings.length : Int)) with
  | true => rfl
  | false =>
   simp only [cond_false]
   rw [whl_each (l := f.Readings) (f := fun r => bif readB (x3.length : Int) r then none else some 41) (maxLen_le q2) (KK_big q2) ?_ ?_]
   ·rw [findSome_bif]
    have : (f.Readings.all fun r => readB (x3.length : Int) r) = f.Readings.all (readB (x3.length : Int)) := rfl
    rw [this]
    cases f.Readings.all (readB (x3.length : Int)) <;> rfl
   ·intro i r hr
    have hi : i < f.Readings.length := (List.getElem?_eq_some_iff.1 hr).1
    unfold heat_Check.b0
    rw [lt_dec hi, at_of hr]
    simp only [cond_true, Option.bind_some, h2, heat_isReading_eq]
    cases readB (x3.length : Int) r <;> rfl
   ·unfold heat_Check.b0
    rw [lt_dec_self]; rfl
end Go.Abs
namespace Go.Abs
open Go
set_option linter.unusedVariables false
theorem heat_kilnCopy_eq (a : Kiln) (h1 : a.Falls.length ≤ 1000) (h2 : ∀ x ∈ a.Falls, x.length ≤ 1000) : heat_kilnCopy KK a = some a := by
 unfold heat_kilnCopy
 have h := (whl_fold (l := a.Falls) (body := heat_kilnCopy.b0 KK a) (k := KK) (fun i s => (i, s)) (fun s x => s ++ [x]) (fun i s => s.length = i) (s0 := []) (by omega) (by unfold KK; omega) rfl ?_ ?_).1
 ·rw [h, foldl_push]; rfl
 ·intro i x s hx hI
  have hi : i < a.Falls.length := (List.getElem?_eq_some_iff.1 hx).1
  have hq := h2 x (List.mem_of_getElem? hx)
  refine ⟨?_, by simp [hI]⟩
  unfold heat_kilnCopy.b0 slices_Clone_api_Range
  simp only [lt_dec hi, at_of hx, cond_true, Option.bind_some]
  rw [room_of (by omega) (by omega)]
  simp only [Option.bind_some]
  rw [push_of (by omega) (by omega)]
  rfl
 ·intro s _
  unfold heat_kilnCopy.b0
  simp only [lt_dec_self]; rfl
theorem kilnB_small {a : Kiln} (h : kilnB a = true) : a.Falls.length ≤ 6 ∧ (a.Falls.headD []).length ≤ 24 ∧ ∀ x ∈ a.Falls, x.length = (a.Falls.headD []).length := by
 simp only [kilnB, inB, Bool.and_eq_true, decide_eq_true_eq, List.all_eq_true] at h
 obtain ⟨h1, h2, h3⟩ := h
 exact ⟨by omega, by omega, fun x hx => (h3 x hx).1⟩
theorem firing_small {f : Firing} (h : firingCode f = 0) : kilnB f.Kiln = true ∧ f.Readings.length ≤ 60 ∧ ∀ r ∈ f.Readings, readB ((f.Kiln.Falls.headD []).length : Int) r = true := by
 unfold firingCode at h
 cases h1 : kilnB f.Kiln with
 | false => rw [h1] at h; simp at h
 | true =>
  rw [h1] at h
  simp only [cond_true] at h
  by_cases h2 : (60 : Int) < (f.Readings.length : Int)
  ·simp [h2] at h
  ·simp only [h2, decide_false, cond_false] at h
   cases h3 : f.Readings.all (readB ((f.Kiln.Falls.headD []).length : Int)) with
   | false => rw [h3] at h; simp at h
   | true => exact ⟨rfl, by omega, fun r hr => List.all_eq_true.1 h3 r hr⟩
end Go.Abs
namespace Go.Abs
open Go
set_option linter.unusedVariables false
def insU (n : Int) : List Int → List Int
 | [] => [n]
 | y :: l => bif decide (y = n) then y :: l else bif decide (n < y) then n :: y :: l else y :: insU n l
theorem insU_mem (n : Int) : ∀ (l : List Int) (x : Int), x ∈ insU n l ↔ x = n ∨ x ∈ l
 | [], x => by simp [insU]
 | y :: l, x => by
  unfold insU
  by_cases h1 : y = n
  ·simp [h1]
  ·by_cases h2 : n < y
   ·simp [h1, h2]
   ·simp only [h1, h2, decide_false, cond_false, List.mem_cons, insU_mem n l]
    constructor
    ·rintro (h | h | h) <;> simp [h]
    ·rintro (h | h | h) <;> simp [h]
theorem insU_sorted (n : Int) : ∀ l : List Int, l.Pairwise (· < ·) → (insU n l).Pairwise (· < ·)
 | [], _ => by simp [insU]
 | y :: l, h => by
  have h0 := h
  rw [List.pairwise_cons] at h
  unfold insU
  by_cases h1 : y = n
  ·simp only [h1, decide_true, cond_true]; rw [← h1]; exact h0
  ·by_cases h2 : n < y
   ·simp only [h1, h2, decide_false, decide_true, cond_false, cond_true]
    rw [List.pairwise_cons]
    refine ⟨fun z hz => ?_, h0⟩
    rcases List.mem_cons.1 hz with rfl | hz
    ·exact h2
    ·have := h.1 z hz; omega
   ·simp only [h1, h2, decide_false, cond_false]
    rw [List.pairwise_cons]
    refine ⟨fun z hz => ?_, insU_sorted n l h.2⟩
    rcases (insU_mem n l z).1 hz with rfl | hz
    ·omega
    ·exact h.1 z hz
theorem insU_len (n : Int) : ∀ l : List Int, (insU n l).length ≤ l.length + 1
 | [] => by simp [insU]
 | y :: l => by
  unfold insU
  cases decide (y = n) <;> cases decide (n < y) <;> simp <;> exact insU_len n l
theorem rising_eq : ∀ {a b : List Int}, a.Pairwise (· < ·) → b.Pairwise (· < ·) → (∀ x, x ∈ a ↔ x ∈ b) → a = b
 | [], [], _, _, _ => rfl
 | [], y :: b, _, _, h => by have := (h y).2 (by simp); simp at this
 | x :: a, [], _, _, h => by have := (h x).1 (by simp); simp at this
 | x :: a, y :: b, ha, hb, h => by
  rw [List.pairwise_cons] at ha hb
  have hxy : x = y := by
   have h1 := (h x).1 (by simp)
   have h2 := (h y).2 (by simp)
   rcases List.mem_cons.1 h1 with e | e
   ·exact e
   ·rcases List.mem_cons.1 h2 with e' | e'
    ·exact e'.symm
    ·have := ha.1 y e'; have := hb.1 x e; omega
  subst hxy
  congr 1
  refine rising_eq ha.2 hb.2 fun z => ⟨fun hz => ?_, fun hz => ?_⟩
  ·rcases List.mem_cons.1 ((h z).1 (List.mem_cons_of_mem _ hz)) with e | e
   ·subst e; have := ha.1 z hz; omega
   ·exact e
  ·rcases List.mem_cons.1 ((h z).2 (List.mem_cons_of_mem _ hz)) with e | e
   ·subst e; have := hb.1 z hz; omega
   ·exact e
theorem w64_succ {i n : Nat} (h : i < n) (hn : n ≤ 9223372036854775807) : w64 ((i : Int) + 1) = ((i + 1 : Nat) : Int) := by rw [w64_of (by omega) (by omega)]; omega
def usort (l : List Int) : List Int := l.foldl (fun s x => insU x s) []
theorem usort_sorted (l : List Int) : (usort l).Pairwise (· < ·) := by
 have : ∀ (l s : List Int), s.Pairwise (· < ·) → (l.foldl (fun s x => insU x s) s).Pairwise (· < ·) := by
  intro l
  induction l with
  | nil => exact fun s h => h
  | cons y l ih => exact fun s h => ih _ (insU_sorted y s h)
 exact this l [] List.Pairwise.nil
theorem usort_mem (l : List Int) (x : Int) : x ∈ usort l ↔ x ∈ l := by
 have : ∀ (l s : List Int), x ∈ l.foldl (fun s x => insU x s) s ↔ x ∈ l ∨ x ∈ s := by
  intro l
  induction l with
  | nil => simp
  | cons y l ih => intro s; rw [List.foldl_cons, ih, insU_mem, List.mem_cons]; grind
 rw [usort, this]; simp
end Go.Abs
namespace Go.Abs
open Go
set_option linter.unusedVariables false
theorem at_part {α : Type} {l : List α} {a m j : Nat} {x : α} (h : l[j]? = some x) (h1 : a ≤ j) (h2 : j - a < m) : at? ((l.drop a).take m) ((j - a : Nat) : Int) = some x := by
 apply at_of
 rw [List.getElem?_take, if_pos h2, List.getElem?_drop, show a + (j - a) = j by omega]
 exact h
theorem set_of {α : Type} {l : List α} {i : Nat} {x : α} (h : i < l.length) : set? l (i : Int) x = some (l.set i x) := by
 unfold set?
 rw [if_pos ⟨by omega, by omega⟩]
 simp
theorem ls_of {n i : Nat} (h : i ≤ n) : ls? n (i : Int) = some () := by
 unfold ls?
 rw [if_pos ⟨by omega, by omega⟩]
theorem hs_of {n i : Nat} (h : i ≤ n) : hs? n (i : Int) = some () := by
 unfold hs?
 rw [if_pos ⟨by omega, by omega⟩]
theorem clr_take {α : Type} (l : List α) (i n : Nat) (z : α) (h : i ≤ l.length) : (clr l i n z).take i = l.take i := by
 unfold clr
 rw [List.take_append_of_le_length (by simp; omega), List.take_take, Nat.min_self]
theorem take_succ_of {α : Type} {l : List α} {i : Nat} {x : α} (h : l[i]? = some x) : l.take (i + 1) = l.take i ++ [x] := by
 rw [List.take_add_one, h]; rfl
theorem sorted_le {s : List Int} (hs : s.Pairwise (· ≤ ·)) {i j : Nat} {x y : Int} (hij : i ≤ j) (hx : s[i]? = some x) (hy : s[j]? = some y) : x ≤ y := by
 obtain ⟨h1, rfl⟩ := List.getElem?_eq_some_iff.1 hx
 obtain ⟨h2, rfl⟩ := List.getElem?_eq_some_iff.1 hy
 rcases Nat.lt_or_ge i j with h | h
 ·exact (List.pairwise_iff_getElem.1 hs) i j h1 h2 h
 ·have : i = j := by omega
  subst this; exact Int.le_refl _
theorem take_le {s : List Int} (hs : s.Pairwise (· ≤ ·)) {j : Nat} {x y : Int} (hx : x ∈ s.take j) (hy : s[j - 1]? = some y) : x ≤ y := by
 obtain ⟨i, hi, rfl⟩ := List.getElem_of_mem hx
 rw [List.getElem_take]
 simp only [List.length_take] at hi
 exact sorted_le hs (i := i) (j := j - 1) (by omega) (List.getElem?_eq_getElem (by omega)) hy
theorem compact_inner (s : List Int) (hs : s.Pairwise (· ≤ ·)) (hl : s.length ≤ 8589934592) (a : Nat) (ha : 1 ≤ a) (han : a < s.length) (hr : (s.take a).Pairwise (· < ·)) (he : s[a]? = s[a - 1]?) :
  ∃ (w : Nat) (l : List Int), whl (slices_Compact_int.b1 KK s a) KK ((a : Int), (1 : Int), s) = some (.brk ((w : Int), l)) ∧ w ≤ l.length ∧ (l.take w).Pairwise (· < ·) ∧ ∀ x, x ∈ l.take w ↔ x ∈ s := by
 have h := whl_ok (body := slices_Compact_int.b1 KK s a)
  (fun t => ∃ (w j : Nat) (l : List Int), t = ((w : Int), ((j - a : Nat) : Int), l) ∧ l.length = s.length ∧ a ≤ w ∧ w + 1 ≤ j ∧ j ≤ s.length ∧ (∀ m, j ≤ m + 1 → l[m]? = s[m]?) ∧ (l.take w).Pairwise (· < ·) ∧ ∀ x, x ∈ l.take w ↔ x ∈ s.take j)
  (fun r => ∃ (w : Nat) (l : List Int), r = .brk ((w : Int), l) ∧ w ≤ l.length ∧ (l.take w).Pairwise (· < ·) ∧ ∀ x, x ∈ l.take w ↔ x ∈ s)
  (fun t => s.length - (t.2.1.toNat + a)) ?_ KK ((a : Int), (1 : Int), s) ⟨a, a + 1, s, ?_, rfl, Nat.le_refl _, Nat.le_refl _, by omega, fun _ _ => rfl, hr, ?_⟩ (by unfold KK; omega)
 ·obtain ⟨r, h1, ⟨w, l, h2, h3⟩, _⟩ := h
  subst h2
  exact ⟨w, l, h1, h3⟩
 ·rintro t ⟨w, j, l, rfl, g1, g2, g3, g4, g5, g6, g7⟩
  by_cases hj : j = s.length
  ·right; left
   refine ⟨((w : Int), l), ?_, w, l, rfl, by omega, g6, ?_⟩
   ·unfold slices_Compact_int.b1
    have : decide (((j - a : Nat) : Int) < ((s.length - (a : Int).toNat : Nat) : Int)) = false := by subst hj; simp
    simp only [this, cond_false]
   ·intro x; rw [g7, hj, List.take_length]
  ·left
   obtain ⟨y, hy⟩ : ∃ y, s[j]? = some y := ⟨_, List.getElem?_eq_getElem (by omega)⟩
   obtain ⟨z, hz⟩ : ∃ z, s[j - 1]? = some z := ⟨_, List.getElem?_eq_getElem (by omega)⟩
   have d1 : decide (((j - a : Nat) : Int) < ((s.length - a : Nat) : Int)) = true := by simp; omega
   have d2 : w64 (((j - a : Nat) : Int) - 1) = ((j - 1 - a : Nat) : Int) := by rw [w64_of (by omega) (by omega)]; omega
   have d3 : w64 (((j - a : Nat) : Int) + 1) = ((j + 1 - a : Nat) : Int) := by rw [w64_of (by omega) (by omega)]; omega
   have e1 : at? ((l.drop a).take (s.length - a)) ((j - a : Nat) : Int) = some y := at_part (by rw [g5 j (by omega)]; exact hy) (by omega) (by omega)
   have e2 : at? ((l.drop a).take (s.length - a)) ((j - 1 - a : Nat) : Int) = some z := at_part (by rw [g5 (j - 1) (by omega)]; exact hz) (by omega) (by omega)
   have hw : w < l.length := by omega
   by_cases hyz : y = z
   ·refine ⟨((w : Int), ((j + 1 - a : Nat) : Int), l), ?_, ⟨w, j + 1, l, rfl, g1, g2, by omega, by omega, fun m hm => g5 m (by omega), g6, ?_⟩, ?_⟩
    ·unfold slices_Compact_int.b1
     simp only [d1, cond_true, Int.toNat_natCast, e1, d2, e2, Option.bind_some, hyz, decide_true, Bool.not_true, cond_false, d3]
    ·intro x
     rw [g7, take_succ_of hy, List.mem_append, List.mem_singleton]
     constructor
     ·exact .inl
     ·rintro (h | h)
      ·exact h
      ·rw [h, hyz]
       exact List.mem_of_getElem? (i := j - 1) (by rw [List.getElem?_take, if_pos (by omega)]; exact hz)
    ·simp only [Int.toNat_natCast]; omega
   ·have ew : at? l (w : Int) = some l[w] := at_of (List.getElem?_eq_getElem hw)
    have d4 : w64 ((w : Int) + 1) = ((w + 1 : Nat) : Int) := by rw [w64_of (by omega) (by omega)]; omega
    have tk : (l.set w y).take (w + 1) = l.take w ++ [y] := by
     rw [take_succ_of (x := y) (by rw [List.getElem?_set]; simp [hw])]
     rw [List.take_set_of_le (Nat.le_refl _)]
    refine ⟨(((w + 1 : Nat) : Int), ((j + 1 - a : Nat) : Int), l.set w y), ?_, ⟨w + 1, j + 1, l.set w y, rfl, by simp [g1], by omega, by omega, by omega, fun m hm => ?_, ?_, ?_⟩, ?_⟩
    ·unfold slices_Compact_int.b1
     simp only [d1, cond_true, Int.toNat_natCast, e1, d2, e2, Option.bind_some, hyz, decide_false, Bool.not_false, d3, ew, set_of hw, d4]
    ·rw [List.getElem?_set, if_neg (by omega)]; exact g5 m (by omega)
    ·rw [tk, List.pairwise_append]
     refine ⟨g6, by simp, fun x hx y' hy' => ?_⟩
     simp only [List.mem_singleton] at hy'
     subst hy'
     have h1 := take_le hs ((g7 x).1 hx) hz
     have h2 := sorted_le hs (i := j - 1) (j := j) (by omega) hz hy
     omega
    ·intro x
     rw [tk, take_succ_of hy, List.mem_append, List.mem_append, g7]
    ·simp only [Int.toNat_natCast]; omega
 ·have : a + 1 - a = 1 := by omega
  rw [this]; rfl
 ·intro x
  obtain ⟨y, hy⟩ : ∃ y, s[a]? = some y := ⟨_, List.getElem?_eq_getElem han⟩
  rw [take_succ_of hy, List.mem_append, List.mem_singleton]
  constructor
  ·exact .inl
  ·rintro (h | h)
   ·exact h
   ·rw [h]
    exact List.mem_of_getElem? (i := a - 1) (by rw [List.getElem?_take, if_pos (by omega), ← he]; exact hy)
theorem compact_eq (s : List Int) (hs : s.Pairwise (· ≤ ·)) (hl : s.length ≤ 8589934592) : ∃ r, slices_Compact_int KK s = some r ∧ r.Pairwise (· < ·) ∧ ∀ x, x ∈ r ↔ x ∈ s := by
 unfold slices_Compact_int
 by_cases h2 : ((s.length : Nat) : Int) < 2
 ·simp only [h2, decide_true, cond_true]
  refine ⟨s, rfl, ?_, fun _ => Iff.rfl⟩
  match s, h2 with
  | [], _ => exact List.Pairwise.nil
  | [x], _ => simp
  | x :: y :: l, h2 => simp at h2; omega
 ·simp only [h2, decide_false, cond_false]
  have h := whl_ok (body := slices_Compact_int.b0 KK s)
   (fun t => ∃ a : Nat, t = (a : Int) ∧ 1 ≤ a ∧ a ≤ s.length ∧ (s.take a).Pairwise (· < ·))
   (fun r => (r = .brk () ∧ s.Pairwise (· < ·)) ∨ ∃ l : List Int, r = .ret l ∧ l.Pairwise (· < ·) ∧ ∀ x, x ∈ l ↔ x ∈ s)
   (fun t => s.length - t.toNat) ?_ KK 1 ⟨1, rfl, Nat.le_refl _, by omega, ?_⟩ (by unfold KK; omega)
  ·obtain ⟨r, h1, h3 | ⟨l, h3, h4⟩, _⟩ := h
   ·rw [h1, h3.1]
    exact ⟨s, rfl, h3.2, fun _ => Iff.rfl⟩
   ·rw [h1, h3]
    exact ⟨l, rfl, h4⟩
  ·rintro t ⟨a, rfl, g1, g2, g3⟩
   by_cases ha : a = s.length
   ·right; left
    refine ⟨(), ?_, .inl ⟨rfl, ?_⟩⟩
    ·unfold slices_Compact_int.b0
     subst ha
     simp only [lt_dec_self, cond_false]
    ·rw [ha, List.take_length] at g3; exact g3
   ·obtain ⟨y, hy⟩ : ∃ y, s[a]? = some y := ⟨_, List.getElem?_eq_getElem (by omega)⟩
    obtain ⟨z, hz⟩ : ∃ z, s[a - 1]? = some z := ⟨_, List.getElem?_eq_getElem (by omega)⟩
    have d1 : decide ((a : Int) < ((s.length : Nat) : Int)) = true := lt_dec (by omega)
    have d2 : w64 ((a : Int) - 1) = ((a - 1 : Nat) : Int) := by rw [w64_of (by omega) (by omega)]; omega
    have d3 : w64 ((a : Int) + 1) = ((a + 1 : Nat) : Int) := by rw [w64_of (by omega) (by omega)]; omega
    by_cases hyz : y = z
    ·right; right
     obtain ⟨w, l, k1, k2, k3, k4⟩ := compact_inner s hs hl a g1 (by omega) g3 (by rw [hy, hz, hyz])
     refine ⟨l.take w, ?_, .inr ⟨_, rfl, k3, k4⟩⟩
     unfold slices_Compact_int.b0
     simp only [d1, cond_true, at_of hy, d2, at_of hz, Option.bind_some, hyz, decide_true, ls_of (show a ≤ s.length by omega), k1, ls_of k2, hs_of k2, Int.toNat_natCast, clr_take l w _ 0 k2]
    ·left
     refine ⟨((a + 1 : Nat) : Int), ?_, ⟨a + 1, rfl, by omega, by omega, ?_⟩, by simp only [Int.toNat_natCast]; omega⟩
     ·unfold slices_Compact_int.b0
      simp only [d1, cond_true, at_of hy, d2, at_of hz, Option.bind_some, hyz, decide_false, cond_false, d3]
     ·rw [take_succ_of hy, List.pairwise_append]
      refine ⟨g3, by simp, fun x hx y' hy' => ?_⟩
      simp only [List.mem_singleton] at hy'
      subst hy'
      have h1 := take_le hs hx hz
      have h2 := sorted_le hs (i := a - 1) (j := a) (by omega) hz hy
      omega
  ·match s, h2 with
   | [], h2 => simp at h2
   | x :: l, _ => simp
end Go.Abs
namespace Go.Abs
open Go
set_option linter.unusedVariables false
theorem heat_sources_eq (l : List Reading) (hl : l.length ≤ 8589934592) : heat_sources KK l = some (usort (l.map fun r => r.Source)) := by
 unfold heat_sources
 have h := (whl_fold (l := l) (body := heat_sources.b0 KK l) (k := KK) (fun i s => (i, s)) (fun s x => s ++ [x.Source]) (fun i s => s.length = i) (s0 := []) (by omega) (by unfold KK; omega) rfl ?_ ?_).1
 ·rw [h, foldl_map (fun r : Reading => r.Source)]
  simp only [List.nil_append, Option.bind_some]
  rw [room_of (by simp; omega) (by simp; omega)]
  simp only [Option.bind_some]
  obtain ⟨r, h1, h2, h3⟩ := compact_eq (srt (l.map fun r => r.Source)) (srt_sorted _) (by rw [srt_len]; simp; omega)
  rw [h1]
  have : r = usort (l.map fun r => r.Source) := rising_eq h2 (usort_sorted _) fun x => by rw [h3, usort_mem]; exact (srt_perm _).mem_iff
  rw [this]; rfl
 ·intro i x s hx hI
  have hi : i < l.length := (List.getElem?_eq_some_iff.1 hx).1
  refine ⟨?_, by simp [hI]⟩
  unfold heat_sources.b0
  simp only [lt_dec hi, at_of hx, cond_true, Option.bind_some]
  rw [push_of (by omega) (by omega)]
  rfl
 ·intro s _
  unfold heat_sources.b0
  simp only [lt_dec_self]; rfl
def sourcesR (f : Firing) : List Int × Int := bif !decide (firingCode f = 0) then ([], 42) else (usort (f.Readings.map fun r => r.Source), 0)
theorem heat_Sources_eq (f : Firing) (q : Firing.s f) : heat_Sources KK f = some (sourcesR f) := by
 unfold heat_Sources sourcesR
 rw [heat_Check_eq f q]
 simp only [Option.bind_some]
 by_cases h : firingCode f = 0
 ·have := (firing_small h).2.1
  simp only [h, decide_true, Bool.not_true, cond_false]
  rw [heat_sources_eq _ (by omega)]; rfl
 ·simp only [h, decide_false, Bool.not_false, cond_true]
theorem R01_Has_eq (l : List Int) (n : Int) (hl : l.length ≤ Go.maxLen) : R01_Has KK l n = some (decide (n ∈ l)) := by
 unfold R01_Has
 rw [whl_each (l := l) (f := fun x => bif !decide (x = n) then none else some true) (maxLen_le hl) (KK_big hl) ?_ ?_]
 ·rw [findSome_bif]
  have : (l.all fun x => !decide (x = n)) = !decide (n ∈ l) := by
   rw [Bool.eq_iff_iff]
   simp only [List.all_eq_true, Bool.not_eq_true', decide_eq_false_iff_not]
   constructor
   ·intro h hm; exact h n hm rfl
   ·intro h x hx e; exact h (e ▸ hx)
  rw [this]
  cases decide (n ∈ l) <;> rfl
 ·intro i x hx
  have hi : i < l.length := (List.getElem?_eq_some_iff.1 hx).1
  unfold R01_Has.b0
  rw [lt_dec hi, at_of hx]
  simp only [cond_true, Option.bind_some]
  cases decide (x = n) <;> rfl
 ·unfold R01_Has.b0
  rw [lt_dec_self]; rfl
theorem deleteFunc_eq (l : List Reading) (hl : l.length ≤ 10000) {del : Reading → Option Bool} {p : Reading → Bool} (hp : ∀ x, del x = some (p x)) : slices_DeleteFunc_api_Reading KK l del = some (l.filter fun x => !p x) := by
 unfold slices_DeleteFunc_api_Reading slices_IndexFunc_api_Reading
 rw [indexFunc_gen (body := slices_IndexFunc_api_Reading.b0 KK del l) (p := p) (fun x _ => hp x) (by omega) (by unfold KK; omega) rfl]
 cases hf : l.findIdx? p with
 | none =>
  simp only [Option.bind_some, decide_true, cond_true]
  rw [List.findIdx?_eq_none_iff] at hf
  rw [List.filter_eq_self.2 (fun x hx => by rw [hf x hx]; rfl)]
 | some a =>
  rw [List.findIdx?_eq_some_iff_getElem] at hf
  obtain ⟨ha, hpa, hbef⟩ := hf
  have hne : ¬ (a : Int) = -1 := by omega
  have d0 : w64 ((a : Int) + 1) = ((a + 1 : Nat) : Int) := by rw [w64_of (by omega) (by omega)]; omega
  simp only [Option.bind_some, hne, decide_false, cond_false, d0]
  have h := whl_ok (body := slices_DeleteFunc_api_Reading.b0 KK del)
   (fun t => ∃ (w j : Nat) (m : List Reading), t = ((w : Int), (j : Int), m) ∧ m.length = l.length ∧ w + 1 ≤ j ∧ j ≤ l.length ∧ (∀ i, j ≤ i → m[i]? = l[i]?) ∧ m.take w = (l.take j).filter fun x => !p x)
   (fun r => ∃ (w : Nat) (m : List Reading), r = .brk ((w : Int), m) ∧ w ≤ m.length ∧ m.take w = l.filter fun x => !p x)
   (fun t => l.length - t.2.1.toNat) ?_ KK ((a : Int), ((a + 1 : Nat) : Int), l) ⟨a, a + 1, l, rfl, rfl, Nat.le_refl _, by omega, fun _ _ => rfl, ?_⟩ (by unfold KK; omega)
  ·obtain ⟨r, h1, ⟨w, m, h2, h3, h4⟩, _⟩ := h
   rw [h1, h2]
   simp only [Option.bind_some, ls_of h3, hs_of h3, Int.toNat_natCast, clr_take m w _ _ h3, h4]
  ·rintro t ⟨w, j, m, rfl, g1, g2, g3, g4, g5⟩
   by_cases hj : j = l.length
   ·right; left
    refine ⟨((w : Int), m), ?_, w, m, rfl, by omega, ?_⟩
    ·unfold slices_DeleteFunc_api_Reading.b0
     have : decide ((j : Int) < ((m.length : Nat) : Int)) = false := by rw [g1, hj]; exact lt_dec_self _
     simp only [this, cond_false]
    ·rw [g5, hj, List.take_length]
   ·left
    obtain ⟨y, hy⟩ : ∃ y, l[j]? = some y := ⟨_, List.getElem?_eq_getElem (by omega)⟩
    have hw : w < m.length := by omega
    have d1 : decide ((j : Int) < ((m.length : Nat) : Int)) = true := lt_dec (by omega)
    have d3 : w64 ((j : Int) + 1) = ((j + 1 : Nat) : Int) := by rw [w64_of (by omega) (by omega)]; omega
    have d4 : w64 ((w : Int) + 1) = ((w + 1 : Nat) : Int) := by rw [w64_of (by omega) (by omega)]; omega
    have e1 : at? m (j : Int) = some y := at_of (by rw [g4 j (Nat.le_refl _)]; exact hy)
    cases hpy : p y with
    | true =>
     refine ⟨((w : Int), ((j + 1 : Nat) : Int), m), ?_, ⟨w, j + 1, m, rfl, g1, by omega, by omega, fun i hi => g4 i (by omega), ?_⟩, by simp only [Int.toNat_natCast]; omega⟩
     ·unfold slices_DeleteFunc_api_Reading.b0
      simp only [d1, cond_true, e1, Option.bind_some, hp, hpy, Bool.not_true, cond_false, d3]
     ·rw [take_succ_of hy, List.filter_append, g5]; simp [hpy]
    | false =>
     have ew : at? m (w : Int) = some m[w] := at_of (List.getElem?_eq_getElem hw)
     refine ⟨(((w + 1 : Nat) : Int), ((j + 1 : Nat) : Int), m.set w y), ?_, ⟨w + 1, j + 1, m.set w y, rfl, by simp [g1], by omega, by omega, fun i hi => ?_, ?_⟩, by simp only [Int.toNat_natCast]; omega⟩
     ·unfold slices_DeleteFunc_api_Reading.b0
      simp only [d1, cond_true, e1, Option.bind_some, hp, hpy, Bool.not_false, d3, ew, set_of hw, d4]
     ·rw [List.getElem?_set, if_neg (by omega)]; exact g4 i (by omega)
     ·rw [take_succ_of (x := y) (by rw [List.getElem?_set]; simp [hw]), List.take_set_of_le (Nat.le_refl _), take_succ_of hy, List.filter_append, g5]; simp [hpy]
  ·rw [take_succ_of (List.getElem?_eq_getElem ha), List.filter_append]
   have : (l.take a).filter (fun x => !p x) = l.take a := List.filter_eq_self.2 (fun x hx => by
    obtain ⟨i, hi, rfl⟩ := List.getElem_of_mem hx
    rw [List.getElem_take]
    simp only [List.length_take] at hi
    have := hbef i (by omega)
    simpa using this)
   rw [this]
   simp [hpa]
end Go.Abs
namespace Go.Abs
open Go
set_option linter.unusedVariables false
def withoutR (f : Firing) (s : Int) : Firing × Int :=
 bif !decide (firingCode f = 0) then (⟨⟨[]⟩, []⟩, 42)
 else bif !decide (s ∈ f.Readings.map fun r => r.Source) then (⟨⟨[]⟩, []⟩, 3)
 else (⟨f.Kiln, f.Readings.filter fun r => !decide (r.Source = s)⟩, 0)
theorem heat_without_eq (f : Firing) (h : firingCode f = 0) (g : Int → Option Bool) (p : Int → Bool) (hg : ∀ x, g x = some (p x)) : heat_without KK f g = some ⟨f.Kiln, f.Readings.filter fun r => !p r.Source⟩ := by
 obtain ⟨h1, h2, _⟩ := firing_small h
 obtain ⟨s1, s2, s3⟩ := kilnB_small h1
 unfold heat_without
 rw [heat_kilnCopy_eq f.Kiln (by omega) (fun x hx => by rw [s3 x hx]; omega)]
 unfold slices_Clone_api_Reading
 simp only [Option.bind_some]
 rw [room_of (by omega) (by omega)]
 simp only [Option.bind_some]
 rw [deleteFunc_eq f.Readings (by omega) (p := fun r => p r.Source) (fun r => by unfold heat_without_1; rw [hg]; rfl)]
 rfl
theorem filter_len {α : Type} (p : α → Bool) (l : List α) : (l.filter p).length = l.length ↔ ∀ x ∈ l, p x = true := by
 rw [List.length_filter_eq_length_iff]
theorem heat_Without_eq (f : Firing) (q : Firing.s f) (s : Int) : heat_Without KK f s = some (withoutR f s) := by
 unfold heat_Without withoutR
 rw [heat_Check_eq f q]
 simp only [Option.bind_some]
 by_cases h : firingCode f = 0
 ·simp only [h, decide_true, Bool.not_true, cond_false]
  rw [heat_without_eq f h (fun q0 => heat_Without_1 KK q0 s) (fun x => decide (x = s)) (fun x => rfl)]
  simp only [Option.bind_some]
  rw [len_dec]
  by_cases hm : s ∈ f.Readings.map fun r => r.Source
  ·have : ¬ (f.Readings.filter fun r => !decide (r.Source = s)).length = f.Readings.length := by
    rw [filter_len]
    intro hall
    obtain ⟨r, hr, e⟩ := List.mem_map.1 hm
    have := hall r hr
    simp [e] at this
   simp only [hm, this, decide_true, decide_false, Bool.not_true, cond_false]
  ·have : (f.Readings.filter fun r => !decide (r.Source = s)).length = f.Readings.length := by
    rw [filter_len]
    intro r hr
    have : ¬ r.Source = s := fun e => hm (List.mem_map.2 ⟨r, hr, e⟩)
    simp [this]
   simp only [hm, this, decide_true, decide_false, Bool.not_false, cond_true]
 ·simp only [h, decide_false, Bool.not_false, cond_true]
theorem usort_len (l : List Int) : (usort l).length ≤ l.length := by
 have : ∀ (l s : List Int), (l.foldl (fun s x => insU x s) s).length ≤ l.length + s.length := by
  intro l
  induction l with
  | nil => simp
  | cons y l ih => intro s; rw [List.foldl_cons]; have := ih (insU y s); have := insU_len y s; simp only [List.length_cons]; omega
 have := this l []
 simpa [usort] using this
end Go.Abs
namespace Go.Abs
open Go
set_option linter.unusedVariables false
def R0 : Range := ⟨0, 0⟩
def Kiln.at (a : Kiln) (j p : Nat) : Range := (a.Falls.getD j []).getD p R0
def Kiln.P (a : Kiln) : Nat := (a.Falls.headD []).length
def lp (x : heat_limit) : Nat × Int := (x.place.toNat, x.heat)
def heat_furnace.fur (x : heat_furnace) : Fur := ⟨x.Firing.Kiln.Falls.length - 1, fun j p => (x.Firing.Kiln.at j p).Lo, fun j p => (x.Firing.Kiln.at j p).Hi, x.least.map lp, x.most.map lp⟩
def limOk (P : Nat) (x : heat_limit) : Prop := 0 ≤ x.place ∧ x.place < P ∧ -3000 ≤ x.heat ∧ x.heat ≤ 3000
structure heat_furnace.ok (x : heat_furnace) : Prop where
 k : kilnB x.Firing.Kiln = true
 ll : x.least.length ≤ 1000
 l : ∀ y ∈ x.least, limOk x.Firing.Kiln.P y
 ml : x.most.length ≤ 1000
 m : ∀ y ∈ x.most, limOk x.Firing.Kiln.P y
theorem kilnB_len {a : Kiln} (h : kilnB a = true) : 1 ≤ a.Falls.length ∧ a.Falls.length ≤ 6 ∧ 1 ≤ a.P ∧ a.P ≤ 24 := by
 simp only [kilnB, inB, Bool.and_eq_true, decide_eq_true_eq] at h
 have : a.P = (a.Falls.headD []).length := rfl
 omega
theorem kilnB_row {a : Kiln} (h : kilnB a = true) {j : Nat} (hj : j < a.Falls.length) : (a.Falls.getD j []).length = a.P := (kilnB_small h).2.2 _ (getD_mem [] hj)
theorem rangeB_iff {r : Range} : rangeB r 0 3000 = true ↔ 0 ≤ r.Lo ∧ r.Lo ≤ r.Hi ∧ r.Hi ≤ 3000 := by
 simp only [rangeB, Bool.and_eq_true, decide_eq_true_eq]
theorem kilnB_at {a : Kiln} (h : kilnB a = true) (j p : Nat) : 0 ≤ (a.at j p).Lo ∧ (a.at j p).Lo ≤ (a.at j p).Hi ∧ (a.at j p).Hi ≤ 3000 := by
 unfold Kiln.at
 by_cases hj : j < a.Falls.length
 ·by_cases hp : p < (a.Falls.getD j []).length
  ·have h1 := getD_mem R0 hp
   have h2 : rangeB ((a.Falls.getD j []).getD p R0) 0 3000 = true := by
    simp only [kilnB, Bool.and_eq_true, List.all_eq_true] at h
    exact (h.2.2 _ (getD_mem [] hj)).2 _ h1
   exact rangeB_iff.1 h2
  ·rw [getD_none (by omega)]
   decide
 ·rw [getD_none (l := a.Falls) (by omega)]
  simp [R0]
theorem at_row {a : Kiln} (h : kilnB a = true) {j : Nat} (hj : j < a.Falls.length) : at? a.Falls (j : Int) = some (a.Falls.getD j []) := at_nat [] hj
theorem at_cell {a : Kiln} (h : kilnB a = true) {j : Nat} (hj : j < a.Falls.length) {p : Int} (h0 : 0 ≤ p) (hp : p < a.P) : at? (a.Falls.getD j []) p = some (a.at j p.toNat) :=
 at_getD R0 h0 (by rw [kilnB_row h hj]; exact hp)
theorem at_cellN {a : Kiln} (h : kilnB a = true) {j : Nat} (hj : j < a.Falls.length) {p : Nat} (hp : p < a.P) : at? (a.Falls.getD j []) (p : Int) = some (a.at j p) :=
 at_nat R0 (by rw [kilnB_row h hj]; exact hp)
theorem fur_ok {x : heat_furnace} (h : x.ok) : x.fur.Ok := fun j p => kilnB_at h.k j p
def hotStep (x : heat_furnace) (j : Nat) (s : Int × Int) (y : heat_limit) : Int × Int := bif decide (y.heat + (x.Firing.Kiln.at j y.place.toNat).Hi < s.1) then (y.heat + (x.Firing.Kiln.at j y.place.toNat).Hi, y.by_) else s
def hot (x : heat_furnace) (j : Nat) : Int × Int := x.most.foldl (hotStep x j) (3000, -1)
theorem heat_hottest_eq {x : heat_furnace} (h : x.ok) {j : Nat} (hj : j < x.Firing.Kiln.Falls.length) : heat_furnace_hottest KK x (j : Int) = some (hot x j) := by
 have hml := h.ml
 unfold heat_furnace_hottest
 have h1 := (whl_fold (l := x.most) (body := heat_furnace_hottest.b0 KK x (j : Int)) (k := KK) (fun i s => (s.1, s.2, i)) (hotStep x j) (fun _ _ => True) (s0 := (3000, -1)) (by omega) (by unfold KK; omega) trivial ?_ ?_).1
 ·rw [h1]; rfl
 ·intro i y s hy _
  have hi : i < x.most.length := (List.getElem?_eq_some_iff.1 hy).1
  obtain ⟨g1, g2, g3, g4⟩ := h.m y (List.mem_of_getElem? hy)
  have g5 := kilnB_at h.k j y.place.toNat
  refine ⟨?_, trivial⟩
  unfold heat_furnace_hottest.b0 hotStep
  simp only [lt_dec hi, at_of hy, cond_true, Option.bind_some, at_row h.k hj, at_cell h.k hj g1 g2]
  rw [w64_of (n := y.heat + (x.Firing.Kiln.at j y.place.toNat).Hi) (by omega) (by omega)]
  cases decide (y.heat + (x.Firing.Kiln.at j y.place.toNat).Hi < s.1) <;> rfl
 ·intro s _
  unfold heat_furnace_hottest.b0
  simp only [lt_dec_self]; rfl
theorem hot_U (x : heat_furnace) (j : Nat) : (hot x j).1 = x.fur.U j := by
 have key : ∀ (l : List heat_limit) (s : Int × Int), (l.foldl (hotStep x j) s).1 = (l.map lp).foldl (fun n y => min n (y.2 + x.fur.hi j y.1)) s.1 := by
  intro l
  induction l with
  | nil => intro s; rfl
  | cons y l ih =>
   intro s
   rw [List.foldl_cons, ih, List.map_cons, List.foldl_cons]
   congr 1
   unfold hotStep
   show _ = min s.1 (y.heat + (x.Firing.Kiln.at j y.place.toNat).Hi)
   by_cases hc : y.heat + (x.Firing.Kiln.at j y.place.toNat).Hi < s.1
   ·simp only [hc, decide_true, cond_true]; omega
   ·simp only [hc, decide_false, cond_false]; omega
 exact key _ _
theorem U_ge {x : heat_furnace} (h : x.ok) (j : Nat) : -3000 ≤ x.fur.U j ∧ x.fur.U j ≤ 3000 := by
 refine ⟨?_, x.fur.U_le j⟩
 rw [Fur.U_iff]
 refine ⟨by omega, fun y hy => ?_⟩
 obtain ⟨z, hz, rfl⟩ := List.mem_map.1 hy
 have := (h.m z hz).2.2
 have := (fur_ok h j (lp z).1)
 show -3000 ≤ z.heat + _
 omega
def bestStep (p : Int) (s : heat_limit × Bool) (y : heat_limit) : heat_limit × Bool := bif decide (y.place = p) then (bif s.2 then (bif decide (y.heat < s.1.heat) then (y, true) else s) else (y, true)) else s
def bestL (l : List heat_limit) (p : Int) : heat_limit × Bool := l.foldl (bestStep p) (⟨0, 0, 0⟩, false)
theorem heat_best_eq (l : List heat_limit) (hl : l.length ≤ 1000) (p : Int) : heat_best KK l p (fun q0 q1 => heat_less KK q0 q1) = some (bestL l p) := by
 unfold heat_best
 have h1 := (whl_fold (l := l) (body := heat_best.b0 KK (fun q0 q1 => heat_less KK q0 q1) l p) (k := KK) (fun i s => (s.1, s.2, i)) (bestStep p) (fun _ _ => True) (s0 := (⟨0, 0, 0⟩, false)) (by omega) (by unfold KK; omega) trivial ?_ ?_).1
 ·rw [h1]; rfl
 ·intro i y s hy _
  have hi : i < l.length := (List.getElem?_eq_some_iff.1 hy).1
  refine ⟨?_, trivial⟩
  unfold heat_best.b0 bestStep heat_less
  obtain ⟨s1, s2⟩ := s
  simp only [lt_dec hi, at_of hy, cond_true, Option.bind_some]
  cases decide (y.place = p) <;> cases s2 <;> cases decide (y.heat < s1.heat) <;> rfl
 ·intro s _
  unfold heat_best.b0
  simp only [lt_dec_self]; rfl
theorem bestL_some (l : List heat_limit) (p : Nat) (hl : ∀ y ∈ l, 0 ≤ y.place) : Fur.best (l.map lp) p = bif (bestL l p).2 then some (bestL l p).1.heat else none := by
 have key : ∀ (l : List heat_limit) (s : heat_limit × Bool), (∀ y ∈ l, 0 ≤ y.place) → (l.map lp).foldl (Fur.bst p) (bif s.2 then some s.1.heat else none) = bif (l.foldl (bestStep p) s).2 then some (l.foldl (bestStep p) s).1.heat else none := by
  intro l
  induction l with
  | nil => intro s _; rfl
  | cons y l ih =>
   intro s hl
   rw [List.map_cons, List.foldl_cons, List.foldl_cons, ← ih _ (fun z hz => hl z (List.mem_cons_of_mem _ hz))]
   congr 1
   have h0 := hl y (by simp)
   unfold bestStep Fur.bst
   obtain ⟨s1, s2⟩ := s
   by_cases hp : y.place = (p : Int)
   ·have hp2 : (lp y).1 = p := by show y.place.toNat = p; omega
    simp only [hp, hp2, decide_true, cond_true, if_true]
    cases s2 with
    | false => rfl
    | true =>
     simp only [cond_true]
     by_cases hc : y.heat < s1.heat
     ·simp only [hc, decide_true, cond_true, Option.some.injEq]
      show min s1.heat y.heat = y.heat
      omega
     ·simp only [hc, decide_false, cond_false, cond_true, Option.some.injEq]
      show min s1.heat y.heat = s1.heat
      omega
   ·have hp2 : ¬ (lp y).1 = p := by show ¬ y.place.toNat = p; omega
    simp only [hp, hp2, decide_false, cond_false, if_false]
 exact key l (⟨0, 0, 0⟩, false) hl
theorem bestL_mem (l : List heat_limit) (p : Int) : (bestL l p).2 = true → (bestL l p).1 ∈ l ∧ (bestL l p).1.place = p := by
 have key : ∀ (l K : List heat_limit) (s : heat_limit × Bool), (s.2 = true → s.1 ∈ K ∧ s.1.place = p) → (l.foldl (bestStep p) s).2 = true → (l.foldl (bestStep p) s).1 ∈ K ++ l ∧ (l.foldl (bestStep p) s).1.place = p := by
  intro l
  induction l with
  | nil => intro K s h; simpa using h
  | cons y l ih =>
   intro K s h
   have h2 := ih (K ++ [y]) (bestStep p s y) ?_
   ·simpa using h2
   ·unfold bestStep
    by_cases hp : y.place = p
    ·simp only [hp, decide_true, cond_true]
     cases hs : s.2 with
     | false => simp [hp]
     | true =>
      have := h hs
      cases decide (y.heat < s.1.heat) with
      | true => simp [hp]
      | false => simp only [cond_true, cond_false]; intro _; exact ⟨by simp [this.1], this.2⟩
    ·simp only [hp, decide_false, cond_false]
     intro hs
     have := h hs
     exact ⟨by simp [this.1], this.2⟩
 have := key l [] (⟨0, 0, 0⟩, false) (by simp)
 simpa [bestL] using this
def reachB (x : heat_furnace) (p : Nat) (n : Int) : Bool := (List.range x.Firing.Kiln.Falls.length).any fun j => !decide (x.fur.U j < 0) && !decide (x.fur.U j - x.fur.lo j p < n)
theorem heat_reaches_eq {x : heat_furnace} (h : x.ok) {p n : Int} (h0 : 0 ≤ p) (hp : p < x.Firing.Kiln.P) : heat_furnace_reaches KK x p n = some (reachB x p.toNat n) := by
 have hk := kilnB_len h.k
 unfold heat_furnace_reaches
 rw [whl_allN (n := x.Firing.Kiln.Falls.length) (p := fun j => !(!decide (x.fur.U j < 0) && !decide (x.fur.U j - x.fur.lo j p.toNat < n))) (c := true) (by omega) (by unfold KK; omega) ?_ ?_]
 ·have : ((List.range x.Firing.Kiln.Falls.length).all fun j => !(!decide (x.fur.U j < 0) && !decide (x.fur.U j - x.fur.lo j p.toNat < n))) = !reachB x p.toNat n := by
   unfold reachB; rw [List.not_any_eq_all_not]
  rw [this]
  cases reachB x p.toNat n <;> rfl
 ·intro j hj
  unfold heat_furnace_reaches.b0
  have hu := U_ge h j
  have hc := kilnB_at h.k j p.toNat
  have hlo : x.fur.lo j p.toNat = (x.Firing.Kiln.at j p.toNat).Lo := rfl
  simp only [lt_dec hj, cond_true, heat_hottest_eq h hj, Option.bind_some, hot_U, at_row h.k hj, at_cell h.k hj h0 hp]
  rw [w64_of (n := x.fur.U j - (x.Firing.Kiln.at j p.toNat).Lo) (by omega) (by omega), hlo]
  cases decide (x.fur.U j < 0) <;> cases decide (x.fur.U j - (x.Firing.Kiln.at j p.toNat).Lo < n) <;> rfl
 ·unfold heat_furnace_reaches.b0
  rw [lt_dec_self]; rfl
theorem reachB_iff {x : heat_furnace} (h : x.ok) (hu : ∀ j, j ≤ x.fur.m → 0 ≤ x.fur.U j) (p : Nat) (n : Int) : reachB x p n = true ↔ ∃ j, j ≤ x.fur.m ∧ n + x.fur.lo j p ≤ x.fur.U j := by
 have hk := kilnB_len h.k
 have hm : x.fur.m = x.Firing.Kiln.Falls.length - 1 := rfl
 unfold reachB
 rw [List.any_eq_true]
 constructor
 ·rintro ⟨j, h1, h2⟩
  simp only [List.mem_range] at h1
  simp only [Bool.and_eq_true, Bool.not_eq_true', decide_eq_false_iff_not] at h2
  exact ⟨j, by omega, by omega⟩
 ·rintro ⟨j, h1, h2⟩
  have := hu j h1
  refine ⟨j, by simp only [List.mem_range]; omega, ?_⟩
  simp only [Bool.and_eq_true, Bool.not_eq_true', decide_eq_false_iff_not]
  omega
def soundB (x : heat_furnace) : Bool := ((List.range x.Firing.Kiln.Falls.length).all fun j => !decide (x.fur.U j < 0)) &&
 x.least.all fun y => !((bestL x.most y.place).2 && decide ((bestL x.most y.place).1.heat < y.heat)) && reachB x y.place.toNat y.heat
theorem heat_sound_eq {x : heat_furnace} (h : x.ok) : heat_furnace_sound KK x = some (soundB x) := by
 have hk := kilnB_len h.k
 have hll := h.ll
 unfold heat_furnace_sound soundB
 rw [whl_allN (n := x.Firing.Kiln.Falls.length) (p := fun j => !decide (x.fur.U j < 0)) (c := false) (by omega) (by unfold KK; omega) ?_ ?_]
 ·cases ((List.range x.Firing.Kiln.Falls.length).all fun j => !decide (x.fur.U j < 0)) with
  | false => rfl
  | true =>
   simp only [cond_true, Option.bind_some, Bool.true_and]
   rw [whl_allL (l := x.least) (p := fun y => !((bestL x.most y.place).2 && decide ((bestL x.most y.place).1.heat < y.heat)) && reachB x y.place.toNat y.heat) (c := false) (by omega) (by unfold KK; omega) ?_ ?_]
   ·cases x.least.all fun y => !((bestL x.most y.place).2 && decide ((bestL x.most y.place).1.heat < y.heat)) && reachB x y.place.toNat y.heat <;> rfl
   ·intro i y hy
    have hi : i < x.least.length := (List.getElem?_eq_some_iff.1 hy).1
    obtain ⟨g1, g2, g3, g4⟩ := h.l y (List.mem_of_getElem? hy)
    unfold heat_furnace_sound.b1
    simp only [lt_dec hi, at_of hy, cond_true, Option.bind_some, heat_best_eq _ h.ml, heat_reaches_eq h g1 g2]
    cases (bestL x.most y.place).2 <;> cases decide ((bestL x.most y.place).1.heat < y.heat) <;> cases reachB x y.place.toNat y.heat <;> rfl
   ·unfold heat_furnace_sound.b1
    rw [lt_dec_self]; rfl
 ·intro j hj
  unfold heat_furnace_sound.b0
  simp only [lt_dec hj, cond_true, heat_hottest_eq h hj, Option.bind_some, hot_U]
  cases decide (x.fur.U j < 0) <;> rfl
 ·unfold heat_furnace_sound.b0
  rw [lt_dec_self]; rfl
theorem soundB_iff {x : heat_furnace} (h : x.ok) : soundB x = true ↔ x.fur.Sound := by
 have hk := kilnB_len h.k
 have hm : x.fur.m = x.Firing.Kiln.Falls.length - 1 := rfl
 have h1 : (((List.range x.Firing.Kiln.Falls.length).all fun j => !decide (x.fur.U j < 0)) = true) ↔ ∀ j, j ≤ x.fur.m → 0 ≤ x.fur.U j := by
  rw [List.all_eq_true]
  constructor
  ·intro g j hj
   have := g j (by simp only [List.mem_range]; omega)
   simp only [Bool.not_eq_true', decide_eq_false_iff_not] at this
   omega
  ·intro g j hj
   simp only [List.mem_range] at hj
   have := g j (by omega)
   simp only [Bool.not_eq_true', decide_eq_false_iff_not]
   omega
 unfold soundB Fur.Sound
 rw [Bool.and_eq_true, h1]
 constructor
 ·rintro ⟨g1, g2⟩
  refine ⟨g1, fun z hz => ?_⟩
  obtain ⟨y, hy, rfl⟩ := List.mem_map.1 hz
  have g3 := List.all_eq_true.1 g2 y hy
  rw [Bool.and_eq_true, reachB_iff h g1] at g3
  refine ⟨fun z hz e => ?_, g3.2⟩
  obtain ⟨w, hw, rfl⟩ := List.mem_map.1 hz
  have hp := h.l y hy
  have hb := bestL_some x.most y.place.toNat (fun y hy => (h.m y hy).1)
  have ey : ((y.place.toNat : Nat) : Int) = y.place := by have := hp.1; omega
  rw [ey] at hb
  cases hs : (bestL x.most y.place).2 with
  | false =>
   rw [hs] at hb
   exact absurd e ((Fur.best_iff _ _).1.1 hb (lp w) (List.mem_map.2 ⟨w, hw, rfl⟩))
  | true =>
   rw [hs] at hb
   have g4 := (((Fur.best_iff _ _).2 _ hb).1 _).1 (Int.le_refl _) (lp w) (List.mem_map.2 ⟨w, hw, rfl⟩) e
   have g5 := g3.1
   simp only [hs, Bool.true_and, Bool.not_eq_true', decide_eq_false_iff_not] at g5
   show y.heat ≤ _
   omega
 ·rintro ⟨g1, g2⟩
  refine ⟨g1, List.all_eq_true.2 fun y hy => ?_⟩
  have g3 := g2 (lp y) (List.mem_map.2 ⟨y, hy, rfl⟩)
  rw [Bool.and_eq_true, reachB_iff h g1]
  refine ⟨?_, g3.2⟩
  cases hs : (bestL x.most y.place).2 with
  | false => rfl
  | true =>
   have g4 := bestL_mem _ _ hs
   have g5 := g3.1 (lp (bestL x.most y.place).1) (List.mem_map.2 ⟨_, g4.1, rfl⟩) (by show (bestL x.most y.place).1.place.toNat = y.place.toNat; rw [g4.2])
   have g6 : y.heat ≤ (bestL x.most y.place).1.heat := g5
   simp only [Bool.true_and, Bool.not_eq_true', decide_eq_false_iff_not]
   omega
end Go.Abs
namespace Go.Abs
open Go
set_option linter.unusedVariables false
def rd0 : Reading := ⟨0, 0, 0, 0, ⟨0, 0⟩⟩
def lo? (r : Reading) : Option Int := bif decide (r.Kind = (1 : Int)) then some r.Mark else bif decide (r.Kind = (3 : Int)) then some r.Heat.Lo else none
def hi? (r : Reading) : Option Int := bif decide (r.Kind = (2 : Int)) then some (w64 (r.Mark - 1)) else bif decide (r.Kind = (3 : Int)) then some r.Heat.Hi else none
def limOf (l : List Reading) (g : Reading → Option Int) (i : Nat) : Option heat_limit := (g (l.getD i rd0)).map fun n => ⟨(l.getD i rd0).Place, n, i⟩
def limsOf (l : List Reading) (g : Reading → Option Int) : List heat_limit := (List.range l.length).filterMap (limOf l g)
def nf (f : Firing) : heat_furnace := ⟨f, limsOf f.Readings lo?, limsOf f.Readings hi?⟩
theorem limsOf_mem {l : List Reading} {g : Reading → Option Int} {y : heat_limit} : y ∈ limsOf l g ↔ ∃ (i : Nat) (r : Reading), l[i]? = some r ∧ g r = some y.heat ∧ y.place = r.Place ∧ y.by_ = (i : Int) := by
 unfold limsOf
 rw [List.mem_filterMap]
 constructor
 ·rintro ⟨i, hi, h⟩
  simp only [List.mem_range] at hi
  have hx : l[i]? = some l[i] := List.getElem?_eq_getElem hi
  unfold limOf at h
  rw [getD_of rd0 hx] at h
  cases hg : g l[i] with
  | none => rw [hg] at h; cases h
  | some n => rw [hg] at h; cases h; exact ⟨i, l[i], hx, hg, rfl, rfl⟩
 ·rintro ⟨i, r, hx, h1, h2, h3⟩
  refine ⟨i, by simp only [List.mem_range]; exact (List.getElem?_eq_some_iff.1 hx).1, ?_⟩
  unfold limOf
  rw [getD_of rd0 hx, h1, Option.map_some, ← h2, ← h3]
theorem limsOf_lp {l : List Reading} {g : Reading → Option Int} {z : Nat × Int} : z ∈ (limsOf l g).map lp ↔ ∃ r ∈ l, g r = some z.2 ∧ r.Place.toNat = z.1 := by
 rw [List.mem_map]
 constructor
 ·rintro ⟨y, hy, rfl⟩
  obtain ⟨i, r, h1, h2, h3, _⟩ := limsOf_mem.1 hy
  exact ⟨r, List.mem_of_getElem? h1, h2, by show _ = y.place.toNat; rw [h3]⟩
 ·rintro ⟨r, hr, h1, h2⟩
  obtain ⟨i, hi⟩ := List.getElem?_of_mem hr
  refine ⟨⟨r.Place, z.2, (i : Int)⟩, limsOf_mem.2 ⟨i, r, hi, h1, rfl, rfl⟩, ?_⟩
  show (r.Place.toNat, z.2) = z
  rw [h2]
theorem limsOf_len (l : List Reading) (g : Reading → Option Int) : (limsOf l g).length ≤ l.length := by
 have := List.length_filterMap_le (limOf l g) (List.range l.length)
 simpa [limsOf] using this
theorem limsOf_bounds {l : List Reading} {g : Reading → Option Int} {y : heat_limit} (h : y ∈ limsOf l g) : ∃ r ∈ l, g r = some y.heat ∧ y.place = r.Place := by
 obtain ⟨i, r, h1, h2, h3, _⟩ := limsOf_mem.1 h
 exact ⟨r, List.mem_of_getElem? h1, h2, h3⟩
theorem heat_least_eq (r : Reading) : heat_reading_least KK ⟨r⟩ = some ((lo? r).getD 0, (lo? r).isSome) := by
 unfold heat_reading_least lo?
 cases decide (r.Kind = (1 : Int)) <;> cases decide (r.Kind = (3 : Int)) <;> rfl
theorem heat_most_eq (r : Reading) : heat_reading_most KK ⟨r⟩ = some ((hi? r).getD 0, (hi? r).isSome) := by
 unfold heat_reading_most hi?
 cases decide (r.Kind = (2 : Int)) <;> cases decide (r.Kind = (3 : Int)) <;> rfl
def nfStep (l : List Reading) (s : List heat_limit × List heat_limit) (i : Nat) : List heat_limit × List heat_limit :=
 (s.1 ++ (limOf l lo? i).toList, s.2 ++ (limOf l hi? i).toList)
theorem nf_fold (l : List Reading) : ∀ (m : List Nat) (s : List heat_limit × List heat_limit), m.foldl (nfStep l) s = (s.1 ++ m.filterMap (limOf l lo?), s.2 ++ m.filterMap (limOf l hi?)) := by
 intro m
 induction m with
 | nil => intro s; simp
 | cons i m ih =>
  intro s
  rw [List.foldl_cons, ih, List.filterMap_cons, List.filterMap_cons]
  unfold nfStep
  cases limOf l lo? i <;> cases limOf l hi? i <;> simp
theorem heat_newFurnace_eq (f : Firing) (hl : f.Readings.length * 24 + 24 ≤ 140737488355328) : heat_newFurnace KK f = some (nf f) := by
 unfold heat_newFurnace
 have h1 := (whl_foldN (n := f.Readings.length) (body := heat_newFurnace.b0 KK f) (k := KK) (fun i (s : List heat_limit × List heat_limit) => (i, s.1, s.2)) (nfStep f.Readings) (fun i s => s.1.length ≤ i ∧ s.2.length ≤ i) (s0 := ([], [])) (by omega) (by unfold KK; omega) ⟨by simp, by simp⟩ ?_ ?_).1
 ·rw [h1, nf_fold]; rfl
 ·intro i s hi hI
  have hx : f.Readings[i]? = some f.Readings[i] := List.getElem?_eq_getElem hi
  have e1 : limOf f.Readings lo? i = (lo? f.Readings[i]).map fun n => ⟨f.Readings[i].Place, n, i⟩ := by unfold limOf; rw [getD_of rd0 hx]
  have e2 : limOf f.Readings hi? i = (hi? f.Readings[i]).map fun n => ⟨f.Readings[i].Place, n, i⟩ := by unfold limOf; rw [getD_of rd0 hx]
  obtain ⟨s1, s2⟩ := s
  simp only at hI
  refine ⟨?_, ?_⟩
  ·unfold heat_newFurnace.b0 nfStep
   rw [e1, e2]
   simp only [lt_dec hi, cond_true, at_of hx, Option.bind_some, heat_least_eq, heat_most_eq]
   cases h1 : lo? f.Readings[i] with
   | none =>
    cases h2 : hi? f.Readings[i] with
    | none => simp
    | some n2 =>
     simp only [Option.isSome_none, Option.isSome_some, cond_true, cond_false, Option.getD_some, Option.map_none, Option.map_some, Option.toList_none, Option.toList_some, List.append_nil]
     rw [push_of (by omega) (by omega)]; rfl
   | some n1 =>
    simp only [Option.isSome_some, cond_true, Option.getD_some]
    rw [push_of (by omega) (by omega)]
    cases h2 : hi? f.Readings[i] with
    | none => simp
    | some n2 =>
     simp only [Option.bind_some, Option.isSome_some, cond_true, Option.getD_some, Option.map_some, Option.toList_some]
     rw [push_of (by omega) (by omega)]; rfl
  ·unfold nfStep
   simp only [List.length_append]
   have : ∀ o : Option heat_limit, o.toList.length ≤ 1 := fun o => by cases o <;> simp
   have t1 := this (limOf f.Readings lo? i)
   have t2 := this (limOf f.Readings hi? i)
   exact ⟨by omega, by omega⟩
 ·intro s _
  unfold heat_newFurnace.b0
  simp only [lt_dec_self]; rfl
def rdOk (P : Nat) (r : Reading) : Prop := 0 ≤ r.Place ∧ r.Place < P ∧ (r.Kind = 1 ∨ r.Kind = 2 ∨ r.Kind = 3) ∧ (∀ n, lo? r = some n → -3000 ≤ n ∧ n ≤ 3000) ∧ ∀ n, hi? r = some n → -3000 ≤ n ∧ n ≤ 3000
structure Firing.ok (f : Firing) : Prop where
 k : kilnB f.Kiln = true
 l : f.Readings.length ≤ 100
 r : ∀ r ∈ f.Readings, rdOk f.Kiln.P r
theorem readB_ok {P : Nat} (hP : 1 ≤ P ∧ P ≤ 24) {r : Reading} (h : readB (P : Int) r = true) : rdOk P r := by
 unfold readB at h
 simp only [Bool.and_eq_true] at h
 obtain ⟨h1, h2, h3⟩ := h
 simp only [inB, Bool.and_eq_true, decide_eq_true_eq] at h2
 rw [w64_of (by omega) (by omega)] at h2
 refine ⟨by omega, by omega, ?_⟩
 unfold lo? hi?
 by_cases k1 : r.Kind = 1
 ·simp only [k1, decide_true, cond_true, Bool.and_eq_true, inB, decide_eq_true_eq] at h3
  refine ⟨.inl k1, fun n hn => ?_, fun n hn => ?_⟩
  ·simp only [k1, decide_true, cond_true, Option.some.injEq] at hn; omega
  ·simp [k1] at hn
 ·by_cases k2 : r.Kind = 2
  ·simp only [k2, decide_true, cond_true, cond_false, Bool.and_eq_true, inB, decide_eq_true_eq] at h3
   refine ⟨.inr (.inl k2), fun n hn => ?_, fun n hn => ?_⟩
   ·simp [k2] at hn
   ·simp only [k2, decide_true, cond_true, Option.some.injEq] at hn
    simp only [show decide ((2 : Int) = 1) = false by decide, cond_false, Bool.and_eq_true, decide_eq_true_eq] at h3
    rw [w64_of (by omega) (by omega)] at hn; omega
  ·by_cases k3 : r.Kind = 3
   ·simp only [k1, k2, k3, show decide ((3 : Int) = 1) = false by decide, show decide ((3 : Int) = 2) = false by decide, decide_true, cond_true, cond_false, Bool.and_eq_true, rangeB, decide_eq_true_eq] at h3
    refine ⟨.inr (.inr k3), fun n hn => ?_, fun n hn => ?_⟩
    ·simp only [k3, show decide ((3 : Int) = 1) = false by decide, decide_true, cond_true, cond_false, Option.some.injEq] at hn; omega
    ·simp only [k3, show decide ((3 : Int) = 2) = false by decide, decide_true, cond_true, cond_false, Option.some.injEq] at hn; omega
   ·simp [k1, k2, k3] at h3
theorem firing_ok {f : Firing} (h : firingCode f = 0) : f.ok := by
 obtain ⟨h1, h2, h3⟩ := firing_small h
 have hk := kilnB_len h1
 exact ⟨h1, by omega, fun r hr => readB_ok ⟨hk.2.2.1, hk.2.2.2⟩ (h3 r hr)⟩
theorem nf_ok {f : Firing} (h : f.ok) : (nf f).ok := by
 have h2 := h.l
 have a := limsOf_len f.Readings lo?
 have b := limsOf_len f.Readings hi?
 refine ⟨h.k, by show (limsOf f.Readings lo?).length ≤ 1000; omega, fun y hy => ?_, by show (limsOf f.Readings hi?).length ≤ 1000; omega, fun y hy => ?_⟩
 ·obtain ⟨r, hr, h3, h4⟩ := limsOf_bounds hy
  obtain ⟨g1, g2, g3, g4, g5⟩ := h.r r hr
  have := g4 _ h3
  refine ⟨by omega, ?_, this⟩
  rw [h4]; exact g2
 ·obtain ⟨r, hr, h3, h4⟩ := limsOf_bounds hy
  obtain ⟨g1, g2, g3, g4, g5⟩ := h.r r hr
  have := g5 _ h3
  refine ⟨by omega, ?_, this⟩
  rw [h4]; exact g2
end Go.Abs
namespace Go.Abs
open Go
set_option linter.unusedVariables false
theorem at_mapR {α : Type} (g : Nat → α) {n j : Nat} (h : j < n) : at? ((List.range n).map g) (j : Int) = some (g j) := by
 apply at_of
 rw [List.getElem?_map, List.getElem?_range h]; rfl
end Go.Abs
