/-
  Part 5 of the proof: a machine over named blocks, what each function computes, and what follows. No condition.
-/
import Derived.Test.YtafmgcbfmifaeaaRows
import Derived.WalkKit
import Derived.ProofKit
import Derived.OpenShut
import Derived.JoinedCond
import Derived.Test.YtafmgcbfmifaeaaHHotterD
set_option linter.unusedVariables false
set_option linter.unusedSimpArgs false
set_option linter.all false
set_option maxRecDepth 20000
set_option maxHeartbeats 8000000
namespace Go.Abs
open Go.Proofs
def F110.s0 : SC :=
 (.seq
 (.reg [b2 9 .lss 3 8 7 3 0 []])
 (.seq
 (.cond (.tmp 9)
 .skip
 (.exit 0))
 (.seq
 (.block 1
 (.seq
 (.reg [mv 10 8 3 [],
 sg 5 10 3 [10]])
 (.seq
 (.reg [mv 11 1 152 [],
 mv 12 0 30 [],
 mv 13 5 3 [],
 ia 14 30 12 13 [12, 13],
 ld 15 60 14 [14],
 oq 16 (.call ⟨.value (.tmp 11), #[.tmp 15], #[60]⟩) 4 [11, 15]])
 (.cond (.tmp 16)
 (.seq
 (.reg [mv 17 5 3 [5],
 sg 4 17 3 [17]])
 .ret)
 .skip))))
 (.reg [bn 18 .add 3 8 1 3 3 [8],
 mv 8 18 3 [18]]))))
def F110.c : SC :=
 (.seq
 (.reg [sn 4 0 3 [4]])
 (.seq
 (.seq
 (.reg [mv 6 0 30 [],
 ln 7 6 30 3 [6],
 oq 8 (.move (.const (.int .i64 0))) 3 []])
 (.block 0
 (.loop F110.s0)))
 (.seq
 (.reg [sn 4 (-1) 3 []])
 .ret)))
theorem F110.rs : Try.f110.results.toList = [.tmp 4] := rfl
def slices_IndexFunc_api_Reading.b0 (k : Nat) (f1 : Reading → Option (Bool)) (s0 : (List Reading)) : Int → Option (Stp (Int) (Unit) (Int)) := fun (i1 : Int) =>
 bif decide (i1 < (s0.length : Int)) then
  (at? s0 i1).bind fun x3 =>
  (f1 x3).bind fun x4 =>
  bif x4 then
   some (.ret i1)
  else
   some (.next (w64 (i1 + 1)))
 else
  some (.brk ())
noncomputable def slices_IndexFunc_api_Reading.h0 (f1_f : Nat) (f1_c : List AV) (s0 : (List Reading)) : Int → St := fun (i1 : Int) => ⟨[(0, .sl 6 (List.map Reading.c s0)), (1, .fn (.func f1_f) [] f1_c), (7, .int .i64 (s0.length : Int)), (8, .int .i64 i1)], [], [], 1, Try.f110.ntmps⟩
noncomputable def slices_IndexFunc_api_Reading.x0 : Unit → St := fun (_ : Unit) => ⟨[], [], [], 1, Try.f110.ntmps⟩
def slices_IndexFunc_api_Reading (k : Nat) (s0 : (List Reading)) (f1 : Reading → Option (Bool)) : Option (Int) :=
 (whl (slices_IndexFunc_api_Reading.b0 k f1 s0) k 0).bind fun r6 => match r6 with
 | .next _ => none
 | .ret v_ => some v_
 | .brk _ =>
  some (-1)
theorem slices_IndexFunc_api_Reading_ok (k : Nat) (s0 : (List Reading)) (f1_f : Nat) (f1_c : List AV) (f1_i : Ice f1_c) (f1 : Reading → Option (Bool)) (f1_h : ∀ q0 qr, f1 q0 = some qr → PCall Try.prog f1_f (.agg (Reading.c q0) :: f1_c) (fun y => y = .bool qr)) (r : Int) (h0 : slices_IndexFunc_api_Reading k s0 f1 = some r) : PCall Try.prog 110 [.sl 6 (List.map Reading.c s0), .fn (.func f1_f) [] f1_c] (fun y => y = .int .i64 r) := by
 refine PB (fn := Try.f110) (sc := F110.c) ?_
 refine rS ?_
 simp only [slices_IndexFunc_api_Reading] at h0
 try simp only [F110.c, f1_i.sh, f1_i.frz, f1_i.br, f1_i.refs, f1_i.imp, f1_i.ren, f1_i.un, go_sem]
 obtain ⟨r6, yr6, h0⟩ := bs h0
 refine AKev_loopS yr6 (slices_IndexFunc_api_Reading.h0 f1_f f1_c s0) (slices_IndexFunc_api_Reading.x0) ?_ ?_ ?_
 refine Weak.go [0, 1, 7, 8] [] rfl ?_
 try simp only [slices_IndexFunc_api_Reading.h0, f1_i.sh, f1_i.frz, f1_i.br, f1_i.refs, f1_i.imp, f1_i.ren, f1_i.un, go_sem]
 rintro i1 x_1 Bk1 Br1 h1 hnext1 hbrk1 hret1
 refine rS ?_
 simp only [slices_IndexFunc_api_Reading.b0] at h1
 try simp only [F110.s0, slices_IndexFunc_api_Reading.h0, f1_i.sh, f1_i.frz, f1_i.br, f1_i.refs, f1_i.imp, f1_i.ren, f1_i.un, go_sem]
 refine AKev_bif h1 ?_ ?_ <;> intro c2 h1
 try simp only [c2, f1_i.sh, f1_i.frz, f1_i.br, f1_i.refs, f1_i.imp, f1_i.ren, f1_i.un, go_sem]
 obtain ⟨x3, yx3, h1⟩ := bs h1
 try simp only [aa yx3, f1_i.sh, f1_i.frz, f1_i.br, f1_i.refs, f1_i.imp, f1_i.ren, f1_i.un, c2, go_sem]
 obtain ⟨x4, yx4, h1⟩ := bs h1
 refine zc0 (f1_h _ _ yx4) ?_ (by first | rfl | simp [AV.refsL, AV.refs, AV.scal, AV.leaf, f1_i.refs]) ?_
 try simp only [f1_i.sh, f1_i.frz, f1_i.br, f1_i.refs, f1_i.imp, f1_i.ren, f1_i.un, c2, aa yx3, go_sem]
 try simp only [f1_i.sh, f1_i.frz, f1_i.br, f1_i.refs, f1_i.imp, f1_i.ren, f1_i.un, c2, aa yx3, go_sem]
 refine AKev_bif h1 ?_ ?_ <;> intro c5 h1
 try simp only [c5, f1_i.sh, f1_i.frz, f1_i.br, f1_i.refs, f1_i.imp, f1_i.ren, f1_i.un, c2, aa yx3, go_sem]
 obtain rfl := hret1 _ (Option.some.inj h1).symm
 simp only at h0
 obtain rfl := Option.some.inj h0
 refine AKev_ret rfl ?_
 try simp only [F110.rs, f1_i.sh, f1_i.frz, f1_i.br, f1_i.refs, f1_i.imp, f1_i.ren, f1_i.un, c2, aa yx3, c5, go_sem]
 try simp only [c5, f1_i.sh, f1_i.frz, f1_i.br, f1_i.refs, f1_i.imp, f1_i.ren, f1_i.un, c2, aa yx3, go_sem]
 refine AKev_backB (hnext1 _ _ (Option.some.inj h1).symm ?_)
 refine Weak.go [0, 1, 7, 8] [] rfl ?_
 try simp only [slices_IndexFunc_api_Reading.h0, f1_i.sh, f1_i.frz, f1_i.br, f1_i.refs, f1_i.imp, f1_i.ren, f1_i.un, c2, aa yx3, c5, go_sem]
 try simp only [c2, f1_i.sh, f1_i.frz, f1_i.br, f1_i.refs, f1_i.imp, f1_i.ren, f1_i.un, go_sem]
 refine AKev_backB (hbrk1 _ _ (Option.some.inj h1).symm ?_)
 refine Weak.go [] [] rfl ?_
 try simp only [slices_IndexFunc_api_Reading.x0, f1_i.sh, f1_i.frz, f1_i.br, f1_i.refs, f1_i.imp, f1_i.ren, f1_i.un, c2, go_sem]
 rintro _ hr_
 subst hr_
 simp only at h0
 refine rS ?_
 try simp only [slices_IndexFunc_api_Reading.x0, f1_i.sh, f1_i.frz, f1_i.br, f1_i.refs, f1_i.imp, f1_i.ren, f1_i.un, go_sem]
 obtain rfl := Option.some.inj h0
 refine AKev_ret rfl ?_
 try simp only [F110.rs, f1_i.sh, f1_i.frz, f1_i.br, f1_i.refs, f1_i.imp, f1_i.ren, f1_i.un, go_sem]
def F97.s0 : SC :=
 (.seq
 (.seq
 (.reg [mv 16 6 3 [],
 mv 17 0 30 [],
 ln 18 17 30 3 [17],
 b2 19 .lss 3 16 18 3 4 [16, 18]])
 (.cond (.tmp 19)
 .skip
 (.exit 0)))
 (.seq
 (.block 1
 (.seq
 (.reg [mv 22 0 30 [],
 mv 23 6 3 [],
 ia 24 30 22 23 [22, 23],
 ld 25 60 24 [24],
 oq 7 (.alloc 60) 0 [],
 ⟨none, .store 60 (.tmp 7) (.tmp 25), 0, none, [25]⟩])
 (.seq
 (.reg [mv 26 1 152 [],
 ld 27 60 7 [],
 oq 28 (.call ⟨.value (.tmp 26), #[.tmp 27], #[60]⟩) 4 [26, 27],
 oq 29 (.unOp .not 4 (.tmp 28)) 4 [28]])
 (.cond (.tmp 29)
 (.seq
 (.reg [mv 30 0 30 [],
 mv 31 5 3 [],
 ld 32 60 7 [7],
 ia 33 30 30 31 [30, 31],
 ⟨none, .store 60 (.tmp 33) (.tmp 32), 0, none, [32, 33]⟩])
 (.reg [mv 34 5 3 [5],
 bn 35 .add 3 34 1 3 3 [34],
 sg 5 35 3 [35]]))
 .skip))))
 (.reg [mv 20 6 3 [6],
 bn 21 .add 3 20 1 3 3 [20],
 sg 6 21 3 [21]])))
def F97.c : SC :=
 (.seq
 (.reg [oq 4 (.assign (.const (.slice none 0 0))) 30 [4]])
 (.seq
 (.reg [mv 8 0 30 [],
 mv 9 1 152 [],
 cf2 10 110 8 9 30 152 3 [8, 9],
 sg 5 10 3 [10]])
 (.seq
 (.seq
 (.reg [mv 11 5 3 [],
 bn 12 .eql 3 11 (-1) 3 4 [11]])
 (.cond (.tmp 12)
 (.seq
 (.reg [mv 13 0 30 [0],
 sg 4 13 30 [13]])
 .ret)
 .skip))
 (.seq
 (.seq
 (.reg [mv 14 5 3 [],
 bn 15 .add 3 14 1 3 3 [14],
 sg 6 15 3 [15]])
 (.block 0
 (.loop F97.s0)))
 (.seq
 (.reg [mv 36 0 30 [],
 mv 37 5 3 [],
 oq 38 (.slice 30 (.tmp 36) (some (.tmp 37)) none none) 30 [36, 37],
 ⟨none, .call ⟨.builtin .clear, #[.tmp 38], #[30]⟩, 0, none, [38]⟩])
 (.seq
 (.reg [mv 39 0 30 [0],
 mv 40 5 3 [5],
 oq 41 (.slice 30 (.tmp 39) none (some (.tmp 40)) none) 30 [39, 40],
 sg 4 41 30 [41]])
 .ret))))))
theorem F97.rs : Try.f97.results.toList = [.tmp 4] := rfl
def slices_DeleteFunc_api_Reading.b0 (k : Nat) (del1 : Reading → Option (Bool)) : (Int × Int × (List Reading)) → Option (Stp (Int × Int × (List Reading)) (Int × (List Reading)) ((List Reading))) := fun (s : Int × Int × (List Reading)) => match s with
 | (i3, i4, l5) =>
   bif decide (i4 < ((l5.length : Nat) : Int)) then
    (at? l5 i4).bind fun x9 =>
    (del1 x9).bind fun x10 =>
    bif (!x10) then
     (at? l5 i3).bind fun x12 =>
     (set? l5 i3 x9).bind fun l13 =>
     some (.next (w64 (i3 + 1), w64 (i4 + 1), l13))
    else
     some (.next (i3, w64 (i4 + 1), l5))
   else
    some (.brk (i3, l5))
noncomputable def slices_DeleteFunc_api_Reading.h0 (H : Heap) (del1_f : Nat) (del1_c : List AV) : (Int × Int × (List Reading)) → St := fun (s : Int × Int × (List Reading)) => match s with
 | (i3, i4, l5) => ⟨[(0, .loc 0 0 6 0 l5.length l5.length), (1, .fn (.func del1_f) [] del1_c), (5, .int .i64 i3), (6, .int .i64 i4)], [(0, .arr 60 6 (List.map Reading.c l5))], H, 1, Try.f97.ntmps⟩
noncomputable def slices_DeleteFunc_api_Reading.x0 (H : Heap) : (Int × (List Reading)) → St := fun (s : Int × (List Reading)) => match s with
 | (i6, l7) => ⟨[(0, .loc 0 0 6 0 l7.length l7.length), (5, .int .i64 i6)], [(0, .arr 60 6 (List.map Reading.c l7))], H, 1, Try.f97.ntmps⟩
def slices_DeleteFunc_api_Reading (k : Nat) (s0 : (List Reading)) (del1 : Reading → Option (Bool)) : Option ((List Reading)) :=
 (slices_IndexFunc_api_Reading k s0 del1).bind fun x1 =>
 bif decide (x1 = (-1 : Int)) then
  some s0
 else
  (whl (slices_DeleteFunc_api_Reading.b0 k del1) k (x1, w64 (x1 + 1), s0)).bind fun r14 => match r14 with
  | .next _ => none
  | .ret v_ => some v_
  | .brk (i6, l7) =>
   (ls? l7.length i6).bind fun _ =>
   (hs? l7.length i6).bind fun _ =>
   some ((clr l7 i6.toNat (l7.length - i6.toNat) (⟨0, 0, 0, 0, (⟨0, 0⟩ : Range)⟩ : Reading)).take i6.toNat)
theorem slices_DeleteFunc_api_Reading_ok (k : Nat) (s0 : (List Reading)) (del1_f : Nat) (del1_c : List AV) (del1_i : Ice del1_c) (del1 : Reading → Option (Bool)) (del1_h : ∀ q0 qr, del1 q0 = some qr → PCall Try.prog del1_f (.agg (Reading.c q0) :: del1_c) (fun y => y = .bool qr)) (r : (List Reading)) (h0 : slices_DeleteFunc_api_Reading k s0 del1 = some r) : GCall Try.prog 97 [.loc 0 0 6 0 s0.length s0.length, .fn (.func del1_f) [] del1_c] [(0, .arr 60 6 (List.map Reading.c s0))] (fun y fr => y = .loc 0 0 6 0 r.length r.length ∧ fr = [(0, .arr 60 6 (List.map Reading.c r))]) := by
 have hr := GCall.own (et := 60) (sz := 6) (ls := List.map Reading.c r) (GCall.of_body T_ok (f := 97) (fn := Try.f97) (sc := F97.c) (args := [.loc 0 0 6 0 s0.length s0.length, .fn (.func del1_f) [] del1_c]) (fr0 := [(0, .arr 60 6 (List.map Reading.c s0))]) (by rfl) (by rfl) (by decide +kernel) (by rfl) (by decide +kernel) (Nat.le_of_ble_eq_true rfl) (fun H => ?_))
 simpa only [List.length_map] using hr
 refine rS ?_
 simp only [slices_DeleteFunc_api_Reading] at h0
 try simp only [F97.c, del1_i.sh, del1_i.frz, del1_i.br, del1_i.refs, del1_i.imp, del1_i.ren, del1_i.un, go_sem]
 obtain ⟨x1, yx1, h0⟩ := bs h0
 refine zc0 (slices_IndexFunc_api_Reading_ok k _ del1_f del1_c del1_i del1 del1_h _ yx1) ?_ (by first | rfl | simp [AV.refsL, AV.refs, AV.scal, AV.leaf, del1_i.refs]) ?_
 try simp only [del1_i.sh, del1_i.frz, del1_i.br, del1_i.refs, del1_i.imp, del1_i.ren, del1_i.un, go_sem]
 try simp only [del1_i.sh, del1_i.frz, del1_i.br, del1_i.refs, del1_i.imp, del1_i.ren, del1_i.un, go_sem]
 refine AKev_bif h0 ?_ ?_ <;> intro c2 h0
 try simp only [c2, del1_i.sh, del1_i.frz, del1_i.br, del1_i.refs, del1_i.imp, del1_i.ren, del1_i.un, go_sem]
 obtain rfl := Option.some.inj h0
 refine AKev_gret rfl ?_
 try simp only [F97.rs, oOK, Option.map_some, tupOf, cut0_map, cut_map, Nat.le_refl, List.take_length, del1_i.sh, del1_i.frz, del1_i.br, del1_i.refs, del1_i.imp, del1_i.ren, del1_i.un, c2, go_sem]
 try simp only [c2, del1_i.sh, del1_i.frz, del1_i.br, del1_i.refs, del1_i.imp, del1_i.ren, del1_i.un, go_sem]
 obtain ⟨r14, yr14, h0⟩ := bs h0
 refine AKev_loopS yr14 (slices_DeleteFunc_api_Reading.h0 H del1_f del1_c) (slices_DeleteFunc_api_Reading.x0 H) ?_ ?_ ?_
 refine Weak.go [0, 1, 5, 6] [0] rfl ?_
 try simp only [slices_DeleteFunc_api_Reading.h0, del1_i.sh, del1_i.frz, del1_i.br, del1_i.refs, del1_i.imp, del1_i.ren, del1_i.un, c2, go_sem]
 rintro ⟨i3, i4, l5⟩ x_1 Bk1 Br1 h1 hnext1 hbrk1 hret1
 refine rS ?_
 simp only [slices_DeleteFunc_api_Reading.b0] at h1
 try simp only [F97.s0, slices_DeleteFunc_api_Reading.h0, del1_i.sh, del1_i.frz, del1_i.br, del1_i.refs, del1_i.imp, del1_i.ren, del1_i.un, c2, go_sem]
 refine AKev_bif h1 ?_ ?_ <;> intro c8 h1
 try simp only [c8, del1_i.sh, del1_i.frz, del1_i.br, del1_i.refs, del1_i.imp, del1_i.ren, del1_i.un, c2, go_sem]
 obtain ⟨x9, yx9, h1⟩ := bs h1
 try simp only [aa yx9, del1_i.sh, del1_i.frz, del1_i.br, del1_i.refs, del1_i.imp, del1_i.ren, del1_i.un, c2, c8, go_sem]
 obtain ⟨x10, yx10, h1⟩ := bs h1
 refine zc0 (del1_h _ _ yx10) ?_ (by first | rfl | simp [AV.refsL, AV.refs, AV.scal, AV.leaf, del1_i.refs]) ?_
 try simp only [del1_i.sh, del1_i.frz, del1_i.br, del1_i.refs, del1_i.imp, del1_i.ren, del1_i.un, c2, c8, aa yx9, go_sem]
 try simp only [del1_i.sh, del1_i.frz, del1_i.br, del1_i.refs, del1_i.imp, del1_i.ren, del1_i.un, c2, c8, aa yx9, go_sem]
 refine AKev_bif h1 ?_ ?_ <;> intro c11 h1
 have c11 := bnot_t c11
 try simp only [c11, del1_i.sh, del1_i.frz, del1_i.br, del1_i.refs, del1_i.imp, del1_i.ren, del1_i.un, c2, c8, aa yx9, go_sem]
 obtain ⟨x12, yx12, h1⟩ := bs h1
 try simp only [aa yx12, del1_i.sh, del1_i.frz, del1_i.br, del1_i.refs, del1_i.imp, del1_i.ren, del1_i.un, c2, c8, aa yx9, c11, go_sem]
 obtain ⟨l13, yl13, h1⟩ := bs h1
 have eyl13 := set_map Reading.c yl13
 simp only [go_sem] at eyl13
 try simp only [eyl13, del1_i.sh, del1_i.frz, del1_i.br, del1_i.refs, del1_i.imp, del1_i.ren, del1_i.un, c2, c8, aa yx9, c11, aa yx12, set_len yl13, set_take Reading.c yl13, go_sem]
 refine AKev_backB (hnext1 _ _ (Option.some.inj h1).symm ?_)
 refine Weak.go [0, 1, 5, 6] [0] rfl ?_
 try simp only [slices_DeleteFunc_api_Reading.h0, del1_i.sh, del1_i.frz, del1_i.br, del1_i.refs, del1_i.imp, del1_i.ren, del1_i.un, c2, c8, aa yx9, c11, aa yx12, eyl13, set_len yl13, set_take Reading.c yl13, go_sem]
 have c11 := bnot_f c11
 try simp only [c11, del1_i.sh, del1_i.frz, del1_i.br, del1_i.refs, del1_i.imp, del1_i.ren, del1_i.un, c2, c8, aa yx9, go_sem]
 refine AKev_backB (hnext1 _ _ (Option.some.inj h1).symm ?_)
 refine Weak.go [0, 1, 5, 6] [0] rfl ?_
 try simp only [slices_DeleteFunc_api_Reading.h0, del1_i.sh, del1_i.frz, del1_i.br, del1_i.refs, del1_i.imp, del1_i.ren, del1_i.un, c2, c8, aa yx9, c11, go_sem]
 try simp only [c8, del1_i.sh, del1_i.frz, del1_i.br, del1_i.refs, del1_i.imp, del1_i.ren, del1_i.un, c2, go_sem]
 refine AKev_backB (hbrk1 _ _ (Option.some.inj h1).symm ?_)
 refine Weak.go [0, 5] [0] rfl ?_
 try simp only [slices_DeleteFunc_api_Reading.x0, del1_i.sh, del1_i.frz, del1_i.br, del1_i.refs, del1_i.imp, del1_i.ren, del1_i.un, c2, c8, go_sem]
 rintro ⟨i6, l7⟩ hr_
 subst hr_
 simp only at h0
 refine rS ?_
 try simp only [slices_DeleteFunc_api_Reading.x0, del1_i.sh, del1_i.frz, del1_i.br, del1_i.refs, del1_i.imp, del1_i.ren, del1_i.un, c2, go_sem]
 obtain ⟨u15, yu15, h0⟩ := bs h0
 have lyu15 := ls_le yu15
 have eq16 := clr_map Reading.c l7 i6.toNat (l7.length - i6.toNat) (⟨0, 0, 0, 0, (⟨0, 0⟩ : Range)⟩ : Reading)
 have lq16 : (clr l7 i6.toNat (l7.length - i6.toNat) (⟨0, 0, 0, 0, (⟨0, 0⟩ : Range)⟩ : Reading)).length = l7.length := by rw [clr_len] <;> simp only [del1_i.sh, del1_i.frz, del1_i.br, del1_i.refs, del1_i.imp, del1_i.ren, del1_i.un, c2, lyu15, go_sem]
 try simp only [go_sem] at eq16
 try simp only [ls_bounds yu15, lyu15, eq16, del1_i.sh, del1_i.frz, del1_i.br, del1_i.refs, del1_i.imp, del1_i.ren, del1_i.un, c2, lq16, go_sem]
 obtain ⟨u17, yu17, h0⟩ := bs h0
 have lyu17 := hs_le yu17
 try simp only [hs_bounds yu17, lyu17, del1_i.sh, del1_i.frz, del1_i.br, del1_i.refs, del1_i.imp, del1_i.ren, del1_i.un, c2, lyu15, lq16, go_sem]
 obtain rfl := Option.some.inj h0
 refine AKev_gret rfl ?_
 try simp only [F97.rs, oOK, Option.map_some, tupOf, cut0_map, cut_map, Nat.le_refl, List.take_length, del1_i.sh, del1_i.frz, del1_i.br, del1_i.refs, del1_i.imp, del1_i.ren, del1_i.un, c2, lyu15, lq16, lyu17, go_sem]
def F98.c : SC :=
 (.seq
 (.reg [oq 2 (.box 60 (.tmp 0)) 0 [0],
 sb 3 false 4 [3]])
 (.seq
 (.reg [ld 4 122 1 [1],
 fa 5 60 2 0 [2],
 ld 6 3 5 [5],
 oq 7 (.call ⟨.value (.tmp 4), #[.tmp 6], #[3]⟩) 4 [4, 6],
 sg 3 7 4 [7]])
 .ret))
theorem F98.rs : Try.f98.results.toList = [.tmp 3] := rfl
def heat_without_1 (k : Nat) (r0 : Reading) (c1 : Int → Option (Bool)) : Option (Bool) :=
 (c1 r0.Source).bind fun x1 =>
 some x1
theorem heat_without_1_ok (k : Nat) (r0 : Reading) (c1_f : Nat) (c1_c : List AV) (c1_i : Ice c1_c) (c1 : Int → Option (Bool)) (c1_h : ∀ q0 qr, c1 q0 = some qr → PCall Try.prog c1_f (.int .i64 q0 :: c1_c) (fun y => y = .bool qr)) (r : Bool) (h0 : heat_without_1 k r0 c1 = some r) : PCall Try.prog 98 [.agg (Reading.c r0), .rptr 1 [[.fn (.func c1_f) [] c1_c]] 0 0] (fun y => y = .bool r) := by
 refine PB (fn := Try.f98) (sc := F98.c) ?_
 refine rS ?_
 simp only [heat_without_1] at h0
 try simp only [F98.c, c1_i.sh, c1_i.frz, c1_i.br, c1_i.refs, c1_i.imp, c1_i.ren, c1_i.un, go_sem]
 obtain ⟨x1, yx1, h0⟩ := bs h0
 refine zc0 (c1_h _ _ yx1) ?_ (by first | rfl | simp [AV.refsL, AV.refs, AV.scal, AV.leaf, c1_i.refs]) ?_
 try simp only [c1_i.sh, c1_i.frz, c1_i.br, c1_i.refs, c1_i.imp, c1_i.ren, c1_i.un, go_sem]
 try simp only [c1_i.sh, c1_i.frz, c1_i.br, c1_i.refs, c1_i.imp, c1_i.ren, c1_i.un, go_sem]
 obtain rfl := Option.some.inj h0
 refine AKev_ret rfl ?_
 try simp only [F98.rs, c1_i.sh, c1_i.frz, c1_i.br, c1_i.refs, c1_i.imp, c1_i.ren, c1_i.un, go_sem]
def F66.c : SC :=
 (.seq
 (.reg [oq 2 (.box 32 (.tmp 0)) 0 [0],
 oq 3 (.box 122 (.tmp 1)) 0 [1],
 oq 4 (.alloc 32) 0 []])
 (.seq
 (.dreg [fa 5 32 2 0 [],
 ld 6 29 5 [],
 cf1 7 54 6 29 29 [],
 fa 8 32 2 1 [],
 ld 9 30 8 [],
 cf1 10 55 9 30 30 [],
 oq 11 (.makeFunc (.func 98) #[] #[.tmp 3]) 152 [],
 cf2 12 97 10 11 30 152 30 [],
 oq 13 (.build 32 #[(0, .tmp 7), (1, .tmp 12)]) 32 [],
 ⟨none, .store 32 (.tmp 4) (.tmp 13), 0, none, []⟩] [[], [0], [0, 1], [], [3], [3, 4, 0, 1, 2], [], [3, 4, 0, 1, 2, 5, 6], [0, 1, 2, 3, 4, 5, 6, 7], [0, 1, 2, 3, 4, 5, 6, 7, 8]] [2, 3, 5, 6, 7, 8, 9, 10, 11, 12, 13])
 .ret))
theorem F66.rs : Try.f66.results.toList = [.cell 4 32] := rfl
def heat_without (k : Nat) (f0 : Firing) (gone1 : Int → Option (Bool)) : Option (Firing) :=
 (heat_kilnCopy k f0.Kiln).bind fun x1 =>
 (slices_Clone_api_Reading k f0.Readings).bind fun x3 =>
 (slices_DeleteFunc_api_Reading k x3 (fun q0 => heat_without_1 k q0 gone1)).bind fun x5 =>
 some (⟨x1, x5⟩ : Firing)
theorem heat_without_ok (k : Nat) (f0 : Firing) (gone1_f : Nat) (gone1_c : List AV) (gone1_i : Ice gone1_c) (gone1 : Int → Option (Bool)) (gone1_h : ∀ q0 qr, gone1 q0 = some qr → PCall Try.prog gone1_f (.int .i64 q0 :: gone1_c) (fun y => y = .bool qr)) (r : Firing) (h0 : heat_without k f0 gone1 = some r) : PCall Try.prog 66 [.agg (Firing.c f0), .fn (.func gone1_f) [] gone1_c] (fun y => y = .agg (Firing.c r)) := by
 refine PB (fn := Try.f66) (sc := F66.c) ?_
 refine rS ?_
 simp only [heat_without] at h0
 try simp only [F66.c, gone1_i.sh, gone1_i.frz, gone1_i.br, gone1_i.refs, gone1_i.imp, gone1_i.ren, gone1_i.un, go_sem]
 refine AKev_region T_ok follows_ok 1000 ?_
 try simp only [gone1_i.sh, gone1_i.frz, gone1_i.br, gone1_i.refs, gone1_i.imp, gone1_i.ren, gone1_i.un, go_sem]
 obtain ⟨x1, yx1, h0⟩ := bs h0
 refine DG_call0 1000 (heat_kilnCopy_ok k _ _ yx1) ?_ (by first | rfl | simp [AV.refsL, AV.refs, AV.scal, AV.leaf, gone1_i.refs]) ?_
 try simp only [gone1_i.sh, gone1_i.frz, gone1_i.br, gone1_i.refs, gone1_i.imp, gone1_i.ren, gone1_i.un, go_sem]
 try simp only [gone1_i.sh, gone1_i.frz, gone1_i.br, gone1_i.refs, gone1_i.imp, gone1_i.ren, gone1_i.un, go_sem]
 obtain ⟨x3, yx3, h0⟩ := bs h0
 refine DG_give 1000 [] [] (slices_Clone_api_Reading_ok k _ _ yx3) ?_ rfl ?_
 try simp only [gOK, List.length_map, gone1_i.sh, gone1_i.frz, gone1_i.br, gone1_i.refs, gone1_i.imp, gone1_i.ren, gone1_i.un, go_sem]
 try simp only [gone1_i.sh, gone1_i.frz, gone1_i.br, gone1_i.refs, gone1_i.imp, gone1_i.ren, gone1_i.un, go_sem]
 obtain ⟨x5, yx5, h0⟩ := bs h0
 refine DG_give 1000 [16] [128] (slices_DeleteFunc_api_Reading_ok k _ 98 [.rptr 1 [[.fn (.func gone1_f) [] gone1_c]] 0 0] ⟨fun _ => rfl, fun _ => rfl, fun _ _ => rfl, rfl, fun _ => rfl, fun _ => rfl, fun _ => rfl⟩ (fun q0 => heat_without_1 k q0 gone1) (fun q0 qr qh => heat_without_1_ok k q0 gone1_f gone1_c gone1_i gone1 gone1_h qr qh) _ yx5) ?_ rfl ?_
 try simp only [gOK, List.length_map, gone1_i.sh, gone1_i.frz, gone1_i.br, gone1_i.refs, gone1_i.imp, gone1_i.ren, gone1_i.un, go_sem]
 try simp only [gone1_i.sh, gone1_i.frz, gone1_i.br, gone1_i.refs, gone1_i.imp, gone1_i.ren, gone1_i.un, go_sem]
 refine DG_done ⟨rfl, run_sound T_ok 1000 _ _ ?_⟩
 try simp only [gone1_i.sh, gone1_i.frz, gone1_i.br, gone1_i.refs, gone1_i.imp, gone1_i.ren, gone1_i.un, go_sem]
 obtain rfl := Option.some.inj h0
 refine AKev_ret rfl ?_
 try simp only [F66.rs, gone1_i.sh, gone1_i.frz, gone1_i.br, gone1_i.refs, gone1_i.imp, gone1_i.ren, gone1_i.un, go_sem]
def F93.s0 : SC :=
 (.seq
 (.reg [b2 9 .lss 3 8 7 3 0 []])
 (.seq
 (.cond (.tmp 9)
 .skip
 (.exit 0))
 (.seq
 (.block 1
 (.seq
 (.reg [mv 10 8 3 [],
 sg 5 10 3 [10]])
 (.seq
 (.reg [mv 11 1 3 [],
 mv 12 0 23 [],
 mv 13 5 3 [],
 ia 14 23 12 13 [12, 13],
 ld 15 3 14 [14],
 b2 16 .eql 3 11 15 3 4 [11, 15]])
 (.cond (.tmp 16)
 (.seq
 (.reg [mv 17 5 3 [5],
 sg 4 17 3 [17]])
 .ret)
 .skip))))
 (.reg [bn 18 .add 3 8 1 3 3 [8],
 mv 8 18 3 [18]]))))
def F93.c : SC :=
 (.seq
 (.reg [sn 4 0 3 [4]])
 (.seq
 (.seq
 (.reg [mv 6 0 23 [],
 ln 7 6 23 3 [6],
 oq 8 (.move (.const (.int .i64 0))) 3 []])
 (.block 0
 (.loop F93.s0)))
 (.seq
 (.reg [sn 4 (-1) 3 []])
 .ret)))
theorem F93.rs : Try.f93.results.toList = [.tmp 4] := rfl
def slices_Index_int.b0 (k : Nat) (s0 : (List Int)) (v1 : Int) : Int → Option (Stp (Int) (Unit) (Int)) := fun (i1 : Int) =>
 bif decide (i1 < (s0.length : Int)) then
  (at? s0 i1).bind fun x3 =>
  bif decide (v1 = x3) then
   some (.ret i1)
  else
   some (.next (w64 (i1 + 1)))
 else
  some (.brk ())
noncomputable def slices_Index_int.h0 (s0 : (List Int)) (v1 : Int) : Int → St := fun (i1 : Int) => ⟨[(0, .sl 1 (List.map eI s0)), (1, .int .i64 v1), (7, .int .i64 (s0.length : Int)), (8, .int .i64 i1)], [], [], 1, Try.f93.ntmps⟩
noncomputable def slices_Index_int.x0 : Unit → St := fun (_ : Unit) => ⟨[], [], [], 1, Try.f93.ntmps⟩
def slices_Index_int (k : Nat) (s0 : (List Int)) (v1 : Int) : Option (Int) :=
 (whl (slices_Index_int.b0 k s0 v1) k 0).bind fun r5 => match r5 with
 | .next _ => none
 | .ret v_ => some v_
 | .brk _ =>
  some (-1)
theorem slices_Index_int_ok (k : Nat) (s0 : (List Int)) (v1 : Int) (r : Int) (h0 : slices_Index_int k s0 v1 = some r) : PCall Try.prog 93 [.sl 1 (List.map eI s0), .int .i64 v1] (fun y => y = .int .i64 r) := by
 refine PB (fn := Try.f93) (sc := F93.c) ?_
 refine rS ?_
 simp only [slices_Index_int] at h0
 try simp only [F93.c, go_sem]
 obtain ⟨r5, yr5, h0⟩ := bs h0
 refine AKev_loopS yr5 (slices_Index_int.h0 s0 v1) (slices_Index_int.x0) ?_ ?_ ?_
 refine Weak.go [0, 1, 7, 8] [] rfl ?_
 try simp only [slices_Index_int.h0, go_sem]
 rintro i1 x_1 Bk1 Br1 h1 hnext1 hbrk1 hret1
 refine rS ?_
 simp only [slices_Index_int.b0] at h1
 try simp only [F93.s0, slices_Index_int.h0, go_sem]
 refine AKev_bif h1 ?_ ?_ <;> intro c2 h1
 try simp only [c2, go_sem]
 obtain ⟨x3, yx3, h1⟩ := bs h1
 try simp only [aa yx3, c2, go_sem]
 refine AKev_bif h1 ?_ ?_ <;> intro c4 h1
 try simp only [c4, c2, aa yx3, go_sem]
 obtain rfl := hret1 _ (Option.some.inj h1).symm
 simp only at h0
 obtain rfl := Option.some.inj h0
 refine AKev_ret rfl ?_
 try simp only [F93.rs, c2, aa yx3, c4, go_sem]
 try simp only [c4, c2, aa yx3, go_sem]
 refine AKev_backB (hnext1 _ _ (Option.some.inj h1).symm ?_)
 refine Weak.go [0, 1, 7, 8] [] rfl ?_
 try simp only [slices_Index_int.h0, c2, aa yx3, c4, go_sem]
 try simp only [c2, go_sem]
 refine AKev_backB (hbrk1 _ _ (Option.some.inj h1).symm ?_)
 refine Weak.go [] [] rfl ?_
 try simp only [slices_Index_int.x0, c2, go_sem]
 rintro _ hr_
 subst hr_
 simp only at h0
 refine rS ?_
 try simp only [slices_Index_int.x0, go_sem]
 obtain rfl := Option.some.inj h0
 refine AKev_ret rfl ?_
 try simp only [F93.rs, go_sem]
def F60.c : SC :=
 (.seq
 (.reg [sb 4 false 4 [4]])
 (.seq
 (.reg [mv 5 0 23 [0],
 mv 6 1 3 [1],
 cf2 7 93 5 6 23 3 3 [5, 6],
 bn 8 .geq 3 7 0 3 4 [7],
 sg 4 8 4 [8]])
 .ret))
theorem F60.rs : Try.f60.results.toList = [.tmp 4] := rfl
def slices_Contains_int (k : Nat) (s0 : (List Int)) (v1 : Int) : Option (Bool) :=
 (slices_Index_int k s0 v1).bind fun x1 =>
 some (decide ((0 : Int) ≤ x1))
theorem slices_Contains_int_ok (k : Nat) (s0 : (List Int)) (v1 : Int) (r : Bool) (h0 : slices_Contains_int k s0 v1 = some r) : PCall Try.prog 60 [.sl 1 (List.map eI s0), .int .i64 v1] (fun y => y = .bool r) := by
 refine PB (fn := Try.f60) (sc := F60.c) ?_
 refine rS ?_
 simp only [slices_Contains_int] at h0
 try simp only [F60.c, go_sem]
 obtain ⟨x1, yx1, h0⟩ := bs h0
 refine zc0 (slices_Index_int_ok k _ _ _ yx1) ?_ (by first | rfl | simp [AV.refsL, AV.refs, AV.scal, AV.leaf]) ?_
 try simp only [go_sem]
 try simp only [go_sem]
 obtain rfl := Option.some.inj h0
 refine AKev_ret rfl ?_
 try simp only [F60.rs, go_sem]
def F92.c : SC :=
 (.seq
 (.reg [sb 3 false 4 [3]])
 (.seq
 (.reg [ld 4 23 1 [1],
 mv 5 0 3 [0],
 cf2 6 60 4 5 23 3 4 [4, 5],
 oq 7 (.unOp .not 4 (.tmp 6)) 4 [6],
 sg 3 7 4 [7]])
 .ret))
theorem F92.rs : Try.f92.results.toList = [.tmp 3] := rfl
def heat_only_1 (k : Nat) (n0 : Int) (c1 : (List Int)) : Option (Bool) :=
 (slices_Contains_int k c1 n0).bind fun x1 =>
 some (!x1)
theorem heat_only_1_ok (k : Nat) (n0 : Int) (c1 : (List Int)) (r : Bool) (h0 : heat_only_1 k n0 c1 = some r) : PCall Try.prog 92 [.int .i64 n0, .rptr 1 [(eL 1 eI) c1] 0 0] (fun y => y = .bool r) := by
 refine PB (fn := Try.f92) (sc := F92.c) ?_
 refine rS ?_
 simp only [heat_only_1] at h0
 try simp only [F92.c, go_sem]
 obtain ⟨x1, yx1, h0⟩ := bs h0
 refine zc0 (slices_Contains_int_ok k _ _ _ yx1) ?_ (by first | rfl | simp [AV.refsL, AV.refs, AV.scal, AV.leaf]) ?_
 try simp only [go_sem]
 try simp only [go_sem]
 obtain rfl := Option.some.inj h0
 refine AKev_ret rfl ?_
 try simp only [F92.rs, go_sem]
def F59.c : SC :=
 (.seq
 (.reg [oq 2 (.box 32 (.tmp 0)) 0 [0],
 oq 3 (.box 23 (.tmp 1)) 0 [1],
 oq 4 (.alloc 94) 0 []])
 (.seq
 (.reg [ld 5 32 2 [2],
 oq 6 (.makeFunc (.func 92) #[] #[.tmp 3]) 122 [3],
 cf2 7 66 5 6 32 122 32 [5, 6],
 cf1 8 47 7 32 94 [7],
 ⟨none, .store 94 (.tmp 4) (.tmp 8), 0, none, [8]⟩])
 .ret))
theorem F59.rs : Try.f59.results.toList = [.cell 4 94] := rfl
def heat_only (k : Nat) (f0 : Firing) (by1 : (List Int)) : Option (heat_furnace) :=
 (heat_without k f0 (fun q0 => heat_only_1 k q0 by1)).bind fun x1 =>
 (heat_newFurnace k x1).bind fun x2 =>
 some x2
theorem heat_only_ok (k : Nat) (f0 : Firing) (by1 : (List Int)) (r : heat_furnace) (h0 : heat_only k f0 by1 = some r) : PCall Try.prog 59 [.agg (Firing.c f0), .sl 1 (List.map eI by1)] (fun y => y = .agg (heat_furnace.c r)) := by
 refine PB (fn := Try.f59) (sc := F59.c) ?_
 refine rS ?_
 simp only [heat_only] at h0
 try simp only [F59.c, go_sem]
 obtain ⟨x1, yx1, h0⟩ := bs h0
 refine zcT [16] (heat_without_ok k _ 92 [.rptr 1 [(eL 1 eI) by1] 0 0] ⟨fun _ => rfl, fun _ => rfl, fun _ _ => rfl, rfl, fun _ => rfl, fun _ => rfl, fun _ => rfl⟩ (fun q0 => heat_only_1 k q0 by1) (fun q0 qr qh => heat_only_1_ok k q0 _ qr qh) _ yx1) ?_ ?_
 try simp only [go_sem]
 try simp only [go_sem]
 obtain ⟨x2, yx2, h0⟩ := bs h0
 refine zc0 (heat_newFurnace_ok k _ _ yx2) ?_ (by first | rfl | simp [AV.refsL, AV.refs, AV.scal, AV.leaf]) ?_
 try simp only [go_sem]
 try simp only [go_sem]
 obtain rfl := Option.some.inj h0
 refine AKev_ret rfl ?_
 try simp only [F59.rs, go_sem]
def F22.s0 : SC :=
 (.seq
 (.seq
 (.reg [mv 21 5 3 [],
 bn 22 .geq 3 21 0 3 4 [21]])
 (.cond (.tmp 22)
 .skip
 (.exit 1)))
 (.seq
 (.block 2
 (.seq
 (.reg [mv 25 4 23 [],
 cf1 26 58 25 23 23 [25],
 mv 27 5 3 [],
 mv 28 5 3 [],
 bn 29 .add 3 28 1 3 3 [28],
 oq 30 (.call ⟨.value (.func 57), #[.tmp 26, .tmp 27, .tmp 29], #[23, 3, 3]⟩) 23 [26, 27, 29],
 sg 6 30 23 [30]])
 (.seq
 (.reg [ld 31 32 1 [],
 mv 32 6 23 [],
 cf2 33 59 31 32 32 23 94 [31, 32],
 cf1 34 56 33 94 4 [33],
 oq 35 (.unOp .not 4 (.tmp 34)) 4 [34]])
 (.cond (.tmp 35)
 (.reg [mv 36 6 23 [6],
 sg 4 36 23 [36]])
 .skip))))
 (.reg [mv 23 5 3 [5],
 bn 24 .sub 3 23 1 3 3 [23],
 sg 5 24 3 [24]])))
def F22.c : SC :=
 (.seq
 (.reg [oq 1 (.box 32 (.tmp 0)) 0 [0],
 oq 2 (.assign (.const (.slice none 0 0))) 23 [2],
 sn 3 0 43 [3]])
 (.seq
 (.block 0
 (.seq
 (.reg [ld 8 32 1 [],
 cf1 9 41 8 32 43 [8],
 bn 10 .neq 43 9 0 43 4 [9],
 sg 7 10 4 [10]])
 (.cond (.tmp 7)
 (.seq
 (.reg [oq 2 (.assign (.const (.slice none 0 0))) 23 [],
 sn 3 42 43 []])
 .ret)
 (.seq
 (.reg [ld 12 32 1 [],
 cf1 13 47 12 32 94 [12],
 cf1 14 56 13 94 4 [13],
 sg 11 14 4 [14]])
 (.cond (.tmp 11)
 (.seq
 (.reg [oq 2 (.assign (.const (.slice none 0 0))) 23 [],
 sn 3 3 43 []])
 .ret)
 .skip)))))
 (.seq
 (.reg [fa 15 32 1 1 [],
 ld 16 30 15 [15],
 cf1 17 43 16 30 23 [16],
 sg 4 17 23 [17]])
 (.seq
 (.seq
 (.reg [mv 18 4 23 [],
 ln 19 18 23 3 [18],
 bn 20 .sub 3 19 1 3 3 [19],
 sg 5 20 3 [20]])
 (.block 1
 (.loop F22.s0)))
 (.seq
 (.reg [mv 37 4 23 [4],
 sg 2 37 23 [37],
 sn 3 0 43 []])
 .ret)))))
theorem F22.rs : Try.f22.results.toList = [.tmp 2, .tmp 3] := rfl
def heat_Conflict.b0 (k : Nat) (f0 : Firing) : ((List Int) × Int) → Option (Stp ((List Int) × Int) ((List Int)) ((List Int) × Int)) := fun (s : (List Int) × Int) => match s with
 | (l7, i8) =>
   bif decide ((0 : Int) ≤ i8) then
    (slices_Clone_int k l7).bind fun x12 =>
    (slices_Delete_int k x12 i8 (w64 (i8 + 1))).bind fun x14 =>
    (heat_only k f0 x14).bind fun x15 =>
    (heat_furnace_sound k x15).bind fun x16 =>
    bif (!x16) then
     some (.next (x14, w64 (i8 - 1)))
    else
     some (.next (l7, w64 (i8 - 1)))
   else
    some (.brk l7)
noncomputable def heat_Conflict.h0 (f0 : Firing) : ((List Int) × Int) → St := fun (s : (List Int) × Int) => match s with
 | (l7, i8) => ⟨[(1, .ptr 0 0 0), (4, .sl 1 (List.map eI l7)), (5, .int .i64 i8)], [(0, .box [.sl 1 (List.map (eL 2 Range.c) f0.Kiln.Falls), .sl 6 (List.map Reading.c f0.Readings)])], [], 1, Try.f22.ntmps⟩
noncomputable def heat_Conflict.x0 : (List Int) → St := fun (l9 : (List Int)) => ⟨[(4, .sl 1 (List.map eI l9))], [], [], 1, Try.f22.ntmps⟩
def heat_Conflict (k : Nat) (f0 : Firing) : Option ((List Int) × Int) :=
 (heat_Check k f0).bind fun x1 =>
 bif (!decide (x1 = (0 : Int))) then
  some ([], 42)
 else
  (heat_newFurnace k f0).bind fun x3 =>
  (heat_furnace_sound k x3).bind fun x4 =>
  bif x4 then
   some ([], 3)
  else
   (heat_sources k f0.Readings).bind fun x6 =>
   (whl (heat_Conflict.b0 k f0) k (x6, w64 ((x6.length : Int) - 1))).bind fun r18 => match r18 with
   | .next _ => none
   | .ret v_ => some v_
   | .brk l9 =>
    some (l9, 0)
theorem heat_Conflict_ok (k : Nat) (f0 : Firing) (r : (List Int) × Int) (h0 : heat_Conflict k f0 = some r) : PCall Try.prog 22 [.agg (Firing.c f0)] (fun y => y = .tup [.sl 1 (List.map eI r.1), .int .i64 r.2]) := by
 refine PB (fn := Try.f22) (sc := F22.c) ?_
 refine rS ?_
 simp only [heat_Conflict] at h0
 try simp only [F22.c, go_sem]
 obtain ⟨x1, yx1, h0⟩ := bs h0
 refine zc0 (heat_Check_ok k _ _ yx1) ?_ (by first | rfl | simp [AV.refsL, AV.refs, AV.scal, AV.leaf]) ?_
 try simp only [go_sem]
 try simp only [go_sem]
 refine AKev_bif h0 ?_ ?_ <;> intro c2 h0
 have c2 := bnot_t c2
 try simp only [c2, go_sem]
 obtain rfl := Option.some.inj h0
 refine AKev_ret rfl ?_
 try simp only [F22.rs, c2, go_sem]
 have c2 := bnot_f c2
 try simp only [c2, go_sem]
 obtain ⟨x3, yx3, h0⟩ := bs h0
 refine zc0 (heat_newFurnace_ok k _ _ yx3) ?_ (by first | rfl | simp [AV.refsL, AV.refs, AV.scal, AV.leaf]) ?_
 try simp only [c2, go_sem]
 try simp only [c2, go_sem]
 obtain ⟨x4, yx4, h0⟩ := bs h0
 refine zc0 (heat_furnace_sound_ok k _ _ yx4) ?_ (by first | rfl | simp [AV.refsL, AV.refs, AV.scal, AV.leaf]) ?_
 try simp only [c2, go_sem]
 try simp only [c2, go_sem]
 refine AKev_bif h0 ?_ ?_ <;> intro c5 h0
 try simp only [c5, c2, go_sem]
 obtain rfl := Option.some.inj h0
 refine AKev_ret rfl ?_
 try simp only [F22.rs, c2, c5, go_sem]
 try simp only [c5, c2, go_sem]
 obtain ⟨x6, yx6, h0⟩ := bs h0
 refine zc0 (heat_sources_ok k _ _ yx6) ?_ (by first | rfl | simp [AV.refsL, AV.refs, AV.scal, AV.leaf]) ?_
 try simp only [c2, c5, go_sem]
 try simp only [c2, c5, go_sem]
 obtain ⟨r18, yr18, h0⟩ := bs h0
 refine AKev_loopS yr18 (heat_Conflict.h0 f0) (heat_Conflict.x0) ?_ ?_ ?_
 refine Weak.go [1, 4, 5] [0] rfl ?_
 try simp only [heat_Conflict.h0, c2, c5, go_sem]
 rintro ⟨l7, i8⟩ x_1 Bk1 Br1 h1 hnext1 hbrk1 hret1
 refine rS ?_
 simp only [heat_Conflict.b0] at h1
 try simp only [F22.s0, heat_Conflict.h0, c2, c5, go_sem]
 refine AKev_bif h1 ?_ ?_ <;> intro c10 h1
 try simp only [c10, c2, c5, go_sem]
 obtain ⟨x12, yx12, h1⟩ := bs h1
 refine AKev_give T_ok 1000 [] [] (slices_Clone_int_ok k _ _ yx12) ?_ rfl ?_
 try simp only [gOK, List.length_map, c2, c5, c10, go_sem]
 try simp only [c2, c5, c10, go_sem]
 obtain ⟨x14, yx14, h1⟩ := bs h1
 refine AKev_giveF [] [49] (slices_Delete_int_ok k _ _ _ _ yx14) ?_ rfl ?_
 try simp only [gOK, List.length_map, c2, c5, c10, go_sem]
 try simp only [c2, c5, c10, go_sem]
 refine AK.fz 1000 T_ok 113 rfl (fun _ h => by cases h) ?_
 try simp only [c2, c5, c10, go_sem]
 obtain ⟨x15, yx15, h1⟩ := bs h1
 refine zc0 (heat_only_ok k _ _ _ yx15) ?_ (by first | rfl | simp [AV.refsL, AV.refs, AV.scal, AV.leaf]) ?_
 try simp only [c2, c5, c10, go_sem]
 try simp only [c2, c5, c10, go_sem]
 obtain ⟨x16, yx16, h1⟩ := bs h1
 refine zc0 (heat_furnace_sound_ok k _ _ yx16) ?_ (by first | rfl | simp [AV.refsL, AV.refs, AV.scal, AV.leaf]) ?_
 try simp only [c2, c5, c10, go_sem]
 try simp only [c2, c5, c10, go_sem]
 refine AKev_bif h1 ?_ ?_ <;> intro c17 h1
 have c17 := bnot_t c17
 try simp only [c17, c2, c5, c10, go_sem]
 refine AKev_backB (hnext1 _ _ (Option.some.inj h1).symm ?_)
 refine Weak.go [1, 4, 5] [0] rfl ?_
 try simp only [heat_Conflict.h0, c2, c5, c10, c17, go_sem]
 have c17 := bnot_f c17
 try simp only [c17, c2, c5, c10, go_sem]
 refine AKev_backB (hnext1 _ _ (Option.some.inj h1).symm ?_)
 refine Weak.go [1, 4, 5] [0] rfl ?_
 try simp only [heat_Conflict.h0, c2, c5, c10, c17, go_sem]
 try simp only [c10, c2, c5, go_sem]
 refine AKev_backB (hbrk1 _ _ (Option.some.inj h1).symm ?_)
 refine Weak.go [4] [] rfl ?_
 try simp only [heat_Conflict.x0, c2, c5, c10, go_sem]
 rintro l9 hr_
 subst hr_
 simp only at h0
 refine rS ?_
 try simp only [heat_Conflict.x0, c2, c5, go_sem]
 obtain rfl := Option.some.inj h0
 refine AKev_ret rfl ?_
 try simp only [F22.rs, c2, c5, go_sem]
def F101.c : SC :=
 (.seq
 (.reg [oq 2 (.assign (.const (.slice none 0 0))) 92 [2]])
 (.seq
 (.seq
 (.reg [mv 3 0 92 [],
 oq 4 (.binOp .eql 92 (.tmp 3) (.const (.slice none 0 0)) 92) 4 [3]])
 (.cond (.tmp 4)
 (.seq
 (.reg [oq 2 (.assign (.const (.slice none 0 0))) 92 []])
 .ret)
 .skip))
 (.seq
 (.reg [oq 5 (.buildSlice 92 0 #[]) 92 [],
 mv 6 0 92 [0],
 oq 7 (.call ⟨.builtin .append, #[.tmp 5, .tmp 6], #[92, 92]⟩) 92 [5, 6],
 sg 2 7 92 [7]])
 .ret)))
theorem F101.rs : Try.f101.results.toList = [.tmp 2] := rfl
def slices_Clone_heat_limit (k : Nat) (s0 : (List heat_limit)) : Option ((List heat_limit)) :=
 (room? s0.length 24).bind fun _ =>
 some s0
theorem slices_Clone_heat_limit_ok (k : Nat) (s0 : (List heat_limit)) (r : (List heat_limit)) (h0 : slices_Clone_heat_limit k s0 = some r) : GCall Try.prog 101 [.sl 3 (List.map heat_limit.c s0)] [] (fun y fr => y = .loc 0 0 3 0 r.length r.length ∧ fr = [(0, .arr 136 3 (List.map heat_limit.c r))]) := by
 have hr := GCall.own (et := 136) (sz := 3) (ls := List.map heat_limit.c r) (GCall.of_body T_ok (f := 101) (fn := Try.f101) (sc := F101.c) (args := [.sl 3 (List.map heat_limit.c s0)]) (fr0 := []) (by rfl) (by rfl) (by decide +kernel) (by rfl) (by decide +kernel) (Nat.le_of_ble_eq_true rfl) (fun H => ?_))
 ·simpa only [List.length_map] using hr
 refine run_sound T_ok 1000 _ _ ?_
 simp only [slices_Clone_heat_limit] at h0
 try simp only [F101.c, go_sem]
 refine ⟨fun he => ?_, ?_⟩
 ·refine run_sound T_ok 1000 _ _ ?_
  try simp only [go_sem]
  obtain ⟨u_, hu_, h0⟩ := bind_some h0
  obtain rfl := Option.some.inj h0
  refine AKev_gret rfl ?_
  simp only [he, F101.rs, oOK, Option.map_some, tupOf, List.length_nil, List.take_nil, go_sem]
  try simp
 ·refine run_sound T_ok 1000 _ _ ?_
  try simp only [go_sem]
  obtain ⟨u1, yu1, h0⟩ := bind_some h0
  try simp only [room_some yu1, go_sem]
  obtain rfl := Option.some.inj h0
  refine AKev_gret rfl ?_
  try simp only [F101.rs, oOK, Option.map_some, tupOf, cut0_map, cut_map, Nat.le_refl, List.take_length, go_sem]
def F72.c : SC :=
 (.seq
 (.reg [oq 3 (.box 94 (.tmp 0)) 0 [0],
 oq 5 (.box 39 (.tmp 2)) 0 [2],
 oq 6 (.alloc 94) 0 []])
 (.seq
 (.dreg [fa 7 94 3 1 [],
 ld 8 92 7 [],
 cf1 9 101 8 92 92 [],
 mv 10 1 3 [],
 fa 11 39 5 0 [],
 ld 12 3 11 [],
 oq 13 (.build 136 #[(0, .tmp 10), (1, .tmp 12), (2, .const (.int .i64 (-1)))]) 136 [],
 oq 14 (.buildSlice 92 1 #[(0, .tmp 13)]) 92 [],
 oq 15 (.call ⟨.builtin .append, #[.tmp 9, .tmp 14], #[92, 92]⟩) 92 [],
 fa 16 94 3 1 [],
 ⟨none, .store 92 (.tmp 16) (.tmp 15), 0, none, []⟩] [[], [0], [0, 1], [], [], [4], [3, 4, 5], [3, 4, 5, 6], [0, 1, 2, 3, 4, 5, 6, 7], [0, 1, 2, 3, 4, 5, 6, 7, 8], [0, 1, 2, 3, 4, 5, 6, 7, 8, 9]] [7, 8, 9, 10, 11, 12, 13, 14, 15, 16])
 (.seq
 (.dreg [fa 17 94 3 2 [],
 ld 18 92 17 [],
 cf1 19 101 18 92 92 [],
 mv 20 1 3 [],
 fa 21 39 5 1 [],
 ld 22 3 21 [],
 oq 23 (.build 136 #[(0, .tmp 20), (1, .tmp 22), (2, .const (.int .i64 (-1)))]) 136 [],
 oq 24 (.buildSlice 92 1 #[(0, .tmp 23)]) 92 [],
 oq 25 (.call ⟨.builtin .append, #[.tmp 19, .tmp 24], #[92, 92]⟩) 92 [],
 fa 26 94 3 2 [],
 ⟨none, .store 92 (.tmp 26) (.tmp 25), 0, none, []⟩] [[], [0], [0, 1], [], [], [4], [3, 4, 5], [3, 4, 5, 6], [0, 1, 2, 3, 4, 5, 6, 7], [0, 1, 2, 3, 4, 5, 6, 7, 8], [0, 1, 2, 3, 4, 5, 6, 7, 8, 9]] [1, 5, 17, 18, 19, 20, 21, 22, 23, 24, 25, 26])
 (.seq
 (.reg [ld 27 94 3 [3],
 ⟨none, .store 94 (.tmp 6) (.tmp 27), 0, none, [27]⟩])
 .ret))))
theorem F72.rs : Try.f72.results.toList = [.cell 6 94] := rfl
def heat_furnace_asked (k : Nat) (f0 : heat_furnace) (place1 : Int) (heat2 : Range) : Option (heat_furnace) :=
 (slices_Clone_heat_limit k f0.least).bind fun x2 =>
 (push? 24 x2 (⟨place1, heat2.Lo, -1⟩ : heat_limit)).bind fun l3 =>
 (slices_Clone_heat_limit k f0.most).bind fun x5 =>
 (push? 24 x5 (⟨place1, heat2.Hi, -1⟩ : heat_limit)).bind fun l6 =>
 some (⟨f0.Firing, l3, l6⟩ : heat_furnace)
theorem heat_furnace_asked_ok (k : Nat) (f0 : heat_furnace) (place1 : Int) (heat2 : Range) (r : heat_furnace) (h0 : heat_furnace_asked k f0 place1 heat2 = some r) : PCall Try.prog 72 [.agg (heat_furnace.c f0), .int .i64 place1, .agg (Range.c heat2)] (fun y => y = .agg (heat_furnace.c r)) := by
 refine PB (fn := Try.f72) (sc := F72.c) ?_
 refine rS ?_
 simp only [heat_furnace_asked] at h0
 try simp only [F72.c, go_sem]
 refine AKev_region T_ok follows_ok 1000 ?_
 try simp only [go_sem]
 obtain ⟨x2, yx2, h0⟩ := bs h0
 refine DG_give 1000 [] [] (slices_Clone_heat_limit_ok k _ _ yx2) ?_ rfl ?_
 try simp only [gOK, List.length_map, go_sem]
 try simp only [go_sem]
 obtain ⟨l3, yl3, h0⟩ := bs h0
 have eyl3 := push_map heat_limit.c yl3
 have tyl3 := push_take heat_limit.c yl3
 have nyl3 := push_len yl3
 have myl3 := push_room yl3
 try simp only [go_sem] at eyl3 tyl3 nyl3 myl3
 try simp only [myl3, eyl3, nyl3, tyl3, go_sem]
 refine DG_done ⟨rfl, run_sound T_ok 1000 _ _ ?_⟩
 try simp only [eyl3, nyl3, tyl3, go_sem]
 refine AKev_region T_ok follows_ok 1000 ?_
 try simp only [eyl3, nyl3, tyl3, go_sem]
 obtain ⟨x5, yx5, h0⟩ := bs h0
 refine DG_give 1000 [] [] (slices_Clone_heat_limit_ok k _ _ yx5) ?_ rfl ?_
 try simp only [gOK, List.length_map, eyl3, nyl3, tyl3, go_sem]
 try simp only [eyl3, nyl3, tyl3, go_sem]
 obtain ⟨l6, yl6, h0⟩ := bs h0
 have eyl6 := push_map heat_limit.c yl6
 have tyl6 := push_take heat_limit.c yl6
 have nyl6 := push_len yl6
 have myl6 := push_room yl6
 try simp only [eyl3, nyl3, tyl3, go_sem] at eyl6 tyl6 nyl6 myl6
 try simp only [myl6, eyl6, eyl3, nyl3, tyl3, nyl6, tyl6, go_sem]
 refine DG_done ⟨rfl, run_sound T_ok 1000 _ _ ?_⟩
 try simp only [eyl3, nyl3, tyl3, eyl6, nyl6, tyl6, go_sem]
 obtain rfl := Option.some.inj h0
 refine AKev_ret rfl ?_
 try simp only [F72.rs, eyl3, nyl3, tyl3, eyl6, nyl6, tyl6, go_sem]
def F102.c : SC :=
 (.seq
 (.reg [oq 2 (.box 79 (.tmp 0)) 0 [0],
 sb 3 false 4 [3]])
 (.seq
 (.dreg [fa 4 79 2 0 [],
 ld 5 3 4 [],
 fa 6 32 1 0 [],
 fa 7 29 6 0 [],
 ld 8 27 7 [],
 oq 9 (.indexAddr 27 (.tmp 8) (.const (.int .i64 0))) 0 [],
 ld 10 40 9 [],
 ln 11 10 40 3 [],
 bn 12 .sub 3 11 1 3 3 [],
 oq 13 (.call ⟨.value (.func 42), #[.tmp 5, .const (.int .i64 0), .tmp 12], #[3, 3, 3]⟩) 4 [],
 mv 14 13 4 [],
 og 15 (.fieldAddr 79 (.tmp 2) 1) 0 14 true [],
 og 16 (.fieldAddr 39 (.tmp 15) 0) 0 14 true [],
 og 17 (.load 3 (.tmp 16)) 3 14 true [],
 og 18 (.binOp .geq 3 (.tmp 17) (.const (.int .i64 (-3000))) 3) 4 14 true [],
 oq 19 (.pick (.tmp 14) (.tmp 18) (.const (.bool false))) 4 [],
 mv 20 19 4 [],
 og 21 (.fieldAddr 79 (.tmp 2) 1) 0 20 true [],
 og 22 (.fieldAddr 39 (.tmp 21) 0) 0 20 true [],
 og 23 (.load 3 (.tmp 22)) 3 20 true [],
 og 24 (.fieldAddr 79 (.tmp 2) 1) 0 20 true [],
 og 25 (.fieldAddr 39 (.tmp 24) 1) 0 20 true [],
 og 26 (.load 3 (.tmp 25)) 3 20 true [],
 og 27 (.binOp .leq 3 (.tmp 23) (.tmp 26) 3) 4 20 true [],
 oq 28 (.pick (.tmp 20) (.tmp 27) (.const (.bool false))) 4 [],
 mv 29 28 4 [],
 og 30 (.fieldAddr 79 (.tmp 2) 1) 0 29 true [],
 og 31 (.fieldAddr 39 (.tmp 30) 1) 0 29 true [],
 og 32 (.load 3 (.tmp 31)) 3 29 true [],
 og 33 (.binOp .leq 3 (.tmp 32) (.const (.int .i64 3000)) 3) 4 29 true [],
 oq 34 (.pick (.tmp 29) (.tmp 33) (.const (.bool false))) 4 [],
 sg 3 34 4 []] [[], [0], [], [2], [2, 3], [2, 3, 4], [2, 3, 4, 5], [2, 3, 4, 5, 6], [2, 3, 4, 5, 6, 7], [0, 1, 2, 3, 4, 5, 6, 7, 8], [0, 1, 2, 3, 4, 5, 6, 7, 8, 9], [0, 1, 2, 3, 4, 5, 6, 7, 8, 9, 10], [0, 1, 2, 3, 4, 5, 6, 7, 8, 9, 10, 11], [0, 1, 2, 3, 4, 5, 6, 7, 8, 9, 10, 11, 12], [0, 1, 2, 3, 4, 5, 6, 7, 8, 9, 10, 11, 12, 13], [0, 1, 2, 3, 4, 5, 6, 7, 8, 9, 10, 11, 12, 13, 14], [0, 1, 2, 3, 4, 5, 6, 7, 8, 9, 10, 11, 12, 13, 14, 15], [0, 1, 2, 3, 4, 5, 6, 7, 8, 9, 10, 11, 12, 13, 14, 15, 16], [0, 1, 2, 3, 4, 5, 6, 7, 8, 9, 10, 11, 12, 13, 14, 15, 16, 17], [0, 1, 2, 3, 4, 5, 6, 7, 8, 9, 10, 11, 12, 13, 14, 15, 16, 17, 18], [0, 1, 2, 3, 4, 5, 6, 7, 8, 9, 10, 11, 12, 13, 14, 15, 16], [0, 1, 2, 3, 4, 5, 6, 7, 8, 9, 10, 11, 12, 13, 14, 15, 16, 20], [0, 1, 2, 3, 4, 5, 6, 7, 8, 9, 10, 11, 12, 13, 14, 15, 16, 20, 21], [0, 1, 2, 3, 4, 5, 6, 7, 8, 9, 10, 11, 12, 13, 14, 15, 16, 17, 18, 19, 20, 21, 22], [0, 1, 2, 3, 4, 5, 6, 7, 8, 9, 10, 11, 12, 13, 14, 15, 16, 17, 18, 19, 20, 21, 22, 23], [0, 1, 2, 3, 4, 5, 6, 7, 8, 9, 10, 11, 12, 13, 14, 15, 16, 17, 18, 19, 20, 21, 22, 23, 24], [0, 1, 2, 3, 4, 5, 6, 7, 8, 9, 10, 11, 12, 13, 14, 15, 16, 17, 18, 19, 20, 21, 22, 23, 24, 25], [0, 1, 2, 3, 4, 5, 6, 7, 8, 9, 10, 11, 12, 13, 14, 15, 16, 17, 18, 19, 20, 21, 22, 23, 24, 25, 26], [0, 1, 2, 3, 4, 5, 6, 7, 8, 9, 10, 11, 12, 13, 14, 15, 16, 17, 18, 19, 20, 21, 22, 23, 24, 25, 26, 27], [0, 1, 2, 3, 4, 5, 6, 7, 8, 9, 10, 11, 12, 13, 14, 15, 16, 17, 18, 19, 20, 21, 22, 23, 24, 25, 26, 27, 28], [0, 1, 2, 3, 4, 5, 6, 7, 8, 9, 10, 11, 12, 13, 14, 15, 16, 17, 18, 19, 20, 21, 22, 23, 24, 25, 26, 27, 28, 29], [0, 1, 2, 3, 4, 5, 6, 7, 8, 9, 10, 11, 12, 13, 14, 15, 16, 17, 18, 19, 20, 21, 22, 23, 24, 25, 26, 27, 28, 29, 30]] [1, 2, 4, 5, 6, 7, 8, 9, 10, 11, 12, 13, 14, 15, 16, 17, 18, 19, 20, 21, 22, 23, 24, 25, 26, 27, 28, 29, 30, 31, 32, 33, 34])
 .ret))
theorem F102.rs : Try.f102.results.toList = [.tmp 3] := rfl
def heat_wanted_1 (k : Nat) (w0 : Want) (c1 : Firing) : Option (Bool) :=
 (at? c1.Kiln.Falls 0).bind fun x1 =>
 (heat_in k w0.Place 0 (w64 ((x1.length : Int) - 1))).bind fun x2 =>
 bif x2 then
  bif decide ((-3000 : Int) ≤ w0.Heat.Lo) then
   bif decide (w0.Heat.Lo ≤ w0.Heat.Hi) then
    some (decide (w0.Heat.Hi ≤ (3000 : Int)))
   else
    some false
  else
   some false
 else
  some false
theorem heat_wanted_1_ok (k : Nat) (w0 : Want) (c1 : Firing) (r : Bool) (h0 : heat_wanted_1 k w0 c1 = some r) : PCall Try.prog 102 [.agg (Want.c w0), .rptr 2 [Firing.c c1] 0 0] (fun y => y = .bool r) := by
 refine PB (fn := Try.f102) (sc := F102.c) ?_
 refine rS ?_
 simp only [heat_wanted_1] at h0
 try simp only [F102.c, go_sem]
 refine AKev_region T_ok follows_ok 1000 ?_
 try simp only [go_sem]
 obtain ⟨x1, yx1, h0⟩ := bs h0
 try simp only [aa yx1, go_sem]
 obtain ⟨x2, yx2, h0⟩ := bs h0
 refine DG_call0 1000 (heat_in_ok k _ _ _ _ yx2) ?_ (by first | rfl | simp [AV.refsL, AV.refs, AV.scal, AV.leaf]) ?_
 try simp only [aa yx1, go_sem]
 try simp only [aa yx1, go_sem]
 refine DG_bif h0 ?_ ?_ <;> intro c3 h0
 try simp only [c3, aa yx1, go_sem]
 refine DG_bif h0 ?_ ?_ <;> intro c4 h0
 try simp only [c4, aa yx1, c3, go_sem]
 refine DG_bif h0 ?_ ?_ <;> intro c5 h0
 try simp only [c5, aa yx1, c3, c4, go_sem]
 refine DG_done ⟨rfl, run_sound T_ok 1000 _ _ ?_⟩
 try simp only [aa yx1, c3, c4, c5, go_sem]
 obtain rfl := Option.some.inj h0
 refine AKev_ret rfl ?_
 try simp only [F102.rs, aa yx1, c3, c4, c5, go_sem]
 try simp only [c5, aa yx1, c3, c4, go_sem]
 refine DG_done ⟨rfl, run_sound T_ok 1000 _ _ ?_⟩
 try simp only [aa yx1, c3, c4, c5, go_sem]
 obtain rfl := Option.some.inj h0
 refine AKev_ret rfl ?_
 try simp only [F102.rs, aa yx1, c3, c4, c5, go_sem]
 try simp only [c4, aa yx1, c3, go_sem]
 refine DG_done ⟨rfl, run_sound T_ok 1000 _ _ ?_⟩
 try simp only [aa yx1, c3, c4, go_sem]
 obtain rfl := Option.some.inj h0
 refine AKev_ret rfl ?_
 try simp only [F102.rs, aa yx1, c3, c4, go_sem]
 try simp only [c3, aa yx1, go_sem]
 refine DG_done ⟨rfl, run_sound T_ok 1000 _ _ ?_⟩
 try simp only [aa yx1, c3, go_sem]
 obtain rfl := Option.some.inj h0
 refine AKev_ret rfl ?_
 try simp only [F102.rs, aa yx1, c3, go_sem]
def F111.s0 : SC :=
 (.seq
 (.reg [b2 9 .lss 3 8 7 3 0 []])
 (.seq
 (.cond (.tmp 9)
 .skip
 (.exit 0))
 (.seq
 (.block 1
 (.seq
 (.reg [mv 10 8 3 [],
 sg 5 10 3 [10]])
 (.seq
 (.reg [mv 11 1 156 [],
 mv 12 0 80 [],
 mv 13 5 3 [],
 ia 14 80 12 13 [12, 13],
 ld 15 79 14 [14],
 oq 16 (.call ⟨.value (.tmp 11), #[.tmp 15], #[79]⟩) 4 [11, 15]])
 (.cond (.tmp 16)
 (.seq
 (.reg [mv 17 5 3 [5],
 sg 4 17 3 [17]])
 .ret)
 .skip))))
 (.reg [bn 18 .add 3 8 1 3 3 [8],
 mv 8 18 3 [18]]))))
def F111.c : SC :=
 (.seq
 (.reg [sn 4 0 3 [4]])
 (.seq
 (.seq
 (.reg [mv 6 0 80 [],
 ln 7 6 80 3 [6],
 oq 8 (.move (.const (.int .i64 0))) 3 []])
 (.block 0
 (.loop F111.s0)))
 (.seq
 (.reg [sn 4 (-1) 3 []])
 .ret)))
theorem F111.rs : Try.f111.results.toList = [.tmp 4] := rfl
def slices_IndexFunc_api_Want.b0 (k : Nat) (f1 : Want → Option (Bool)) (s0 : (List Want)) : Int → Option (Stp (Int) (Unit) (Int)) := fun (i1 : Int) =>
 bif decide (i1 < (s0.length : Int)) then
  (at? s0 i1).bind fun x3 =>
  (f1 x3).bind fun x4 =>
  bif x4 then
   some (.ret i1)
  else
   some (.next (w64 (i1 + 1)))
 else
  some (.brk ())
noncomputable def slices_IndexFunc_api_Want.h0 (f1_f : Nat) (f1_c : List AV) (s0 : (List Want)) : Int → St := fun (i1 : Int) => ⟨[(0, .sl 3 (List.map Want.c s0)), (1, .fn (.func f1_f) [] f1_c), (7, .int .i64 (s0.length : Int)), (8, .int .i64 i1)], [], [], 1, Try.f111.ntmps⟩
noncomputable def slices_IndexFunc_api_Want.x0 : Unit → St := fun (_ : Unit) => ⟨[], [], [], 1, Try.f111.ntmps⟩
def slices_IndexFunc_api_Want (k : Nat) (s0 : (List Want)) (f1 : Want → Option (Bool)) : Option (Int) :=
 (whl (slices_IndexFunc_api_Want.b0 k f1 s0) k 0).bind fun r6 => match r6 with
 | .next _ => none
 | .ret v_ => some v_
 | .brk _ =>
  some (-1)
theorem slices_IndexFunc_api_Want_ok (k : Nat) (s0 : (List Want)) (f1_f : Nat) (f1_c : List AV) (f1_i : Ice f1_c) (f1 : Want → Option (Bool)) (f1_h : ∀ q0 qr, f1 q0 = some qr → PCall Try.prog f1_f (.agg (Want.c q0) :: f1_c) (fun y => y = .bool qr)) (r : Int) (h0 : slices_IndexFunc_api_Want k s0 f1 = some r) : PCall Try.prog 111 [.sl 3 (List.map Want.c s0), .fn (.func f1_f) [] f1_c] (fun y => y = .int .i64 r) := by
 refine PB (fn := Try.f111) (sc := F111.c) ?_
 refine rS ?_
 simp only [slices_IndexFunc_api_Want] at h0
 try simp only [F111.c, f1_i.sh, f1_i.frz, f1_i.br, f1_i.refs, f1_i.imp, f1_i.ren, f1_i.un, go_sem]
 obtain ⟨r6, yr6, h0⟩ := bs h0
 refine AKev_loopS yr6 (slices_IndexFunc_api_Want.h0 f1_f f1_c s0) (slices_IndexFunc_api_Want.x0) ?_ ?_ ?_
 refine Weak.go [0, 1, 7, 8] [] rfl ?_
 try simp only [slices_IndexFunc_api_Want.h0, f1_i.sh, f1_i.frz, f1_i.br, f1_i.refs, f1_i.imp, f1_i.ren, f1_i.un, go_sem]
 rintro i1 x_1 Bk1 Br1 h1 hnext1 hbrk1 hret1
 refine rS ?_
 simp only [slices_IndexFunc_api_Want.b0] at h1
 try simp only [F111.s0, slices_IndexFunc_api_Want.h0, f1_i.sh, f1_i.frz, f1_i.br, f1_i.refs, f1_i.imp, f1_i.ren, f1_i.un, go_sem]
 refine AKev_bif h1 ?_ ?_ <;> intro c2 h1
 try simp only [c2, f1_i.sh, f1_i.frz, f1_i.br, f1_i.refs, f1_i.imp, f1_i.ren, f1_i.un, go_sem]
 obtain ⟨x3, yx3, h1⟩ := bs h1
 try simp only [aa yx3, f1_i.sh, f1_i.frz, f1_i.br, f1_i.refs, f1_i.imp, f1_i.ren, f1_i.un, c2, go_sem]
 obtain ⟨x4, yx4, h1⟩ := bs h1
 refine zc0 (f1_h _ _ yx4) ?_ (by first | rfl | simp [AV.refsL, AV.refs, AV.scal, AV.leaf, f1_i.refs]) ?_
 try simp only [f1_i.sh, f1_i.frz, f1_i.br, f1_i.refs, f1_i.imp, f1_i.ren, f1_i.un, c2, aa yx3, go_sem]
 try simp only [f1_i.sh, f1_i.frz, f1_i.br, f1_i.refs, f1_i.imp, f1_i.ren, f1_i.un, c2, aa yx3, go_sem]
 refine AKev_bif h1 ?_ ?_ <;> intro c5 h1
 try simp only [c5, f1_i.sh, f1_i.frz, f1_i.br, f1_i.refs, f1_i.imp, f1_i.ren, f1_i.un, c2, aa yx3, go_sem]
 obtain rfl := hret1 _ (Option.some.inj h1).symm
 simp only at h0
 obtain rfl := Option.some.inj h0
 refine AKev_ret rfl ?_
 try simp only [F111.rs, f1_i.sh, f1_i.frz, f1_i.br, f1_i.refs, f1_i.imp, f1_i.ren, f1_i.un, c2, aa yx3, c5, go_sem]
 try simp only [c5, f1_i.sh, f1_i.frz, f1_i.br, f1_i.refs, f1_i.imp, f1_i.ren, f1_i.un, c2, aa yx3, go_sem]
 refine AKev_backB (hnext1 _ _ (Option.some.inj h1).symm ?_)
 refine Weak.go [0, 1, 7, 8] [] rfl ?_
 try simp only [slices_IndexFunc_api_Want.h0, f1_i.sh, f1_i.frz, f1_i.br, f1_i.refs, f1_i.imp, f1_i.ren, f1_i.un, c2, aa yx3, c5, go_sem]
 try simp only [c2, f1_i.sh, f1_i.frz, f1_i.br, f1_i.refs, f1_i.imp, f1_i.ren, f1_i.un, go_sem]
 refine AKev_backB (hbrk1 _ _ (Option.some.inj h1).symm ?_)
 refine Weak.go [] [] rfl ?_
 try simp only [slices_IndexFunc_api_Want.x0, f1_i.sh, f1_i.frz, f1_i.br, f1_i.refs, f1_i.imp, f1_i.ren, f1_i.un, c2, go_sem]
 rintro _ hr_
 subst hr_
 simp only at h0
 refine rS ?_
 try simp only [slices_IndexFunc_api_Want.x0, f1_i.sh, f1_i.frz, f1_i.br, f1_i.refs, f1_i.imp, f1_i.ren, f1_i.un, go_sem]
 obtain rfl := Option.some.inj h0
 refine AKev_ret rfl ?_
 try simp only [F111.rs, f1_i.sh, f1_i.frz, f1_i.br, f1_i.refs, f1_i.imp, f1_i.ren, f1_i.un, go_sem]
def F103.c : SC :=
 (.seq
 (.reg [sb 4 false 4 [4]])
 (.seq
 (.reg [mv 5 0 80 [0],
 mv 6 1 156 [1],
 cf2 7 111 5 6 80 156 3 [5, 6],
 bn 8 .geq 3 7 0 3 4 [7],
 sg 4 8 4 [8]])
 .ret))
theorem F103.rs : Try.f103.results.toList = [.tmp 4] := rfl
def slices_ContainsFunc_api_Want (k : Nat) (s0 : (List Want)) (f1 : Want → Option (Bool)) : Option (Bool) :=
 (slices_IndexFunc_api_Want k s0 f1).bind fun x1 =>
 some (decide ((0 : Int) ≤ x1))
theorem slices_ContainsFunc_api_Want_ok (k : Nat) (s0 : (List Want)) (f1_f : Nat) (f1_c : List AV) (f1_i : Ice f1_c) (f1 : Want → Option (Bool)) (f1_h : ∀ q0 qr, f1 q0 = some qr → PCall Try.prog f1_f (.agg (Want.c q0) :: f1_c) (fun y => y = .bool qr)) (r : Bool) (h0 : slices_ContainsFunc_api_Want k s0 f1 = some r) : PCall Try.prog 103 [.sl 3 (List.map Want.c s0), .fn (.func f1_f) [] f1_c] (fun y => y = .bool r) := by
 refine PB (fn := Try.f103) (sc := F103.c) ?_
 refine rS ?_
 simp only [slices_ContainsFunc_api_Want] at h0
 try simp only [F103.c, f1_i.sh, f1_i.frz, f1_i.br, f1_i.refs, f1_i.imp, f1_i.ren, f1_i.un, go_sem]
 obtain ⟨x1, yx1, h0⟩ := bs h0
 refine zc0 (slices_IndexFunc_api_Want_ok k _ f1_f f1_c f1_i f1 f1_h _ yx1) ?_ (by first | rfl | simp [AV.refsL, AV.refs, AV.scal, AV.leaf, f1_i.refs]) ?_
 try simp only [f1_i.sh, f1_i.frz, f1_i.br, f1_i.refs, f1_i.imp, f1_i.ren, f1_i.un, go_sem]
 try simp only [f1_i.sh, f1_i.frz, f1_i.br, f1_i.refs, f1_i.imp, f1_i.ren, f1_i.un, go_sem]
 obtain rfl := Option.some.inj h0
 refine AKev_ret rfl ?_
 try simp only [F103.rs, f1_i.sh, f1_i.frz, f1_i.br, f1_i.refs, f1_i.imp, f1_i.ren, f1_i.un, go_sem]
def F104.c : SC :=
 (.seq
 (.reg [oq 2 (.box 79 (.tmp 0)) 0 [0],
 sb 3 false 4 [3]])
 (.seq
 (.reg [ld 4 156 1 [1],
 ld 5 79 2 [2],
 oq 6 (.call ⟨.value (.tmp 4), #[.tmp 5], #[79]⟩) 4 [4, 5],
 oq 7 (.unOp .not 4 (.tmp 6)) 4 [6],
 sg 3 7 4 [7]])
 .ret))
theorem F104.rs : Try.f104.results.toList = [.tmp 3] := rfl
def heat_wanted_2 (k : Nat) (w0 : Want) (c1 : Want → Option (Bool)) : Option (Bool) :=
 (c1 w0).bind fun x1 =>
 some (!x1)
theorem heat_wanted_2_ok (k : Nat) (w0 : Want) (c1_f : Nat) (c1_c : List AV) (c1_i : Ice c1_c) (c1 : Want → Option (Bool)) (c1_h : ∀ q0 qr, c1 q0 = some qr → PCall Try.prog c1_f (.agg (Want.c q0) :: c1_c) (fun y => y = .bool qr)) (r : Bool) (h0 : heat_wanted_2 k w0 c1 = some r) : PCall Try.prog 104 [.agg (Want.c w0), .rptr 1 [[.fn (.func c1_f) [] c1_c]] 0 0] (fun y => y = .bool r) := by
 refine PB (fn := Try.f104) (sc := F104.c) ?_
 refine rS ?_
 simp only [heat_wanted_2] at h0
 try simp only [F104.c, c1_i.sh, c1_i.frz, c1_i.br, c1_i.refs, c1_i.imp, c1_i.ren, c1_i.un, go_sem]
 obtain ⟨x1, yx1, h0⟩ := bs h0
 refine zc0 (c1_h _ _ yx1) ?_ (by first | rfl | simp [AV.refsL, AV.refs, AV.scal, AV.leaf, c1_i.refs]) ?_
 try simp only [c1_i.sh, c1_i.frz, c1_i.br, c1_i.refs, c1_i.imp, c1_i.ren, c1_i.un, go_sem]
 try simp only [c1_i.sh, c1_i.frz, c1_i.br, c1_i.refs, c1_i.imp, c1_i.ren, c1_i.un, go_sem]
 obtain rfl := Option.some.inj h0
 refine AKev_ret rfl ?_
 try simp only [F104.rs, c1_i.sh, c1_i.frz, c1_i.br, c1_i.refs, c1_i.imp, c1_i.ren, c1_i.un, go_sem]
def F74.s0 : SC :=
 (.seq
 (.reg [b2 43 .lss 3 42 41 3 0 []])
 (.seq
 (.cond (.tmp 43)
 .skip
 (.exit 0))
 (.seq
 (.block 1
 (.seq
 (.reg [ia 44 80 40 42 [],
 ld 45 79 44 [44],
 oq 12 (.alloc 79) 0 [],
 ⟨none, .store 79 (.tmp 12) (.tmp 45), 0, none, [45]⟩])
 (.reg [ld 46 94 10 [],
 fa 47 79 12 0 [],
 ld 48 3 47 [47],
 fa 49 79 12 1 [12],
 ld 50 39 49 [49],
 oq 51 (.call ⟨.value (.func 72), #[.tmp 46, .tmp 48, .tmp 50], #[94, 3, 39]⟩) 94 [46, 48, 50],
 ⟨none, .store 94 (.tmp 10) (.tmp 51), 0, none, [51]⟩])))
 (.reg [bn 52 .add 3 42 1 3 3 [42],
 mv 42 52 3 [52]]))))
def F74.c : SC :=
 (.seq
 (.reg [oq 2 (.box 32 (.tmp 0)) 0 [0],
 oq 4 (.alloc 94) 0 [],
 oq 5 (.alloc 94) 0 [],
 sn 6 0 43 [6]])
 (.seq
 (.seq
 (.reg [ld 13 32 2 [],
 cf1 14 41 13 32 43 [13],
 bn 15 .neq 43 14 0 43 4 [14]])
 (.cond (.tmp 15)
 (.seq
 (.reg [oq 16 (.build 94 #[]) 94 [],
 oq 17 (.build 94 #[]) 94 [],
 ⟨none, .store 94 (.tmp 4) (.tmp 16), 0, none, [16]⟩,
 ⟨none, .store 94 (.tmp 5) (.tmp 17), 0, none, [17]⟩,
 sn 6 42 43 []])
 .ret)
 .skip))
 (.seq
 (.reg [oq 18 (.makeFunc (.func 102) #[] #[.tmp 2]) 156 [],
 oq 7 (.alloc 156) 0 [],
 ⟨none, .store 156 (.tmp 7) (.tmp 18), 0, none, [18]⟩])
 (.seq
 (.seq
 (.reg [mv 19 1 80 [],
 ln 20 19 80 3 [19],
 bn 21 .gtr 3 20 24 3 4 [20],
 mv 22 21 4 [21],
 og 23 (.move (.tmp 1)) 80 22 false [],
 og 24 (.makeFunc (.func 104) #[] #[.tmp 7]) 156 22 false [7],
 og 25 (.call ⟨.value (.func 103), #[.tmp 23, .tmp 24], #[80, 156]⟩) 4 22 false [23, 24],
 oq 26 (.pick (.tmp 22) (.const (.bool true)) (.tmp 25)) 4 [22, 25]])
 (.cond (.tmp 26)
 (.seq
 (.reg [oq 27 (.build 94 #[]) 94 [],
 oq 28 (.build 94 #[]) 94 [],
 ⟨none, .store 94 (.tmp 4) (.tmp 27), 0, none, [27]⟩,
 ⟨none, .store 94 (.tmp 5) (.tmp 28), 0, none, [28]⟩,
 sn 6 49 43 []])
 .ret)
 .skip))
 (.seq
 (.reg [ld 30 32 2 [2],
 oq 31 (.call ⟨.value (.func 36), #[.tmp 30, .const (.int .i64 0)], #[32, 3]⟩) 95 [30],
 mv 29 31 95 [31],
 xt 32 29 0 94 [],
 xt 33 29 1 43 [29],
 oq 8 (.alloc 94) 0 [],
 ⟨none, .store 94 (.tmp 8) (.tmp 32), 0, none, [32]⟩,
 sg 9 33 43 [33]])
 (.seq
 (.seq
 (.reg [mv 34 9 43 [],
 bn 35 .neq 43 34 0 43 4 [34]])
 (.cond (.tmp 35)
 (.seq
 (.reg [oq 36 (.build 94 #[]) 94 [],
 oq 37 (.build 94 #[]) 94 [],
 mv 38 9 43 [9],
 ⟨none, .store 94 (.tmp 4) (.tmp 36), 0, none, [36]⟩,
 ⟨none, .store 94 (.tmp 5) (.tmp 37), 0, none, [37]⟩,
 sg 6 38 43 [38]])
 .ret)
 .skip))
 (.seq
 (.reg [ld 39 94 8 [],
 oq 10 (.alloc 94) 0 [],
 ⟨none, .store 94 (.tmp 10) (.tmp 39), 0, none, [39]⟩])
 (.seq
 (.seq
 (.reg [mv 40 1 80 [1],
 ln 41 40 80 3 [],
 oq 42 (.move (.const (.int .i64 0))) 3 []])
 (.block 0
 (.loop F74.s0)))
 (.seq
 (.dreg [ld 53 94 8 [],
 ld 54 94 10 [],
 ⟨none, .store 94 (.tmp 4) (.tmp 53), 0, none, []⟩,
 ⟨none, .store 94 (.tmp 5) (.tmp 54), 0, none, []⟩,
 sn 6 0 43 []] [[], [], [0], [1, 0, 2], [1, 0, 2, 3]] [8, 10, 53, 54])
 .ret)))))))))
theorem F74.rs : Try.f74.results.toList = [.cell 4 94, .cell 5 94, .tmp 6] := rfl
def heat_wanted.b0 (k : Nat) (l1 : (List Want)) : (heat_furnace × Int) → Option (Stp (heat_furnace × Int) (heat_furnace) (heat_furnace × heat_furnace × Int)) := fun (s : heat_furnace × Int) => match s with
 | (s8, i9) =>
   bif decide (i9 < (l1.length : Int)) then
    (at? l1 i9).bind fun x12 =>
    (heat_furnace_asked k s8 x12.Place x12.Heat).bind fun x13 =>
    some (.next (x13, w64 (i9 + 1)))
   else
    some (.brk s8)
noncomputable def heat_wanted.h0 (l1 : (List Want)) (x6 : heat_furnace × Int) : (heat_furnace × Int) → St := fun (s : heat_furnace × Int) => match s with
 | (s8, i9) => ⟨[(4, .ptr 0 0 0), (5, .ptr 0 5 0), (8, .ptr 0 10 0), (10, .ptr 0 11 0), (40, .sl 3 (List.map Want.c l1)), (41, .int .i64 (l1.length : Int)), (42, .int .i64 i9)], [(0, .box [.loc 0 1 1 0 0 0, .loc 0 2 6 0 0 0, .loc 0 3 3 0 0 0, .loc 0 4 3 0 0 0]), (1, .arr 40 1 (List.map (eL 2 Range.c) [])), (2, .arr 60 6 (List.map Reading.c [])), (3, .arr 136 3 (List.map heat_limit.c [])), (4, .arr 136 3 (List.map heat_limit.c [])), (5, .box [.loc 0 6 1 0 0 0, .loc 0 7 6 0 0 0, .loc 0 8 3 0 0 0, .loc 0 9 3 0 0 0]), (6, .arr 40 1 (List.map (eL 2 Range.c) [])), (7, .arr 60 6 (List.map Reading.c [])), (8, .arr 136 3 (List.map heat_limit.c [])), (9, .arr 136 3 (List.map heat_limit.c [])), (10, .box [.sl 1 (List.map (eL 2 Range.c) x6.1.Firing.Kiln.Falls), .sl 6 (List.map Reading.c x6.1.Firing.Readings), .sl 3 (List.map heat_limit.c x6.1.least), .sl 3 (List.map heat_limit.c x6.1.most)]), (11, .box [.sl 1 (List.map (eL 2 Range.c) s8.Firing.Kiln.Falls), .sl 6 (List.map Reading.c s8.Firing.Readings), .sl 3 (List.map heat_limit.c s8.least), .sl 3 (List.map heat_limit.c s8.most)])], [], 12, Try.f74.ntmps⟩
noncomputable def heat_wanted.x0 (x6 : heat_furnace × Int) : heat_furnace → St := fun (s10 : heat_furnace) => ⟨[(4, .ptr 0 0 0), (5, .ptr 0 5 0), (8, .ptr 0 10 0), (10, .ptr 0 11 0)], [(0, .box [.loc 0 1 1 0 0 0, .loc 0 2 6 0 0 0, .loc 0 3 3 0 0 0, .loc 0 4 3 0 0 0]), (1, .arr 40 1 (List.map (eL 2 Range.c) [])), (2, .arr 60 6 (List.map Reading.c [])), (3, .arr 136 3 (List.map heat_limit.c [])), (4, .arr 136 3 (List.map heat_limit.c [])), (5, .box [.loc 0 6 1 0 0 0, .loc 0 7 6 0 0 0, .loc 0 8 3 0 0 0, .loc 0 9 3 0 0 0]), (6, .arr 40 1 (List.map (eL 2 Range.c) [])), (7, .arr 60 6 (List.map Reading.c [])), (8, .arr 136 3 (List.map heat_limit.c [])), (9, .arr 136 3 (List.map heat_limit.c [])), (10, .box [.sl 1 (List.map (eL 2 Range.c) x6.1.Firing.Kiln.Falls), .sl 6 (List.map Reading.c x6.1.Firing.Readings), .sl 3 (List.map heat_limit.c x6.1.least), .sl 3 (List.map heat_limit.c x6.1.most)]), (11, .box [.sl 1 (List.map (eL 2 Range.c) s10.Firing.Kiln.Falls), .sl 6 (List.map Reading.c s10.Firing.Readings), .sl 3 (List.map heat_limit.c s10.least), .sl 3 (List.map heat_limit.c s10.most)])], [], 12, Try.f74.ntmps⟩
def heat_wanted (k : Nat) (f0 : Firing) (l1 : (List Want)) : Option (heat_furnace × heat_furnace × Int) :=
 (heat_Check k f0).bind fun x1 =>
 bif (!decide (x1 = (0 : Int))) then
  some ((⟨(⟨(⟨[]⟩ : Kiln), []⟩ : Firing), [], []⟩ : heat_furnace), (⟨(⟨(⟨[]⟩ : Kiln), []⟩ : Firing), [], []⟩ : heat_furnace), 42)
 else
  bif (!decide ((24 : Int) < (l1.length : Int))) then
   (slices_ContainsFunc_api_Want k l1 (fun q0 => heat_wanted_2 k q0 (fun q0 => heat_wanted_1 k q0 f0))).bind fun x4 =>
   bif x4 then
    some ((⟨(⟨(⟨[]⟩ : Kiln), []⟩ : Firing), [], []⟩ : heat_furnace), (⟨(⟨(⟨[]⟩ : Kiln), []⟩ : Firing), [], []⟩ : heat_furnace), 49)
   else
    (heat_asks k f0 0).bind fun x6 =>
    bif (!decide (x6.2 = (0 : Int))) then
     some ((⟨(⟨(⟨[]⟩ : Kiln), []⟩ : Firing), [], []⟩ : heat_furnace), (⟨(⟨(⟨[]⟩ : Kiln), []⟩ : Firing), [], []⟩ : heat_furnace), x6.2)
    else
     (whl (heat_wanted.b0 k l1) k (x6.1, 0)).bind fun r14 => match r14 with
     | .next _ => none
     | .ret v_ => some v_
     | .brk s10 =>
      some (x6.1, s10, 0)
  else
   some ((⟨(⟨(⟨[]⟩ : Kiln), []⟩ : Firing), [], []⟩ : heat_furnace), (⟨(⟨(⟨[]⟩ : Kiln), []⟩ : Firing), [], []⟩ : heat_furnace), 49)
theorem heat_wanted_ok (k : Nat) (f0 : Firing) (l1 : (List Want)) (r : heat_furnace × heat_furnace × Int) (h0 : heat_wanted k f0 l1 = some r) : PCall Try.prog 74 [.agg (Firing.c f0), .sl 3 (List.map Want.c l1)] (fun y => y = .tup [.agg (heat_furnace.c r.1), .agg (heat_furnace.c r.2.1), .int .i64 r.2.2]) := by
 refine PB (fn := Try.f74) (sc := F74.c) ?_
 refine rS ?_
 simp only [heat_wanted] at h0
 try simp only [F74.c, go_sem]
 obtain ⟨x1, yx1, h0⟩ := bs h0
 refine zc0 (heat_Check_ok k _ _ yx1) ?_ (by first | rfl | simp [AV.refsL, AV.refs, AV.scal, AV.leaf]) ?_
 try simp only [go_sem]
 try simp only [go_sem]
 refine AKev_bif h0 ?_ ?_ <;> intro c2 h0
 have c2 := bnot_t c2
 try simp only [c2, go_sem]
 obtain rfl := Option.some.inj h0
 refine AKev_ret rfl ?_
 try simp only [F74.rs, c2, go_sem]
 have c2 := bnot_f c2
 try simp only [c2, go_sem]
 refine AKev_bif h0 ?_ ?_ <;> intro c3 h0
 have c3 := bnot_t c3
 try simp only [c3, c2, go_sem]
 obtain ⟨x4, yx4, h0⟩ := bs h0
 refine zcL (slices_ContainsFunc_api_Want_ok k _ 104 [.rptr 1 [[.fn (.func 102) [] [.rptr 2 [Firing.c f0] 0 0]]] 0 0] ⟨fun _ => rfl, fun _ => rfl, fun _ _ => rfl, rfl, fun _ => rfl, fun _ => rfl, fun _ => rfl⟩ (fun q0 => heat_wanted_2 k q0 (fun q0 => heat_wanted_1 k q0 f0)) (fun q0 qr qh => heat_wanted_2_ok k q0 102 [.rptr 2 [Firing.c f0] 0 0] ⟨fun _ => rfl, fun _ => rfl, fun _ _ => rfl, rfl, fun _ => rfl, fun _ => rfl, fun _ => rfl⟩ (fun q0 => heat_wanted_1 k q0 f0) (fun q0 qr qh => heat_wanted_1_ok k q0 _ qr qh) qr qh) _ yx4) ?_ (by first | rfl | simp [AV.refsL, AV.refs, AV.scal, AV.leaf]) ?_
 try simp only [c2, c3, go_sem]
 try simp only [c2, c3, go_sem]
 refine AKev_bif h0 ?_ ?_ <;> intro c5 h0
 try simp only [c5, c2, c3, go_sem]
 obtain rfl := Option.some.inj h0
 refine AKev_ret rfl ?_
 try simp only [F74.rs, c2, c3, c5, go_sem]
 try simp only [c5, c2, c3, go_sem]
 obtain ⟨x6, yx6, h0⟩ := bs h0
 refine zc0 (heat_asks_ok k _ _ _ yx6) ?_ (by first | rfl | simp [AV.refsL, AV.refs, AV.scal, AV.leaf]) ?_
 try simp only [c2, c3, c5, go_sem]
 try simp only [c2, c3, c5, go_sem]
 refine AKev_bif h0 ?_ ?_ <;> intro c7 h0
 have c7 := bnot_t c7
 try simp only [c7, c2, c3, c5, go_sem]
 obtain rfl := Option.some.inj h0
 refine AKev_ret rfl ?_
 try simp only [F74.rs, c2, c3, c5, c7, go_sem]
 have c7 := bnot_f c7
 try simp only [c7, c2, c3, c5, go_sem]
 obtain ⟨r14, yr14, h0⟩ := bs h0
 refine AKev_loopS yr14 (heat_wanted.h0 l1 x6) (heat_wanted.x0 x6) ?_ ?_ ?_
 refine Weak.go [4, 5, 8, 10, 40, 41, 42] [16, 17, 18, 19, 20, 32, 33, 34, 35, 36, 368, 464] rfl ?_
 try simp only [heat_wanted.h0, c2, c3, c5, c7, go_sem]
 rintro ⟨s8, i9⟩ x_1 Bk1 Br1 h1 hnext1 hbrk1 hret1
 refine rS ?_
 simp only [heat_wanted.b0] at h1
 try simp only [F74.s0, heat_wanted.h0, c2, c3, c5, c7, go_sem]
 refine AKev_bif h1 ?_ ?_ <;> intro c11 h1
 try simp only [c11, c2, c3, c5, c7, go_sem]
 obtain ⟨x12, yx12, h1⟩ := bs h1
 try simp only [aa yx12, c2, c3, c5, c7, c11, go_sem]
 obtain ⟨x13, yx13, h1⟩ := bs h1
 refine zc0 (heat_furnace_asked_ok k _ _ _ _ yx13) ?_ (by first | rfl | simp [AV.refsL, AV.refs, AV.scal, AV.leaf]) ?_
 try simp only [c2, c3, c5, c7, c11, aa yx12, go_sem]
 try simp only [c2, c3, c5, c7, c11, aa yx12, go_sem]
 refine AKev_backB (hnext1 _ _ (Option.some.inj h1).symm ?_)
 refine Weak.go [4, 5, 8, 10, 40, 41, 42] [0, 1, 2, 3, 4, 5, 6, 7, 8, 9, 10, 11] rfl ?_
 try simp only [heat_wanted.h0, c2, c3, c5, c7, c11, aa yx12, go_sem]
 try simp only [c11, c2, c3, c5, c7, go_sem]
 refine AKev_backB (hbrk1 _ _ (Option.some.inj h1).symm ?_)
 refine Weak.go [4, 5, 8, 10] [0, 1, 2, 3, 4, 5, 6, 7, 8, 9, 10, 11] rfl ?_
 try simp only [heat_wanted.x0, c2, c3, c5, c7, c11, go_sem]
 rintro s10 hr_
 subst hr_
 simp only at h0
 refine rS ?_
 try simp only [heat_wanted.x0, c2, c3, c5, c7, go_sem]
 refine AKev_region T_ok follows_ok 1000 ?_
 try simp only [c2, c3, c5, c7, go_sem]
 refine DG_done ⟨rfl, run_sound T_ok 1000 _ _ ?_⟩
 try simp only [c2, c3, c5, c7, go_sem]
 obtain rfl := Option.some.inj h0
 refine AKev_ret rfl ?_
 try simp only [F74.rs, c2, c3, c5, c7, go_sem]
 have c3 := bnot_f c3
 try simp only [c3, c2, go_sem]
 obtain rfl := Option.some.inj h0
 refine AKev_ret rfl ?_
 try simp only [F74.rs, c2, c3, go_sem]
def F33.s0 : SC :=
 (.seq
 (.reg [b2 28 .lss 3 27 26 3 0 []])
 (.seq
 (.cond (.tmp 28)
 .skip
 (.exit 0))
 (.seq
 (.block 1
 (.seq
 (.reg [ia 29 80 25 27 [],
 ld 30 79 29 [29],
 oq 10 (.alloc 79) 0 [],
 ⟨none, .store 79 (.tmp 10) (.tmp 30), 0, none, [30]⟩])
 (.seq
 (.reg [ld 31 94 6 [],
 fa 32 79 10 0 [],
 ld 33 3 32 [32],
 cf2 34 37 31 33 94 3 39 [31, 33],
 oq 11 (.alloc 39) 0 [],
 ⟨none, .store 39 (.tmp 11) (.tmp 34), 0, none, [34]⟩])
 (.seq
 (.reg [fa 35 39 11 0 [],
 ld 36 3 35 [35],
 fa 37 79 10 1 [],
 fa 38 39 37 0 [37],
 ld 39 3 38 [38],
 b2 40 .lss 3 36 39 3 4 [36, 39],
 mv 41 40 4 [40],
 og 42 (.fieldAddr 39 (.tmp 11) 1) 0 41 false [11],
 og 43 (.load 3 (.tmp 42)) 3 41 false [42],
 og 44 (.fieldAddr 79 (.tmp 10) 1) 0 41 false [10],
 og 45 (.fieldAddr 39 (.tmp 44) 1) 0 41 false [44],
 og 46 (.load 3 (.tmp 45)) 3 41 false [45],
 og 47 (.binOp .gtr 3 (.tmp 43) (.tmp 46) 3) 4 41 false [43, 46],
 oq 48 (.pick (.tmp 41) (.const (.bool true)) (.tmp 47)) 4 [41, 47]])
 (.cond (.tmp 48)
 (.seq
 (.reg [sn 4 2 3 [],
 sn 5 0 43 []])
 .ret)
 .skip)))))
 (.reg [bn 49 .add 3 27 1 3 3 [27],
 mv 27 49 3 [49]]))))
def F33.c : SC :=
 (.seq
 (.reg [oq 2 (.box 32 (.tmp 0)) 0 [0],
 sn 4 0 3 [4],
 sn 5 0 43 [5]])
 (.seq
 (.reg [ld 13 32 2 [2],
 mv 14 1 80 [],
 cf2 15 74 13 14 32 80 130 [13, 14],
 mv 12 15 130 [15],
 xt 16 12 0 94 [],
 xt 17 12 1 94 [],
 xt 18 12 2 43 [12],
 oq 6 (.alloc 94) 0 [],
 oq 7 (.alloc 94) 0 [],
 ⟨none, .store 94 (.tmp 6) (.tmp 16), 0, none, [16]⟩,
 ⟨none, .store 94 (.tmp 7) (.tmp 17), 0, none, [17]⟩,
 sg 8 18 43 [18]])
 (.seq
 (.seq
 (.reg [mv 19 8 43 [],
 bn 20 .neq 43 19 0 43 4 [19]])
 (.cond (.tmp 20)
 (.seq
 (.reg [mv 21 8 43 [8],
 sn 4 0 3 [],
 sg 5 21 43 [21]])
 .ret)
 .skip))
 (.seq
 (.seq
 (.reg [ld 22 94 7 [7],
 cf1 23 56 22 94 4 [22],
 oq 24 (.unOp .not 4 (.tmp 23)) 4 [23]])
 (.cond (.tmp 24)
 (.seq
 (.reg [sn 4 0 3 [],
 sn 5 0 43 []])
 .ret)
 .skip))
 (.seq
 (.seq
 (.reg [mv 25 1 80 [1],
 ln 26 25 80 3 [],
 oq 27 (.move (.const (.int .i64 0))) 3 []])
 (.block 0
 (.loop F33.s0)))
 (.seq
 (.reg [sn 4 1 3 [],
 sn 5 0 43 []])
 .ret))))))
theorem F33.rs : Try.f33.results.toList = [.tmp 4, .tmp 5] := rfl
def heat_Together.b0 (k : Nat) (l1 : (List Want)) (x1 : heat_furnace × heat_furnace × Int) : Int → Option (Stp (Int) (Unit) (Int × Int)) := fun (i5 : Int) =>
 bif decide (i5 < (l1.length : Int)) then
  (at? l1 i5).bind fun x7 =>
  (heat_furnace_bound k x1.1 x7.Place).bind fun x8 =>
  bif (!decide (x8.Lo < x7.Heat.Lo)) then
   bif decide (x7.Heat.Hi < x8.Hi) then
    some (.ret (2, 0))
   else
    some (.next (w64 (i5 + 1)))
  else
   some (.ret (2, 0))
 else
  some (.brk ())
noncomputable def heat_Together.h0 (l1 : (List Want)) (x1 : heat_furnace × heat_furnace × Int) : Int → St := fun (i5 : Int) => ⟨[(6, .ptr 0 0 0), (25, .sl 3 (List.map Want.c l1)), (26, .int .i64 (l1.length : Int)), (27, .int .i64 i5)], [(0, .box [.sl 1 (List.map (eL 2 Range.c) x1.1.Firing.Kiln.Falls), .sl 6 (List.map Reading.c x1.1.Firing.Readings), .sl 3 (List.map heat_limit.c x1.1.least), .sl 3 (List.map heat_limit.c x1.1.most)])], [], 1, Try.f33.ntmps⟩
noncomputable def heat_Together.x0 : Unit → St := fun (_ : Unit) => ⟨[], [], [], 1, Try.f33.ntmps⟩
def heat_Together (k : Nat) (f0 : Firing) (l1 : (List Want)) : Option (Int × Int) :=
 (heat_wanted k f0 l1).bind fun x1 =>
 bif (!decide (x1.2.2 = (0 : Int))) then
  some (0, x1.2.2)
 else
  (heat_furnace_sound k x1.2.1).bind fun x3 =>
  bif (!x3) then
   some (0, 0)
  else
   (whl (heat_Together.b0 k l1 x1) k 0).bind fun r11 => match r11 with
   | .next _ => none
   | .ret v_ => some v_
   | .brk _ =>
    some (1, 0)
theorem heat_Together_ok (k : Nat) (f0 : Firing) (l1 : (List Want)) (r : Int × Int) (h0 : heat_Together k f0 l1 = some r) : PCall Try.prog 33 [.agg (Firing.c f0), .sl 3 (List.map Want.c l1)] (fun y => y = .tup [.int .i64 r.1, .int .i64 r.2]) := by
 refine PB (fn := Try.f33) (sc := F33.c) ?_
 refine rS ?_
 simp only [heat_Together] at h0
 try simp only [F33.c, go_sem]
 obtain ⟨x1, yx1, h0⟩ := bs h0
 refine zc0 (heat_wanted_ok k _ _ _ yx1) ?_ (by first | rfl | simp [AV.refsL, AV.refs, AV.scal, AV.leaf]) ?_
 try simp only [go_sem]
 try simp only [go_sem]
 refine AKev_bif h0 ?_ ?_ <;> intro c2 h0
 have c2 := bnot_t c2
 try simp only [c2, go_sem]
 obtain rfl := Option.some.inj h0
 refine AKev_ret rfl ?_
 try simp only [F33.rs, c2, go_sem]
 have c2 := bnot_f c2
 try simp only [c2, go_sem]
 obtain ⟨x3, yx3, h0⟩ := bs h0
 refine zc0 (heat_furnace_sound_ok k _ _ yx3) ?_ (by first | rfl | simp [AV.refsL, AV.refs, AV.scal, AV.leaf]) ?_
 try simp only [c2, go_sem]
 try simp only [c2, go_sem]
 refine AKev_bif h0 ?_ ?_ <;> intro c4 h0
 have c4 := bnot_t c4
 try simp only [c4, c2, go_sem]
 obtain rfl := Option.some.inj h0
 refine AKev_ret rfl ?_
 try simp only [F33.rs, c2, c4, go_sem]
 have c4 := bnot_f c4
 try simp only [c4, c2, go_sem]
 obtain ⟨r11, yr11, h0⟩ := bs h0
 refine AKev_loopS yr11 (heat_Together.h0 l1 x1) (heat_Together.x0) ?_ ?_ ?_
 refine Weak.go [6, 25, 26, 27] [160] rfl ?_
 try simp only [heat_Together.h0, c2, c4, go_sem]
 rintro i5 x_1 Bk1 Br1 h1 hnext1 hbrk1 hret1
 refine rS ?_
 simp only [heat_Together.b0] at h1
 try simp only [F33.s0, heat_Together.h0, c2, c4, go_sem]
 refine AKev_bif h1 ?_ ?_ <;> intro c6 h1
 try simp only [c6, c2, c4, go_sem]
 obtain ⟨x7, yx7, h1⟩ := bs h1
 try simp only [aa yx7, c2, c4, c6, go_sem]
 obtain ⟨x8, yx8, h1⟩ := bs h1
 refine zc0 (heat_furnace_bound_ok k _ _ _ yx8) ?_ (by first | rfl | simp [AV.refsL, AV.refs, AV.scal, AV.leaf]) ?_
 try simp only [c2, c4, c6, aa yx7, go_sem]
 try simp only [c2, c4, c6, aa yx7, go_sem]
 refine AKev_bif h1 ?_ ?_ <;> intro c9 h1
 have c9 := bnot_t c9
 try simp only [c9, c2, c4, c6, aa yx7, go_sem]
 refine AKev_bif h1 ?_ ?_ <;> intro c10 h1
 try simp only [c10, c2, c4, c6, aa yx7, c9, go_sem]
 obtain rfl := hret1 _ (Option.some.inj h1).symm
 simp only at h0
 obtain rfl := Option.some.inj h0
 refine AKev_ret rfl ?_
 try simp only [F33.rs, c2, c4, c6, aa yx7, c9, c10, go_sem]
 try simp only [c10, c2, c4, c6, aa yx7, c9, go_sem]
 refine AKev_backB (hnext1 _ _ (Option.some.inj h1).symm ?_)
 refine Weak.go [6, 25, 26, 27] [0] rfl ?_
 try simp only [heat_Together.h0, c2, c4, c6, aa yx7, c9, c10, go_sem]
 have c9 := bnot_f c9
 try simp only [c9, c2, c4, c6, aa yx7, go_sem]
 obtain rfl := hret1 _ (Option.some.inj h1).symm
 simp only at h0
 obtain rfl := Option.some.inj h0
 refine AKev_ret rfl ?_
 try simp only [F33.rs, c2, c4, c6, aa yx7, c9, go_sem]
 try simp only [c6, c2, c4, go_sem]
 refine AKev_backB (hbrk1 _ _ (Option.some.inj h1).symm ?_)
 refine Weak.go [] [] rfl ?_
 try simp only [heat_Together.x0, c2, c4, c6, go_sem]
 rintro _ hr_
 subst hr_
 simp only at h0
 refine rS ?_
 try simp only [heat_Together.x0, c2, c4, go_sem]
 obtain rfl := Option.some.inj h0
 refine AKev_ret rfl ?_
 try simp only [F33.rs, c2, c4, go_sem]
def F32.c : SC :=
 (.seq
 (.reg [oq 3 (.box 32 (.tmp 0)) 0 [0],
 oq 5 (.box 39 (.tmp 2)) 0 [2],
 sn 6 0 3 [6],
 sn 7 0 43 [7]])
 (.seq
 (.block 0
 (.seq
 (.reg [ld 9 32 3 [],
 cf1 10 41 9 32 43 [9],
 bn 11 .neq 43 10 0 43 4 [10],
 sg 8 11 4 [11]])
 (.cond (.tmp 8)
 (.seq
 (.reg [sn 6 0 3 [],
 sn 7 42 43 []])
 .ret)
 (.seq
 (.reg [mv 13 1 3 [],
 fa 14 32 3 0 [],
 fa 15 29 14 0 [14],
 ld 16 27 15 [15],
 oq 17 (.indexAddr 27 (.tmp 16) (.const (.int .i64 0))) 0 [16],
 ld 18 40 17 [17],
 ln 19 18 40 3 [18],
 bn 20 .sub 3 19 1 3 3 [19],
 oq 21 (.call ⟨.value (.func 42), #[.tmp 13, .const (.int .i64 0), .tmp 20], #[3, 3, 3]⟩) 4 [13, 20],
 oq 22 (.unOp .not 4 (.tmp 21)) 4 [21],
 sg 12 22 4 [22]])
 (.cond (.tmp 12)
 (.seq
 (.reg [sn 6 0 3 [],
 sn 7 43 43 []])
 .ret)
 .skip)))))
 (.seq
 (.reg [ld 23 32 3 [3],
 mv 24 1 3 [1],
 ld 25 39 5 [5],
 oq 26 (.build 79 #[(0, .tmp 24), (1, .tmp 25)]) 79 [24, 25],
 oq 27 (.buildSlice 80 1 #[(0, .tmp 26)]) 80 [26],
 cf2 28 33 23 27 32 80 83 [23, 27],
 xt 29 28 0 3 [],
 xt 30 28 1 43 [28],
 sg 6 29 3 [29],
 sg 7 30 43 [30]])
 .ret)))
theorem F32.rs : Try.f32.results.toList = [.tmp 6, .tmp 7] := rfl
def heat_Verdict (k : Nat) (f0 : Firing) (place1 : Int) (want2 : Range) : Option (Int × Int) :=
 (heat_Check k f0).bind fun x1 =>
 bif (!decide (x1 = (0 : Int))) then
  some (0, 42)
 else
  (at? f0.Kiln.Falls 0).bind fun x3 =>
  (heat_in k place1 0 (w64 ((x3.length : Int) - 1))).bind fun x4 =>
  bif (!x4) then
   some (0, 43)
  else
   (heat_Together k f0 [(⟨place1, want2⟩ : Want)]).bind fun x6 =>
   some (x6.1, x6.2)
theorem heat_Verdict_ok (k : Nat) (f0 : Firing) (place1 : Int) (want2 : Range) (r : Int × Int) (h0 : heat_Verdict k f0 place1 want2 = some r) : PCall Try.prog 32 [.agg (Firing.c f0), .int .i64 place1, .agg (Range.c want2)] (fun y => y = .tup [.int .i64 r.1, .int .i64 r.2]) := by
 refine PB (fn := Try.f32) (sc := F32.c) ?_
 refine rS ?_
 simp only [heat_Verdict] at h0
 try simp only [F32.c, go_sem]
 obtain ⟨x1, yx1, h0⟩ := bs h0
 refine zc0 (heat_Check_ok k _ _ yx1) ?_ (by first | rfl | simp [AV.refsL, AV.refs, AV.scal, AV.leaf]) ?_
 try simp only [go_sem]
 try simp only [go_sem]
 refine AKev_bif h0 ?_ ?_ <;> intro c2 h0
 have c2 := bnot_t c2
 try simp only [c2, go_sem]
 obtain rfl := Option.some.inj h0
 refine AKev_ret rfl ?_
 try simp only [F32.rs, c2, go_sem]
 have c2 := bnot_f c2
 try simp only [c2, go_sem]
 obtain ⟨x3, yx3, h0⟩ := bs h0
 try simp only [aa yx3, c2, go_sem]
 obtain ⟨x4, yx4, h0⟩ := bs h0
 refine zc0 (heat_in_ok k _ _ _ _ yx4) ?_ (by first | rfl | simp [AV.refsL, AV.refs, AV.scal, AV.leaf]) ?_
 try simp only [c2, aa yx3, go_sem]
 try simp only [c2, aa yx3, go_sem]
 refine AKev_bif h0 ?_ ?_ <;> intro c5 h0
 have c5 := bnot_t c5
 try simp only [c5, c2, aa yx3, go_sem]
 obtain rfl := Option.some.inj h0
 refine AKev_ret rfl ?_
 try simp only [F32.rs, c2, aa yx3, c5, go_sem]
 have c5 := bnot_f c5
 try simp only [c5, c2, aa yx3, go_sem]
 obtain ⟨x6, yx6, h0⟩ := bs h0
 refine zc0 (heat_Together_ok k _ _ _ yx6) ?_ (by first | rfl | simp [AV.refsL, AV.refs, AV.scal, AV.leaf]) ?_
 try simp only [c2, aa yx3, c5, go_sem]
 try simp only [c2, aa yx3, c5, go_sem]
 obtain rfl := Option.some.inj h0
 refine AKev_ret rfl ?_
 try simp only [F32.rs, c2, aa yx3, c5, go_sem]
def F73.s1 : SC :=
 (.seq
 (.reg [b2 39 .lss 3 38 37 3 0 []])
 (.seq
 (.cond (.tmp 39)
 .skip
 (.exit 2))
 (.seq
 (.block 3
 (.seq
 (.reg [mv 40 38 3 [],
 ia 41 40 36 38 [],
 ld 42 39 41 [41],
 oq 10 (.alloc 39) 0 [],
 sg 9 40 3 [40],
 ⟨none, .store 39 (.tmp 10) (.tmp 42), 0, none, [42]⟩])
 (.seq
 (.reg [fa 43 39 10 0 [10],
 ld 44 3 43 [43],
 sg 11 44 3 [44]])
 (.seq
 (.seq
 (.reg [fa 46 94 1 2 [],
 ld 47 92 46 [46],
 mv 48 9 3 [9],
 oq 49 (.call ⟨.value (.func 89), #[.tmp 47, .tmp 48, .func 90], #[92, 3, 147]⟩) 137 [47, 48],
 mv 45 49 137 [49],
 xt 50 45 0 136 [],
 xt 51 45 1 4 [45],
 oq 12 (.alloc 136) 0 [],
 ⟨none, .store 136 (.tmp 12) (.tmp 50), 0, none, [50]⟩,
 sg 13 51 4 [51]])
 (.seq
 (.reg [mv 52 13 4 [13]])
 (.cond (.tmp 52)
 (.reg [mv 53 11 3 [11],
 mv 54 6 3 [],
 fa 55 136 12 1 [12],
 ld 56 3 55 [55],
 b2 57 .sub 3 54 56 3 3 [54, 56],
 oq 58 (.call ⟨.builtin .max, #[.tmp 53, .tmp 57], #[3, 3]⟩) 3 [53, 57],
 sg 11 58 3 [58]])
 .skip)))
 (.reg [mv 59 8 23 [8],
 mv 60 11 3 [11],
 oq 61 (.buildSlice 23 1 #[(0, .tmp 60)]) 23 [60],
 oq 62 (.call ⟨.builtin .append, #[.tmp 59, .tmp 61], #[23, 23]⟩) 23 [59, 61],
 sg 8 62 23 [62]])))))
 (.reg [bn 63 .add 3 38 1 3 3 [38],
 mv 38 63 3 [63]]))))
def F73.s0 : SC :=
 (.seq
 (.reg [b2 20 .lss 3 19 18 3 0 []])
 (.seq
 (.cond (.tmp 20)
 .skip
 (.exit 0))
 (.seq
 (.block 1
 (.seq
 (.reg [mv 21 19 3 [],
 ia 22 27 17 19 [],
 ld 23 40 22 [22],
 sg 4 21 3 [21],
 sg 5 23 40 [23]])
 (.seq
 (.reg [ld 25 94 1 [],
 mv 26 4 3 [4],
 cf2 27 88 25 26 94 3 141 [25, 26],
 mv 24 27 141 [27],
 xt 28 24 0 3 [],
 xt 29 24 1 3 [24],
 sg 6 28 3 [28],
 sg 7 29 3 [7, 29]])
 (.seq
 (.reg [fa 30 35 3 0 [],
 ld 31 23 30 [30],
 mv 32 6 3 [],
 oq 33 (.buildSlice 23 1 #[(0, .tmp 32)]) 23 [32],
 oq 34 (.call ⟨.builtin .append, #[.tmp 31, .tmp 33], #[23, 23]⟩) 23 [31, 33],
 fa 35 35 3 0 [],
 ⟨none, .store 23 (.tmp 35) (.tmp 34), 0, none, [34, 35]⟩])
 (.seq
 (.reg [oq 8 (.assign (.const (.slice none 0 0))) 23 []])
 (.seq
 (.seq
 (.reg [mv 36 5 40 [5],
 ln 37 36 40 3 [],
 oq 38 (.move (.const (.int .i64 0))) 3 []])
 (.block 2
 (.loop F73.s1)))
 (.reg [fa 64 35 3 1 [],
 ld 65 33 64 [64],
 mv 66 8 23 [8],
 oq 67 (.buildSlice 33 1 #[(0, .tmp 66)]) 33 [66],
 oq 68 (.call ⟨.builtin .append, #[.tmp 65, .tmp 67], #[33, 33]⟩) 33 [65, 67],
 fa 69 35 3 1 [],
 ⟨none, .store 33 (.tmp 69) (.tmp 68), 0, none, [68, 69]⟩])))))))
 (.reg [bn 70 .add 3 19 1 3 3 [19],
 mv 19 70 3 [70]]))))
def F73.c : SC :=
 (.seq
 (.reg [oq 1 (.box 94 (.tmp 0)) 0 [0],
 oq 2 (.alloc 35) 0 []])
 (.seq
 (.reg [oq 3 (.alloc 35) 0 []])
 (.seq
 (.seq
 (.reg [fa 14 94 1 0 [],
 fa 15 32 14 0 [14],
 fa 16 29 15 0 [15],
 ld 17 27 16 [16],
 ln 18 17 27 3 [],
 oq 19 (.move (.const (.int .i64 0))) 3 []])
 (.block 0
 (.loop F73.s0)))
 (.seq
 (.reg [ld 71 35 3 [3],
 ⟨none, .store 35 (.tmp 2) (.tmp 71), 0, none, [71]⟩])
 .ret))))
theorem F73.rs : Try.f73.results.toList = [.cell 2 35] := rfl
def heat_furnace_greatest.b1 (k : Nat) (f0 : heat_furnace) (x7 : (List Range)) (x8 : Int × Int) : (Int × (List Int)) → Option (Stp (Int × (List Int)) ((List Int)) (Field)) := fun (s : Int × (List Int)) => match s with
 | (i10, l11) =>
   bif decide (i10 < (x7.length : Int)) then
    (at? x7 i10).bind fun x14 =>
    (heat_best k f0.most i10 (fun q0 q1 => heat_less k q0 q1)).bind fun x15 =>
    bif x15.2 then
     (push? 8 l11 (max x14.Lo (w64 (x8.1 - x15.1.heat)))).bind fun l17 =>
     some (.next (w64 (i10 + 1), l17))
    else
     (push? 8 l11 x14.Lo).bind fun l18 =>
     some (.next (w64 (i10 + 1), l18))
   else
    some (.brk l11)
def heat_furnace_greatest.b0 (k : Nat) (f0 : heat_furnace) : (Int × (List Int) × (List (List Int))) → Option (Stp (Int × (List Int) × (List (List Int))) ((List Int) × (List (List Int))) (Field)) := fun (s : Int × (List Int) × (List (List Int))) => match s with
 | (i1, l2, l3) =>
   bif decide (i1 < (f0.Firing.Kiln.Falls.length : Int)) then
    (at? f0.Firing.Kiln.Falls i1).bind fun x7 =>
    (heat_furnace_hottest k f0 i1).bind fun x8 =>
    (push? 8 l2 x8.1).bind fun l9 =>
    (whl (heat_furnace_greatest.b1 k f0 x7 x8) k (0, [])).bind fun r19 => match r19 with
    | .next _ => none
    | .ret v_ => some (.ret v_)
    | .brk l12 =>
     (push? 24 l3 l12).bind fun l20 =>
     some (.next (w64 (i1 + 1), l9, l20))
   else
    some (.brk (l2, l3))
noncomputable def heat_furnace_greatest.h1 (f0 : heat_furnace) (i1 : Int) (l2 : (List Int)) (l3 : (List (List Int))) (x7 : (List Range)) (x8 : Int × Int) (l9 : List Int) : (Int × (List Int)) → St := fun (s : Int × (List Int)) => match s with
 | (i10, l11) => ⟨[(1, .ptr 0 0 0), (2, .ptr 0 1 0), (3, .ptr 0 4 0), (6, .int .i64 x8.1), (8, .loc 0 7 1 0 l11.length l11.length), (17, .sl 1 (List.map (eL 2 Range.c) f0.Firing.Kiln.Falls)), (18, .int .i64 (f0.Firing.Kiln.Falls.length : Int)), (19, .int .i64 i1), (36, .sl 2 (List.map Range.c x7)), (37, .int .i64 (x7.length : Int)), (38, .int .i64 i10)], [(0, .box [.sl 1 (List.map (eL 2 Range.c) f0.Firing.Kiln.Falls), .sl 6 (List.map Reading.c f0.Firing.Readings), .sl 3 (List.map heat_limit.c f0.least), .sl 3 (List.map heat_limit.c f0.most)]), (1, .box [.loc 0 2 1 0 0 0, .loc 0 3 1 0 0 0]), (2, .arr 3 1 (List.map eI [])), (3, .arr 23 1 (List.map (eL 1 eI) [])), (4, .box [.loc 0 5 1 0 (l2.length + 1) (l2.length + 1), .loc 0 6 1 0 l3.length l3.length]), (5, .arr 3 1 (List.map eI l9)), (6, .arr 23 1 (List.map (eL 1 eI) l3)), (7, .arr 3 1 (List.map eI l11))], [], 8, Try.f73.ntmps⟩
noncomputable def heat_furnace_greatest.x1 (f0 : heat_furnace) (i1 : Int) (l2 : (List Int)) (l3 : (List (List Int))) (l9 : List Int) : (List Int) → St := fun (l12 : (List Int)) => ⟨[(1, .ptr 0 0 0), (2, .ptr 0 1 0), (3, .ptr 0 4 0), (8, .loc 0 7 1 0 l12.length l12.length), (17, .sl 1 (List.map (eL 2 Range.c) f0.Firing.Kiln.Falls)), (18, .int .i64 (f0.Firing.Kiln.Falls.length : Int)), (19, .int .i64 i1)], [(0, .box [.sl 1 (List.map (eL 2 Range.c) f0.Firing.Kiln.Falls), .sl 6 (List.map Reading.c f0.Firing.Readings), .sl 3 (List.map heat_limit.c f0.least), .sl 3 (List.map heat_limit.c f0.most)]), (1, .box [.loc 0 2 1 0 0 0, .loc 0 3 1 0 0 0]), (2, .arr 3 1 (List.map eI [])), (3, .arr 23 1 (List.map (eL 1 eI) [])), (4, .box [.loc 0 5 1 0 (l2.length + 1) (l2.length + 1), .loc 0 6 1 0 l3.length l3.length]), (5, .arr 3 1 (List.map eI l9)), (6, .arr 23 1 (List.map (eL 1 eI) l3)), (7, .arr 3 1 (List.map eI l12))], [], 8, Try.f73.ntmps⟩
noncomputable def heat_furnace_greatest.h0 (f0 : heat_furnace) : (Int × (List Int) × (List (List Int))) → St := fun (s : Int × (List Int) × (List (List Int))) => match s with
 | (i1, l2, l3) => ⟨[(1, .ptr 0 0 0), (2, .ptr 0 1 0), (3, .ptr 0 4 0), (17, .sl 1 (List.map (eL 2 Range.c) f0.Firing.Kiln.Falls)), (18, .int .i64 (f0.Firing.Kiln.Falls.length : Int)), (19, .int .i64 i1)], [(0, .box [.sl 1 (List.map (eL 2 Range.c) f0.Firing.Kiln.Falls), .sl 6 (List.map Reading.c f0.Firing.Readings), .sl 3 (List.map heat_limit.c f0.least), .sl 3 (List.map heat_limit.c f0.most)]), (1, .box [.loc 0 2 1 0 0 0, .loc 0 3 1 0 0 0]), (2, .arr 3 1 (List.map eI [])), (3, .arr 23 1 (List.map (eL 1 eI) [])), (4, .box [.loc 0 5 1 0 l2.length l2.length, .loc 0 6 1 0 l3.length l3.length]), (5, .arr 3 1 (List.map eI l2)), (6, .arr 23 1 (List.map (eL 1 eI) l3))], [], 7, Try.f73.ntmps⟩
noncomputable def heat_furnace_greatest.x0 : ((List Int) × (List (List Int))) → St := fun (s : (List Int) × (List (List Int))) => match s with
 | (l4, l5) => ⟨[(2, .ptr 0 0 0), (3, .ptr 0 3 0)], [(0, .box [.loc 0 1 1 0 0 0, .loc 0 2 1 0 0 0]), (1, .arr 3 1 (List.map eI [])), (2, .arr 23 1 (List.map (eL 1 eI) [])), (3, .box [.loc 0 4 1 0 l4.length l4.length, .loc 0 5 1 0 l5.length l5.length]), (4, .arr 3 1 (List.map eI l4)), (5, .arr 23 1 (List.map (eL 1 eI) l5))], [], 6, Try.f73.ntmps⟩
def heat_furnace_greatest (k : Nat) (f0 : heat_furnace) : Option (Field) :=
 (whl (heat_furnace_greatest.b0 k f0) k (0, [], [])).bind fun r21 => match r21 with
 | .next _ => none
 | .ret v_ => some v_
 | .brk (l4, l5) =>
  some (⟨l4, l5⟩ : Field)
theorem heat_furnace_greatest_ok (k : Nat) (f0 : heat_furnace) (r : Field) (h0 : heat_furnace_greatest k f0 = some r) : PCall Try.prog 73 [.agg (heat_furnace.c f0)] (fun y => y = .agg (Field.c r)) := by
 refine PB (fn := Try.f73) (sc := F73.c) ?_
 refine rS ?_
 simp only [heat_furnace_greatest] at h0
 try simp only [F73.c, go_sem]
 obtain ⟨r21, yr21, h0⟩ := bs h0
 refine AKev_loopS yr21 (heat_furnace_greatest.h0 f0) (heat_furnace_greatest.x0) ?_ ?_ ?_
 refine Weak.go [1, 2, 3, 17, 18, 19] [0, 16, 17, 18, 32, 33, 34] rfl ?_
 try simp only [heat_furnace_greatest.h0, go_sem]
 rintro ⟨i1, l2, l3⟩ x_1 Bk1 Br1 h1 hnext1 hbrk1 hret1
 refine rS ?_
 simp only [heat_furnace_greatest.b0] at h1
 try simp only [F73.s0, heat_furnace_greatest.h0, go_sem]
 refine AKev_bif h1 ?_ ?_ <;> intro c6 h1
 try simp only [c6, go_sem]
 obtain ⟨x7, yx7, h1⟩ := bs h1
 try simp only [aa yx7, c6, go_sem]
 obtain ⟨x8, yx8, h1⟩ := bs h1
 refine zc0 (heat_furnace_hottest_ok k _ _ _ yx8) ?_ (by first | rfl | simp [AV.refsL, AV.refs, AV.scal, AV.leaf]) ?_
 try simp only [c6, aa yx7, go_sem]
 try simp only [c6, aa yx7, go_sem]
 obtain ⟨l9, yl9, h1⟩ := bs h1
 have eyl9 := push_map eI yl9
 have tyl9 := push_take eI yl9
 have nyl9 := push_len yl9
 have myl9 := push_room yl9
 try simp only [c6, aa yx7, go_sem] at eyl9 tyl9 nyl9 myl9
 try simp only [myl9, eyl9, c6, aa yx7, nyl9, tyl9, go_sem]
 obtain ⟨r19, yr19, h1⟩ := bs h1
 refine AKev_loopS yr19 (heat_furnace_greatest.h1 f0 i1 l2 l3 x7 x8 l9) (heat_furnace_greatest.x1 f0 i1 l2 l3 l9) ?_ ?_ ?_
 refine Weak.go [1, 2, 3, 6, 8, 17, 18, 19, 36, 37, 38] [0, 1, 2, 3, 4, 5, 6, 343] rfl ?_
 try simp only [heat_furnace_greatest.h1, c6, aa yx7, eyl9, nyl9, tyl9, go_sem]
 rintro ⟨i10, l11⟩ x_2 Bk2 Br2 h2 hnext2 hbrk2 hret2
 refine rS ?_
 simp only [heat_furnace_greatest.b1] at h2
 try simp only [F73.s1, heat_furnace_greatest.h1, c6, aa yx7, eyl9, nyl9, tyl9, go_sem]
 refine AKev_bif h2 ?_ ?_ <;> intro c13 h2
 try simp only [c13, c6, aa yx7, eyl9, nyl9, tyl9, go_sem]
 obtain ⟨x14, yx14, h2⟩ := bs h2
 try simp only [aa yx14, c6, aa yx7, eyl9, nyl9, tyl9, c13, go_sem]
 obtain ⟨x15, yx15, h2⟩ := bs h2
 refine zc0 (heat_best_ok k _ _ 90 [] ⟨fun _ => rfl, fun _ => rfl, fun _ _ => rfl, rfl, fun _ => rfl, fun _ => rfl, fun _ => rfl⟩ (fun q0 q1 => heat_less k q0 q1) (fun q0 q1 qr qh => heat_less_ok k q0 q1 qr qh) _ yx15) ?_ (by first | rfl | simp [AV.refsL, AV.refs, AV.scal, AV.leaf]) ?_
 try simp only [c6, aa yx7, eyl9, nyl9, tyl9, c13, aa yx14, go_sem]
 try simp only [c6, aa yx7, eyl9, nyl9, tyl9, c13, aa yx14, go_sem]
 refine AKev_bif h2 ?_ ?_ <;> intro c16 h2
 try simp only [c16, c6, aa yx7, eyl9, nyl9, tyl9, c13, aa yx14, go_sem]
 obtain ⟨l17, yl17, h2⟩ := bs h2
 have eyl17 := push_map eI yl17
 have tyl17 := push_take eI yl17
 have nyl17 := push_len yl17
 have myl17 := push_room yl17
 try simp only [c6, aa yx7, eyl9, nyl9, tyl9, c13, aa yx14, c16, go_sem] at eyl17 tyl17 nyl17 myl17
 try simp only [myl17, eyl17, c6, aa yx7, eyl9, nyl9, tyl9, c13, aa yx14, c16, nyl17, tyl17, go_sem]
 refine AKev_backB (hnext2 _ _ (Option.some.inj h2).symm ?_)
 refine Weak.go [1, 2, 3, 6, 8, 17, 18, 19, 36, 37, 38] [0, 1, 2, 3, 4, 5, 6, 7] rfl ?_
 try simp only [heat_furnace_greatest.h1, c6, aa yx7, eyl9, nyl9, tyl9, c13, aa yx14, c16, eyl17, nyl17, tyl17, go_sem]
 try simp only [c16, c6, aa yx7, eyl9, nyl9, tyl9, c13, aa yx14, go_sem]
 obtain ⟨l18, yl18, h2⟩ := bs h2
 have eyl18 := push_map eI yl18
 have tyl18 := push_take eI yl18
 have nyl18 := push_len yl18
 have myl18 := push_room yl18
 try simp only [c6, aa yx7, eyl9, nyl9, tyl9, c13, aa yx14, c16, go_sem] at eyl18 tyl18 nyl18 myl18
 try simp only [myl18, eyl18, c6, aa yx7, eyl9, nyl9, tyl9, c13, aa yx14, c16, nyl18, tyl18, go_sem]
 refine AKev_backB (hnext2 _ _ (Option.some.inj h2).symm ?_)
 refine Weak.go [1, 2, 3, 6, 8, 17, 18, 19, 36, 37, 38] [0, 1, 2, 3, 4, 5, 6, 7] rfl ?_
 try simp only [heat_furnace_greatest.h1, c6, aa yx7, eyl9, nyl9, tyl9, c13, aa yx14, c16, eyl18, nyl18, tyl18, go_sem]
 try simp only [c13, c6, aa yx7, eyl9, nyl9, tyl9, go_sem]
 refine AKev_backB (hbrk2 _ _ (Option.some.inj h2).symm ?_)
 refine Weak.go [1, 2, 3, 8, 17, 18, 19] [0, 1, 2, 3, 4, 5, 6, 7] rfl ?_
 try simp only [heat_furnace_greatest.x1, c6, aa yx7, eyl9, nyl9, tyl9, c13, go_sem]
 rintro l12 hr_
 subst hr_
 simp only at h1
 refine rS ?_
 try simp only [heat_furnace_greatest.x1, c6, aa yx7, eyl9, nyl9, tyl9, go_sem]
 obtain ⟨l20, yl20, h1⟩ := bs h1
 have eyl20 := push_map (eL 1 eI) yl20
 have tyl20 := push_take (eL 1 eI) yl20
 have nyl20 := push_len yl20
 have myl20 := push_room yl20
 try simp only [c6, aa yx7, eyl9, nyl9, tyl9, go_sem] at eyl20 tyl20 nyl20 myl20
 try simp only [myl20, eyl20, c6, aa yx7, eyl9, nyl9, tyl9, nyl20, tyl20, go_sem]
 refine AKev_backB (hnext1 _ _ (Option.some.inj h1).symm ?_)
 refine Weak.go [1, 2, 3, 17, 18, 19] [0, 1, 2, 3, 4, 5, 6] rfl ?_
 try simp only [heat_furnace_greatest.h0, c6, aa yx7, eyl9, nyl9, tyl9, eyl20, nyl20, tyl20, go_sem]
 try simp only [c6, go_sem]
 refine AKev_backB (hbrk1 _ _ (Option.some.inj h1).symm ?_)
 refine Weak.go [2, 3] [1, 2, 3, 4, 5, 6] rfl ?_
 try simp only [heat_furnace_greatest.x0, c6, go_sem]
 rintro ⟨l4, l5⟩ hr_
 subst hr_
 simp only at h0
 refine rS ?_
 try simp only [heat_furnace_greatest.x0, go_sem]
 obtain rfl := Option.some.inj h0
 refine AKev_ret rfl ?_
 try simp only [F73.rs, go_sem]
def F38.c : SC :=
 (.seq
 (.reg [oq 1 (.box 32 (.tmp 0)) 0 [0],
 oq 2 (.assign (.const (.slice none 0 0))) 23 [2],
 sn 3 0 43 [3]])
 (.seq
 (.reg [ld 7 32 1 [1],
 oq 8 (.call ⟨.value (.func 36), #[.tmp 7, .const (.int .i64 0)], #[32, 3]⟩) 95 [7],
 mv 6 8 95 [8],
 xt 9 6 0 94 [],
 xt 10 6 1 43 [6],
 oq 4 (.alloc 94) 0 [],
 ⟨none, .store 94 (.tmp 4) (.tmp 9), 0, none, [9]⟩,
 sg 5 10 43 [10]])
 (.seq
 (.seq
 (.reg [mv 11 5 43 [],
 bn 12 .neq 43 11 0 43 4 [11]])
 (.cond (.tmp 12)
 (.seq
 (.reg [mv 13 5 43 [5],
 oq 2 (.assign (.const (.slice none 0 0))) 23 [],
 sg 3 13 43 [13]])
 .ret)
 .skip))
 (.seq
 (.reg [ld 14 94 4 [4],
 cf1 15 73 14 94 35 [14],
 oq 16 (.field 35 (.tmp 15) 0) 23 [15],
 sg 2 16 23 [16],
 sn 3 0 43 []])
 .ret))))
theorem F38.rs : Try.f38.results.toList = [.tmp 2, .tmp 3] := rfl
def heat_Hottest (k : Nat) (f0 : Firing) : Option ((List Int) × Int) :=
 (heat_asks k f0 0).bind fun x1 =>
 bif (!decide (x1.2 = (0 : Int))) then
  some ([], x1.2)
 else
  (heat_furnace_greatest k x1.1).bind fun x3 =>
  some (x3.Mouths, 0)
theorem heat_Hottest_ok (k : Nat) (f0 : Firing) (r : (List Int) × Int) (h0 : heat_Hottest k f0 = some r) : PCall Try.prog 38 [.agg (Firing.c f0)] (fun y => y = .tup [.sl 1 (List.map eI r.1), .int .i64 r.2]) := by
 refine PB (fn := Try.f38) (sc := F38.c) ?_
 refine rS ?_
 simp only [heat_Hottest] at h0
 try simp only [F38.c, go_sem]
 obtain ⟨x1, yx1, h0⟩ := bs h0
 refine zc0 (heat_asks_ok k _ _ _ yx1) ?_ (by first | rfl | simp [AV.refsL, AV.refs, AV.scal, AV.leaf]) ?_
 try simp only [go_sem]
 try simp only [go_sem]
 refine AKev_bif h0 ?_ ?_ <;> intro c2 h0
 have c2 := bnot_t c2
 try simp only [c2, go_sem]
 obtain rfl := Option.some.inj h0
 refine AKev_ret rfl ?_
 try simp only [F38.rs, c2, go_sem]
 have c2 := bnot_f c2
 try simp only [c2, go_sem]
 obtain ⟨x3, yx3, h0⟩ := bs h0
 refine zc0 (heat_furnace_greatest_ok k _ _ yx3) ?_ (by first | rfl | simp [AV.refsL, AV.refs, AV.scal, AV.leaf]) ?_
 try simp only [c2, go_sem]
 try simp only [c2, go_sem]
 obtain rfl := Option.some.inj h0
 refine AKev_ret rfl ?_
 try simp only [F38.rs, c2, go_sem]
def F40.c : SC :=
 (.seq
 (.reg [oq 0 (.alloc 29) 0 []])
 (.seq
 (.reg [oq 4 (.build 39 #[(0, .const (.int .i64 100)), (1, .const (.int .i64 200))]) 39 [],
 oq 1 (.alloc 39) 0 [],
 ⟨none, .store 39 (.tmp 1) (.tmp 4), 0, none, [4]⟩])
 (.seq
 (.reg [oq 5 (.build 39 #[(0, .const (.int .i64 300)), (1, .const (.int .i64 400))]) 39 [],
 oq 2 (.alloc 39) 0 [],
 ⟨none, .store 39 (.tmp 2) (.tmp 5), 0, none, [5]⟩])
 (.seq
 (.reg [oq 6 (.build 39 #[(0, .const (.int .i64 600)), (1, .const (.int .i64 800))]) 39 [],
 oq 3 (.alloc 39) 0 [],
 ⟨none, .store 39 (.tmp 3) (.tmp 6), 0, none, [6]⟩])
 (.seq
 (.reg [ld 7 39 1 [],
 ld 8 39 2 [],
 ld 9 39 3 [],
 oq 10 (.buildSlice 40 3 #[(0, .tmp 7), (1, .tmp 8), (2, .tmp 9)]) 40 [7, 8, 9],
 ld 11 39 3 [3],
 ld 12 39 2 [2],
 ld 13 39 1 [1],
 oq 14 (.buildSlice 40 3 #[(0, .tmp 11), (1, .tmp 12), (2, .tmp 13)]) 40 [11, 12, 13],
 oq 15 (.buildSlice 27 2 #[(0, .tmp 10), (1, .tmp 14)]) 27 [10, 14],
 oq 16 (.build 29 #[(0, .tmp 15)]) 29 [15],
 ⟨none, .store 29 (.tmp 0) (.tmp 16), 0, none, [16]⟩])
 .ret)))))
theorem F40.rs : Try.f40.results.toList = [.cell 0 29] := rfl
def L04_kiln (k : Nat) : Option (Kiln) :=
 some (⟨[[(⟨100, 200⟩ : Range), (⟨300, 400⟩ : Range), (⟨600, 800⟩ : Range)], [(⟨600, 800⟩ : Range), (⟨300, 400⟩ : Range), (⟨100, 200⟩ : Range)]]⟩ : Kiln)
theorem L04_kiln_ok (k : Nat) (r : Kiln) (h0 : L04_kiln k = some r) : PCall Try.prog 40 [] (fun y => y = .agg (Kiln.c r)) := by
 refine PB (fn := Try.f40) (sc := F40.c) ?_
 refine rS ?_
 simp only [L04_kiln] at h0
 try simp only [F40.c, go_sem]
 obtain rfl := Option.some.inj h0
 refine AKev_ret rfl ?_
 try simp only [F40.rs, go_sem]
def F39.c : SC :=
 (.seq
 (.reg [oq 0 (.alloc 32) 0 []])
 (.seq
 (.reg [oq 1 (.call ⟨.value (.func 40), #[], #[]⟩) 29 [],
 oq 2 (.build 60 #[(0, .const (.int .i64 1)), (2, .const (.int .i64 1)), (3, .const (.int .i64 1000))]) 60 [],
 oq 3 (.build 60 #[(0, .const (.int .i64 2)), (2, .const (.int .i64 2)), (3, .const (.int .i64 1101))]) 60 [],
 oq 4 (.build 60 #[(0, .const (.int .i64 3)), (1, .const (.int .i64 2)), (2, .const (.int .i64 2)), (3, .const (.int .i64 901))]) 60 [],
 oq 5 (.buildSlice 30 3 #[(0, .tmp 2), (1, .tmp 3), (2, .tmp 4)]) 30 [2, 3, 4],
 oq 6 (.build 32 #[(0, .tmp 1), (1, .tmp 5)]) 32 [1, 5],
 ⟨none, .store 32 (.tmp 0) (.tmp 6), 0, none, [6]⟩])
 .ret))
theorem F39.rs : Try.f39.results.toList = [.cell 0 32] := rfl
def L04_firing_o (k : Nat) : Option (Firing) :=
 (L04_kiln k).bind fun x1 =>
 some (⟨x1, [(⟨1, 0, 1, 1000, (⟨0, 0⟩ : Range)⟩ : Reading), (⟨2, 0, 2, 1101, (⟨0, 0⟩ : Range)⟩ : Reading), (⟨3, 2, 2, 901, (⟨0, 0⟩ : Range)⟩ : Reading)]⟩ : Firing)
theorem L04_firing_o_ok (k : Nat) (r : Firing) (h0 : L04_firing_o k = some r) : GCall Try.prog 39 [] [] (fun y fr => y = .agg [.sl 1 (List.map (eL 2 Range.c) r.Kiln.Falls), .loc 0 0 6 0 r.Readings.length r.Readings.length] ∧ fr = [(0, .arr 60 6 (List.map Reading.c r.Readings))]) := by
 refine GCall.of_body T_ok (f := 39) (fn := Try.f39) (sc := F39.c) (by rfl) (by rfl) (by decide +kernel) (by rfl) (by decide +kernel) (Nat.le_of_ble_eq_true rfl) (fun H => ?_)
 refine rS ?_
 simp only [L04_firing_o] at h0
 try simp only [F39.c, go_sem]
 obtain ⟨x1, yx1, h0⟩ := bs h0
 refine zc0 (L04_kiln_ok k _ yx1) ?_ (by first | rfl | simp [AV.refsL, AV.refs, AV.scal, AV.leaf]) ?_
 try simp only [go_sem]
 try simp only [go_sem]
 obtain rfl := Option.some.inj h0
 refine AKev_gown [96] (by simp) rfl rfl ?_
 try simp only [F39.rs, gwOK, tupOf, Option.bind_some, go_sem]
def F14.c : SC :=
 (.seq
 (.reg [sb 0 false 4 [0]])
 (.seq
 (.reg [oq 12 (.call ⟨.value (.func 39), #[], #[]⟩) 32 [],
 cf1 13 38 12 32 53 [12],
 mv 11 13 53 [13],
 xt 14 11 0 23 [],
 xt 15 11 1 43 [11],
 sg 1 14 23 [14],
 sg 2 15 43 [15]])
 (.seq
 (.reg [oq 17 (.call ⟨.value (.func 39), #[], #[]⟩) 32 [],
 oq 18 (.call ⟨.value (.func 13), #[.tmp 17, .const (.int .i64 1)], #[32, 3]⟩) 44 [17],
 mv 16 18 44 [18],
 xt 19 16 0 39 [],
 xt 20 16 1 43 [16],
 oq 3 (.alloc 39) 0 [],
 ⟨none, .store 39 (.tmp 3) (.tmp 19), 0, none, [19]⟩,
 sg 4 20 43 [20]])
 (.seq
 (.reg [oq 22 (.call ⟨.value (.func 39), #[], #[]⟩) 32 [],
 oq 23 (.build 39 #[(0, .const (.int .i64 900)), (1, .const (.int .i64 950))]) 39 [],
 oq 24 (.call ⟨.value (.func 32), #[.tmp 22, .const (.int .i64 1), .tmp 23], #[32, 3, 39]⟩) 83 [22, 23],
 mv 21 24 83 [24],
 xt 25 21 0 3 [],
 xt 26 21 1 43 [21],
 sg 5 25 3 [25],
 sg 6 26 43 [26]])
 (.seq
 (.reg [oq 28 (.call ⟨.value (.func 40), #[], #[]⟩) 29 [],
 oq 29 (.call ⟨.value (.func 39), #[], #[]⟩) 32 [],
 oq 30 (.field 32 (.tmp 29) 1) 30 [29],
 oq 31 (.build 60 #[(0, .const (.int .i64 4)), (1, .const (.int .i64 1)), (2, .const (.int .i64 2)), (3, .const (.int .i64 600))]) 60 [],
 oq 32 (.buildSlice 30 1 #[(0, .tmp 31)]) 30 [31],
 oq 33 (.call ⟨.builtin .append, #[.tmp 30, .tmp 32], #[30, 30]⟩) 30 [30, 32],
 oq 34 (.build 32 #[(0, .tmp 28), (1, .tmp 33)]) 32 [28, 33],
 cf1 35 22 34 32 53 [34],
 mv 27 35 53 [35],
 xt 36 27 0 23 [],
 xt 37 27 1 43 [27],
 sg 7 36 23 [36],
 sg 8 37 43 [37]])
 (.seq
 (.reg [oq 38 (.call ⟨.value (.func 39), #[], #[]⟩) 32 [],
 oq 39 (.buildSlice 23 2 #[(0, .const (.int .i64 (-1))), (1, .const (.int .i64 2))]) 23 [],
 oq 40 (.build 51 #[(0, .const (.int .i64 0)), (1, .tmp 39)]) 51 [39],
 oq 41 (.call ⟨.value (.func 17), #[.tmp 38, .const (.int .i64 1), .const (.bool false), .const (.int .i64 700), .tmp 40], #[32, 3, 4, 3, 51]⟩) 43 [38, 40],
 sg 9 41 43 [41]])
 (.seq
 (.reg [mv 42 2 43 [2],
 bn 43 .eql 43 42 0 43 4 [42],
 mv 44 43 4 [43],
 og 45 (.move (.tmp 4)) 43 44 true [4],
 og 46 (.binOp .eql 43 (.tmp 45) (.const (.int .i64 0)) 43) 4 44 true [45],
 oq 47 (.pick (.tmp 44) (.tmp 46) (.const (.bool false))) 4 [44, 46],
 mv 48 47 4 [47],
 og 49 (.move (.tmp 6)) 43 48 true [6],
 og 50 (.binOp .eql 43 (.tmp 49) (.const (.int .i64 0)) 43) 4 48 true [49],
 oq 51 (.pick (.tmp 48) (.tmp 50) (.const (.bool false))) 4 [48, 50],
 mv 52 51 4 [51],
 og 53 (.move (.tmp 8)) 43 52 true [8],
 og 54 (.binOp .eql 43 (.tmp 53) (.const (.int .i64 0)) 43) 4 52 true [53],
 oq 55 (.pick (.tmp 52) (.tmp 54) (.const (.bool false))) 4 [52, 54],
 mv 56 55 4 [55],
 og 57 (.move (.tmp 9)) 43 56 true [9],
 og 58 (.binOp .eql 43 (.tmp 57) (.const (.int .i64 0)) 43) 4 56 true [57],
 oq 59 (.pick (.tmp 56) (.tmp 58) (.const (.bool false))) 4 [56, 58],
 sg 10 59 4 [59]])
 (.seq
 (.reg [mv 60 10 4 [10],
 mv 61 60 4 [60],
 og 62 (.move (.tmp 1)) 23 61 true [1],
 og 63 (.buildSlice 23 2 #[(0, .const (.int .i64 1300)), (1, .const (.int .i64 1100))]) 23 61 true [],
 og 64 (.call ⟨.value (.func 19), #[.tmp 62, .tmp 63], #[23, 23]⟩) 4 61 true [62, 63],
 oq 65 (.pick (.tmp 61) (.tmp 64) (.const (.bool false))) 4 [61, 64],
 mv 66 65 4 [65],
 og 67 (.load 39 (.tmp 3)) 39 66 true [3],
 og 68 (.build 39 #[(0, .const (.int .i64 700)), (1, .const (.int .i64 1000))]) 39 66 true [],
 og 69 (.binOp .eql 39 (.tmp 67) (.tmp 68) 39) 4 66 true [67, 68],
 oq 70 (.pick (.tmp 66) (.tmp 69) (.const (.bool false))) 4 [66, 69],
 mv 71 70 4 [70],
 og 72 (.move (.tmp 5)) 3 71 true [5],
 og 73 (.binOp .eql 3 (.tmp 72) (.const (.int .i64 2)) 3) 4 71 true [72],
 oq 74 (.pick (.tmp 71) (.tmp 73) (.const (.bool false))) 4 [71, 73],
 mv 75 74 4 [74],
 og 76 (.move (.tmp 7)) 23 75 true [7],
 og 77 (.buildSlice 23 2 #[(0, .const (.int .i64 1)), (1, .const (.int .i64 4))]) 23 75 true [],
 og 78 (.call ⟨.value (.func 19), #[.tmp 76, .tmp 77], #[23, 23]⟩) 4 75 true [76, 77],
 oq 79 (.pick (.tmp 75) (.tmp 78) (.const (.bool false))) 4 [75, 78],
 sg 0 79 4 [79]])
 .ret))))))))
theorem F14.rs : Try.f14.results.toList = [.tmp 0] := rfl
def L04_sane (k : Nat) : Option (Bool) :=
 (L04_firing_o k).bind fun x2 =>
 (heat_Hottest k x2).bind fun x3 =>
 (L04_firing_o k).bind fun x5 =>
 (heat_Bound k x5 1).bind fun x6 =>
 (L04_firing_o k).bind fun x8 =>
 (heat_Verdict k x8 1 (⟨900, 950⟩ : Range)).bind fun x9 =>
 (L04_kiln k).bind fun x10 =>
 (L04_firing_o k).bind fun x12 =>
 (push? 48 x12.Readings (⟨4, 1, 2, 600, (⟨0, 0⟩ : Range)⟩ : Reading)).bind fun l13 =>
 (heat_Conflict k (⟨x10, l13⟩ : Firing)).bind fun x14 =>
 (L04_firing_o k).bind fun x16 =>
 (heat_CheckProof k x16 1 false 700 (⟨0, [-1, 2]⟩ : HeatProof)).bind fun x17 =>
 bif decide (x3.2 = (0 : Int)) then
  bif decide (x6.2 = (0 : Int)) then
   bif decide (x9.2 = (0 : Int)) then
    bif decide (x14.2 = (0 : Int)) then
     bif decide (x17 = (0 : Int)) then
      (R01_Same k x3.1 [1300, 1100]).bind fun x23 =>
      bif x23 then
       bif (decide (x6.1.Lo = (700 : Int)) && decide (x6.1.Hi = (1000 : Int))) then
        bif decide (x9.1 = (2 : Int)) then
         (R01_Same k x14.1 [1, 4]).bind fun x27 =>
         some x27
        else
         some false
       else
        some false
      else
       some false
     else
      some false
    else
     some false
   else
    some false
  else
   some false
 else
  some false
theorem L04_sane_ok (k : Nat) (r : Bool) (h0 : L04_sane k = some r) : PCall Try.prog 14 [] (fun y => y = .bool r) := by
 refine PB (fn := Try.f14) (sc := F14.c) ?_
 refine rS ?_
 simp only [L04_sane] at h0
 try simp only [F14.c, go_sem]
 obtain ⟨x2, yx2, h0⟩ := bs h0
 refine AKev_giveF [] [] (L04_firing_o_ok k _ yx2) ?_ rfl ?_
 try simp only [gOK, go_sem]
 try simp only [go_sem]
 refine rS ?_
 try simp only [go_sem]
 obtain ⟨x3, yx3, h0⟩ := bs h0
 refine zcT [16] (heat_Hottest_ok k _ _ yx3) ?_ ?_
 try simp only [go_sem]
 try simp only [go_sem]
 obtain ⟨x5, yx5, h0⟩ := bs h0
 refine AKev_giveF [] [] (L04_firing_o_ok k _ yx5) ?_ rfl ?_
 try simp only [gOK, go_sem]
 try simp only [go_sem]
 refine rS ?_
 try simp only [go_sem]
 obtain ⟨x6, yx6, h0⟩ := bs h0
 refine zcT [128] (heat_Bound_ok k _ _ _ yx6) ?_ ?_
 try simp only [go_sem]
 try simp only [go_sem]
 obtain ⟨x8, yx8, h0⟩ := bs h0
 refine AKev_giveF [] [] (L04_firing_o_ok k _ yx8) ?_ rfl ?_
 try simp only [gOK, go_sem]
 try simp only [go_sem]
 refine rS ?_
 try simp only [go_sem]
 obtain ⟨x9, yx9, h0⟩ := bs h0
 refine zc0 (heat_Verdict_ok k _ _ _ _ yx9) ?_ (by first | rfl | simp [AV.refsL, AV.refs, AV.scal, AV.leaf]) ?_
 try simp only [go_sem]
 try simp only [go_sem]
 obtain ⟨x10, yx10, h0⟩ := bs h0
 refine zc0 (L04_kiln_ok k _ yx10) ?_ (by first | rfl | simp [AV.refsL, AV.refs, AV.scal, AV.leaf]) ?_
 try simp only [go_sem]
 try simp only [go_sem]
 obtain ⟨x12, yx12, h0⟩ := bs h0
 refine AKev_giveF [] [] (L04_firing_o_ok k _ yx12) ?_ rfl ?_
 try simp only [gOK, go_sem]
 try simp only [go_sem]
 refine rS ?_
 try simp only [go_sem]
 obtain ⟨l13, yl13, h0⟩ := bs h0
 have eyl13 := push_map Reading.c yl13
 have tyl13 := push_take Reading.c yl13
 have nyl13 := push_len yl13
 have myl13 := push_room yl13
 try simp only [go_sem] at eyl13 tyl13 nyl13 myl13
 try simp only [myl13, eyl13, nyl13, tyl13, go_sem]
 obtain ⟨x14, yx14, h0⟩ := bs h0
 refine zcT [400] (heat_Conflict_ok k _ _ yx14) ?_ ?_
 try simp only [eyl13, nyl13, tyl13, go_sem]
 try simp only [eyl13, nyl13, tyl13, go_sem]
 obtain ⟨x16, yx16, h0⟩ := bs h0
 refine AKev_giveF [] [] (L04_firing_o_ok k _ yx16) ?_ rfl ?_
 try simp only [gOK, eyl13, nyl13, tyl13, go_sem]
 try simp only [eyl13, nyl13, tyl13, go_sem]
 refine rS ?_
 try simp only [eyl13, nyl13, tyl13, go_sem]
 obtain ⟨x17, yx17, h0⟩ := bs h0
 refine zc0 (heat_CheckProof_ok k _ _ _ _ _ _ yx17) ?_ (by first | rfl | simp [AV.refsL, AV.refs, AV.scal, AV.leaf]) ?_
 try simp only [eyl13, nyl13, tyl13, go_sem]
 try simp only [eyl13, nyl13, tyl13, go_sem]
 refine AKev_bif h0 ?_ ?_ <;> intro c18 h0
 try simp only [c18, eyl13, nyl13, tyl13, go_sem]
 refine AKev_bif h0 ?_ ?_ <;> intro c19 h0
 try simp only [c19, eyl13, nyl13, tyl13, c18, go_sem]
 refine AKev_bif h0 ?_ ?_ <;> intro c20 h0
 try simp only [c20, eyl13, nyl13, tyl13, c18, c19, go_sem]
 refine AKev_bif h0 ?_ ?_ <;> intro c21 h0
 try simp only [c21, eyl13, nyl13, tyl13, c18, c19, c20, go_sem]
 refine AKev_bif h0 ?_ ?_ <;> intro c22 h0
 try simp only [c22, eyl13, nyl13, tyl13, c18, c19, c20, c21, go_sem]
 obtain ⟨x23, yx23, h0⟩ := bs h0
 refine zc0 (R01_Same_ok k _ _ _ yx23) ?_ (by first | rfl | simp [AV.refsL, AV.refs, AV.scal, AV.leaf]) ?_
 try simp only [eyl13, nyl13, tyl13, c18, c19, c20, c21, c22, go_sem]
 try simp only [eyl13, nyl13, tyl13, c18, c19, c20, c21, c22, go_sem]
 refine AKev_bif h0 ?_ ?_ <;> intro c24 h0
 try simp only [c24, eyl13, nyl13, tyl13, c18, c19, c20, c21, c22, go_sem]
 refine AKev_bif h0 ?_ ?_ <;> intro c25 h0
 try simp only [c25, eyl13, nyl13, tyl13, c18, c19, c20, c21, c22, c24, go_sem]
 refine AKev_bif h0 ?_ ?_ <;> intro c26 h0
 try simp only [c26, eyl13, nyl13, tyl13, c18, c19, c20, c21, c22, c24, c25, go_sem]
 obtain ⟨x27, yx27, h0⟩ := bs h0
 refine zc0 (R01_Same_ok k _ _ _ yx27) ?_ (by first | rfl | simp [AV.refsL, AV.refs, AV.scal, AV.leaf]) ?_
 try simp only [eyl13, nyl13, tyl13, c18, c19, c20, c21, c22, c24, c25, c26, go_sem]
 try simp only [eyl13, nyl13, tyl13, c18, c19, c20, c21, c22, c24, c25, c26, go_sem]
 obtain rfl := Option.some.inj h0
 refine AKev_ret rfl ?_
 try simp only [F14.rs, eyl13, nyl13, tyl13, c18, c19, c20, c21, c22, c24, c25, c26, go_sem]
 try simp only [c26, eyl13, nyl13, tyl13, c18, c19, c20, c21, c22, c24, c25, go_sem]
 obtain rfl := Option.some.inj h0
 refine AKev_ret rfl ?_
 try simp only [F14.rs, eyl13, nyl13, tyl13, c18, c19, c20, c21, c22, c24, c25, c26, go_sem]
 try simp only [c25, eyl13, nyl13, tyl13, c18, c19, c20, c21, c22, c24, go_sem]
 obtain rfl := Option.some.inj h0
 refine AKev_ret rfl ?_
 try simp only [F14.rs, eyl13, nyl13, tyl13, c18, c19, c20, c21, c22, c24, c25, go_sem]
 try simp only [c24, eyl13, nyl13, tyl13, c18, c19, c20, c21, c22, go_sem]
 obtain rfl := Option.some.inj h0
 refine AKev_ret rfl ?_
 try simp only [F14.rs, eyl13, nyl13, tyl13, c18, c19, c20, c21, c22, c24, go_sem]
 try simp only [c22, eyl13, nyl13, tyl13, c18, c19, c20, c21, go_sem]
 obtain rfl := Option.some.inj h0
 refine AKev_ret rfl ?_
 try simp only [F14.rs, eyl13, nyl13, tyl13, c18, c19, c20, c21, c22, go_sem]
 try simp only [c21, eyl13, nyl13, tyl13, c18, c19, c20, go_sem]
 obtain rfl := Option.some.inj h0
 refine AKev_ret rfl ?_
 try simp only [F14.rs, eyl13, nyl13, tyl13, c18, c19, c20, c21, go_sem]
 try simp only [c20, eyl13, nyl13, tyl13, c18, c19, go_sem]
 obtain rfl := Option.some.inj h0
 refine AKev_ret rfl ?_
 try simp only [F14.rs, eyl13, nyl13, tyl13, c18, c19, c20, go_sem]
 try simp only [c19, eyl13, nyl13, tyl13, c18, go_sem]
 obtain rfl := Option.some.inj h0
 refine AKev_ret rfl ?_
 try simp only [F14.rs, eyl13, nyl13, tyl13, c18, c19, go_sem]
 try simp only [c18, eyl13, nyl13, tyl13, go_sem]
 obtain rfl := Option.some.inj h0
 refine AKev_ret rfl ?_
 try simp only [F14.rs, eyl13, nyl13, tyl13, c18, go_sem]
def F3.s0 : SC :=
 (.seq
 (.seq
 (.reg [mv 23 7 3 [],
 fa 24 32 5 0 [],
 fa 25 29 24 0 [24],
 ld 26 27 25 [25],
 ln 27 26 27 3 [26],
 b2 28 .lss 3 23 27 3 4 [23, 27]])
 (.cond (.tmp 28)
 .skip
 (.exit 0)))
 (.seq
 (.block 1
 (.seq
 (.reg [fa 31 32 5 0 [],
 fa 32 29 31 0 [31],
 ld 33 27 32 [32],
 mv 34 7 3 [],
 ia 35 27 33 34 [33, 34],
 ld 36 40 35 [35],
 oq 37 (.indexAddr 40 (.tmp 36) (.const (.int .i64 0))) 0 [36],
 ld 38 39 37 [37],
 oq 8 (.alloc 39) 0 [],
 ⟨none, .store 39 (.tmp 8) (.tmp 38), 0, none, [38]⟩])
 (.seq
 (.reg [fa 39 39 8 0 [],
 ld 40 3 39 [39],
 bn 41 .add 3 40 300 3 3 [40],
 sg 9 41 3 [41]])
 (.seq
 (.reg [mv 42 9 3 [],
 fa 43 39 8 1 [8],
 ld 44 3 43 [43],
 bn 45 .add 3 44 400 3 3 [44],
 oq 46 (.call ⟨.builtin .max, #[.tmp 42, .tmp 45], #[3, 3]⟩) 3 [42, 45],
 sg 10 46 3 [46]])
 (.seq
 (.reg [mv 47 1 23 [],
 mv 48 7 3 [],
 cf2 49 12 47 48 23 3 3 [47, 48],
 oq 50 (.call ⟨.value (.func 11), #[.tmp 49, .const (.int .i64 300)], #[3, 3]⟩) 3 [49],
 sg 11 50 3 [50]])
 (.seq
 (.reg [mv 51 1 23 [],
 mv 52 7 3 [],
 bn 53 .add 3 52 1 3 3 [52],
 cf2 54 12 51 53 23 3 3 [51, 53],
 oq 55 (.call ⟨.value (.func 11), #[.tmp 54, .const (.int .i64 100)], #[3, 3]⟩) 3 [54],
 sg 12 55 3 [55]])
 (.dreg [fa 56 32 5 0 [],
 fa 57 29 56 0 [],
 ld 58 27 57 [],
 mv 59 7 3 [],
 oq 60 (.buildSlice 40 0 #[]) 40 [],
 fa 61 32 5 0 [],
 fa 62 29 61 0 [],
 ld 63 27 62 [],
 mv 64 7 3 [],
 ia 65 27 63 64 [],
 ld 66 40 65 [],
 oq 67 (.call ⟨.builtin .append, #[.tmp 60, .tmp 66], #[40, 40]⟩) 40 [],
 mv 68 9 3 [],
 mv 69 10 3 [],
 oq 70 (.build 39 #[(0, .tmp 68), (1, .tmp 69)]) 39 [],
 mv 71 9 3 [],
 mv 72 11 3 [],
 b2 73 .sub 3 71 72 3 3 [],
 mv 74 9 3 [],
 mv 75 11 3 [],
 b2 76 .sub 3 74 75 3 3 [],
 mv 77 10 3 [],
 mv 78 11 3 [],
 b2 79 .sub 3 77 78 3 3 [],
 mv 80 12 3 [],
 b2 81 .sub 3 79 80 3 3 [],
 oq 82 (.call ⟨.builtin .max, #[.tmp 76, .tmp 81], #[3, 3]⟩) 3 [],
 oq 83 (.build 39 #[(0, .tmp 73), (1, .tmp 82)]) 39 [],
 oq 84 (.buildSlice 40 2 #[(0, .tmp 70), (1, .tmp 83)]) 40 [],
 oq 85 (.call ⟨.builtin .append, #[.tmp 67, .tmp 84], #[40, 40]⟩) 40 [],
 ia 86 27 58 59 [],
 ⟨none, .store 40 (.tmp 86) (.tmp 85), 0, none, []⟩] [[], [0], [0, 1], [], [], [], [5], [5, 6], [], [5, 6, 7, 8], [5, 6, 7, 8, 9], [4, 5, 6, 7, 8, 9, 10], [], [], [12, 13], [], [], [15, 16], [], [], [18, 19], [], [], [21, 22], [], [21, 22, 23, 24], [18, 19, 20, 21, 22, 23, 24, 25], [15, 16, 17, 18, 19, 20, 21, 22, 23, 24, 25, 26], [12, 13, 14, 15, 16, 17, 18, 19, 20, 21, 22, 23, 24, 25, 26, 27], [4, 5, 6, 7, 8, 9, 10, 11, 12, 13, 14, 15, 16, 17, 18, 19, 20, 21, 22, 23, 24, 25, 26, 27, 28], [0, 1, 2, 3, 4, 5, 6, 7, 8, 9, 10, 11, 12, 13, 14, 15, 16, 17, 18, 19, 20, 21, 22, 23, 24, 25, 26, 27, 28, 29], [0, 1, 2, 3, 4, 5, 6, 7, 8, 9, 10, 11, 12, 13, 14, 15, 16, 17, 18, 19, 20, 21, 22, 23, 24, 25, 26, 27, 28, 29, 30]] [9, 10, 11, 12, 56, 57, 58, 59, 60, 61, 62, 63, 64, 65, 66, 67, 68, 69, 70, 71, 72, 73, 74, 75, 76, 77, 78, 79, 80, 81, 82, 83, 84, 85, 86])))))))
 (.reg [mv 29 7 3 [7],
 bn 30 .add 3 29 1 3 3 [29],
 sg 7 30 3 [30]])))
def F3.c : SC :=
 (.seq
 (.reg [oq 2 (.box 26 (.tmp 0)) 0 [0],
 sb 4 false 4 [4]])
 (.seq
 (.reg [ld 19 26 2 [2],
 cf1 20 10 19 26 36 [19],
 mv 18 20 36 [20],
 xt 21 18 0 32 [],
 xt 22 18 1 35 [18],
 oq 5 (.alloc 32) 0 [],
 oq 6 (.alloc 35) 0 [],
 ⟨none, .store 32 (.tmp 5) (.tmp 21), 0, none, [21]⟩,
 ⟨none, .store 35 (.tmp 6) (.tmp 22), 0, none, [6, 22]⟩])
 (.seq
 (.seq
 (.reg [sn 7 0 3 []])
 (.block 0
 (.loop F3.s0)))
 (.seq
 (.reg [fa 87 32 5 0 [],
 fa 88 29 87 0 [87],
 ld 89 27 88 [88],
 oq 90 (.indexAddr 27 (.tmp 89) (.const (.int .i64 0))) 0 [89],
 ld 91 40 90 [90],
 ln 92 91 40 3 [91],
 sg 13 92 3 [92]])
 (.seq
 (.reg [ld 94 32 5 [],
 mv 95 13 3 [],
 bn 96 .sub 3 95 2 3 3 [95],
 cf2 97 13 94 96 32 3 44 [94, 96],
 mv 93 97 44 [97],
 xt 98 93 0 39 [],
 xt 99 93 1 43 [93],
 oq 14 (.alloc 39) 0 [],
 ⟨none, .store 39 (.tmp 14) (.tmp 98), 0, none, [98]⟩,
 sg 15 99 43 [99]])
 (.seq
 (.reg [ld 101 32 5 [5],
 mv 102 13 3 [13],
 bn 103 .sub 3 102 1 3 3 [102],
 cf2 104 13 101 103 32 3 44 [101, 103],
 mv 100 104 44 [104],
 xt 105 100 0 39 [],
 xt 106 100 1 43 [100],
 oq 16 (.alloc 39) 0 [],
 ⟨none, .store 39 (.tmp 16) (.tmp 105), 0, none, [105]⟩,
 sg 17 106 43 [106]])
 (.seq
 (.reg [mv 107 15 43 [15],
 bn 108 .eql 43 107 0 43 4 [107],
 mv 109 108 4 [108],
 og 110 (.move (.tmp 17)) 43 109 true [17],
 og 111 (.binOp .eql 43 (.tmp 110) (.const (.int .i64 0)) 43) 4 109 true [110],
 oq 112 (.pick (.tmp 109) (.tmp 111) (.const (.bool false))) 4 [109, 111],
 mv 113 112 4 [112],
 og 114 (.fieldAddr 39 (.tmp 16) 0) 0 113 true [],
 og 115 (.load 3 (.tmp 114)) 3 113 true [114],
 og 116 (.fieldAddr 39 (.tmp 14) 0) 0 113 true [],
 og 117 (.load 3 (.tmp 116)) 3 113 true [116],
 og 118 (.binOp .geq 3 (.tmp 115) (.tmp 117) 3) 4 113 true [115, 117],
 oq 119 (.pick (.tmp 113) (.tmp 118) (.const (.bool false))) 4 [113, 118],
 mv 120 119 4 [119],
 og 121 (.fieldAddr 39 (.tmp 16) 1) 0 120 true [16],
 og 122 (.load 3 (.tmp 121)) 3 120 true [121],
 og 123 (.fieldAddr 39 (.tmp 14) 1) 0 120 true [14],
 og 124 (.load 3 (.tmp 123)) 3 120 true [123],
 og 125 (.binOp .geq 3 (.tmp 122) (.tmp 124) 3) 4 120 true [122, 124],
 oq 126 (.pick (.tmp 120) (.tmp 125) (.const (.bool false))) 4 [120, 125],
 mv 127 126 4 [126],
 og 128 (.call ⟨.value (.func 14), #[], #[]⟩) 4 127 true [],
 oq 129 (.pick (.tmp 127) (.tmp 128) (.const (.bool false))) 4 [127, 128],
 sg 4 129 4 [129]])
 .ret)))))))
theorem F3.rs : Try.f3.results.toList = [.tmp 4] := rfl
def L04_HeatHotter.b0 (k : Nat) (n1 : (List Int)) : (Int × (List (List Range))) → Option (Stp (Int × (List (List Range))) ((List (List Range))) (Bool)) := fun (s : Int × (List (List Range))) => match s with
 | (i3, l4) =>
   bif decide (i3 < ((l4.length : Nat) : Int)) then
    (at? l4 i3).bind fun x7 =>
    (at? x7 0).bind fun x8 =>
    (R01_At k n1 i3).bind fun x9 =>
    (R01_Mod k x9 300).bind fun x10 =>
    (R01_At k n1 (w64 (i3 + 1))).bind fun x11 =>
    (R01_Mod k x11 100).bind fun x12 =>
    (room? x7.length 16).bind fun _ =>
    (app? 16 x7 [(⟨w64 (x8.Lo + 300), max (w64 (x8.Lo + 300)) (w64 (x8.Hi + 400))⟩ : Range), (⟨w64 ((w64 (x8.Lo + 300)) - x10), max (w64 ((w64 (x8.Lo + 300)) - x10)) (w64 ((w64 ((max (w64 (x8.Lo + 300)) (w64 (x8.Hi + 400))) - x10)) - x12))⟩ : Range)]).bind fun l14 =>
    (set? l4 i3 l14).bind fun l15 =>
    some (.next (w64 (i3 + 1), l15))
   else
    some (.brk l4)
noncomputable def L04_HeatHotter.h0 (n1 : (List Int)) (x2 : Firing × Field) : (Int × (List (List Range))) → St := fun (s : Int × (List (List Range))) => match s with
 | (i3, l4) => ⟨[(1, .sl 1 (List.map eI n1)), (5, .ptr 0 0 0), (7, .int .i64 i3)], [(0, .box [.loc 0 1 1 0 l4.length l4.length, .sl 6 (List.map Reading.c x2.1.Readings)]), (1, .arr 40 1 (List.map (eL 2 Range.c) l4))], [], 2, Try.f3.ntmps⟩
noncomputable def L04_HeatHotter.x0 (x2 : Firing × Field) : (List (List Range)) → St := fun (l5 : (List (List Range))) => ⟨[(5, .ptr 0 0 0)], [(0, .box [.loc 0 1 1 0 l5.length l5.length, .sl 6 (List.map Reading.c x2.1.Readings)]), (1, .arr 40 1 (List.map (eL 2 Range.c) l5))], [], 2, Try.f3.ntmps⟩
def L04_HeatHotter (k : Nat) (r0 : R04_Raw) (n1 : (List Int)) : Option (Bool) :=
 (R04_Made_o k r0).bind fun x2 =>
 (whl (L04_HeatHotter.b0 k n1) k (0, x2.1.Kiln.Falls)).bind fun r16 => match r16 with
 | .next _ => none
 | .ret v_ => some v_
 | .brk l5 =>
  (at? l5 0).bind fun x17 =>
  (heat_Bound k (⟨(⟨l5⟩ : Kiln), x2.1.Readings⟩ : Firing) (w64 ((x17.length : Int) - 2))).bind fun x18 =>
  (heat_Bound k (⟨(⟨l5⟩ : Kiln), x2.1.Readings⟩ : Firing) (w64 ((x17.length : Int) - 1))).bind fun x19 =>
  bif decide (x18.2 = (0 : Int)) then
   bif decide (x19.2 = (0 : Int)) then
    bif decide (x18.1.Lo ≤ x19.1.Lo) then
     bif decide (x18.1.Hi ≤ x19.1.Hi) then
      (L04_sane k).bind fun x24 =>
      some x24
     else
      some false
    else
     some false
   else
    some false
  else
   some false
theorem L04_HeatHotter_ok (k : Nat) (r0 : R04_Raw) (n1 : (List Int)) (r : Bool) (h0 : L04_HeatHotter k r0 n1 = some r) : PCall Try.prog 3 [.agg (R04_Raw.c r0), .sl 1 (List.map eI n1)] (fun y => y = .bool r) := by
 refine PB (fn := Try.f3) (sc := F3.c) ?_
 refine rS ?_
 simp only [L04_HeatHotter] at h0
 try simp only [F3.c, go_sem]
 obtain ⟨x2, yx2, h0⟩ := bs h0
 refine AKev_giveF [] [] (R04_Made_o_ok k _ _ yx2) ?_ rfl ?_
 try simp only [gOK, go_sem]
 try simp only [go_sem]
 refine AK.weak (Weak.fz 49 rfl (fun _ h => by cases h)) ?_
 try simp only [go_sem]
 refine AK.weak (Weak.fz 50 rfl (fun _ h => by cases h)) ?_
 try simp only [go_sem]
 refine AK.weak (Weak.fz 51 rfl (fun _ h => by cases h)) ?_
 try simp only [go_sem]
 refine rS ?_
 try simp only [go_sem]
 obtain ⟨r16, yr16, h0⟩ := bs h0
 refine AKev_loopS yr16 (L04_HeatHotter.h0 n1 x2) (L04_HeatHotter.x0 x2) ?_ ?_ ?_
 refine Weak.go [1, 5, 7] [112, 48] rfl ?_
 try simp only [L04_HeatHotter.h0, go_sem]
 rintro ⟨i3, l4⟩ x_1 Bk1 Br1 h1 hnext1 hbrk1 hret1
 refine rS ?_
 simp only [L04_HeatHotter.b0] at h1
 try simp only [F3.s0, L04_HeatHotter.h0, go_sem]
 refine AKev_bif h1 ?_ ?_ <;> intro c6 h1
 try simp only [c6, go_sem]
 obtain ⟨x7, yx7, h1⟩ := bs h1
 try simp only [aa yx7, c6, go_sem]
 obtain ⟨x8, yx8, h1⟩ := bs h1
 try simp only [aa yx8, c6, aa yx7, go_sem]
 obtain ⟨x9, yx9, h1⟩ := bs h1
 refine zc0 (R01_At_ok k _ _ _ yx9) ?_ (by first | rfl | simp [AV.refsL, AV.refs, AV.scal, AV.leaf]) ?_
 try simp only [c6, aa yx7, aa yx8, go_sem]
 try simp only [c6, aa yx7, aa yx8, go_sem]
 obtain ⟨x10, yx10, h1⟩ := bs h1
 refine zc0 (R01_Mod_ok k _ _ _ yx10) ?_ (by first | rfl | simp [AV.refsL, AV.refs, AV.scal, AV.leaf]) ?_
 try simp only [c6, aa yx7, aa yx8, go_sem]
 try simp only [c6, aa yx7, aa yx8, go_sem]
 obtain ⟨x11, yx11, h1⟩ := bs h1
 refine zc0 (R01_At_ok k _ _ _ yx11) ?_ (by first | rfl | simp [AV.refsL, AV.refs, AV.scal, AV.leaf]) ?_
 try simp only [c6, aa yx7, aa yx8, go_sem]
 try simp only [c6, aa yx7, aa yx8, go_sem]
 obtain ⟨x12, yx12, h1⟩ := bs h1
 refine zc0 (R01_Mod_ok k _ _ _ yx12) ?_ (by first | rfl | simp [AV.refsL, AV.refs, AV.scal, AV.leaf]) ?_
 try simp only [c6, aa yx7, aa yx8, go_sem]
 try simp only [c6, aa yx7, aa yx8, go_sem]
 refine AKev_region T_ok follows_ok 1000 ?_
 try simp only [aa yx7, c6, aa yx8, go_sem]
 obtain ⟨u13, yu13, h1⟩ := bs h1
 try simp only [room_some yu13, c6, aa yx7, aa yx8, go_sem]
 obtain ⟨l14, yl14, h1⟩ := bs h1
 have eyl14 := app_map Range.c yl14
 have tyl14 := app_take Range.c yl14
 have nyl14 := app_len yl14
 have myl14 := app_room yl14
 try simp only [c6, aa yx7, aa yx8, go_sem] at eyl14 tyl14 nyl14 myl14
 try simp only [myl14, eyl14, aa yx7, c6, aa yx8, nyl14, tyl14, go_sem]
 obtain ⟨l15, yl15, h1⟩ := bs h1
 have eyl15 := set_map (eL 2 Range.c) yl15
 simp only [go_sem] at eyl15
 try simp only [eyl15, c6, aa yx7, aa yx8, eyl14, nyl14, tyl14, set_len yl15, set_take (eL 2 Range.c) yl15, go_sem]
 refine DG_done ⟨rfl, run_sound T_ok 1000 _ _ ?_⟩
 try simp only [c6, aa yx7, aa yx8, eyl14, nyl14, tyl14, eyl15, set_len yl15, set_take (eL 2 Range.c) yl15, go_sem]
 refine AKev_backB (hnext1 _ _ (Option.some.inj h1).symm ?_)
 refine Weak.go [1, 5, 7] [0, 1] rfl ?_
 try simp only [L04_HeatHotter.h0, c6, aa yx7, aa yx8, eyl14, nyl14, tyl14, eyl15, set_len yl15, set_take (eL 2 Range.c) yl15, go_sem]
 try simp only [c6, go_sem]
 refine AKev_backB (hbrk1 _ _ (Option.some.inj h1).symm ?_)
 refine Weak.go [5] [0, 1] rfl ?_
 try simp only [L04_HeatHotter.x0, c6, go_sem]
 rintro l5 hr_
 subst hr_
 simp only at h0
 try simp only [L04_HeatHotter.x0, go_sem]
 refine AK.weak (Weak.fz 1 rfl (fun _ h => by cases h)) ?_
 try simp only [go_sem]
 refine rS ?_
 try simp only [L04_HeatHotter.x0, go_sem]
 obtain ⟨x17, yx17, h0⟩ := bs h0
 try simp only [aa yx17, go_sem]
 obtain ⟨x18, yx18, h0⟩ := bs h0
 refine zc0 (heat_Bound_ok k _ _ _ yx18) ?_ (by first | rfl | simp [AV.refsL, AV.refs, AV.scal, AV.leaf]) ?_
 try simp only [aa yx17, go_sem]
 try simp only [aa yx17, go_sem]
 obtain ⟨x19, yx19, h0⟩ := bs h0
 refine zc0 (heat_Bound_ok k _ _ _ yx19) ?_ (by first | rfl | simp [AV.refsL, AV.refs, AV.scal, AV.leaf]) ?_
 try simp only [aa yx17, go_sem]
 try simp only [aa yx17, go_sem]
 refine AKev_bif h0 ?_ ?_ <;> intro c20 h0
 try simp only [c20, aa yx17, go_sem]
 refine AKev_bif h0 ?_ ?_ <;> intro c21 h0
 try simp only [c21, aa yx17, c20, go_sem]
 refine AKev_bif h0 ?_ ?_ <;> intro c22 h0
 try simp only [c22, aa yx17, c20, c21, go_sem]
 refine AKev_bif h0 ?_ ?_ <;> intro c23 h0
 try simp only [c23, aa yx17, c20, c21, c22, go_sem]
 obtain ⟨x24, yx24, h0⟩ := bs h0
 refine zc0 (L04_sane_ok k _ yx24) ?_ (by first | rfl | simp [AV.refsL, AV.refs, AV.scal, AV.leaf]) ?_
 try simp only [aa yx17, c20, c21, c22, c23, go_sem]
 try simp only [aa yx17, c20, c21, c22, c23, go_sem]
 obtain rfl := Option.some.inj h0
 refine AKev_ret rfl ?_
 try simp only [F3.rs, aa yx17, c20, c21, c22, c23, go_sem]
 try simp only [c23, aa yx17, c20, c21, c22, go_sem]
 obtain rfl := Option.some.inj h0
 refine AKev_ret rfl ?_
 try simp only [F3.rs, aa yx17, c20, c21, c22, c23, go_sem]
 try simp only [c22, aa yx17, c20, c21, go_sem]
 obtain rfl := Option.some.inj h0
 refine AKev_ret rfl ?_
 try simp only [F3.rs, aa yx17, c20, c21, c22, go_sem]
 try simp only [c21, aa yx17, c20, go_sem]
 obtain rfl := Option.some.inj h0
 refine AKev_ret rfl ?_
 try simp only [F3.rs, aa yx17, c20, c21, go_sem]
 try simp only [c20, aa yx17, go_sem]
 obtain rfl := Option.some.inj h0
 refine AKev_ret rfl ?_
 try simp only [F3.rs, aa yx17, c20, go_sem]
end Go.Abs
namespace Go.Abs
open Go Go.Proofs Go.RowKit
set_option maxRecDepth 20000
def qB : Nat := reachBytes
theorem qB_le : qB ≤ 140737488351232 := by decide
theorem reads_3 : Reads qB Try.prog 3 eI i64ok := Reads.int Try.underlying3
theorem reads_52 : Reads qB Try.prog 52 (A2.c eI) (fun x : (A2 Int) => i64ok x.x0 ∧ i64ok x.x1) := (Reads.array Try.underlying52 (by kernel_rfl) (ReadsL.cons (off := 0) (sz := 1) (off' := 1) (tot := 2) rfl (by kernel_rfl) rfl reads_3 (ReadsL.cons (off := 1) (sz := 1) (off' := 2) (tot := 2) rfl (by kernel_rfl) rfl reads_3 (ReadsL.nil (off := 2) (tot := 2) (by decide))))).as (fun p => ⟨p.1, p.2.1⟩) (fun _ => rfl) (fun _ h => ⟨h.1, h.2.1⟩)
theorem reads_22 : Reads qB Try.prog 22 (eL 2 (A2.c eI)) (fun l => l.length ≤ Go.maxLen ∧ l.length * 16 ≤ qB ∧ ∀ a ∈ l, (fun x : (A2 Int) => i64ok x.x0 ∧ i64ok x.x1) a) := Reads.slice Try.underlying22 (by kernel_rfl) (by kernel_rfl) (by decide) reads_52
theorem reads_23 : Reads qB Try.prog 23 (eL 1 eI) (fun l => l.length ≤ Go.maxLen ∧ l.length * 8 ≤ qB ∧ ∀ a ∈ l, i64ok a) := Reads.slice Try.underlying23 (by kernel_rfl) (by kernel_rfl) (by decide) reads_3
theorem reads_90 : Reads qB Try.prog 90 (A4.c eI) (fun x : (A4 Int) => i64ok x.x0 ∧ i64ok x.x1 ∧ i64ok x.x2 ∧ i64ok x.x3) := (Reads.array Try.underlying90 (by kernel_rfl) (ReadsL.cons (off := 0) (sz := 1) (off' := 1) (tot := 4) rfl (by kernel_rfl) rfl reads_3 (ReadsL.cons (off := 1) (sz := 1) (off' := 2) (tot := 4) rfl (by kernel_rfl) rfl reads_3 (ReadsL.cons (off := 2) (sz := 1) (off' := 3) (tot := 4) rfl (by kernel_rfl) rfl reads_3 (ReadsL.cons (off := 3) (sz := 1) (off' := 4) (tot := 4) rfl (by kernel_rfl) rfl reads_3 (ReadsL.nil (off := 4) (tot := 4) (by decide))))))).as (fun p => ⟨p.1, p.2.1, p.2.2.1, p.2.2.2.1⟩) (fun _ => rfl) (fun _ h => ⟨h.1, h.2.1, h.2.2.1, h.2.2.2.1⟩)
theorem reads_24 : Reads qB Try.prog 24 (eL 4 (A4.c eI)) (fun l => l.length ≤ Go.maxLen ∧ l.length * 32 ≤ qB ∧ ∀ a ∈ l, (fun x : (A4 Int) => i64ok x.x0 ∧ i64ok x.x1 ∧ i64ok x.x2 ∧ i64ok x.x3) a) := Reads.slice Try.underlying24 (by kernel_rfl) (by kernel_rfl) (by decide) reads_90
def R04_Raw.q (x : R04_Raw) : Prop := i64ok x.Mouths ∧ i64ok x.Places ∧ (fun l => l.length ≤ Go.maxLen ∧ l.length * 16 ≤ qB ∧ ∀ a ∈ l, (fun x : (A2 Int) => i64ok x.x0 ∧ i64ok x.x1) a) x.Falls ∧ (fun l => l.length ≤ Go.maxLen ∧ l.length * 8 ≤ qB ∧ ∀ a ∈ l, i64ok a) x.Heats ∧ (fun l => l.length ≤ Go.maxLen ∧ l.length * 32 ≤ qB ∧ ∀ a ∈ l, (fun x : (A4 Int) => i64ok x.x0 ∧ i64ok x.x1 ∧ i64ok x.x2 ∧ i64ok x.x3) a) x.Readings
theorem reads_26 : Reads qB Try.prog 26 R04_Raw.c R04_Raw.q := (Reads.struct Try.underlying26 (by kernel_rfl) (ReadsL.cons (off := 0) (sz := 1) (off' := 1) (tot := 5) rfl (by kernel_rfl) rfl reads_3 (ReadsL.cons (off := 1) (sz := 1) (off' := 2) (tot := 5) rfl (by kernel_rfl) rfl reads_3 (ReadsL.cons (off := 2) (sz := 1) (off' := 3) (tot := 5) rfl (by kernel_rfl) rfl reads_22 (ReadsL.cons (off := 3) (sz := 1) (off' := 4) (tot := 5) rfl (by kernel_rfl) rfl reads_23 (ReadsL.cons (off := 4) (sz := 1) (off' := 5) (tot := 5) rfl (by kernel_rfl) rfl reads_24 (ReadsL.nil (off := 5) (tot := 5) (by decide)))))))).as (fun p => ⟨p.1, p.2.1, p.2.2.1, p.2.2.2.1, p.2.2.2.2.1⟩) (fun _ => rfl) (fun _ h => ⟨h.1, h.2.1, h.2.2.1, h.2.2.2.1, h.2.2.2.2.1⟩)
def Range.q (x : Range) : Prop := i64ok x.Lo ∧ i64ok x.Hi
def Kiln.q (x : Kiln) : Prop := (fun l => l.length ≤ Go.maxLen ∧ l.length * 24 ≤ qB ∧ ∀ a ∈ l, (fun l => l.length ≤ Go.maxLen ∧ l.length * 16 ≤ qB ∧ ∀ a ∈ l, Range.q a) a) x.Falls
def Reading.q (x : Reading) : Prop := i64ok x.Source ∧ i64ok x.Place ∧ i64ok x.Kind ∧ i64ok x.Mark ∧ Range.q x.Heat
def Firing.q (x : Firing) : Prop := Kiln.q x.Kiln ∧ (fun l => l.length ≤ Go.maxLen ∧ l.length * 48 ≤ qB ∧ ∀ a ∈ l, Reading.q a) x.Readings
def L04_Told.q (x : L04_Told) : Prop := i64ok x.Place ∧ i64ok x.N ∧ (fun _ => True) x.High
def HeatProof.q (x : HeatProof) : Prop := i64ok x.Reading ∧ (fun l => l.length ≤ Go.maxLen ∧ l.length * 8 ≤ qB ∧ ∀ a ∈ l, i64ok a) x.By
end Go.Abs
namespace Go.Abs
open Go
set_option linter.unusedVariables false
theorem at_getD {α : Type} (d : α) {l : List α} {i : Int} (h0 : 0 ≤ i) (h1 : i < l.length) : at? l i = some (l.getD i.toNat d) := by
 unfold at?
 rw [if_pos ⟨h0, by omega⟩]
 rw [List.getElem?_eq_getElem (by omega), List.getD_eq_getElem?_getD, List.getElem?_eq_getElem (by omega)]
 rfl
theorem at_nat {α : Type} (d : α) {l : List α} {i : Nat} (h1 : i < l.length) : at? l (i : Int) = some (l.getD i d) := by
 have := at_getD d (l := l) (i := (i : Int)) (by omega) (by omega)
 simpa using this
theorem getD_mem {α : Type} (d : α) {l : List α} {i : Nat} (h : i < l.length) : l.getD i d ∈ l := by
 rw [List.getD_eq_getElem?_getD, List.getElem?_eq_getElem h]
 exact List.getElem_mem h
theorem getD_none {α : Type} {d : α} {l : List α} {i : Nat} (h : l.length ≤ i) : l.getD i d = d := by
 rw [List.getD_eq_getElem?_getD, List.getElem?_eq_none h]; rfl
theorem getD_of {α : Type} (d : α) {l : List α} {i : Nat} {x : α} (h : l[i]? = some x) : l.getD i d = x := by
 rw [List.getD_eq_getElem?_getD, h]; rfl
theorem range_drop_cons {i d : Nat} : (List.range' i (d + 1)) = i :: List.range' (i + 1) d := by
 rw [List.range'_succ]
theorem whl_eachN {R : Type} {body : Int → Option (Stp Int Unit R)} {n : Nat} {f : Nat → Option R} (hn : n ≤ 9223372036854775807) {k : Nat} (hk : n < k)
  (h1 : ∀ i, i < n → body (i : Int) = some (match f i with | some r => .ret r | none => .next (w64 ((i : Int) + 1)))) (h2 : body (n : Int) = some (.brk ())) :
  whl body k 0 = some (match (List.range n).findSome? f with | some r => .ret r | none => .brk ()) := by
 have h := whl_for (body := body) (n := n) (g := f) hn h1 h2 k n 0 (by omega) hk
 rw [Int.natCast_zero] at h
 rw [h]
 have key : ∀ d i, scan f i d = (List.range' i d).findSome? f := by
  intro d
  induction d with
  | zero => intro i; rfl
  | succ d ih =>
   intro i
   rw [range_drop_cons, List.findSome?_cons, scan, ih]
   cases f i <;> rfl
 rw [key, List.range_eq_range']
 cases (List.range' 0 n).findSome? f <;> rfl
theorem whl_allN {R : Type} {body : Int → Option (Stp Int Unit R)} {n : Nat} {p : Nat → Bool} {c : R} (hn : n ≤ 9223372036854775807) {k : Nat} (hk : n < k)
  (h1 : ∀ i, i < n → body (i : Int) = some (bif p i then .next (w64 ((i : Int) + 1)) else .ret c)) (h2 : body (n : Int) = some (.brk ())) :
  whl body k 0 = some (bif (List.range n).all p then .brk () else .ret c) := by
 have h := whl_eachN (body := body) (n := n) (f := fun i => bif p i then none else some c) hn hk (fun i hi => by rw [h1 i hi]; cases p i <;> rfl) h2
 rw [h]
 have : ∀ l : List Nat, l.findSome? (fun i => bif p i then none else some c) = bif l.all p then none else some c := by
  intro l
  induction l with
  | nil => rfl
  | cons x l ih =>
   rw [List.findSome?_cons, List.all_cons]
   cases hp : p x with
   | true => simpa using ih
   | false => simp
 rw [this]
 cases (List.range n).all p <;> rfl
theorem whl_allL {α R : Type} {l : List α} {body : Int → Option (Stp Int Unit R)} {p : α → Bool} {c : R} (hn : l.length ≤ 9223372036854775807) {k : Nat} (hk : l.length < k)
  (h1 : ∀ (i : Nat) x, l[i]? = some x → body (i : Int) = some (bif p x then .next (w64 ((i : Int) + 1)) else .ret c)) (h2 : body (l.length : Int) = some (.brk ())) :
  whl body k 0 = some (bif l.all p then .brk () else .ret c) := by
 have h := whl_each (body := body) (l := l) (f := fun i => bif p i then none else some c) hn hk (fun i x hi => by rw [h1 i x hi]; cases p x <;> rfl) h2
 rw [h]
 have : l.findSome? (fun i => bif p i then none else some c) = bif l.all p then none else some c := by
  clear h h1 h2 hn hk
  induction l with
  | nil => rfl
  | cons x l ih =>
   rw [List.findSome?_cons, List.all_cons]
   cases hp : p x with
   | true => simpa using ih
   | false => simp
 rw [this]
 cases l.all p <;> rfl
theorem whl_foldN {S R τ : Type} {n : Nat} {body : τ → Option (Stp τ S R)} (mk : Int → S → τ) (f : S → Nat → S) (Inv : Nat → S → Prop) (hn : n ≤ 9223372036854775807) {k : Nat} (hk : n < k) {s0 : S} (h0 : Inv 0 s0)
  (h1 : ∀ i s, i < n → Inv i s → body (mk (i : Int) s) = some (.next (mk (w64 ((i : Int) + 1)) (f s i))) ∧ Inv (i + 1) (f s i)) (h2 : ∀ s, Inv n s → body (mk (n : Int) s) = some (.brk s)) :
  whl body k (mk 0 s0) = some (.brk ((List.range n).foldl f s0)) ∧ Inv n ((List.range n).foldl f s0) := by
 have h := whl_fold (l := List.range n) (body := body) mk f Inv (by simpa using hn) (k := k) (by simpa using hk) h0 (fun i x s hx hI => by
  have hi : i < n := by have := (List.getElem?_eq_some_iff.1 hx).1; simpa using this
  have e : x = i := by have := hx; rw [List.getElem?_range hi] at this; exact (Option.some.inj this).symm
  subst e
  exact h1 x s hi hI) (fun s hI => by have := h2 s (by simpa using hI); simpa using this)
 exact ⟨h.1, by simpa using h.2⟩
theorem foldl_pushN {α : Type} (g : Nat → α) : ∀ (l : List Nat) (s : List α), l.foldl (fun s i => s ++ [g i]) s = s ++ l.map g
 | [], s => by simp
 | x :: l, s => by simp [foldl_pushN g l]
end Go.Abs
namespace Go.Abs
set_option linter.unusedVariables false
def mx (f : Nat → Int) : Nat → Int
 | 0 => f 0
 | n + 1 => max (mx f n) (f (n + 1))
theorem mx_le_iff (f : Nat → Int) (t : Int) : ∀ n, mx f n ≤ t ↔ ∀ j, j ≤ n → f j ≤ t
 | 0 => ⟨fun h j hj => by have h0 : j = 0 := Nat.le_zero.1 hj; subst h0; exact h, fun h => h 0 (Nat.le_refl _)⟩
 | n + 1 => by
  rw [mx, Int.max_le, mx_le_iff f t n]
  constructor
  ·rintro ⟨h1, h2⟩ j hj
   rcases Nat.lt_or_ge n j with h | h
   ·obtain rfl : j = n + 1 := by omega
    exact h2
   ·exact h1 j h
  ·exact fun h => ⟨fun j hj => h j (by omega), h _ (Nat.le_refl _)⟩
theorem le_mx_iff (f : Nat → Int) (t : Int) : ∀ n, t ≤ mx f n ↔ ∃ j, j ≤ n ∧ t ≤ f j
 | 0 => ⟨fun h => ⟨0, Nat.le_refl _, h⟩, fun ⟨j, hj, h⟩ => by have h0 : j = 0 := Nat.le_zero.1 hj; subst h0; exact h⟩
 | n + 1 => by
  rw [mx, show t ≤ max (mx f n) (f (n + 1)) ↔ t ≤ mx f n ∨ t ≤ f (n + 1) by omega, le_mx_iff f t n]
  constructor
  ·rintro (⟨j, h1, h2⟩ | h)
   ·exact ⟨j, by omega, h2⟩
   ·exact ⟨n + 1, Nat.le_refl _, h⟩
  ·rintro ⟨j, h1, h2⟩
   rcases Nat.lt_or_ge n j with h | h
   ·obtain rfl : j = n + 1 := by omega
    exact .inr h2
   ·exact .inl ⟨j, h, h2⟩
theorem eq_of_le_iff {a b : Int} (h : ∀ t, t ≤ a ↔ t ≤ b) : a = b := by
 have h1 := (h a).1 (Int.le_refl _)
 have h2 := (h b).2 (Int.le_refl _)
 omega
theorem eq_of_ge_iff {a b : Int} (h : ∀ t, a ≤ t ↔ b ≤ t) : a = b := by
 have h1 := (h a).1 (Int.le_refl _)
 have h2 := (h b).2 (Int.le_refl _)
 omega
structure Fur where
 m : Nat
 lo : Nat → Nat → Int
 hi : Nat → Nat → Int
 L : List (Nat × Int)
 M : List (Nat × Int)
namespace Fur
def Ok (f : Fur) : Prop := ∀ j p, 0 ≤ f.lo j p ∧ f.lo j p ≤ f.hi j p ∧ f.hi j p ≤ 3000
def U (f : Fur) (j : Nat) : Int := f.M.foldl (fun n x => min n (x.2 + f.hi j x.1)) 3000
theorem U_iff (f : Fur) (j : Nat) (t : Int) : t ≤ f.U j ↔ t ≤ 3000 ∧ ∀ x ∈ f.M, t ≤ x.2 + f.hi j x.1 := by
 have key : ∀ (M : List (Nat × Int)) (a : Int), t ≤ M.foldl (fun n x => min n (x.2 + f.hi j x.1)) a ↔ t ≤ a ∧ ∀ x ∈ M, t ≤ x.2 + f.hi j x.1 := by
  intro M
  induction M with
  | nil => simp
  | cons y M ih =>
   intro a
   rw [List.foldl_cons, ih, Int.le_min]
   simp only [List.forall_mem_cons, and_assoc]
 exact key _ _
theorem U_le (f : Fur) (j : Nat) : f.U j ≤ 3000 := ((f.U_iff j _).1 (Int.le_refl _)).1
theorem U_lim (f : Fur) (j : Nat) {x : Nat × Int} (h : x ∈ f.M) : f.U j ≤ x.2 + f.hi j x.1 := ((f.U_iff j _).1 (Int.le_refl _)).2 x h
def Sound (f : Fur) : Prop :=
 (∀ j, j ≤ f.m → 0 ≤ f.U j) ∧ ∀ x ∈ f.L, (∀ y ∈ f.M, y.1 = x.1 → x.2 ≤ y.2) ∧ ∃ j, j ≤ f.m ∧ x.2 + f.lo j x.1 ≤ f.U j
def High (f : Fur) (q : Nat) (t : Int) : Prop := (∃ j, j ≤ f.m ∧ t + f.lo j q ≤ f.U j) ∧ ∀ y ∈ f.M, y.1 = q → t ≤ y.2
def Low (f : Fur) (q : Nat) (t : Int) : Prop :=
 (∀ j, j ≤ f.m → -f.hi j q ≤ t) ∧ (∀ x ∈ f.L, x.1 = q → x.2 ≤ t) ∧ ∀ x ∈ f.L, x.1 ≠ q → ∃ j, j ≤ f.m ∧ x.2 + f.lo j x.1 ≤ f.U j ∧ x.2 + f.lo j x.1 - f.hi j q ≤ t
def IsField (f : Fur) (u : Nat → Int) (d : Nat → Nat → Int) : Prop := ∀ j, j ≤ f.m → 0 ≤ u j ∧ u j ≤ 3000 ∧ ∀ p, f.lo j p ≤ d j p ∧ d j p ≤ f.hi j p
def heat (f : Fur) (u : Nat → Int) (d : Nat → Nat → Int) (p : Nat) : Int := mx (fun j => u j - d j p) f.m
def Agrees (f : Fur) (u : Nat → Int) (d : Nat → Nat → Int) : Prop :=
 (∀ x ∈ f.L, x.2 ≤ f.heat u d x.1) ∧ ∀ y ∈ f.M, f.heat u d y.1 ≤ y.2
theorem Agrees.u {f : Fur} {u d} (hF : f.IsField u d) (h : f.Agrees u d) (j : Nat) (hj : j ≤ f.m) : u j ≤ f.U j := by
 rw [U_iff]
 refine ⟨(hF j hj).2.1, fun x hx => ?_⟩
 have h1 := (mx_le_iff _ _ _).1 (h.2 x hx) j hj
 have h2 := (hF j hj).2.2 x.1
 omega
theorem Agrees.high {f : Fur} {u d} (hF : f.IsField u d) (h : f.Agrees u d) (p : Nat) : f.High p (f.heat u d p) := by
 refine ⟨?_, fun y hy e => e ▸ h.2 y hy⟩
 obtain ⟨j, h1, h2⟩ := (le_mx_iff _ _ _).1 (Int.le_refl (f.heat u d p))
 refine ⟨j, h1, ?_⟩
 have h3 := h.u hF j h1
 have h4 := (hF j h1).2.2 p
 omega
theorem Agrees.low {f : Fur} {u d} (hF : f.IsField u d) (h : f.Agrees u d) (p : Nat) : f.Low p (f.heat u d p) := by
 have hm := (mx_le_iff (fun j => u j - d j p) (f.heat u d p) f.m).1 (Int.le_refl _)
 refine ⟨fun j hj => ?_, fun x hx e => e ▸ h.1 x hx, fun x hx _ => ?_⟩
 ·have h1 := hm j hj
  have h2 := hF j hj
  have h3 := h2.2.2 p
  omega
 ·obtain ⟨j, h1, h2⟩ := (le_mx_iff _ _ _).1 (h.1 x hx)
  have h3 := h.u hF j h1
  have h4 := (hF j h1).2.2 x.1
  have h5 := (hF j h1).2.2 p
  have h6 := hm j h1
  exact ⟨j, h1, by omega, by omega⟩
theorem Agrees.sound {f : Fur} {u d} (hF : f.IsField u d) (h : f.Agrees u d) : f.Sound := by
 refine ⟨fun j hj => Int.le_trans (hF j hj).1 (h.u hF j hj), fun x hx => ⟨fun y hy e => ?_, ?_⟩⟩
 ·have h1 := h.1 x hx
  have h2 := h.2 y hy
  rw [e] at h2
  omega
 ·obtain ⟨j, h1, h2⟩ := (le_mx_iff _ _ _).1 (h.1 x hx)
  have h3 := h.u hF j h1
  have h4 := (hF j h1).2.2 x.1
  exact ⟨j, h1, by omega⟩
def bst (p : Nat) (o : Option Int) (x : Nat × Int) : Option Int := if x.1 = p then some (match o with | none => x.2 | some n => min n x.2) else o
def best (M : List (Nat × Int)) (p : Nat) : Option Int := M.foldl (bst p) none
theorem best_iff (M : List (Nat × Int)) (p : Nat) : (best M p = none ↔ ∀ y ∈ M, y.1 ≠ p) ∧ ∀ n, best M p = some n → (∀ t, t ≤ n ↔ ∀ y ∈ M, y.1 = p → t ≤ y.2) ∧ ∃ y ∈ M, y.1 = p ∧ y.2 = n := by
 have key : ∀ (M K : List (Nat × Int)) (o : Option Int), ((o = none ↔ ∀ y ∈ K, y.1 ≠ p) ∧ ∀ n, o = some n → (∀ t, t ≤ n ↔ ∀ y ∈ K, y.1 = p → t ≤ y.2) ∧ ∃ y ∈ K, y.1 = p ∧ y.2 = n) →
   ((M.foldl (bst p) o = none ↔ ∀ y ∈ K ++ M, y.1 ≠ p) ∧ ∀ n, M.foldl (bst p) o = some n → (∀ t, t ≤ n ↔ ∀ y ∈ K ++ M, y.1 = p → t ≤ y.2) ∧ ∃ y ∈ K ++ M, y.1 = p ∧ y.2 = n) := by
  intro M
  induction M with
  | nil => intro K o h; simpa using h
  | cons x M ih =>
   intro K o h
   have h2 := ih (K ++ [x]) (bst p o x) ?_
   ·simpa only [List.append_assoc, List.cons_append, List.nil_append, List.foldl_cons] using h2
   ·by_cases hx : x.1 = p
    ·simp only [bst, hx, if_true]
     refine ⟨?_, fun n hn => ?_⟩
     ·constructor
      ·intro h; cases h
      ·intro h; exact absurd hx (h x (by simp))
     ·cases o with
      | none =>
       simp only [Option.some.injEq] at hn
       have h3 := h.1.1 rfl
       refine ⟨fun t => ⟨fun ht y hy e => ?_, fun ht => ?_⟩, x, by simp, hx, hn⟩
       ·rcases List.mem_append.1 hy with hy | hy
        ·exact absurd e (h3 y hy)
        ·simp only [List.mem_singleton] at hy; subst hy; omega
       ·have := ht x (by simp) hx; omega
      | some n0 =>
       simp only [Option.some.injEq] at hn
       obtain ⟨h3, y0, h4, h5, h6⟩ := h.2 n0 rfl
       refine ⟨fun t => ⟨fun ht y hy e => ?_, fun ht => ?_⟩, ?_⟩
       ·rcases List.mem_append.1 hy with hy | hy
        ·exact (h3 t).1 (by omega) y hy e
        ·simp only [List.mem_singleton] at hy; subst hy; omega
       ·have h7 := (h3 t).2 (fun y hy e => ht y (by simp [hy]) e)
        have h8 := ht x (by simp) hx
        omega
       ·by_cases hlt : n0 ≤ x.2
        ·exact ⟨y0, by simp [h4], h5, by omega⟩
        ·exact ⟨x, by simp, hx, by omega⟩
    ·simp only [bst, hx, if_false]
     refine ⟨?_, fun n hn => ?_⟩
     ·rw [h.1]
      constructor
      ·intro g y hy
       rcases List.mem_append.1 hy with hy | hy
       ·exact g y hy
       ·simp only [List.mem_singleton] at hy; subst hy; exact hx
      ·intro g y hy; exact g y (by simp [hy])
     ·obtain ⟨h3, y0, h4, h5, h6⟩ := h.2 n hn
      refine ⟨fun t => ?_, y0, by simp [h4], h5, h6⟩
      rw [h3]
      constructor
      ·intro g y hy e
       rcases List.mem_append.1 hy with hy | hy
       ·exact g y hy e
       ·simp only [List.mem_singleton] at hy; subst hy; exact absurd e hx
      ·intro g y hy e; exact g y (by simp [hy]) e
 have := key M [] none (by simp)
 simpa [best] using this
end Fur
end Go.Abs
namespace Go.Abs
set_option linter.unusedVariables false
namespace Fur
def Small (f : Fur) (P : Nat) : Prop := (∀ x ∈ f.L, x.1 < P ∧ -3000 ≤ x.2 ∧ x.2 ≤ 3000) ∧ ∀ x ∈ f.M, x.1 < P ∧ -3000 ≤ x.2 ∧ x.2 ≤ 3000
structure Lims (f : Fur) (P : Nat) (a b : Nat → Int) : Prop where
 hk : f.Ok
 sm : f.Small P
 A : ∀ p t, p < P → (a p ≤ t ↔ -1000000 ≤ t ∧ ∀ x ∈ f.L, x.1 = p → x.2 ≤ t)
 B : ∀ p t, p < P → (t ≤ b p ↔ t ≤ 1000000 ∧ ∀ y ∈ f.M, y.1 = p → t ≤ y.2)
namespace Lims
variable {f : Fur} {P : Nat} {a b : Nat → Int}
theorem b_le (h : Lims f P a b) {p : Nat} (hp : p < P) : b p ≤ 1000000 := ((h.B p _ hp).1 (Int.le_refl _)).1
theorem b_lim (h : Lims f P a b) {y : Nat × Int} (hy : y ∈ f.M) : b y.1 ≤ y.2 := ((h.B y.1 _ (h.sm.2 y hy).1).1 (Int.le_refl _)).2 y hy rfl
theorem b_att (h : Lims f P a b) {p : Nat} (hp : p < P) (hn : b p ≠ 1000000) : ∃ x ∈ f.M, x.1 = p ∧ x.2 = b p := by
 by_cases hc : ∃ x ∈ f.M, x.1 = p ∧ x.2 = b p
 ·exact hc
 ·exfalso
  have h0 := h.b_le hp
  have : b p + 1 ≤ b p := by
   rw [h.B p _ hp]
   refine ⟨by omega, fun x hx e => ?_⟩
   have h1 := h.b_lim hx
   rw [e] at h1
   have h2 : x.2 ≠ b p := fun e2 => hc ⟨x, hx, e, e2⟩
   omega
  omega
theorem U_iff (h : Lims f P a b) (j : Nat) (t : Int) : t ≤ f.U j ↔ t ≤ 3000 ∧ ∀ p, p < P → b p < 1000000 → t ≤ b p + f.hi j p := by
 rw [Fur.U_iff]
 constructor
 ·rintro ⟨h1, h2⟩
  refine ⟨h1, fun p hp hb => ?_⟩
  obtain ⟨y, hy, e, e2⟩ := h.b_att hp (by omega)
  have := h2 y hy
  rw [e, e2] at this
  exact this
 ·rintro ⟨h1, h2⟩
  refine ⟨h1, fun y hy => ?_⟩
  have h3 := h.b_lim hy
  have h4 := h.sm.2 y hy
  have := h2 y.1 h4.1 (by omega)
  omega
end Lims
end Fur
end Go.Abs
namespace Go.Abs
open Go
set_option linter.unusedVariables false
def KK : Nat := 18446744073709551616
theorem KK_big {n : Nat} (h : n ≤ Go.maxLen) : n < KK := by unfold KK; unfold Go.maxLen at h; omega
def Kiln.s (a : Kiln) : Prop := a.Falls.length ≤ Go.maxLen ∧ ∀ x ∈ a.Falls, x.length ≤ Go.maxLen
def Firing.s (f : Firing) : Prop := Kiln.s f.Kiln ∧ f.Readings.length ≤ Go.maxLen
theorem Kiln.q.s {a : Kiln} (q : Kiln.q a) : Kiln.s a := ⟨q.1, fun x hx => (q.2.2 x hx).1⟩
theorem Firing.q.s {f : Firing} (q : Firing.q f) : Firing.s f := ⟨q.1.s, q.2.1⟩
theorem maxLen_le {n : Nat} (h : n ≤ Go.maxLen) : n ≤ 9223372036854775807 := by unfold Go.maxLen at h; omega
theorem sane_KK : L04_sane KK = some true := by unfold KK; decide +kernel
set_option maxRecDepth 10000
def inB (n lo hi : Int) : Bool := decide (lo ≤ n) && decide (n ≤ hi)
theorem heat_in_eq (k : Nat) (n lo hi : Int) : heat_in k n lo hi = some (inB n lo hi) := by
 unfold heat_in inB; cases decide (lo ≤ n) <;> rfl
def rangeB (r : Range) (lo hi : Int) : Bool := decide (lo ≤ r.Lo) && (decide (r.Lo ≤ r.Hi) && decide (r.Hi ≤ hi))
def readB (places : Int) (r : Reading) : Bool :=
 inB r.Source 1 99999 && (inB r.Place 0 (w64 (places - 1)) &&
  (bif decide (r.Kind = (1 : Int)) then (inB r.Mark 1 2000 && (decide (r.Heat.Lo = (0 : Int)) && decide (r.Heat.Hi = (0 : Int))))
  else bif decide (r.Kind = (2 : Int)) then (inB r.Mark 1 2000 && (decide (r.Heat.Lo = (0 : Int)) && decide (r.Heat.Hi = (0 : Int))))
  else bif decide (r.Kind = (3 : Int)) then (decide (r.Mark = (0 : Int)) && rangeB r.Heat 1 2000) else false))
theorem heat_isReading_eq (k : Nat) (places : Int) (r : Reading) : heat_isReading k places r = some (readB places r) := by
 unfold heat_isReading readB rangeB
 simp only [heat_in_eq, Option.bind_some]
 cases inB r.Source 1 99999 <;> cases inB r.Place 0 (w64 (places - 1)) <;> cases decide (r.Kind = (1 : Int)) <;> cases decide (r.Kind = (2 : Int)) <;> cases decide (r.Kind = (3 : Int)) <;> cases inB r.Mark 1 2000 <;> cases decide (r.Mark = (0 : Int)) <;> cases decide ((1 : Int) ≤ r.Heat.Lo) <;> cases decide (r.Heat.Lo ≤ r.Heat.Hi) <;> rfl
theorem findSome_bif {α R : Type} (p : α → Bool) (c : R) : ∀ l : List α, l.findSome? (fun x => bif p x then none else some c) = bif l.all p then none else some c
 | [] => rfl
 | x :: l => by
  rw [List.findSome?_cons, List.all_cons]
  cases h : p x with
  | true => simp [findSome_bif p c l]
  | false => simp
theorem lt_dec {i n : Nat} (h : i < n) : decide ((i : Int) < (n : Int)) = true := by simp; omega
theorem lt_dec_self (n : Nat) : decide ((n : Int) < (n : Int)) = false := by simp
theorem len_dec {α β : Type} (a : List α) (b : List β) : decide ((a.length : Int) = (b.length : Int)) = decide (a.length = b.length) := by
 by_cases h : a.length = b.length
 ·simp [h]
 ·have : ¬ ((a.length : Int) = (b.length : Int)) := by omega
  simp [h, this]
def kilnB (a : Kiln) : Bool := inB a.Falls.length 1 6 && (inB (a.Falls.headD []).length 1 24 && a.Falls.all fun l => decide (l.length = (a.Falls.headD []).length) && l.all fun r => rangeB r 0 3000)
theorem bad_eq (k : Nat) (r : Range) : heat_CheckKiln_1 k r = some (!rangeB r 0 3000) := by
 unfold heat_CheckKiln_1 rangeB
 have h1 : decide (r.Lo < (0 : Int)) = !decide (0 ≤ r.Lo) := by by_cases h : 0 ≤ r.Lo <;> simp [h] <;> omega
 have h2 : decide (r.Hi < r.Lo) = !decide (r.Lo ≤ r.Hi) := by by_cases h : r.Lo ≤ r.Hi <;> simp [h] <;> omega
 have h3 : decide ((3000 : Int) < r.Hi) = !decide (r.Hi ≤ 3000) := by by_cases h : r.Hi ≤ 3000 <;> simp [h] <;> omega
 rw [h1, h2, h3]
 cases decide (0 ≤ r.Lo) <;> cases decide (r.Lo ≤ r.Hi) <;> rfl
theorem contains_Range {l : List Range} (hl : l.length ≤ Go.maxLen) {f : Range → Option Bool} {p : Range → Bool} (hf : ∀ x, f x = some (p x)) : slices_ContainsFunc_api_Range KK l f = some (l.any p) := by
 unfold slices_ContainsFunc_api_Range slices_IndexFunc_api_Range
 rw [indexFunc_gen (body := slices_IndexFunc_api_Range.b0 KK f l) (p := p) (fun x _ => hf x) (maxLen_le hl) (KK_big hl) rfl]
 have : l.any p = (l.findIdx? p).isSome := by rw [List.findIdx?_isSome]
 rw [this]
 cases l.findIdx? p with
 | none => rfl
 | some i => simp
theorem heat_CheckKiln_eq (a : Kiln) (q : Kiln.s a) : heat_CheckKiln KK a = some (bif kilnB a then 0 else 40) := by
 obtain ⟨q1, q2⟩ := q
 unfold heat_CheckKiln kilnB
 simp only [heat_in_eq, Option.bind_some]
 cases h0 : inB (a.Falls.length : Int) 1 6 with
 | false => rfl
 | true =>
  obtain ⟨x3, hx⟩ : ∃ x3, a.Falls[0]? = some x3 := by
   have : 0 < a.Falls.length := by simp [inB] at h0; omega
   exact ⟨_, List.getElem?_eq_getElem this⟩
  have hd : a.Falls.headD [] = x3 := by cases hF : a.Falls with | nil => rw [hF] at hx; cases hx | cons y l => rw [hF] at hx; simpa using hx
  have ha : at? a.Falls 0 = some x3 := by have := at_of hx; simpa using this
  simp only [ha, hd, cond_true, Option.bind_some, Bool.true_and]
  cases h1 : inB (x3.length : Int) 1 24 with
  | false => rfl
  | true =>
   simp only [Bool.not_true, cond_false, Bool.true_and]
   rw [whl_each (l := a.Falls) (f := fun l => bif (decide (l.length = x3.length) && l.all fun r => rangeB r 0 3000) then none else some 40) (maxLen_le q1) (KK_big q1) ?_ ?_]
   ·rw [findSome_bif]
    cases a.Falls.all _ <;> rfl
   ·intro i x hx
    have hi : i < a.Falls.length := (List.getElem?_eq_some_iff.1 hx).1
    unfold heat_CheckKiln.b0
    rw [lt_dec hi, at_of hx]
    simp only [cond_true, Option.bind_some, len_dec]
    rw [contains_Range (q2 x (List.mem_of_getElem? hx)) (fun r => bad_eq KK r)]
    have : (x.any fun r => !rangeB r 0 3000) = !(x.all fun r => rangeB r 0 3000) := by simp [List.all_eq_not_any_not]
    rw [this]
    cases decide (x.length = x3.length) <;> cases (x.all fun r => rangeB r 0 3000) <;> rfl
   ·unfold heat_CheckKiln.b0
    rw [lt_dec_self]; rfl
theorem kilnB_head {a : Kiln} (h : kilnB a = true) : ∃ x3, a.Falls[0]? = some x3 ∧ at? a.Falls 0 = some x3 ∧ a.Falls.headD [] = x3 := by
 have hpos : 0 < a.Falls.length := by simp [kilnB, inB] at h; omega
 obtain ⟨x3, hx⟩ : ∃ x3, a.Falls[0]? = some x3 := ⟨_, List.getElem?_eq_getElem hpos⟩
 exact ⟨x3, hx, by have := at_of hx; simpa using this, by cases hF : a.Falls with | nil => rw [hF] at hx; cases hx | cons y l => rw [hF] at hx; simpa using hx⟩
def firingCode (f : Firing) : Int := bif kilnB f.Kiln then (bif decide ((60 : Int) < (f.Readings.length : Int)) then 2 else bif f.Readings.all (readB ((f.Kiln.Falls.headD []).length : Int)) then 0 else 41) else 40
theorem heat_Check_eq (f : Firing) (q : Firing.s f) : heat_Check KK f = some (firingCode f) := by
 obtain ⟨q1, q2⟩ := q
 unfold heat_Check firingCode
 rw [heat_CheckKiln_eq _ q1]
 cases h : kilnB f.Kiln with
 | false => rfl
 | true =>
  obtain ⟨x3, h1, h2, h3⟩ := kilnB_head h
  simp only [Option.bind_some, cond_true, h3]
  simp only [decide_true, Bool.not_true, cond_false]
  cases decide ((60 : Int) < (f.Readings.length : Int)) with
  | true => rfl
  | false =>
   simp only [cond_false]
   rw [whl_each (l := f.Readings) (f := fun r => bif readB (x3.length : Int) r then none else some 41) (maxLen_le q2) (KK_big q2) ?_ ?_]
   ·rw [findSome_bif]
    have : (f.Readings.all fun r => readB (x3.length : Int) r) = f.Readings.all (readB (x3.length : Int)) := rfl
    rw [this]
    cases f.Readings.all (readB (x3.length : Int)) <;> rfl
   ·intro i r hr
    have hi : i < f.Readings.length := (List.getElem?_eq_some_iff.1 hr).1
    unfold heat_Check.b0
    rw [lt_dec hi, at_of hr]
    simp only [cond_true, Option.bind_some, h2, heat_isReading_eq]
    cases readB (x3.length : Int) r <;> rfl
   ·unfold heat_Check.b0
    rw [lt_dec_self]; rfl
end Go.Abs
namespace Go.Abs
open Go
set_option linter.unusedVariables false
theorem kilnB_small {a : Kiln} (h : kilnB a = true) : a.Falls.length ≤ 6 ∧ (a.Falls.headD []).length ≤ 24 ∧ ∀ x ∈ a.Falls, x.length = (a.Falls.headD []).length := by
 simp only [kilnB, inB, Bool.and_eq_true, decide_eq_true_eq, List.all_eq_true] at h
 obtain ⟨h1, h2, h3⟩ := h
 exact ⟨by omega, by omega, fun x hx => (h3 x hx).1⟩
theorem firing_small {f : Firing} (h : firingCode f = 0) : kilnB f.Kiln = true ∧ f.Readings.length ≤ 60 ∧ ∀ r ∈ f.Readings, readB ((f.Kiln.Falls.headD []).length : Int) r = true := by
 unfold firingCode at h
 cases h1 : kilnB f.Kiln with
 | false => rw [h1] at h; simp at h
 | true =>
  rw [h1] at h
  simp only [cond_true] at h
  by_cases h2 : (60 : Int) < (f.Readings.length : Int)
  ·simp [h2] at h
  ·simp only [h2, decide_false, cond_false] at h
   cases h3 : f.Readings.all (readB ((f.Kiln.Falls.headD []).length : Int)) with
   | false => rw [h3] at h; simp at h
   | true => exact ⟨rfl, by omega, fun r hr => List.all_eq_true.1 h3 r hr⟩
end Go.Abs
namespace Go.Abs
open Go
set_option linter.unusedVariables false
theorem w64_succ {i n : Nat} (h : i < n) (hn : n ≤ 9223372036854775807) : w64 ((i : Int) + 1) = ((i + 1 : Nat) : Int) := by rw [w64_of (by omega) (by omega)]; omega
end Go.Abs
namespace Go.Abs
open Go
set_option linter.unusedVariables false
theorem set_of {α : Type} {l : List α} {i : Nat} {x : α} (h : i < l.length) : set? l (i : Int) x = some (l.set i x) := by
 unfold set?
 rw [if_pos ⟨by omega, by omega⟩]
 simp
theorem take_succ_of {α : Type} {l : List α} {i : Nat} {x : α} (h : l[i]? = some x) : l.take (i + 1) = l.take i ++ [x] := by
 rw [List.take_add_one, h]; rfl
end Go.Abs
namespace Go.Abs
open Go
set_option linter.unusedVariables false
end Go.Abs
namespace Go.Abs
open Go
set_option linter.unusedVariables false
end Go.Abs
namespace Go.Abs
open Go
set_option linter.unusedVariables false
def R0 : Range := ⟨0, 0⟩
def Kiln.at (a : Kiln) (j p : Nat) : Range := (a.Falls.getD j []).getD p R0
def Kiln.P (a : Kiln) : Nat := (a.Falls.headD []).length
def lp (x : heat_limit) : Nat × Int := (x.place.toNat, x.heat)
def heat_furnace.fur (x : heat_furnace) : Fur := ⟨x.Firing.Kiln.Falls.length - 1, fun j p => (x.Firing.Kiln.at j p).Lo, fun j p => (x.Firing.Kiln.at j p).Hi, x.least.map lp, x.most.map lp⟩
def limOk (P : Nat) (x : heat_limit) : Prop := 0 ≤ x.place ∧ x.place < P ∧ -3000 ≤ x.heat ∧ x.heat ≤ 3000
structure heat_furnace.ok (x : heat_furnace) : Prop where
 k : kilnB x.Firing.Kiln = true
 ll : x.least.length ≤ 1000
 l : ∀ y ∈ x.least, limOk x.Firing.Kiln.P y
 ml : x.most.length ≤ 1000
 m : ∀ y ∈ x.most, limOk x.Firing.Kiln.P y
theorem kilnB_len {a : Kiln} (h : kilnB a = true) : 1 ≤ a.Falls.length ∧ a.Falls.length ≤ 6 ∧ 1 ≤ a.P ∧ a.P ≤ 24 := by
 simp only [kilnB, inB, Bool.and_eq_true, decide_eq_true_eq] at h
 have : a.P = (a.Falls.headD []).length := rfl
 omega
theorem kilnB_row {a : Kiln} (h : kilnB a = true) {j : Nat} (hj : j < a.Falls.length) : (a.Falls.getD j []).length = a.P := (kilnB_small h).2.2 _ (getD_mem [] hj)
theorem rangeB_iff {r : Range} : rangeB r 0 3000 = true ↔ 0 ≤ r.Lo ∧ r.Lo ≤ r.Hi ∧ r.Hi ≤ 3000 := by
 simp only [rangeB, Bool.and_eq_true, decide_eq_true_eq]
theorem kilnB_at {a : Kiln} (h : kilnB a = true) (j p : Nat) : 0 ≤ (a.at j p).Lo ∧ (a.at j p).Lo ≤ (a.at j p).Hi ∧ (a.at j p).Hi ≤ 3000 := by
 unfold Kiln.at
 by_cases hj : j < a.Falls.length
 ·by_cases hp : p < (a.Falls.getD j []).length
  ·have h1 := getD_mem R0 hp
   have h2 : rangeB ((a.Falls.getD j []).getD p R0) 0 3000 = true := by
    simp only [kilnB, Bool.and_eq_true, List.all_eq_true] at h
    exact (h.2.2 _ (getD_mem [] hj)).2 _ h1
   exact rangeB_iff.1 h2
  ·rw [getD_none (by omega)]
   decide
 ·rw [getD_none (l := a.Falls) (by omega)]
  simp [R0]
theorem at_row {a : Kiln} (h : kilnB a = true) {j : Nat} (hj : j < a.Falls.length) : at? a.Falls (j : Int) = some (a.Falls.getD j []) := at_nat [] hj
theorem at_cell {a : Kiln} (h : kilnB a = true) {j : Nat} (hj : j < a.Falls.length) {p : Int} (h0 : 0 ≤ p) (hp : p < a.P) : at? (a.Falls.getD j []) p = some (a.at j p.toNat) :=
 at_getD R0 h0 (by rw [kilnB_row h hj]; exact hp)
theorem at_cellN {a : Kiln} (h : kilnB a = true) {j : Nat} (hj : j < a.Falls.length) {p : Nat} (hp : p < a.P) : at? (a.Falls.getD j []) (p : Int) = some (a.at j p) :=
 at_nat R0 (by rw [kilnB_row h hj]; exact hp)
theorem fur_ok {x : heat_furnace} (h : x.ok) : x.fur.Ok := fun j p => kilnB_at h.k j p
def hotStep (x : heat_furnace) (j : Nat) (s : Int × Int) (y : heat_limit) : Int × Int := bif decide (y.heat + (x.Firing.Kiln.at j y.place.toNat).Hi < s.1) then (y.heat + (x.Firing.Kiln.at j y.place.toNat).Hi, y.by_) else s
def hot (x : heat_furnace) (j : Nat) : Int × Int := x.most.foldl (hotStep x j) (3000, -1)
theorem heat_hottest_eq {x : heat_furnace} (h : x.ok) {j : Nat} (hj : j < x.Firing.Kiln.Falls.length) : heat_furnace_hottest KK x (j : Int) = some (hot x j) := by
 have hml := h.ml
 unfold heat_furnace_hottest
 have h1 := (whl_fold (l := x.most) (body := heat_furnace_hottest.b0 KK x (j : Int)) (k := KK) (fun i s => (s.1, s.2, i)) (hotStep x j) (fun _ _ => True) (s0 := (3000, -1)) (by omega) (by unfold KK; omega) trivial ?_ ?_).1
 ·rw [h1]; rfl
 ·intro i y s hy _
  have hi : i < x.most.length := (List.getElem?_eq_some_iff.1 hy).1
  obtain ⟨g1, g2, g3, g4⟩ := h.m y (List.mem_of_getElem? hy)
  have g5 := kilnB_at h.k j y.place.toNat
  refine ⟨?_, trivial⟩
  unfold heat_furnace_hottest.b0 hotStep
  simp only [lt_dec hi, at_of hy, cond_true, Option.bind_some, at_row h.k hj, at_cell h.k hj g1 g2]
  rw [w64_of (n := y.heat + (x.Firing.Kiln.at j y.place.toNat).Hi) (by omega) (by omega)]
  cases decide (y.heat + (x.Firing.Kiln.at j y.place.toNat).Hi < s.1) <;> rfl
 ·intro s _
  unfold heat_furnace_hottest.b0
  simp only [lt_dec_self]; rfl
theorem hot_U (x : heat_furnace) (j : Nat) : (hot x j).1 = x.fur.U j := by
 have key : ∀ (l : List heat_limit) (s : Int × Int), (l.foldl (hotStep x j) s).1 = (l.map lp).foldl (fun n y => min n (y.2 + x.fur.hi j y.1)) s.1 := by
  intro l
  induction l with
  | nil => intro s; rfl
  | cons y l ih =>
   intro s
   rw [List.foldl_cons, ih, List.map_cons, List.foldl_cons]
   congr 1
   unfold hotStep
   show _ = min s.1 (y.heat + (x.Firing.Kiln.at j y.place.toNat).Hi)
   by_cases hc : y.heat + (x.Firing.Kiln.at j y.place.toNat).Hi < s.1
   ·simp only [hc, decide_true, cond_true]; omega
   ·simp only [hc, decide_false, cond_false]; omega
 exact key _ _
theorem U_ge {x : heat_furnace} (h : x.ok) (j : Nat) : -3000 ≤ x.fur.U j ∧ x.fur.U j ≤ 3000 := by
 refine ⟨?_, x.fur.U_le j⟩
 rw [Fur.U_iff]
 refine ⟨by omega, fun y hy => ?_⟩
 obtain ⟨z, hz, rfl⟩ := List.mem_map.1 hy
 have := (h.m z hz).2.2
 have := (fur_ok h j (lp z).1)
 show -3000 ≤ z.heat + _
 omega
def bestStep (p : Int) (s : heat_limit × Bool) (y : heat_limit) : heat_limit × Bool := bif decide (y.place = p) then (bif s.2 then (bif decide (y.heat < s.1.heat) then (y, true) else s) else (y, true)) else s
def bestL (l : List heat_limit) (p : Int) : heat_limit × Bool := l.foldl (bestStep p) (⟨0, 0, 0⟩, false)
theorem heat_best_eq (l : List heat_limit) (hl : l.length ≤ 1000) (p : Int) : heat_best KK l p (fun q0 q1 => heat_less KK q0 q1) = some (bestL l p) := by
 unfold heat_best
 have h1 := (whl_fold (l := l) (body := heat_best.b0 KK (fun q0 q1 => heat_less KK q0 q1) l p) (k := KK) (fun i s => (s.1, s.2, i)) (bestStep p) (fun _ _ => True) (s0 := (⟨0, 0, 0⟩, false)) (by omega) (by unfold KK; omega) trivial ?_ ?_).1
 ·rw [h1]; rfl
 ·intro i y s hy _
  have hi : i < l.length := (List.getElem?_eq_some_iff.1 hy).1
  refine ⟨?_, trivial⟩
  unfold heat_best.b0 bestStep heat_less
  obtain ⟨s1, s2⟩ := s
  simp only [lt_dec hi, at_of hy, cond_true, Option.bind_some]
  cases decide (y.place = p) <;> cases s2 <;> cases decide (y.heat < s1.heat) <;> rfl
 ·intro s _
  unfold heat_best.b0
  simp only [lt_dec_self]; rfl
theorem bestL_some (l : List heat_limit) (p : Nat) (hl : ∀ y ∈ l, 0 ≤ y.place) : Fur.best (l.map lp) p = bif (bestL l p).2 then some (bestL l p).1.heat else none := by
 have key : ∀ (l : List heat_limit) (s : heat_limit × Bool), (∀ y ∈ l, 0 ≤ y.place) → (l.map lp).foldl (Fur.bst p) (bif s.2 then some s.1.heat else none) = bif (l.foldl (bestStep p) s).2 then some (l.foldl (bestStep p) s).1.heat else none := by
  intro l
  induction l with
  | nil => intro s _; rfl
  | cons y l ih =>
   intro s hl
   rw [List.map_cons, List.foldl_cons, List.foldl_cons, ← ih _ (fun z hz => hl z (List.mem_cons_of_mem _ hz))]
   congr 1
   have h0 := hl y (by simp)
   unfold bestStep Fur.bst
   obtain ⟨s1, s2⟩ := s
   by_cases hp : y.place = (p : Int)
   ·have hp2 : (lp y).1 = p := by show y.place.toNat = p; omega
    simp only [hp, hp2, decide_true, cond_true, if_true]
    cases s2 with
    | false => rfl
    | true =>
     simp only [cond_true]
     by_cases hc : y.heat < s1.heat
     ·simp only [hc, decide_true, cond_true, Option.some.injEq]
      show min s1.heat y.heat = y.heat
      omega
     ·simp only [hc, decide_false, cond_false, cond_true, Option.some.injEq]
      show min s1.heat y.heat = s1.heat
      omega
   ·have hp2 : ¬ (lp y).1 = p := by show ¬ y.place.toNat = p; omega
    simp only [hp, hp2, decide_false, cond_false, if_false]
 exact key l (⟨0, 0, 0⟩, false) hl
theorem bestL_mem (l : List heat_limit) (p : Int) : (bestL l p).2 = true → (bestL l p).1 ∈ l ∧ (bestL l p).1.place = p := by
 have key : ∀ (l K : List heat_limit) (s : heat_limit × Bool), (s.2 = true → s.1 ∈ K ∧ s.1.place = p) → (l.foldl (bestStep p) s).2 = true → (l.foldl (bestStep p) s).1 ∈ K ++ l ∧ (l.foldl (bestStep p) s).1.place = p := by
  intro l
  induction l with
  | nil => intro K s h; simpa using h
  | cons y l ih =>
   intro K s h
   have h2 := ih (K ++ [y]) (bestStep p s y) ?_
   ·simpa using h2
   ·unfold bestStep
    by_cases hp : y.place = p
    ·simp only [hp, decide_true, cond_true]
     cases hs : s.2 with
     | false => simp [hp]
     | true =>
      have := h hs
      cases decide (y.heat < s.1.heat) with
      | true => simp [hp]
      | false => simp only [cond_true, cond_false]; intro _; exact ⟨by simp [this.1], this.2⟩
    ·simp only [hp, decide_false, cond_false]
     intro hs
     have := h hs
     exact ⟨by simp [this.1], this.2⟩
 have := key l [] (⟨0, 0, 0⟩, false) (by simp)
 simpa [bestL] using this
def reachB (x : heat_furnace) (p : Nat) (n : Int) : Bool := (List.range x.Firing.Kiln.Falls.length).any fun j => !decide (x.fur.U j < 0) && !decide (x.fur.U j - x.fur.lo j p < n)
theorem heat_reaches_eq {x : heat_furnace} (h : x.ok) {p n : Int} (h0 : 0 ≤ p) (hp : p < x.Firing.Kiln.P) : heat_furnace_reaches KK x p n = some (reachB x p.toNat n) := by
 have hk := kilnB_len h.k
 unfold heat_furnace_reaches
 rw [whl_allN (n := x.Firing.Kiln.Falls.length) (p := fun j => !(!decide (x.fur.U j < 0) && !decide (x.fur.U j - x.fur.lo j p.toNat < n))) (c := true) (by omega) (by unfold KK; omega) ?_ ?_]
 ·have : ((List.range x.Firing.Kiln.Falls.length).all fun j => !(!decide (x.fur.U j < 0) && !decide (x.fur.U j - x.fur.lo j p.toNat < n))) = !reachB x p.toNat n := by
   unfold reachB; rw [List.not_any_eq_all_not]
  rw [this]
  cases reachB x p.toNat n <;> rfl
 ·intro j hj
  unfold heat_furnace_reaches.b0
  have hu := U_ge h j
  have hc := kilnB_at h.k j p.toNat
  have hlo : x.fur.lo j p.toNat = (x.Firing.Kiln.at j p.toNat).Lo := rfl
  simp only [lt_dec hj, cond_true, heat_hottest_eq h hj, Option.bind_some, hot_U, at_row h.k hj, at_cell h.k hj h0 hp]
  rw [w64_of (n := x.fur.U j - (x.Firing.Kiln.at j p.toNat).Lo) (by omega) (by omega), hlo]
  cases decide (x.fur.U j < 0) <;> cases decide (x.fur.U j - (x.Firing.Kiln.at j p.toNat).Lo < n) <;> rfl
 ·unfold heat_furnace_reaches.b0
  rw [lt_dec_self]; rfl
theorem reachB_iff {x : heat_furnace} (h : x.ok) (hu : ∀ j, j ≤ x.fur.m → 0 ≤ x.fur.U j) (p : Nat) (n : Int) : reachB x p n = true ↔ ∃ j, j ≤ x.fur.m ∧ n + x.fur.lo j p ≤ x.fur.U j := by
 have hk := kilnB_len h.k
 have hm : x.fur.m = x.Firing.Kiln.Falls.length - 1 := rfl
 unfold reachB
 rw [List.any_eq_true]
 constructor
 ·rintro ⟨j, h1, h2⟩
  simp only [List.mem_range] at h1
  simp only [Bool.and_eq_true, Bool.not_eq_true', decide_eq_false_iff_not] at h2
  exact ⟨j, by omega, by omega⟩
 ·rintro ⟨j, h1, h2⟩
  have := hu j h1
  refine ⟨j, by simp only [List.mem_range]; omega, ?_⟩
  simp only [Bool.and_eq_true, Bool.not_eq_true', decide_eq_false_iff_not]
  omega
def soundB (x : heat_furnace) : Bool := ((List.range x.Firing.Kiln.Falls.length).all fun j => !decide (x.fur.U j < 0)) &&
 x.least.all fun y => !((bestL x.most y.place).2 && decide ((bestL x.most y.place).1.heat < y.heat)) && reachB x y.place.toNat y.heat
theorem heat_sound_eq {x : heat_furnace} (h : x.ok) : heat_furnace_sound KK x = some (soundB x) := by
 have hk := kilnB_len h.k
 have hll := h.ll
 unfold heat_furnace_sound soundB
 rw [whl_allN (n := x.Firing.Kiln.Falls.length) (p := fun j => !decide (x.fur.U j < 0)) (c := false) (by omega) (by unfold KK; omega) ?_ ?_]
 ·cases ((List.range x.Firing.Kiln.Falls.length).all fun j => !decide (x.fur.U j < 0)) with
  | false => rfl
  | true =>
   simp only [cond_true, Option.bind_some, Bool.true_and]
   rw [whl_allL (l := x.least) (p := fun y => !((bestL x.most y.place).2 && decide ((bestL x.most y.place).1.heat < y.heat)) && reachB x y.place.toNat y.heat) (c := false) (by omega) (by unfold KK; omega) ?_ ?_]
   ·cases x.least.all fun y => !((bestL x.most y.place).2 && decide ((bestL x.most y.place).1.heat < y.heat)) && reachB x y.place.toNat y.heat <;> rfl
   ·intro i y hy
    have hi : i < x.least.length := (List.getElem?_eq_some_iff.1 hy).1
    obtain ⟨g1, g2, g3, g4⟩ := h.l y (List.mem_of_getElem? hy)
    unfold heat_furnace_sound.b1
    simp only [lt_dec hi, at_of hy, cond_true, Option.bind_some, heat_best_eq _ h.ml, heat_reaches_eq h g1 g2]
    cases (bestL x.most y.place).2 <;> cases decide ((bestL x.most y.place).1.heat < y.heat) <;> cases reachB x y.place.toNat y.heat <;> rfl
   ·unfold heat_furnace_sound.b1
    rw [lt_dec_self]; rfl
 ·intro j hj
  unfold heat_furnace_sound.b0
  simp only [lt_dec hj, cond_true, heat_hottest_eq h hj, Option.bind_some, hot_U]
  cases decide (x.fur.U j < 0) <;> rfl
 ·unfold heat_furnace_sound.b0
  rw [lt_dec_self]; rfl
theorem soundB_iff {x : heat_furnace} (h : x.ok) : soundB x = true ↔ x.fur.Sound := by
 have hk := kilnB_len h.k
 have hm : x.fur.m = x.Firing.Kiln.Falls.length - 1 := rfl
 have h1 : (((List.range x.Firing.Kiln.Falls.length).all fun j => !decide (x.fur.U j < 0)) = true) ↔ ∀ j, j ≤ x.fur.m → 0 ≤ x.fur.U j := by
  rw [List.all_eq_true]
  constructor
  ·intro g j hj
   have := g j (by simp only [List.mem_range]; omega)
   simp only [Bool.not_eq_true', decide_eq_false_iff_not] at this
   omega
  ·intro g j hj
   simp only [List.mem_range] at hj
   have := g j (by omega)
   simp only [Bool.not_eq_true', decide_eq_false_iff_not]
   omega
 unfold soundB Fur.Sound
 rw [Bool.and_eq_true, h1]
 constructor
 ·rintro ⟨g1, g2⟩
  refine ⟨g1, fun z hz => ?_⟩
  obtain ⟨y, hy, rfl⟩ := List.mem_map.1 hz
  have g3 := List.all_eq_true.1 g2 y hy
  rw [Bool.and_eq_true, reachB_iff h g1] at g3
  refine ⟨fun z hz e => ?_, g3.2⟩
  obtain ⟨w, hw, rfl⟩ := List.mem_map.1 hz
  have hp := h.l y hy
  have hb := bestL_some x.most y.place.toNat (fun y hy => (h.m y hy).1)
  have ey : ((y.place.toNat : Nat) : Int) = y.place := by have := hp.1; omega
  rw [ey] at hb
  cases hs : (bestL x.most y.place).2 with
  | false =>
   rw [hs] at hb
   exact absurd e ((Fur.best_iff _ _).1.1 hb (lp w) (List.mem_map.2 ⟨w, hw, rfl⟩))
  | true =>
   rw [hs] at hb
   have g4 := (((Fur.best_iff _ _).2 _ hb).1 _).1 (Int.le_refl _) (lp w) (List.mem_map.2 ⟨w, hw, rfl⟩) e
   have g5 := g3.1
   simp only [hs, Bool.true_and, Bool.not_eq_true', decide_eq_false_iff_not] at g5
   show y.heat ≤ _
   omega
 ·rintro ⟨g1, g2⟩
  refine ⟨g1, List.all_eq_true.2 fun y hy => ?_⟩
  have g3 := g2 (lp y) (List.mem_map.2 ⟨y, hy, rfl⟩)
  rw [Bool.and_eq_true, reachB_iff h g1]
  refine ⟨?_, g3.2⟩
  cases hs : (bestL x.most y.place).2 with
  | false => rfl
  | true =>
   have g4 := bestL_mem _ _ hs
   have g5 := g3.1 (lp (bestL x.most y.place).1) (List.mem_map.2 ⟨_, g4.1, rfl⟩) (by show (bestL x.most y.place).1.place.toNat = y.place.toNat; rw [g4.2])
   have g6 : y.heat ≤ (bestL x.most y.place).1.heat := g5
   simp only [Bool.true_and, Bool.not_eq_true', decide_eq_false_iff_not]
   omega
end Go.Abs
namespace Go.Abs
open Go
set_option linter.unusedVariables false
def rd0 : Reading := ⟨0, 0, 0, 0, ⟨0, 0⟩⟩
def lo? (r : Reading) : Option Int := bif decide (r.Kind = (1 : Int)) then some r.Mark else bif decide (r.Kind = (3 : Int)) then some r.Heat.Lo else none
def hi? (r : Reading) : Option Int := bif decide (r.Kind = (2 : Int)) then some (w64 (r.Mark - 1)) else bif decide (r.Kind = (3 : Int)) then some r.Heat.Hi else none
def limOf (l : List Reading) (g : Reading → Option Int) (i : Nat) : Option heat_limit := (g (l.getD i rd0)).map fun n => ⟨(l.getD i rd0).Place, n, i⟩
def limsOf (l : List Reading) (g : Reading → Option Int) : List heat_limit := (List.range l.length).filterMap (limOf l g)
def nf (f : Firing) : heat_furnace := ⟨f, limsOf f.Readings lo?, limsOf f.Readings hi?⟩
theorem limsOf_mem {l : List Reading} {g : Reading → Option Int} {y : heat_limit} : y ∈ limsOf l g ↔ ∃ (i : Nat) (r : Reading), l[i]? = some r ∧ g r = some y.heat ∧ y.place = r.Place ∧ y.by_ = (i : Int) := by
 unfold limsOf
 rw [List.mem_filterMap]
 constructor
 ·rintro ⟨i, hi, h⟩
  simp only [List.mem_range] at hi
  have hx : l[i]? = some l[i] := List.getElem?_eq_getElem hi
  unfold limOf at h
  rw [getD_of rd0 hx] at h
  cases hg : g l[i] with
  | none => rw [hg] at h; cases h
  | some n => rw [hg] at h; cases h; exact ⟨i, l[i], hx, hg, rfl, rfl⟩
 ·rintro ⟨i, r, hx, h1, h2, h3⟩
  refine ⟨i, by simp only [List.mem_range]; exact (List.getElem?_eq_some_iff.1 hx).1, ?_⟩
  unfold limOf
  rw [getD_of rd0 hx, h1, Option.map_some, ← h2, ← h3]
theorem limsOf_lp {l : List Reading} {g : Reading → Option Int} {z : Nat × Int} : z ∈ (limsOf l g).map lp ↔ ∃ r ∈ l, g r = some z.2 ∧ r.Place.toNat = z.1 := by
 rw [List.mem_map]
 constructor
 ·rintro ⟨y, hy, rfl⟩
  obtain ⟨i, r, h1, h2, h3, _⟩ := limsOf_mem.1 hy
  exact ⟨r, List.mem_of_getElem? h1, h2, by show _ = y.place.toNat; rw [h3]⟩
 ·rintro ⟨r, hr, h1, h2⟩
  obtain ⟨i, hi⟩ := List.getElem?_of_mem hr
  refine ⟨⟨r.Place, z.2, (i : Int)⟩, limsOf_mem.2 ⟨i, r, hi, h1, rfl, rfl⟩, ?_⟩
  show (r.Place.toNat, z.2) = z
  rw [h2]
theorem limsOf_len (l : List Reading) (g : Reading → Option Int) : (limsOf l g).length ≤ l.length := by
 have := List.length_filterMap_le (limOf l g) (List.range l.length)
 simpa [limsOf] using this
theorem limsOf_bounds {l : List Reading} {g : Reading → Option Int} {y : heat_limit} (h : y ∈ limsOf l g) : ∃ r ∈ l, g r = some y.heat ∧ y.place = r.Place := by
 obtain ⟨i, r, h1, h2, h3, _⟩ := limsOf_mem.1 h
 exact ⟨r, List.mem_of_getElem? h1, h2, h3⟩
theorem heat_least_eq (r : Reading) : heat_reading_least KK ⟨r⟩ = some ((lo? r).getD 0, (lo? r).isSome) := by
 unfold heat_reading_least lo?
 cases decide (r.Kind = (1 : Int)) <;> cases decide (r.Kind = (3 : Int)) <;> rfl
theorem heat_most_eq (r : Reading) : heat_reading_most KK ⟨r⟩ = some ((hi? r).getD 0, (hi? r).isSome) := by
 unfold heat_reading_most hi?
 cases decide (r.Kind = (2 : Int)) <;> cases decide (r.Kind = (3 : Int)) <;> rfl
def nfStep (l : List Reading) (s : List heat_limit × List heat_limit) (i : Nat) : List heat_limit × List heat_limit :=
 (s.1 ++ (limOf l lo? i).toList, s.2 ++ (limOf l hi? i).toList)
theorem nf_fold (l : List Reading) : ∀ (m : List Nat) (s : List heat_limit × List heat_limit), m.foldl (nfStep l) s = (s.1 ++ m.filterMap (limOf l lo?), s.2 ++ m.filterMap (limOf l hi?)) := by
 intro m
 induction m with
 | nil => intro s; simp
 | cons i m ih =>
  intro s
  rw [List.foldl_cons, ih, List.filterMap_cons, List.filterMap_cons]
  unfold nfStep
  cases limOf l lo? i <;> cases limOf l hi? i <;> simp
theorem heat_newFurnace_eq (f : Firing) (hl : f.Readings.length * 24 + 24 ≤ 140737488355328) : heat_newFurnace KK f = some (nf f) := by
 unfold heat_newFurnace
 have h1 := (whl_foldN (n := f.Readings.length) (body := heat_newFurnace.b0 KK f) (k := KK) (fun i (s : List heat_limit × List heat_limit) => (i, s.1, s.2)) (nfStep f.Readings) (fun i s => s.1.length ≤ i ∧ s.2.length ≤ i) (s0 := ([], [])) (by omega) (by unfold KK; omega) ⟨by simp, by simp⟩ ?_ ?_).1
 ·rw [h1, nf_fold]; rfl
 ·intro i s hi hI
  have hx : f.Readings[i]? = some f.Readings[i] := List.getElem?_eq_getElem hi
  have e1 : limOf f.Readings lo? i = (lo? f.Readings[i]).map fun n => ⟨f.Readings[i].Place, n, i⟩ := by unfold limOf; rw [getD_of rd0 hx]
  have e2 : limOf f.Readings hi? i = (hi? f.Readings[i]).map fun n => ⟨f.Readings[i].Place, n, i⟩ := by unfold limOf; rw [getD_of rd0 hx]
  obtain ⟨s1, s2⟩ := s
  simp only at hI
  refine ⟨?_, ?_⟩
  ·unfold heat_newFurnace.b0 nfStep
   rw [e1, e2]
   simp only [lt_dec hi, cond_true, at_of hx, Option.bind_some, heat_least_eq, heat_most_eq]
   cases h1 : lo? f.Readings[i] with
   | none =>
    cases h2 : hi? f.Readings[i] with
    | none => simp
    | some n2 =>
     simp only [Option.isSome_none, Option.isSome_some, cond_true, cond_false, Option.getD_some, Option.map_none, Option.map_some, Option.toList_none, Option.toList_some, List.append_nil]
     rw [push_of (by omega) (by omega)]; rfl
   | some n1 =>
    simp only [Option.isSome_some, cond_true, Option.getD_some]
    rw [push_of (by omega) (by omega)]
    cases h2 : hi? f.Readings[i] with
    | none => simp
    | some n2 =>
     simp only [Option.bind_some, Option.isSome_some, cond_true, Option.getD_some, Option.map_some, Option.toList_some]
     rw [push_of (by omega) (by omega)]; rfl
  ·unfold nfStep
   simp only [List.length_append]
   have : ∀ o : Option heat_limit, o.toList.length ≤ 1 := fun o => by cases o <;> simp
   have t1 := this (limOf f.Readings lo? i)
   have t2 := this (limOf f.Readings hi? i)
   exact ⟨by omega, by omega⟩
 ·intro s _
  unfold heat_newFurnace.b0
  simp only [lt_dec_self]; rfl
def rdOk (P : Nat) (r : Reading) : Prop := 0 ≤ r.Place ∧ r.Place < P ∧ (r.Kind = 1 ∨ r.Kind = 2 ∨ r.Kind = 3) ∧ (∀ n, lo? r = some n → -3000 ≤ n ∧ n ≤ 3000) ∧ ∀ n, hi? r = some n → -3000 ≤ n ∧ n ≤ 3000
structure Firing.ok (f : Firing) : Prop where
 k : kilnB f.Kiln = true
 l : f.Readings.length ≤ 100
 r : ∀ r ∈ f.Readings, rdOk f.Kiln.P r
theorem readB_ok {P : Nat} (hP : 1 ≤ P ∧ P ≤ 24) {r : Reading} (h : readB (P : Int) r = true) : rdOk P r := by
 unfold readB at h
 simp only [Bool.and_eq_true] at h
 obtain ⟨h1, h2, h3⟩ := h
 simp only [inB, Bool.and_eq_true, decide_eq_true_eq] at h2
 rw [w64_of (by omega) (by omega)] at h2
 refine ⟨by omega, by omega, ?_⟩
 unfold lo? hi?
 by_cases k1 : r.Kind = 1
 ·simp only [k1, decide_true, cond_true, Bool.and_eq_true, inB, decide_eq_true_eq] at h3
  refine ⟨.inl k1, fun n hn => ?_, fun n hn => ?_⟩
  ·simp only [k1, decide_true, cond_true, Option.some.injEq] at hn; omega
  ·simp [k1] at hn
 ·by_cases k2 : r.Kind = 2
  ·simp only [k2, decide_true, cond_true, cond_false, Bool.and_eq_true, inB, decide_eq_true_eq] at h3
   refine ⟨.inr (.inl k2), fun n hn => ?_, fun n hn => ?_⟩
   ·simp [k2] at hn
   ·simp only [k2, decide_true, cond_true, Option.some.injEq] at hn
    simp only [show decide ((2 : Int) = 1) = false by decide, cond_false, Bool.and_eq_true, decide_eq_true_eq] at h3
    rw [w64_of (by omega) (by omega)] at hn; omega
  ·by_cases k3 : r.Kind = 3
   ·simp only [k1, k2, k3, show decide ((3 : Int) = 1) = false by decide, show decide ((3 : Int) = 2) = false by decide, decide_true, cond_true, cond_false, Bool.and_eq_true, rangeB, decide_eq_true_eq] at h3
    refine ⟨.inr (.inr k3), fun n hn => ?_, fun n hn => ?_⟩
    ·simp only [k3, show decide ((3 : Int) = 1) = false by decide, decide_true, cond_true, cond_false, Option.some.injEq] at hn; omega
    ·simp only [k3, show decide ((3 : Int) = 2) = false by decide, decide_true, cond_true, cond_false, Option.some.injEq] at hn; omega
   ·simp [k1, k2, k3] at h3
theorem firing_ok {f : Firing} (h : firingCode f = 0) : f.ok := by
 obtain ⟨h1, h2, h3⟩ := firing_small h
 have hk := kilnB_len h1
 exact ⟨h1, by omega, fun r hr => readB_ok ⟨hk.2.2.1, hk.2.2.2⟩ (h3 r hr)⟩
theorem nf_ok {f : Firing} (h : f.ok) : (nf f).ok := by
 have h2 := h.l
 have a := limsOf_len f.Readings lo?
 have b := limsOf_len f.Readings hi?
 refine ⟨h.k, by show (limsOf f.Readings lo?).length ≤ 1000; omega, fun y hy => ?_, by show (limsOf f.Readings hi?).length ≤ 1000; omega, fun y hy => ?_⟩
 ·obtain ⟨r, hr, h3, h4⟩ := limsOf_bounds hy
  obtain ⟨g1, g2, g3, g4, g5⟩ := h.r r hr
  have := g4 _ h3
  refine ⟨by omega, ?_, this⟩
  rw [h4]; exact g2
 ·obtain ⟨r, hr, h3, h4⟩ := limsOf_bounds hy
  obtain ⟨g1, g2, g3, g4, g5⟩ := h.r r hr
  have := g5 _ h3
  refine ⟨by omega, ?_, this⟩
  rw [h4]; exact g2
theorem fur_small {x : heat_furnace} (h : x.ok) : x.fur.Small x.Firing.Kiln.P := by
 constructor
 ·intro z hz
  obtain ⟨y, hy, rfl⟩ := List.mem_map.1 hz
  obtain ⟨g1, g2, g3, g4⟩ := h.l y hy
  exact ⟨by show y.place.toNat < _; omega, g3, g4⟩
 ·intro z hz
  obtain ⟨y, hy, rfl⟩ := List.mem_map.1 hz
  obtain ⟨g1, g2, g3, g4⟩ := h.m y hy
  exact ⟨by show y.place.toNat < _; omega, g3, g4⟩
theorem set_getD {α : Type} (d : α) (l : List α) (i j : Nat) (x : α) (hi : i < l.length) : (l.set i x).getD j d = if j = i then x else l.getD j d := by
 rw [List.getD_eq_getElem?_getD, List.getD_eq_getElem?_getD, List.getElem?_set]
 by_cases h : j = i
 ·subst h; simp [hi]
 ·rw [if_neg (by omega), if_neg h]
end Go.Abs
namespace Go.Abs
open Go
set_option linter.unusedVariables false
end Go.Abs
namespace Go.Abs
open Go
set_option linter.unusedVariables false
def shownP (x : heat_furnace) (y : heat_limit) (q : Nat) (n : Int) : Prop :=
 (∃ j, j < x.Firing.Kiln.Falls.length ∧ y.heat + x.fur.lo j y.place.toNat ≤ x.fur.U j) ∧ ∀ t, n ≤ t ↔ ∃ j, j < x.Firing.Kiln.Falls.length ∧ y.heat + x.fur.lo j y.place.toNat ≤ x.fur.U j ∧ y.heat + x.fur.lo j y.place.toNat - x.fur.hi j q ≤ t
theorem heat_shownLow_eq {x : heat_furnace} (h : x.ok) {y : heat_limit} (hy : limOk x.Firing.Kiln.P y) {q : Nat} (hq : q < x.Firing.Kiln.P) :
  ∃ r, heat_furnace_shownLow KK x y (q : Int) = some r ∧ (r.2 = true ↔ ∃ j, j < x.Firing.Kiln.Falls.length ∧ y.heat + x.fur.lo j y.place.toNat ≤ x.fur.U j) ∧ (r.2 = true → shownP x y q r.1) := by
 have hk := kilnB_len h.k
 obtain ⟨y1, y2, y3, y4⟩ := hy
 unfold heat_furnace_shownLow
 obtain ⟨h1, h2⟩ := whl_foldN (n := x.Firing.Kiln.Falls.length) (body := heat_furnace_shownLow.b0 KK x y (q : Int)) (k := KK) (fun i (s : Int × Bool) => (s.1, s.2, i))
  (fun s j => bif decide (y.heat + x.fur.lo j y.place.toNat ≤ x.fur.U j) then (bif s.2 then (bif decide (y.heat + x.fur.lo j y.place.toNat - x.fur.hi j q < s.1) then (y.heat + x.fur.lo j y.place.toNat - x.fur.hi j q, true) else s) else (y.heat + x.fur.lo j y.place.toNat - x.fur.hi j q, true)) else s)
  (fun i s => (s.2 = true ↔ ∃ j, j < i ∧ y.heat + x.fur.lo j y.place.toNat ≤ x.fur.U j) ∧ (s.2 = true → ∀ t, s.1 ≤ t ↔ ∃ j, j < i ∧ y.heat + x.fur.lo j y.place.toNat ≤ x.fur.U j ∧ y.heat + x.fur.lo j y.place.toNat - x.fur.hi j q ≤ t)) (s0 := (0, false)) (by omega) (by unfold KK; omega) ⟨by simp, by simp⟩ (fun j s hj hI => by
   have g1 := kilnB_at h.k j q
   have g2 := kilnB_at h.k j y.place.toNat
   have g3 : x.fur.hi j q = (x.Firing.Kiln.at j q).Hi := rfl
   have g4 : x.fur.lo j y.place.toNat = (x.Firing.Kiln.at j y.place.toNat).Lo := rfl
   obtain ⟨s1, s2⟩ := s
   obtain ⟨I1, I2⟩ := hI
   simp only at I1 I2
   refine ⟨?_, ?_⟩
   ·unfold heat_furnace_shownLow.b0
    simp only [lt_dec hj, cond_true, at_row h.k hj, at_cell h.k hj y1 y2, at_cellN h.k hj hq, heat_hottest_eq h hj, hot_U, Option.bind_some, g3, g4]
    rw [w64_of (n := y.heat + (x.Firing.Kiln.at j y.place.toNat).Lo) (by omega) (by omega), w64_of (n := y.heat + (x.Firing.Kiln.at j y.place.toNat).Lo - (x.Firing.Kiln.at j q).Hi) (by omega) (by omega)]
    cases decide (y.heat + (x.Firing.Kiln.at j y.place.toNat).Lo ≤ x.fur.U j) <;> cases s2 <;> cases decide (y.heat + (x.Firing.Kiln.at j y.place.toNat).Lo - (x.Firing.Kiln.at j q).Hi < s1) <;> rfl
   ·by_cases hc : y.heat + x.fur.lo j y.place.toNat ≤ x.fur.U j
    ·simp only [hc, decide_true, cond_true]
     cases s2 with
     | false =>
      simp only [cond_false]
      refine ⟨⟨fun _ => ⟨j, by omega, hc⟩, fun _ => trivial⟩, fun _ t => ⟨fun k => ⟨j, by omega, hc, k⟩, ?_⟩⟩
      rintro ⟨i, k1, k2, k3⟩
      by_cases hij : i = j
      ·subst hij; exact k3
      ·have := I1.2 ⟨i, by omega, k2⟩; cases this
     | true =>
      have I3 := I2 rfl
      simp only [cond_true]
      by_cases hd : y.heat + x.fur.lo j y.place.toNat - x.fur.hi j q < s1
      ·simp only [hd, decide_true, cond_true]
       refine ⟨⟨fun _ => ⟨j, by omega, hc⟩, fun _ => trivial⟩, fun _ t => ⟨fun k => ⟨j, by omega, hc, k⟩, ?_⟩⟩
       rintro ⟨i, k1, k2, k3⟩
       by_cases hij : i = j
       ·subst hij; exact k3
       ·have := (I3 t).2 ⟨i, by omega, k2, k3⟩
        omega
      ·simp only [hd, decide_false, cond_false]
       refine ⟨⟨fun _ => ⟨j, by omega, hc⟩, fun _ => trivial⟩, fun _ t => ⟨fun k => ?_, ?_⟩⟩
       ·obtain ⟨i, k1, k2⟩ := (I3 t).1 k
        exact ⟨i, by omega, k2⟩
       ·rintro ⟨i, k1, k2, k3⟩
        by_cases hij : i = j
        ·subst hij; omega
        ·exact (I3 t).2 ⟨i, by omega, k2, k3⟩
    ·simp only [hc, decide_false, cond_false]
     refine ⟨?_, fun k t => ?_⟩
     ·rw [I1]
      constructor
      ·rintro ⟨i, k1, k2⟩; exact ⟨i, by omega, k2⟩
      ·rintro ⟨i, k1, k2⟩
       by_cases hij : i = j
       ·subst hij; exact absurd k2 hc
       ·exact ⟨i, by omega, k2⟩
     ·rw [I2 k t]
      constructor
      ·rintro ⟨i, k1, k2⟩; exact ⟨i, by omega, k2⟩
      ·rintro ⟨i, k1, k2, k3⟩
       by_cases hij : i = j
       ·subst hij; exact absurd k2 hc
       ·exact ⟨i, by omega, k2, k3⟩) (fun s _ => by
   unfold heat_furnace_shownLow.b0
   simp only [lt_dec_self]; rfl)
 rw [h1]
 exact ⟨_, rfl, h2.1, fun k => ⟨h2.1.1 k, h2.2 k⟩⟩
def cannotL (x : heat_furnace) (y : heat_limit) : List Int := (List.range x.Firing.Kiln.Falls.length).map fun j => bif decide (y.heat + x.fur.lo j y.place.toNat ≤ x.fur.U j) then -1 else bif decide (3000 < y.heat + x.fur.lo j y.place.toNat) then -2 else (hot x j).2
theorem heat_cannot_eq {x : heat_furnace} (h : x.ok) {y : heat_limit} (hy : limOk x.Firing.Kiln.P y) : heat_furnace_cannot KK x y = some (cannotL x y) := by
 have hk := kilnB_len h.k
 obtain ⟨y1, y2, y3, y4⟩ := hy
 unfold heat_furnace_cannot
 have h1 := (whl_foldN (n := x.Firing.Kiln.Falls.length) (body := heat_furnace_cannot.b0 KK x y) (k := KK) (fun i s => (i, s)) (fun s j => s ++ [bif decide (y.heat + x.fur.lo j y.place.toNat ≤ x.fur.U j) then -1 else bif decide (3000 < y.heat + x.fur.lo j y.place.toNat) then -2 else (hot x j).2]) (fun i s => s.length = i) (s0 := []) (by omega) (by unfold KK; omega) rfl ?_ ?_).1
 ·rw [h1, foldl_pushN]; rfl
 ·intro j s hj hI
  refine ⟨?_, by simp [hI]⟩
  have g2 := kilnB_at h.k j y.place.toNat
  have g4 : x.fur.lo j y.place.toNat = (x.Firing.Kiln.at j y.place.toNat).Lo := rfl
  unfold heat_furnace_cannot.b0
  simp only [lt_dec hj, cond_true, at_row h.k hj, at_cell h.k hj y1 y2, heat_hottest_eq h hj, hot_U, Option.bind_some, g4]
  rw [w64_of (n := y.heat + (x.Firing.Kiln.at j y.place.toNat).Lo) (by omega) (by omega)]
  cases decide (y.heat + (x.Firing.Kiln.at j y.place.toNat).Lo ≤ x.fur.U j) with
  | true => simp only [cond_true]; rw [push_of (by omega) (by omega)]; rfl
  | false =>
   cases decide ((3000 : Int) < y.heat + (x.Firing.Kiln.at j y.place.toNat).Lo) with
   | true => simp only [cond_true, cond_false]; rw [push_of (by omega) (by omega)]; rfl
   | false => simp only [cond_false]; rw [push_of (by omega) (by omega)]; rfl
 ·intro s _
  unfold heat_furnace_cannot.b0
  simp only [lt_dec_self]; rfl
def LowPf (x : heat_furnace) (q : Nat) (n : Int) (p : HeatProof) : Prop :=
 (∃ j : Nat, j < x.Firing.Kiln.Falls.length ∧ p = ⟨-2, [(j : Int)]⟩ ∧ n = -x.fur.hi j q) ∨
 (∃ y ∈ x.least, y.place = (q : Int) ∧ p = ⟨y.by_, []⟩ ∧ n = y.heat) ∨
 ∃ y ∈ x.least, y.place ≠ (q : Int) ∧ p = ⟨y.by_, cannotL x y⟩ ∧ shownP x y q n
theorem heat_lowest_eq {x : heat_furnace} (h : x.ok) (hs : x.fur.Sound) {q : Nat} (hq : q < x.Firing.Kiln.P) :
  ∃ n p, heat_furnace_lowest KK x (q : Int) = some (n, p) ∧ (∀ t, n ≤ t ↔ x.fur.Low q t) ∧ LowPf x q n p := by
 have hk := kilnB_len h.k
 have hll := h.ll
 have hm : x.fur.m = x.Firing.Kiln.Falls.length - 1 := rfl
 unfold heat_furnace_lowest
 obtain ⟨h1, h2⟩ := whl_foldN (n := x.Firing.Kiln.Falls.length) (body := heat_furnace_lowest.b0 KK x (q : Int)) (k := KK) (fun i (s : Int × Int × List Int) => (s.1, i, s.2.1, s.2.2))
  (fun s j => bif !decide ((j : Int) = 0) then (bif decide (s.1 < 0 - x.fur.hi j q) then (0 - x.fur.hi j q, -2, [(j : Int)]) else s) else (0 - x.fur.hi j q, -2, [(j : Int)]))
  (fun i s => (i = 0 ∨ (∀ t, s.1 ≤ t ↔ ∀ j, j < i → -x.fur.hi j q ≤ t) ∧ ∃ j : Nat, j < i ∧ s = (-x.fur.hi j q, -2, [(j : Int)]))) (s0 := (-3000, 0, [])) (by omega) (by unfold KK; omega) (.inl rfl) (fun j s hj hI => by
   have g1 := kilnB_at h.k j q
   have g3 : x.fur.hi j q = (x.Firing.Kiln.at j q).Hi := rfl
   obtain ⟨s1, s2, s3⟩ := s
   refine ⟨?_, .inr ?_⟩
   ·unfold heat_furnace_lowest.b0
    simp only [lt_dec hj, cond_true, at_row h.k hj, at_cellN h.k hj hq, Option.bind_some, g3]
    rw [w64_of (n := 0 - (x.Firing.Kiln.at j q).Hi) (by omega) (by omega)]
    cases decide ((j : Int) = 0) <;> cases decide (s1 < 0 - (x.Firing.Kiln.at j q).Hi) <;> rfl
   ·have e0 : (0 : Int) - x.fur.hi j q = -x.fur.hi j q := by omega
    by_cases hj0 : j = 0
    ·subst hj0
     simp only [Int.natCast_zero, decide_true, Bool.not_true, cond_false, e0]
     refine ⟨fun t => ⟨fun k i hi => ?_, fun k => k 0 (by omega)⟩, 0, by omega, rfl⟩
     have : i = 0 := by omega
     subst this; exact k
    ·have hj1 : ¬ ((j : Int) = 0) := by omega
     simp only [hj1, decide_false, Bool.not_false, cond_true, e0]
     rcases hI with hI | ⟨I1, i, I2, I3⟩
     ·exact absurd hI hj0
     ·simp only at I1
      by_cases hc : s1 < -x.fur.hi j q
      ·simp only [hc, decide_true, cond_true]
       refine ⟨fun t => ⟨fun k i hi => ?_, fun k => k j (by omega)⟩, j, by omega, rfl⟩
       by_cases hij : i = j
       ·subst hij; exact k
       ·exact (I1 t).1 (by omega) i (by omega)
      ·simp only [hc, decide_false, cond_false]
       refine ⟨fun t => ⟨fun k i hi => ?_, fun k => (I1 t).2 fun i hi => k i (by omega)⟩, i, by omega, I3⟩
       by_cases hij : i = j
       ·subst hij; omega
       ·exact (I1 t).1 k i (by omega)) (fun s _ => by
   unfold heat_furnace_lowest.b0
   simp only [lt_dec_self]; rfl)
 rw [h1]
 rcases h2 with h2 | ⟨h2, j0, h3, h4⟩
 ·omega
 rw [h4] at h2
 rw [h4]
 simp only [Option.bind_some]
 simp only at h2
 have hw := whl_ok (body := heat_furnace_lowest.b1 KK x (q : Int))
  (fun t => ∃ (i : Nat) (p : HeatProof) (n : Int), t = (p, n, (i : Int)) ∧ i ≤ x.least.length ∧ LowPf x q n p ∧ ∀ t, n ≤ t ↔ (∀ j, j < x.Firing.Kiln.Falls.length → -x.fur.hi j q ≤ t) ∧ ∀ y ∈ x.least.take i, if y.place = (q : Int) then y.heat ≤ t else ∃ j, j < x.Firing.Kiln.Falls.length ∧ y.heat + x.fur.lo j y.place.toNat ≤ x.fur.U j ∧ y.heat + x.fur.lo j y.place.toNat - x.fur.hi j q ≤ t)
  (fun r => ∃ (p : HeatProof) (n : Int), r = .brk (p, n) ∧ LowPf x q n p ∧ ∀ t, n ≤ t ↔ (∀ j, j < x.Firing.Kiln.Falls.length → -x.fur.hi j q ≤ t) ∧ ∀ y ∈ x.least, if y.place = (q : Int) then y.heat ≤ t else ∃ j, j < x.Firing.Kiln.Falls.length ∧ y.heat + x.fur.lo j y.place.toNat ≤ x.fur.U j ∧ y.heat + x.fur.lo j y.place.toNat - x.fur.hi j q ≤ t)
  (fun t => x.least.length - t.2.2.toNat) ?_ KK (⟨-2, [(j0 : Int)]⟩, -x.fur.hi j0 q, 0) ⟨0, _, _, rfl, Nat.zero_le _, .inl ⟨j0, h3, rfl, rfl⟩, fun t => by rw [h2 t]; simp⟩ (by unfold KK; simp only; omega)
 ·obtain ⟨r, k1, ⟨p, n, k2, k3, k4⟩, _⟩ := hw
  rw [k1, k2]
  refine ⟨n, p, rfl, fun t => ?_, k3⟩
  rw [k4 t]
  unfold Fur.Low
  constructor
  ·rintro ⟨m1, m2⟩
   refine ⟨fun j hj => m1 j (by omega), fun z hz e => ?_, fun z hz e => ?_⟩
   ·obtain ⟨y, hy, rfl⟩ := List.mem_map.1 hz
    have := m2 y hy
    have hp := h.l y hy
    have e2 : y.place = (q : Int) := by have e' : y.place.toNat = q := e; have := hp.1; omega
    rw [if_pos e2] at this
    exact this
   ·obtain ⟨y, hy, rfl⟩ := List.mem_map.1 hz
    have := m2 y hy
    have hp := h.l y hy
    have e2 : ¬ y.place = (q : Int) := by intro e2; apply e; show y.place.toNat = q; omega
    rw [if_neg e2] at this
    obtain ⟨j, m3, m4⟩ := this
    exact ⟨j, by omega, m4⟩
  ·rintro ⟨m1, m2, m3⟩
   refine ⟨fun j hj => m1 j (by omega), fun y hy => ?_⟩
   have hp := h.l y hy
   by_cases e2 : y.place = (q : Int)
   ·rw [if_pos e2]
    exact m2 (lp y) (List.mem_map.2 ⟨y, hy, rfl⟩) (by show y.place.toNat = q; omega)
   ·rw [if_neg e2]
    obtain ⟨j, m4, m5⟩ := m3 (lp y) (List.mem_map.2 ⟨y, hy, rfl⟩) (by intro e'; have e'' : y.place.toNat = q := e'; have := hp.1; omega)
    exact ⟨j, by omega, m5⟩
 ·rintro t ⟨i, p, n, rfl, g1, g2, g3⟩
  by_cases hi : i = x.least.length
  ·right; left
   refine ⟨(p, n), ?_, p, n, rfl, g2, fun t => by rw [g3 t, hi, List.take_length]⟩
   unfold heat_furnace_lowest.b1
   simp only [hi, lt_dec_self]; rfl
  ·left
   have hx : x.least[i]? = some x.least[i] := List.getElem?_eq_getElem (by omega)
   generalize x.least[i] = y at hx
   have hym : y ∈ x.least := List.mem_of_getElem? hx
   have hy := h.l y hym
   have hwi : w64 ((i : Int) + 1) = ((i + 1 : Nat) : Int) := w64_succ (n := x.least.length) (by omega) (by omega)
   have hbody : heat_furnace_lowest.b1 KK x (q : Int) (p, n, (i : Int)) = bif decide (y.place = (q : Int)) then (bif decide (n < y.heat) then some (.next ((⟨y.by_, []⟩ : HeatProof), y.heat, ((i + 1 : Nat) : Int))) else some (.next (p, n, ((i + 1 : Nat) : Int)))) else
     (heat_furnace_shownLow KK x y (q : Int)).bind fun r => bif r.2 then (bif decide (n < r.1) then some (.next ((⟨y.by_, cannotL x y⟩ : HeatProof), r.1, ((i + 1 : Nat) : Int))) else some (.next (p, n, ((i + 1 : Nat) : Int)))) else some (.next (p, n, ((i + 1 : Nat) : Int))) := by
    unfold heat_furnace_lowest.b1
    simp only [lt_dec (show i < x.least.length by omega), cond_true, at_of hx, Option.bind_some, heat_cannot_eq h hy, hwi]
   have fin : ∀ (p' : HeatProof) (n' : Int), LowPf x q n' p' → (∀ t, n' ≤ t ↔ n ≤ t ∧ if y.place = (q : Int) then y.heat ≤ t else ∃ j, j < x.Firing.Kiln.Falls.length ∧ y.heat + x.fur.lo j y.place.toNat ≤ x.fur.U j ∧ y.heat + x.fur.lo j y.place.toNat - x.fur.hi j q ≤ t) →
     ∃ (i' : Nat) (p'' : HeatProof) (n'' : Int), ((p', n', ((i + 1 : Nat) : Int)) : HeatProof × Int × Int) = (p'', n'', (i' : Int)) ∧ i' ≤ x.least.length ∧ LowPf x q n'' p'' ∧ ∀ t, n'' ≤ t ↔ (∀ j, j < x.Firing.Kiln.Falls.length → -x.fur.hi j q ≤ t) ∧ ∀ y ∈ x.least.take i', if y.place = (q : Int) then y.heat ≤ t else ∃ j, j < x.Firing.Kiln.Falls.length ∧ y.heat + x.fur.lo j y.place.toNat ≤ x.fur.U j ∧ y.heat + x.fur.lo j y.place.toNat - x.fur.hi j q ≤ t := by
    intro p' n' k1 k2
    refine ⟨i + 1, p', n', rfl, by omega, k1, fun t => ?_⟩
    rw [k2 t, g3 t, take_succ_of hx]
    constructor
    ·rintro ⟨⟨m1, m2⟩, m3⟩
     refine ⟨m1, fun z hz => ?_⟩
     rcases List.mem_append.1 hz with hz | hz
     ·exact m2 z hz
     ·simp only [List.mem_singleton] at hz; subst hz; exact m3
    ·rintro ⟨m1, m2⟩
     exact ⟨⟨m1, fun z hz => m2 z (List.mem_append.2 (.inl hz))⟩, m2 y (List.mem_append.2 (.inr (by simp)))⟩
   have hmeas : ∀ (p' : HeatProof) (n' : Int), x.least.length - ((p', n', ((i + 1 : Nat) : Int)) : HeatProof × Int × Int).2.2.toNat < x.least.length - ((p, n, (i : Int)) : HeatProof × Int × Int).2.2.toNat := by intro p' n'; simp only [Int.toNat_natCast]; omega
   by_cases e2 : y.place = (q : Int)
   ·by_cases hc : n < y.heat
    ·refine ⟨_, by rw [hbody]; simp only [e2, hc, decide_true, cond_true], fin _ _ (.inr (.inl ⟨y, hym, e2, rfl, rfl⟩)) fun t => ?_, hmeas _ _⟩
     rw [if_pos e2]; omega
    ·refine ⟨_, by rw [hbody]; simp only [e2, hc, decide_true, decide_false, cond_true, cond_false], fin _ _ g2 fun t => ?_, hmeas _ _⟩
     rw [if_pos e2]; omega
   ·obtain ⟨r, r1, r2, r3⟩ := heat_shownLow_eq h hy hq
    have hreach : r.2 = true := by
     rw [r2]
     obtain ⟨_, j, k1, k2⟩ := hs.2 (lp y) (List.mem_map.2 ⟨y, hym, rfl⟩)
     exact ⟨j, by omega, k2⟩
    obtain ⟨r4, r5⟩ := r3 hreach
    by_cases hc : n < r.1
    ·refine ⟨_, by rw [hbody, r1]; simp only [e2, hc, hreach, decide_true, decide_false, cond_true, cond_false, Option.bind_some], fin _ _ (.inr (.inr ⟨y, hym, e2, rfl, r4, r5⟩)) fun t => ?_, hmeas _ _⟩
     rw [if_neg e2, ← r5 t]; omega
    ·refine ⟨_, by rw [hbody, r1]; simp only [e2, hc, hreach, decide_true, decide_false, cond_true, cond_false, Option.bind_some], fin _ _ g2 fun t => ?_, hmeas _ _⟩
     rw [if_neg e2, ← r5 t]; omega
def HighPf (x : heat_furnace) (q : Nat) (n : Int) (p : HeatProof) : Prop :=
 (∃ y ∈ x.most, y.place = (q : Int) ∧ p = ⟨y.by_, []⟩ ∧ n = y.heat) ∨
 (p = ⟨-1, (List.range x.Firing.Kiln.Falls.length).map fun j => (hot x j).2⟩ ∧ ∀ t, t ≤ n ↔ ∃ j, j < x.Firing.Kiln.Falls.length ∧ t + x.fur.lo j q ≤ x.fur.U j)
theorem heat_highest_eq {x : heat_furnace} (h : x.ok) (hs : x.fur.Sound) {q : Nat} (hq : q < x.Firing.Kiln.P) :
  ∃ n p, heat_furnace_highest KK x (q : Int) = some (n, p) ∧ (∀ t, t ≤ n ↔ x.fur.High q t) ∧ HighPf x q n p := by
 have hk := kilnB_len h.k
 have hm : x.fur.m = x.Firing.Kiln.Falls.length - 1 := rfl
 unfold heat_furnace_highest
 obtain ⟨h1, h2⟩ := whl_foldN (n := x.Firing.Kiln.Falls.length) (body := heat_furnace_highest.b0 KK x (q : Int)) (k := KK) (fun i (s : Int × List Int) => (s.1, i, s.2))
  (fun s j => (max s.1 (x.fur.U j - x.fur.lo j q), s.2 ++ [(hot x j).2]))
  (fun i s => s.2 = (List.range i).map (fun j => (hot x j).2) ∧ ∀ t, t ≤ s.1 ↔ t ≤ -3000 ∨ ∃ j, j < i ∧ t + x.fur.lo j q ≤ x.fur.U j) (s0 := (-3000, [])) (by omega) (by unfold KK; omega) ⟨rfl, by intro t; simp⟩ (fun j s hj hI => by
   have g1 := kilnB_at h.k j q
   have g2 := U_ge h j
   have g4 : x.fur.lo j q = (x.Firing.Kiln.at j q).Lo := rfl
   have hlen : s.2.length = j := by rw [hI.1]; simp
   refine ⟨?_, ?_, fun t => ?_⟩
   ·unfold heat_furnace_highest.b0
    simp only [lt_dec hj, cond_true, at_row h.k hj, at_cellN h.k hj hq, heat_hottest_eq h hj, hot_U, Option.bind_some, g4]
    rw [w64_of (n := x.fur.U j - (x.Firing.Kiln.at j q).Lo) (by omega) (by omega), push_of (by omega) (by omega)]
    rfl
   ·rw [hI.1, List.range_succ, List.map_append]; rfl
   ·show t ≤ max _ _ ↔ _
    rw [show ∀ a b : Int, t ≤ max a b ↔ t ≤ a ∨ t ≤ b by intro a b; omega, hI.2 t]
    constructor
    ·rintro ((k1 | ⟨i, k1, k2⟩) | k1)
     ·exact .inl k1
     ·exact .inr ⟨i, by omega, k2⟩
     ·exact .inr ⟨j, by omega, by omega⟩
    ·rintro (k1 | ⟨i, k1, k2⟩)
     ·exact .inl (.inl k1)
     ·by_cases hij : i = j
      ·subst hij; exact .inr (by omega)
      ·exact .inl (.inr ⟨i, by omega, k2⟩)) (fun s _ => by
   unfold heat_furnace_highest.b0
   simp only [lt_dec_self]; rfl)
 rw [h1]
 generalize (List.range x.Firing.Kiln.Falls.length).foldl (fun (s : Int × List Int) j => (max s.1 (x.fur.U j - x.fur.lo j q), s.2 ++ [(hot x j).2])) (-3000, []) = s at h2
 obtain ⟨n, l⟩ := s
 obtain ⟨h3, h4⟩ := h2
 simp only at h3 h4
 subst h3
 have h5 : ∀ t, t ≤ n ↔ ∃ j, j < x.Firing.Kiln.Falls.length ∧ t + x.fur.lo j q ≤ x.fur.U j := by
  intro t
  rw [h4]
  refine ⟨?_, .inr⟩
  rintro (k | k)
  ·refine ⟨0, by omega, ?_⟩
   have a1 := hs.1 0 (Nat.zero_le _)
   have a2 := kilnB_at h.k 0 q
   have a3 : x.fur.lo 0 q = (x.Firing.Kiln.at 0 q).Lo := rfl
   omega
  ·exact k
 have hb := bestL_some x.most q (fun y hy => (h.m y hy).1)
 have hH : ∀ t, x.fur.High q t ↔ t ≤ n ∧ ∀ y ∈ x.fur.M, y.1 = q → t ≤ y.2 := by
  intro t
  unfold Fur.High
  rw [h5 t]
  constructor
  ·rintro ⟨⟨j, k1, k2⟩, k3⟩; exact ⟨⟨j, by omega, k2⟩, k3⟩
  ·rintro ⟨⟨j, k1, k2⟩, k3⟩; exact ⟨⟨j, by omega, k2⟩, k3⟩
 simp only [Option.bind_some, heat_best_eq _ h.ml]
 cases hb2 : (bestL x.most (q : Int)).2 with
 | false =>
  rw [hb2] at hb
  have hb3 := (Fur.best_iff _ _).1.1 hb
  refine ⟨n, _, rfl, fun t => ?_, .inr ⟨rfl, h5⟩⟩
  rw [hH t]
  exact ⟨fun k => ⟨k, fun y hy e => absurd e (hb3 y hy)⟩, fun k => k.1⟩
 | true =>
  rw [hb2] at hb
  have hb3 := ((Fur.best_iff _ _).2 _ hb).1
  obtain ⟨hb4, hb5⟩ := bestL_mem _ _ hb2
  have hH2 : ∀ t, x.fur.High q t ↔ t ≤ n ∧ t ≤ (bestL x.most (q : Int)).1.heat := by intro t; rw [hH t, hb3 t]; rfl
  simp only [cond_true]
  by_cases hc : (bestL x.most (q : Int)).1.heat ≤ n
  ·simp only [hc, decide_true, cond_true]
   refine ⟨_, _, rfl, fun t => ?_, .inl ⟨_, hb4, hb5, rfl, rfl⟩⟩
   rw [hH2 t]; omega
  ·simp only [hc, decide_false, cond_false]
   refine ⟨_, _, rfl, fun t => ?_, .inr ⟨rfl, h5⟩⟩
   rw [hH2 t]; omega
theorem heat_bound_eq {x : heat_furnace} (h : x.ok) (hs : x.fur.Sound) {q : Nat} (hq : q < x.Firing.Kiln.P) :
  ∃ r, heat_furnace_bound KK x (q : Int) = some r ∧ (∀ t, r.Lo ≤ t ↔ x.fur.Low q t) ∧ ∀ t, t ≤ r.Hi ↔ x.fur.High q t := by
 obtain ⟨n1, p1, a1, a2, _⟩ := heat_lowest_eq h hs hq
 obtain ⟨n2, p2, b1, b2, _⟩ := heat_highest_eq h hs hq
 unfold heat_furnace_bound
 rw [a1, b1]
 exact ⟨_, rfl, a2, b2⟩
theorem bound_same {f : Fur} {q : Nat} {r s : Range} (h1 : ∀ t, r.Lo ≤ t ↔ f.Low q t) (h2 : ∀ t, t ≤ r.Hi ↔ f.High q t) (h3 : ∀ t, s.Lo ≤ t ↔ f.Low q t) (h4 : ∀ t, t ≤ s.Hi ↔ f.High q t) : r = s := by
 have e1 : r.Lo = s.Lo := eq_of_ge_iff fun t => by rw [h1, h3]
 have e2 : r.Hi = s.Hi := eq_of_le_iff fun t => by rw [h2, h4]
 cases r; cases s; simp only at e1 e2; rw [e1, e2]
end Go.Abs
namespace Go.Abs
open Go
set_option linter.unusedVariables false
def Field.u (x : Field) (j : Nat) : Int := x.Mouths.getD j 0
def Field.d (x : Field) (j p : Nat) : Int := (x.Falls.getD j []).getD p 0
def Field.ht (x : Field) (m p : Nat) : Int := mx (fun j => x.u j - x.d j p) m
structure FieldOk (k : Kiln) (x : Field) : Prop where
 kv : kilnB k = true
 m : x.Mouths.length = k.Falls.length
 f : x.Falls.length = k.Falls.length
 row : ∀ j, j < k.Falls.length → (x.Falls.getD j []).length = k.P
 u : ∀ j, j < k.Falls.length → 0 ≤ x.u j ∧ x.u j ≤ 3000
 d : ∀ j p, j < k.Falls.length → (k.at j p).Lo ≤ x.d j p ∧ x.d j p ≤ (k.at j p).Hi
theorem FieldOk.isField {k : Kiln} {x : Field} (h : FieldOk k x) {f : Fur} (hm : f.m = k.Falls.length - 1) (hlo : ∀ j p, f.lo j p = (k.at j p).Lo) (hhi : ∀ j p, f.hi j p = (k.at j p).Hi) : f.IsField x.u x.d := by
 have hk := kilnB_len h.kv
 intro j hj
 have h1 := h.u j (by omega)
 refine ⟨h1.1, h1.2, fun p => ?_⟩
 rw [hlo, hhi]; exact h.d j p (by omega)
theorem FieldOk.bounds {k : Kiln} {x : Field} (h : FieldOk k x) {j : Nat} (p : Nat) (hj : j < k.Falls.length) : -3000 ≤ x.u j - x.d j p ∧ x.u j - x.d j p ≤ 3000 := by
 have h1 := h.u j hj
 have h2 := h.d j p hj
 have h3 := kilnB_at h.kv j p
 omega
theorem FieldOk.ht {k : Kiln} {x : Field} (h : FieldOk k x) (p : Nat) : -3000 ≤ x.ht (k.Falls.length - 1) p ∧ x.ht (k.Falls.length - 1) p ≤ 3000 := by
 have hk := kilnB_len h.kv
 unfold Field.ht
 rw [mx_le_iff, le_mx_iff]
 exact ⟨⟨0, Nat.zero_le _, (h.bounds p (by omega)).1⟩, fun j hj => (h.bounds p (by omega)).2⟩
theorem R04_heat_eq {k : Kiln} {x : Field} (h : FieldOk k x) {p : Nat} (hp : p < k.P) : R04_heat KK x (p : Int) = some (x.ht (k.Falls.length - 1) p) := by
 have hk := kilnB_len h.kv
 have hm := h.m
 have hf := h.f
 have hr0 := h.row 0 (by omega)
 unfold R04_heat
 have e0 : at? x.Falls (0 : Int) = some (x.Falls.getD 0 []) := at_nat [] (l := x.Falls) (i := 0) (by omega)
 have e1 : at? x.Mouths (0 : Int) = some (x.u 0) := at_nat 0 (l := x.Mouths) (i := 0) (by omega)
 have e2 : at? (x.Falls.getD 0 []) (p : Int) = some (x.d 0 p) := at_nat 0 (by omega)
 have hb0 := h.bounds p (show 0 < k.Falls.length by omega)
 simp only [e0, e1, e2, Option.bind_some]
 rw [w64_of (by omega) (by omega)]
 have hw := whl_ok (body := R04_heat.b0 KK x (p : Int))
  (fun t => ∃ (i : Nat) (s : Int), t = (s, ((i + 1 : Nat) : Int)) ∧ i + 1 ≤ k.Falls.length ∧ s = x.ht i p)
  (fun r => r = .brk (x.ht (k.Falls.length - 1) p)) (fun t => k.Falls.length - t.2.toNat) ?_ KK (x.u 0 - x.d 0 p, 1) ⟨0, _, rfl, by omega, rfl⟩ (by unfold KK; simp only; omega)
 ·obtain ⟨r, k1, k2, _⟩ := hw
  rw [k1, k2]; rfl
 ·rintro t ⟨i, s, rfl, g1, g2⟩
  by_cases hi : i + 1 = k.Falls.length
  ·right; left
   refine ⟨s, ?_, by rw [g2]; congr 2; omega⟩
   unfold R04_heat.b0
   simp only [hm, hi, lt_dec_self]; rfl
  ·left
   have hj : i + 1 < k.Falls.length := by omega
   have hb := h.bounds p hj
   have hr := h.row _ hj
   have e3 : at? x.Mouths ((i + 1 : Nat) : Int) = some (x.u (i + 1)) := at_nat 0 (by omega)
   have e4 : at? (x.Falls.getD (i + 1) []) (p : Int) = some (x.d (i + 1) p) := at_nat 0 (by omega)
   refine ⟨(max s (x.u (i + 1) - x.d (i + 1) p), ((i + 1 + 1 : Nat) : Int)), ?_, ⟨i + 1, _, rfl, hj, by rw [g2]; rfl⟩, by simp only [Int.toNat_natCast]; omega⟩
   unfold R04_heat.b0
   simp only [hm, lt_dec hj, cond_true, e3, e4, at_nat ([] : List Int) (show i + 1 < x.Falls.length by omega), Option.bind_some]
   rw [w64_of (n := x.u (i + 1) - x.d (i + 1) p) (by omega) (by omega), w64_succ (n := k.Falls.length) hj (by omega)]
def rdAg (h : Int) (r : Reading) : Bool := !((lo? r).isSome && decide (h < (lo? r).getD 0)) && !((hi? r).isSome && decide ((hi? r).getD 0 < h))
def agB (f : Firing) (x : Field) : Bool := f.Readings.all fun r => rdAg (x.ht (f.Kiln.Falls.length - 1) r.Place.toNat) r
theorem agB_iff {f : Firing} (h : f.ok) (x : Field) : agB f x = true ↔ (nf f).fur.Agrees x.u x.d := by
 unfold agB Fur.Agrees
 rw [List.all_eq_true]
 have hh : ∀ p, (nf f).fur.heat x.u x.d p = x.ht (f.Kiln.Falls.length - 1) p := fun p => rfl
 have hr : ∀ (n : Int) r, rdAg n r = true ↔ (∀ a, lo? r = some a → a ≤ n) ∧ ∀ b, hi? r = some b → n ≤ b := by
  intro n r
  unfold rdAg
  cases lo? r <;> cases hi? r <;> simp
 constructor
 ·intro g
  refine ⟨fun z hz => ?_, fun z hz => ?_⟩
  ·obtain ⟨r, h1, h2, h3⟩ := limsOf_lp.1 hz
   rw [hh, ← h3]
   exact ((hr _ _).1 (g r h1)).1 _ h2
  ·obtain ⟨r, h1, h2, h3⟩ := limsOf_lp.1 hz
   rw [hh, ← h3]
   exact ((hr _ _).1 (g r h1)).2 _ h2
 ·rintro ⟨g1, g2⟩ r hr'
  rw [hr]
  exact ⟨fun a ha => g1 (r.Place.toNat, a) (limsOf_lp.2 ⟨r, hr', ha, rfl⟩), fun b hb => g2 (r.Place.toNat, b) (limsOf_lp.2 ⟨r, hr', hb, rfl⟩)⟩
end Go.Abs
namespace Go.Abs
open Go
set_option linter.unusedVariables false
def Firing.w (f : Firing) : Prop := f.Readings.length * 24 + 24 ≤ 140737488355328
theorem Firing.q.w {f : Firing} (q : Firing.q f) : Firing.w f := by
 have := q.2.2.1
 have := qB_le
 unfold Firing.w; omega
theorem firing_w {f : Firing} (h : f.ok) : Firing.w f := by have := h.l; unfold Firing.w; omega
theorem firing_s {f : Firing} (h : f.ok) : Firing.s f := by
 obtain ⟨s1, s2, s3⟩ := kilnB_small h.k
 have := h.l
 exact ⟨⟨by unfold Go.maxLen; omega, fun x hx => by rw [s3 x hx]; unfold Go.maxLen; omega⟩, by unfold Go.maxLen; omega⟩
def noFur : heat_furnace := ⟨⟨⟨[]⟩, []⟩, [], []⟩
def askCode (f : Firing) (p : Int) : Int := bif !decide (firingCode f = 0) then 42 else bif !inB p 0 ((f.Kiln.P : Int) - 1) then 43 else bif !soundB (nf f) then 44 else 0
theorem heat_asks_eq (f : Firing) (q : Firing.s f) (w : Firing.w f) (p : Int) : heat_asks KK f p = some (bif decide (askCode f p = 0) then (nf f, 0) else (noFur, askCode f p)) := by
 unfold heat_asks askCode
 rw [heat_newFurnace_eq f w, heat_Check_eq f q]
 simp only [Option.bind_some]
 by_cases h : firingCode f = 0
 ·have hok := firing_ok h
  have hk := kilnB_len hok.k
  obtain ⟨x3, g1, g2, g3⟩ := kilnB_head hok.k
  have hP : x3.length = f.Kiln.P := by unfold Kiln.P; rw [g3]
  simp only [h, decide_true, Bool.not_true, cond_false, g2, Option.bind_some, heat_in_eq, hP, heat_sound_eq (nf_ok hok)]
  rw [w64_of (n := (f.Kiln.P : Int) - 1) (by omega) (by omega)]
  cases inB p 0 ((f.Kiln.P : Int) - 1) with
  | false => rfl
  | true => cases soundB (nf f) <;> rfl
 ·simp only [h, decide_false, Bool.not_false, cond_true]
  rfl
theorem askCode_ok {f : Firing} {p : Int} (h : askCode f p = 0) : firingCode f = 0 ∧ f.ok ∧ 0 ≤ p ∧ p < f.Kiln.P ∧ (nf f).fur.Sound ∧ soundB (nf f) = true := by
 unfold askCode at h
 by_cases hc : firingCode f = 0
 ·have hok := firing_ok hc
  simp only [hc, decide_true, Bool.not_true, cond_false] at h
  cases hi : inB p 0 ((f.Kiln.P : Int) - 1) with
  | false => rw [hi] at h; simp at h
  | true =>
   rw [hi] at h
   cases hs : soundB (nf f) with
   | false => rw [hs] at h; simp at h
   | true =>
    simp only [inB, Bool.and_eq_true, decide_eq_true_eq] at hi
    exact ⟨hc, hok, hi.1, by omega, (soundB_iff (nf_ok hok)).1 hs, rfl⟩
 ·simp [hc] at h
def boundR (f : Firing) (p : Int) (r : Range) : Range × Int := bif decide (askCode f p = 0) then (r, 0) else (⟨0, 0⟩, askCode f p)
def IsBound (f : Firing) (p : Int) (r : Range) : Prop := askCode f p = 0 → (∀ t, r.Lo ≤ t ↔ (nf f).fur.Low p.toNat t) ∧ ∀ t, t ≤ r.Hi ↔ (nf f).fur.High p.toNat t
theorem heat_Bound_eq (f : Firing) (q : Firing.s f) (w : Firing.w f) (p : Int) : ∃ r, IsBound f p r ∧ heat_Bound KK f p = some (boundR f p r) := by
 unfold heat_Bound boundR
 rw [heat_asks_eq f q w]
 simp only [Option.bind_some]
 by_cases h : askCode f p = 0
 ·obtain ⟨h1, h2, h3, h4, h5, h6⟩ := askCode_ok h
  have hpl : ((p.toNat : Nat) : Int) = p := by omega
  obtain ⟨r, e1, e2, e3⟩ := heat_bound_eq (nf_ok h2) h5 (q := p.toNat) (by show p.toNat < f.Kiln.P; omega)
  rw [hpl] at e1
  simp only [h, decide_true, cond_true, Bool.not_true, cond_false, e1, Option.bind_some]
  exact ⟨r, fun _ => ⟨e2, e3⟩, rfl⟩
 ·simp only [h, decide_false, cond_false, Bool.not_false, cond_true]
  exact ⟨⟨0, 0⟩, fun k => absurd k h, trivial⟩
theorem IsBound.one {f : Firing} {p : Int} {r s : Range} (h1 : IsBound f p r) (h2 : IsBound f p s) : boundR f p r = boundR f p s := by
 unfold boundR
 by_cases h : askCode f p = 0
 ·have a := h1 h
  have b := h2 h
  rw [bound_same a.1 a.2 b.1 b.2]
 ·simp only [h, decide_false, cond_false]
end Go.Abs
namespace Go.Abs
open Go
set_option linter.unusedVariables false
def rngX (x : heat_furnace) (q : Nat) : Range := (heat_furnace_bound KK x (q : Int)).getD ⟨0, 0⟩
theorem rngX_spec {x : heat_furnace} (h : x.ok) (hs : x.fur.Sound) {q : Nat} (hq : q < x.Firing.Kiln.P) :
  heat_furnace_bound KK x (q : Int) = some (rngX x q) ∧ (∀ t, (rngX x q).Lo ≤ t ↔ x.fur.Low q t) ∧ ∀ t, t ≤ (rngX x q).Hi ↔ x.fur.High q t := by
 obtain ⟨r, e1, e2, e3⟩ := heat_bound_eq h hs hq
 have : rngX x q = r := by unfold rngX; rw [e1]; rfl
 rw [this]; exact ⟨e1, e2, e3⟩
def ringOf (w : Want) : Reading := ⟨1, w.Place, 3, 0, w.Heat⟩
def wf (f : Firing) (l : List Want) : Firing := ⟨f.Kiln, f.Readings ++ l.map ringOf⟩
end Go.Abs
namespace Go.Abs
open Go
set_option linter.unusedVariables false
end Go.Abs
namespace Go.Abs
open Go
set_option linter.unusedVariables false
end Go.Abs
namespace Go.Abs
open Go
end Go.Abs
namespace Go.Abs
open Go
set_option linter.unusedVariables false
end Go.Abs
namespace Go.Abs
open Go
set_option linter.unusedVariables false
def bndR (f : Firing) (p : Int) : Range × Int := bif decide (askCode f p = 0) then (rngX (nf f) p.toNat, 0) else (⟨0, 0⟩, askCode f p)
theorem rng_isBound (f : Firing) (p : Int) : IsBound f p (rngX (nf f) p.toNat) := by
 intro h
 obtain ⟨h1, h2, h3, h4, h5, h6⟩ := askCode_ok h
 exact (rngX_spec (nf_ok h2) h5 (q := p.toNat) (by show p.toNat < f.Kiln.P; omega)).2
theorem heat_Bound_rng (f : Firing) (q : Firing.s f) (w : Firing.w f) (p : Int) : heat_Bound KK f p = some (bndR f p) := by
 obtain ⟨r, h1, h2⟩ := heat_Bound_eq f q w p
 rw [h2, h1.one (rng_isBound f p)]; rfl
theorem agree_facts {f : Firing} (h : f.ok) {x : Field} (hF : FieldOk f.Kiln x) (ha : agB f x = true) :
  (nf f).fur.Sound ∧ ∀ p, (nf f).fur.High p (x.ht (f.Kiln.Falls.length - 1) p) ∧ (nf f).fur.Low p (x.ht (f.Kiln.Falls.length - 1) p) := by
 have hA := (agB_iff h x).1 ha
 have hI : (nf f).fur.IsField x.u x.d := hF.isField rfl (fun _ _ => rfl) (fun _ _ => rfl)
 exact ⟨hA.sound hI, fun p => ⟨hA.high hI p, hA.low hI p⟩⟩
theorem Fur.High.mono {f : Fur} {q : Nat} {s t : Int} (h : f.High q t) (hst : s ≤ t) : f.High q s := by
 obtain ⟨⟨j, h1, h2⟩, h3⟩ := h
 exact ⟨⟨j, h1, by omega⟩, fun y hy e => by have := h3 y hy e; omega⟩
theorem Fur.sub_sound {f g : Fur} (hm : g.m = f.m) (hlo : g.lo = f.lo) (hhi : g.hi = f.hi) (hL : ∀ x ∈ g.L, x ∈ f.L) (hM : ∀ x ∈ g.M, x ∈ f.M) (hs : f.Sound) : g.Sound ∧ ∀ j, f.U j ≤ g.U j := by
 have hU : ∀ j, f.U j ≤ g.U j := by
  intro j
  rw [Fur.U_iff]
  refine ⟨f.U_le j, fun x hx => ?_⟩
  rw [hhi]
  exact f.U_lim j (hM x hx)
 refine ⟨⟨fun j hj => ?_, fun x hx => ⟨fun y hy e => (hs.2 x (hL x hx)).1 y (hM y hy) e, ?_⟩⟩, hU⟩
 ·have := hs.1 j (by omega)
  have := hU j
  omega
 ·obtain ⟨j, h1, h2⟩ := (hs.2 x (hL x hx)).2
  have := hU j
  exact ⟨j, by omega, by rw [hlo]; omega⟩
theorem sub_sound {f g : Firing} (hk : g.Kiln = f.Kiln) (hr : ∀ r ∈ g.Readings, r ∈ f.Readings) (hs : (nf f).fur.Sound) : (nf g).fur.Sound := by
 refine (Fur.sub_sound (f := (nf f).fur) (g := (nf g).fur) ?_ ?_ ?_ ?_ ?_ hs).1
 ·show g.Kiln.Falls.length - 1 = f.Kiln.Falls.length - 1; rw [hk]
 ·show (fun j p => (g.Kiln.at j p).Lo) = fun j p => (f.Kiln.at j p).Lo; rw [hk]
 ·show (fun j p => (g.Kiln.at j p).Hi) = fun j p => (f.Kiln.at j p).Hi; rw [hk]
 ·intro z hz
  obtain ⟨r, h1, h2⟩ := limsOf_lp.1 hz
  exact limsOf_lp.2 ⟨r, hr r h1, h2⟩
 ·intro z hz
  obtain ⟨r, h1, h2⟩ := limsOf_lp.1 hz
  exact limsOf_lp.2 ⟨r, hr r h1, h2⟩
end Go.Abs
namespace Go.Abs
open Go
set_option linter.unusedVariables false
def rest (f : Firing) : List Int → Option (List Reading)
 | [] => some []
 | n :: l => if n < 0 then rest f l else if n < f.Readings.length then (rest f l).map ((f.Readings.getD n.toNat rd0) :: ·) else none
end Go.Abs
namespace Go.Abs
open Go
set_option linter.unusedVariables false
theorem whl_inv {S E R τ : Type} {n : Nat} {body : τ → Option (Stp τ E R)} (mk : Int → S → τ) (g : S → E) (Inv : Nat → S → Prop) (hn : n ≤ 9223372036854775807) {k : Nat} (hk : n < k) {s0 : S} (h0 : Inv 0 s0)
  (h1 : ∀ i s, i < n → Inv i s → ∃ s', body (mk (i : Int) s) = some (.next (mk (w64 ((i : Int) + 1)) s')) ∧ Inv (i + 1) s') (h2 : ∀ s, Inv n s → body (mk (n : Int) s) = some (.brk (g s))) :
  ∃ s, whl body k (mk 0 s0) = some (.brk (g s)) ∧ Inv n s := by
 have key : ∀ (d i k : Nat) (s : S), i + d = n → d < k → Inv i s → ∃ s1, whl body k (mk (i : Int) s) = some (.brk (g s1)) ∧ Inv n s1 := by
  intro d
  induction d with
  | zero =>
   intro i k s hi hk hI
   cases k with
   | zero => omega
   | succ k =>
    have : i = n := by omega
    subst this
    exact ⟨s, by rw [whl, h2 s hI], hI⟩
  | succ d ih =>
   intro i k s hi hk hI
   cases k with
   | zero => omega
   | succ k =>
    obtain ⟨s', g1, g2⟩ := h1 i s (by omega) hI
    have : w64 ((i : Int) + 1) = ((i + 1 : Nat) : Int) := by rw [w64_of (by omega) (by omega)]; omega
    rw [this] at g1
    obtain ⟨s'', g3, g4⟩ := ih (i + 1) k s' (by omega) (by omega) g2
    exact ⟨s'', by rw [whl, g1]; exact g3, g4⟩
 exact key n 0 k s0 (by omega) hk h0
theorem tmod_bd (a : Int) {m : Int} (h : 0 < m) : -m < Int.tmod a m ∧ Int.tmod a m < m := by
 have h1 := Int.tmod_lt_of_pos a h
 have h2 := Int.lt_tmod_of_pos a h
 exact ⟨h2, h1⟩
theorem R01_Mod_eq (n : Int) {m : Int} (h : 0 < m) (hm : m ≤ 4611686018427387904) : ∃ v, R01_Mod KK n m = some v ∧ 0 ≤ v ∧ v < m := by
 unfold R01_Mod nz?
 rw [if_neg (by omega)]
 simp only [Option.bind_some]
 have h1 := tmod_bd n h
 rw [w64_of (by omega) (by omega)]
 have h2 := tmod_bd (Int.tmod n m + m) h
 refine ⟨_, rfl, Int.tmod_nonneg _ (by omega), h2.2⟩
theorem R01_At_eq (l : List Int) (hl : l.length ≤ Go.maxLen) (i : Int) (hs : l.length * 8 ≤ 140737488355328) : ∃ v, R01_At KK l i = some v := by
 unfold R01_At
 by_cases h : (l.length : Int) = 0
 ·simp [h]
 ·simp only [h, decide_false, cond_false]
  obtain ⟨v, e, h1, h2⟩ := R01_Mod_eq i (m := (l.length : Int)) (by omega) (by omega)
  rw [e]
  simp only [Option.bind_some]
  rw [at_getD 0 h1 h2]
  exact ⟨_, rfl⟩
def rowOk (n : Nat) (s : List Range × List Int) : Prop := s.1.length = n ∧ s.2.length = n ∧ ∀ q, q < n → 20 ≤ (s.1.getD q R0).Lo ∧ (s.1.getD q R0).Lo ≤ s.2.getD q 0 ∧ s.2.getD q 0 ≤ (s.1.getD q R0).Hi ∧ (s.1.getD q R0).Hi ≤ 700
theorem rowOk_push {n : Nat} {s : List Range × List Int} (h : rowOk n s) {r : Range} {v : Int} (h1 : 20 ≤ r.Lo) (h2 : r.Lo ≤ v) (h3 : v ≤ r.Hi) (h4 : r.Hi ≤ 700) : rowOk (n + 1) (s.1 ++ [r], s.2 ++ [v]) := by
 obtain ⟨g1, g2, g3⟩ := h
 refine ⟨by simp [g1], by simp [g2], fun q hq => ?_⟩
 by_cases hqn : q < n
 ·have e1 : (s.1 ++ [r]).getD q R0 = s.1.getD q R0 := by rw [List.getD_eq_getElem?_getD, List.getD_eq_getElem?_getD, List.getElem?_append_left (by omega)]
  have e2 : (s.2 ++ [v]).getD q 0 = s.2.getD q 0 := by rw [List.getD_eq_getElem?_getD, List.getD_eq_getElem?_getD, List.getElem?_append_left (by omega)]
  simp only [e1, e2]; exact g3 q hqn
 ·have hq' : q = n := by omega
  have e1 : (s.1 ++ [r]).getD q R0 = r := by rw [List.getD_eq_getElem?_getD, List.getElem?_append_right (by omega)]; simp [hq', g1]
  have e2 : (s.2 ++ [v]).getD q 0 = v := by rw [List.getD_eq_getElem?_getD, List.getElem?_append_right (by omega)]; simp [hq', g2]
  simp only [e1, e2]; exact ⟨h1, h2, h3, h4⟩
structure RawS (r : R04_Raw) : Prop where
 f : r.Falls.length * 16 ≤ 140737488355328
 h : r.Heats.length * 8 ≤ 140737488355328
 r : r.Readings.length * 32 ≤ 140737488355328
theorem R04_Raw.q.s {r : R04_Raw} (q : R04_Raw.q r) : RawS r := by
 have := qB_le
 obtain ⟨_, _, ⟨_, h1, _⟩, ⟨_, h2, _⟩, ⟨_, h3, _⟩⟩ := q
 exact ⟨by omega, by omega, by omega⟩
theorem made_row (r : R04_Raw) (hr : RawS r) (x1 x2 : Int) (h1 : 0 ≤ x1 ∧ x1 < 4) (h2 : 0 ≤ x2 ∧ x2 < 7) {j : Nat} (hj : j < 4) :
  ∃ s : List Range × List Int, whl (R04_Made.b1 KK r x1 x2 (j : Int)) KK (0, [], []) = some (.brk s) ∧ rowOk (x2.toNat + 1) s := by
 have hf := hr.f
 have e2 : w64 (1 + x2) = ((x2.toNat + 1 : Nat) : Int) := by rw [w64_of (by omega) (by omega)]; omega
 refine whl_inv (n := x2.toNat + 1) (fun i (s : List Range × List Int) => (i, s.1, s.2)) (fun s => s) rowOk (by omega) (by unfold KK; omega) (s0 := ([], [])) ⟨rfl, rfl, fun q hq => by omega⟩ (fun i s hi hI => ?_) (fun s _ => ?_)
 ·obtain ⟨g1, g2, g3⟩ := hI
  have hlt : decide ((i : Int) < w64 (1 + x2)) = true := by rw [e2]; exact lt_dec hi
  have fin : ∀ a b : Int, ∃ s', (R01_Mod KK (w64 ((w64 ((w64 ((j : Int) * 3)) + (w64 ((i : Int) * 2)))) + (w64 (Int.tdiv a 7)))) 6).bind (fun x20 => (R01_Mod KK a 120).bind fun x21 => (push? 16 s.1 (⟨w64 (20 + (w64 (110 * x20))), w64 ((w64 (20 + (w64 (110 * x20)))) + x21)⟩ : Range)).bind fun l22 => (R01_Mod KK b (w64 (x21 + 1))).bind fun x23 => (push? 8 s.2 (w64 ((w64 (20 + (w64 (110 * x20)))) + x23))).bind fun l24 => some (Stp.next (w64 ((i : Int) + 1), l22, l24))) = (some (.next (w64 ((i : Int) + 1), s'.1, s'.2)) : Option (Stp (Int × (List Range) × (List Int)) ((List Range) × (List Int)) (Firing × Field))) ∧ rowOk (i + 1) s' := by
   intro a b
   obtain ⟨v20, m1, m2, m3⟩ := R01_Mod_eq (w64 ((w64 ((w64 ((j : Int) * 3)) + (w64 ((i : Int) * 2)))) + (w64 (Int.tdiv a 7)))) (m := 6) (by omega) (by omega)
   obtain ⟨v21, n1, n2, n3⟩ := R01_Mod_eq a (m := 120) (by omega) (by omega)
   obtain ⟨v23, o1, o2, o3⟩ := R01_Mod_eq b (m := v21 + 1) (by omega) (by omega)
   have w1 : w64 (110 * v20) = 110 * v20 := w64_of (by omega) (by omega)
   have w2 : w64 (20 + 110 * v20) = 20 + 110 * v20 := w64_of (by omega) (by omega)
   have w3 : w64 (20 + 110 * v20 + v21) = 20 + 110 * v20 + v21 := w64_of (by omega) (by omega)
   have w4 : w64 (v21 + 1) = v21 + 1 := w64_of (by omega) (by omega)
   have w5 : w64 (20 + 110 * v20 + v23) = 20 + 110 * v20 + v23 := w64_of (by omega) (by omega)
   simp only [m1, n1, Option.bind_some, w1, w2, w3, w4]
   rw [push_of (by omega) (by omega)]
   simp only [Option.bind_some, o1, w5]
   rw [push_of (by omega) (by omega)]
   exact ⟨(s.1 ++ [⟨20 + 110 * v20, 20 + 110 * v20 + v21⟩], s.2 ++ [20 + 110 * v20 + v23]), rfl, rowOk_push ⟨g1, g2, g3⟩ (by show 20 ≤ 20 + 110 * v20; omega) (by show 20 + 110 * v20 ≤ _; omega) (by show _ ≤ 20 + 110 * v20 + v21; omega) (by show 20 + 110 * v20 + v21 ≤ 700; omega)⟩
  unfold R04_Made.b1
  simp only [hlt, cond_true]
  by_cases hF : (0 : Int) < (r.Falls.length : Int)
  ·have hn : nz? (r.Falls.length : Int) = some () := by unfold nz?; rw [if_neg (by omega)]
   have e3 : w64 ((j : Int) * w64 (1 + x2)) = (j : Int) * ((x2.toNat + 1 : Nat) : Int) := by
    rw [e2]
    have hb : (j : Int) * ((x2.toNat + 1 : Nat) : Int) ≤ 3 * 7 := Int.mul_le_mul (by omega) (by omega) (by omega) (by omega)
    have hb0 : 0 ≤ (j : Int) * ((x2.toNat + 1 : Nat) : Int) := Int.mul_nonneg (by omega) (by omega)
    exact w64_of (by omega) (by omega)
   have hb : (j : Int) * ((x2.toNat + 1 : Nat) : Int) ≤ 3 * 7 := Int.mul_le_mul (by omega) (by omega) (by omega) (by omega)
   have hb0 : 0 ≤ (j : Int) * ((x2.toNat + 1 : Nat) : Int) := Int.mul_nonneg (by omega) (by omega)
   have e4 : w64 ((j : Int) * ((x2.toNat + 1 : Nat) : Int) + (i : Int)) = (j : Int) * ((x2.toNat + 1 : Nat) : Int) + (i : Int) := w64_of (by omega) (by omega)
   have t1 : 0 ≤ Int.tmod ((j : Int) * ((x2.toNat + 1 : Nat) : Int) + (i : Int)) (r.Falls.length : Int) := Int.tmod_nonneg _ (by omega)
   have t2 := (tmod_bd ((j : Int) * ((x2.toNat + 1 : Nat) : Int) + (i : Int)) hF).2
   simp only [hF, decide_true, cond_true, hn, Option.bind_some, e3, e4]
   rw [at_getD (⟨0, 0⟩ : A2 Int) t1 t2]
   simp only [Option.bind_some]
   exact fin _ _
  ·simp only [hF, decide_false, cond_false]
   exact fin 0 0
 ·unfold R04_Made.b1
  simp only [e2, lt_dec_self]; rfl
def kilOk (P n : Nat) (s : List (List Range) × List Int × List (List Int)) : Prop := s.1.length = n ∧ s.2.1.length = n ∧ s.2.2.length = n ∧ ∀ q, q < n → rowOk P (s.1.getD q [], s.2.2.getD q []) ∧ 1000 ≤ s.2.1.getD q 0 ∧ s.2.1.getD q 0 < 1600
theorem getD_app {α : Type} (d : α) (l : List α) (x : α) (q : Nat) : (l ++ [x]).getD q d = if q < l.length then l.getD q d else if q = l.length then x else d := by
 rw [List.getD_eq_getElem?_getD, List.getD_eq_getElem?_getD]
 by_cases h : q < l.length
 ·rw [List.getElem?_append_left h, if_pos h]
 ·rw [List.getElem?_append_right (by omega), if_neg h]
  by_cases h2 : q = l.length
  ·rw [if_pos h2]; simp [h2]
  ·rw [if_neg h2, List.getElem?_eq_none (by simp; omega)]; rfl
theorem made_kiln (r : R04_Raw) (hr : RawS r) (hh : r.Heats.length ≤ Go.maxLen) (x1 x2 : Int) (h1 : 0 ≤ x1 ∧ x1 < 4) (h2 : 0 ≤ x2 ∧ x2 < 7) :
  ∃ s : List (List Range) × List Int × List (List Int), whl (R04_Made.b0 KK r x1 x2) KK (0, [], [], []) = some (.brk s) ∧ kilOk (x2.toNat + 1) (x1.toNat + 1) s := by
 have e1 : w64 (1 + x1) = ((x1.toNat + 1 : Nat) : Int) := by rw [w64_of (by omega) (by omega)]; omega
 refine whl_inv (n := x1.toNat + 1) (fun i (s : List (List Range) × List Int × List (List Int)) => (i, s.1, s.2.1, s.2.2)) (fun s => s) (kilOk (x2.toNat + 1)) (by omega) (by unfold KK; omega) (s0 := ([], [], [])) ⟨rfl, rfl, rfl, fun q hq => by omega⟩ (fun j s hj hI => ?_) (fun s _ => ?_)
 ·obtain ⟨g1, g2, g3, g4⟩ := hI
  have hlt : decide ((j : Int) < w64 (1 + x1)) = true := by rw [e1]; exact lt_dec hj
  obtain ⟨t, t1, t2⟩ := made_row r hr x1 x2 h1 h2 (j := j) (by omega)
  obtain ⟨v, v1⟩ := R01_At_eq r.Heats hh (j : Int) hr.h
  obtain ⟨u, u1, u2, u3⟩ := R01_Mod_eq v (m := 600) (by omega) (by omega)
  have w1 : w64 (1000 + u) = 1000 + u := w64_of (by omega) (by omega)
  refine ⟨(s.1 ++ [t.1], s.2.1 ++ [1000 + u], s.2.2 ++ [t.2]), ?_, by simp [g1], by simp [g2], by simp [g3], fun q hq => ?_⟩
  ·unfold R04_Made.b0
   simp only [hlt, cond_true, t1, Option.bind_some]
   rw [push_of (by omega) (by omega)]
   simp only [Option.bind_some]
   rw [push_of (by omega) (by omega)]
   simp only [Option.bind_some, v1, u1, w1]
   rw [push_of (by omega) (by omega)]
   rfl
  ·simp only [getD_app, g1, g2, g3]
   by_cases hqj : q < j
   ·simp only [hqj, if_true]; exact g4 q hqj
   ·have : q = j := by omega
    subst this
    simp only [Nat.lt_irrefl, if_false, if_true]
    exact ⟨t2, by omega, by omega⟩
 ·unfold R04_Made.b0
  simp only [e1, lt_dec_self]; rfl
theorem kil_field {P m : Nat} (hP : 1 ≤ P ∧ P ≤ 7) (hm : 1 ≤ m ∧ m ≤ 4) {s : List (List Range) × List Int × List (List Int)} (h : kilOk P m s) : FieldOk ⟨s.1⟩ ⟨s.2.1, s.2.2⟩ ∧ (⟨s.1⟩ : Kiln).P = P ∧ (∀ j p, j < m → p < P → ((⟨s.1⟩ : Kiln).at j p).Hi ≤ 700) ∧ ∀ p, p < P → 300 ≤ (⟨s.2.1, s.2.2⟩ : Field).ht (m - 1) p ∧ (⟨s.2.1, s.2.2⟩ : Field).ht (m - 1) p ≤ 1580 := by
 obtain ⟨g1, g2, g3, g4⟩ := h
 have hrow : ∀ j, j < m → (s.1.getD j []).length = P := fun j hj => (g4 j hj).1.1
 have hhead : (s.1.headD []).length = P := by
  have := hrow 0 (by omega)
  cases hs : s.1 with
  | nil => rw [hs] at g1; simp at g1; omega
  | cons a l => rw [hs] at this; simpa using this
 have hat : ∀ j p, (⟨s.1⟩ : Kiln).at j p = (s.1.getD j []).getD p R0 := fun _ _ => rfl
 have hk : kilnB ⟨s.1⟩ = true := by
  simp only [kilnB, inB, Bool.and_eq_true, decide_eq_true_eq, List.all_eq_true, hhead, g1]
  refine ⟨by omega, by omega, fun x hx => ?_⟩
  obtain ⟨j, hj, rfl⟩ := List.getElem_of_mem hx
  have hx' : s.1.getD j [] = s.1[j] := getD_of _ (List.getElem?_eq_getElem hj)
  have hjm : j < m := by omega
  refine ⟨by rw [← hx']; exact hrow j hjm, fun y hy => ?_⟩
  obtain ⟨p, hp, rfl⟩ := List.getElem_of_mem hy
  have h5 := (g4 j hjm).1.2.2 p (by rw [← hrow j hjm, hx']; exact hp)
  simp only [hx'] at h5
  rw [getD_of R0 (List.getElem?_eq_getElem hp)] at h5
  rw [rangeB_iff]
  omega
 have hP2 : (⟨s.1⟩ : Kiln).P = P := hhead
 have hd : ∀ j p, (⟨s.2.1, s.2.2⟩ : Field).d j p = (s.2.2.getD j []).getD p 0 := fun _ _ => rfl
 have hu : ∀ j, (⟨s.2.1, s.2.2⟩ : Field).u j = s.2.1.getD j 0 := fun _ => rfl
 refine ⟨⟨hk, by show s.2.1.length = s.1.length; omega, by show s.2.2.length = s.1.length; omega, fun j hj => ?_, fun j hj => ?_, fun j p hj => ?_⟩, hP2, fun j p hj hp => ?_, fun p hp => ?_⟩
 ·have hj' : j < m := by have : j < s.1.length := hj; omega
  rw [hP2]; exact (g4 j hj').1.2.1
 ·have hj' : j < m := by have : j < s.1.length := hj; omega
  have := g4 j hj'
  rw [hu]; omega
 ·have hj' : j < m := by have : j < s.1.length := hj; omega
  rw [hat, hd]
  by_cases hp : p < P
  ·have := (g4 j hj').1.2.2 p hp
   simp only at this
   omega
  ·have l1 := hrow j hj'
   have l2 := (g4 j hj').1.2.1
   simp only at l2
   rw [getD_none (by omega), getD_none (by omega)]
   exact ⟨Int.le_refl _, Int.le_refl _⟩
 ·rw [hat]
  have := (g4 j hj).1.2.2 p hp
  simp only at this
  omega
 ·unfold Field.ht
  rw [mx_le_iff, le_mx_iff]
  refine ⟨⟨0, Nat.zero_le _, ?_⟩, fun j hj => ?_⟩
  ·have a := g4 0 (by omega)
   have b := a.1.2.2 p hp
   simp only at b
   rw [hu, hd]; omega
  ·have a := g4 j (by omega)
   have b := a.1.2.2 p hp
   simp only at b
   rw [hu, hd]; omega
def madeRd (P : Nat) (x : Field) (m : Nat) (r : Reading) : Prop := readB (P : Int) r = true ∧ rdAg (x.ht m r.Place.toNat) r = true
theorem made_read {P : Nat} (hP : 1 ≤ P ∧ P ≤ 7) {h pl off src kd : Int} (hh : 300 ≤ h ∧ h ≤ 1580) (hp : 0 ≤ pl ∧ pl < P) (ho : 0 ≤ off ∧ off < 90) (hs : 0 ≤ src ∧ src < 12) :
  (readB (P : Int) ⟨w64 (1 + src), pl, 1, min (max (w64 (h - off)) 1) 2000, ⟨0, 0⟩⟩ = true ∧ rdAg h ⟨w64 (1 + src), pl, 1, min (max (w64 (h - off)) 1) 2000, ⟨0, 0⟩⟩ = true) ∧
  (readB (P : Int) ⟨w64 (1 + src), pl, 2, min (max (w64 ((w64 (h + 1)) + off)) 1) 2000, ⟨0, 0⟩⟩ = true ∧ rdAg h ⟨w64 (1 + src), pl, 2, min (max (w64 ((w64 (h + 1)) + off)) 1) 2000, ⟨0, 0⟩⟩ = true) ∧
  (readB (P : Int) ⟨w64 (1 + src), pl, 3, 0, ⟨max (w64 (h - (w64 (Int.tdiv off 2)))) 1, min (w64 (h + off)) 2000⟩⟩ = true ∧ rdAg h ⟨w64 (1 + src), pl, 3, 0, ⟨max (w64 (h - (w64 (Int.tdiv off 2)))) 1, min (w64 (h + off)) 2000⟩⟩ = true) := by
 have w0 : w64 ((P : Int) - 1) = (P : Int) - 1 := w64_of (by omega) (by omega)
 have w1 : w64 (1 + src) = 1 + src := w64_of (by omega) (by omega)
 have w2 : w64 (h - off) = h - off := w64_of (by omega) (by omega)
 have w3 : w64 (h + 1) = h + 1 := w64_of (by omega) (by omega)
 have w4 : w64 (h + 1 + off) = h + 1 + off := w64_of (by omega) (by omega)
 have td : Int.tdiv off 2 = off / 2 := Int.tdiv_eq_ediv_of_nonneg ho.1
 have w5 : w64 (off / 2) = off / 2 := w64_of (by omega) (by omega)
 have w6 : w64 (h - off / 2) = h - off / 2 := w64_of (by omega) (by omega)
 have w7 : w64 (h + off) = h + off := w64_of (by omega) (by omega)
 have k12 : decide ((2 : Int) = 1) = false := by decide
 have k13 : decide ((3 : Int) = 1) = false := by decide
 have k23 : decide ((3 : Int) = 2) = false := by decide
 have k32 : decide ((1 : Int) = 3) = false := by decide
 have k21 : decide ((1 : Int) = 2) = false := by decide
 have k31 : decide ((2 : Int) = 3) = false := by decide
 have w8 : w64 (h + 1 + off - 1) = h + off := by rw [w64_of (by omega) (by omega)]; omega
 refine ⟨⟨?_, ?_⟩, ⟨?_, ?_⟩, ?_, ?_⟩
 ·simp only [readB, inB, w0, w1, w2, decide_true, cond_true, Bool.and_eq_true, decide_eq_true_eq, and_true, true_and]; omega
 ·simp only [rdAg, lo?, hi?, w1, w2, decide_true, cond_true, k21, k32, cond_false, Option.isSome_some, Option.isSome_none, Option.getD_some, Bool.true_and, Bool.false_and, Bool.not_false, Bool.and_true, Bool.not_eq_true', decide_eq_false_iff_not]; omega
 ·simp only [readB, inB, w0, w1, w3, w4, k12, decide_true, cond_true, cond_false, Bool.and_eq_true, decide_eq_true_eq, and_true, true_and]; omega
 ·have e : min (max (h + 1 + off) 1) 2000 = h + 1 + off := by omega
  simp only [rdAg, lo?, hi?, w1, w3, w4, e, w8, decide_true, cond_true, k12, k31, cond_false, Option.isSome_some, Option.isSome_none, Option.getD_some, Bool.true_and, Bool.false_and, Bool.not_false, Bool.not_eq_true', decide_eq_false_iff_not]; omega
 ·simp only [readB, inB, rangeB, w0, w1, td, w5, w6, w7, k13, k23, decide_true, cond_true, cond_false, Bool.and_eq_true, decide_eq_true_eq, and_true, true_and]; omega
 ·simp only [rdAg, lo?, hi?, w1, td, w5, w6, w7, decide_true, cond_true, k13, k23, cond_false, Option.isSome_some, Option.getD_some, Bool.true_and, Bool.and_eq_true, Bool.not_eq_true', decide_eq_false_iff_not]; omega
structure IsMade (f : Firing) (x : Field) : Prop where
 c : firingCode f = 0
 fld : FieldOk f.Kiln x
 a : agB f x = true
 r : f.Readings.length ≤ 14
 P : f.Kiln.P ≤ 7
 m : f.Kiln.Falls.length ≤ 4
 hi : ∀ j p, j < f.Kiln.Falls.length → p < f.Kiln.P → (f.Kiln.at j p).Hi ≤ 700
 ht : ∀ p, p < f.Kiln.P → 300 ≤ x.ht (f.Kiln.Falls.length - 1) p ∧ x.ht (f.Kiln.Falls.length - 1) p ≤ 1580
theorem R04_Made_eq (r : R04_Raw) (q : R04_Raw.q r) : ∃ f x, R04_Made KK r = some (f, x) ∧ IsMade f x := by
 have hr := q.s
 have hh : r.Heats.length ≤ Go.maxLen := q.2.2.2.1.1
 have hrl := hr.r
 unfold R04_Made
 obtain ⟨x1, a1, a2, a3⟩ := R01_Mod_eq r.Mouths (m := 4) (by omega) (by omega)
 obtain ⟨x2, b1, b2, b3⟩ := R01_Mod_eq r.Places (m := 7) (by omega) (by omega)
 obtain ⟨s, c1, c2⟩ := made_kiln r hr hh x1 x2 ⟨a2, a3⟩ ⟨b2, b3⟩
 obtain ⟨s1, s2, s3⟩ := s
 simp only [a1, b1, Option.bind_some, c1]
 obtain ⟨d1, d2, d3, d4⟩ := kil_field (P := x2.toNat + 1) (m := x1.toNat + 1) (by omega) (by omega) c2
 simp only at d1 d2 d3 d4
 have e2 : w64 (1 + x2) = ((x2.toNat + 1 : Nat) : Int) := by rw [w64_of (by omega) (by omega)]; omega
 have hm : s1.length = x1.toNat + 1 := c2.1
 obtain ⟨l, e3, e4, e5⟩ := whl_inv (n := min r.Readings.length 14) (body := R04_Made.b2 KK r x1 x2 s2 s3) (k := KK) (fun i s => (i, s)) id (fun i (s : List Reading) => s.length = i ∧ ∀ y ∈ s, madeRd (x2.toNat + 1) ⟨s2, s3⟩ x1.toNat y) (by omega) (by unfold KK; omega) (s0 := []) ⟨rfl, by simp⟩ (fun i s hi hI => by
  obtain ⟨I1, I2⟩ := hI
  have hi1 : i < r.Readings.length := by omega
  have hi2 : decide ((i : Int) < 14) = true := by simp; omega
  have hx : r.Readings[i]? = some r.Readings[i] := List.getElem?_eq_getElem hi1
  generalize r.Readings[i] = n at hx
  obtain ⟨pl, f1, f2, f3⟩ := R01_Mod_eq n.x0 (m := ((x2.toNat + 1 : Nat) : Int)) (by omega) (by omega)
  obtain ⟨off, g1, g2, g3⟩ := R01_Mod_eq n.x2 (m := 90) (by omega) (by omega)
  obtain ⟨src, h1, h2, h3⟩ := R01_Mod_eq n.x3 (m := 12) (by omega) (by omega)
  obtain ⟨kd, k1, k2, k3⟩ := R01_Mod_eq n.x1 (m := 3) (by omega) (by omega)
  have hpp : ((pl.toNat : Nat) : Int) = pl := by omega
  have eh := R04_heat_eq d1 (p := pl.toNat) (by rw [d2]; omega)
  rw [hpp] at eh
  have hms : (⟨s1⟩ : Kiln).Falls.length - 1 = x1.toNat := by show s1.length - 1 = _; omega
  rw [hms] at eh
  have hb := d4 pl.toNat (by omega)
  rw [show x1.toNat + 1 - 1 = x1.toNat by omega] at hb
  obtain ⟨r1, r2, r3⟩ := made_read (P := x2.toNat + 1) (by omega) (kd := 0) (h := (⟨s2, s3⟩ : Field).ht x1.toNat pl.toNat) hb (pl := pl) ⟨f2, f3⟩ (off := off) ⟨g2, g3⟩ (src := src) ⟨h2, h3⟩
  have wk : w64 (1 + kd) = 1 + kd := w64_of (by omega) (by omega)
  have hall : ∀ y, madeRd (x2.toNat + 1) ⟨s2, s3⟩ x1.toNat y → ∀ z ∈ s ++ [y], madeRd (x2.toNat + 1) ⟨s2, s3⟩ x1.toNat z := by
   intro y hy z hz
   rcases List.mem_append.1 hz with hz | hz
   ·exact I2 z hz
   ·simp only [List.mem_singleton] at hz; subst hz; exact hy
  unfold R04_Made.b2
  simp only [lt_dec hi1, hi2, cond_true, at_of hx, Option.bind_some, e2, f1, g1, h1, k1, eh, wk]
  by_cases q1 : 1 + kd = 1
  ·simp only [q1, decide_true, cond_true]
   rw [push_of (by omega) (by omega)]
   exact ⟨_, rfl, by simp [I1], hall _ r1⟩
  ·simp only [q1, decide_false, cond_false]
   by_cases q2 : 1 + kd = 2
   ·simp only [q2, decide_true, cond_true]
    rw [push_of (by omega) (by omega)]
    exact ⟨_, rfl, by simp [I1], hall _ r2⟩
   ·have q3 : 1 + kd = 3 := by omega
    simp only [q3, show decide ((3 : Int) = 2) = false by decide, cond_false]
    rw [push_of (by omega) (by omega)]
    exact ⟨_, rfl, by simp [I1], hall _ r3⟩) (fun s _ => by
  unfold R04_Made.b2
  by_cases h14 : r.Readings.length ≤ 14
  ·have : min r.Readings.length 14 = r.Readings.length := by omega
   simp only [this, lt_dec_self]; rfl
  ·have : min r.Readings.length 14 = 14 := by omega
   have h15 : decide (((14 : Nat) : Int) < (r.Readings.length : Int)) = true := by simp; omega
   simp only [this, h15, cond_true]; rfl)
 rw [e3]
 refine ⟨⟨⟨s1⟩, l⟩, ⟨s2, s3⟩, rfl, ?_, d1, ?_, by show l.length ≤ 14; omega, by show (⟨s1⟩ : Kiln).P ≤ 7; omega, by show s1.length ≤ 4; omega, fun j p hj hp => d3 j p (by have : j < s1.length := hj; omega) (by rw [← d2]; exact hp), fun p hp => ?_⟩
 ·have hPh : ((⟨s1⟩ : Kiln).Falls.headD []).length = x2.toNat + 1 := d2
  have hlen : ¬ ((60 : Int) < (l.length : Int)) := by omega
  unfold firingCode
  simp only [d1.kv, cond_true]
  have hall : l.all (readB ((((⟨s1⟩ : Kiln).Falls.headD []).length : Nat) : Int)) = true := by
   rw [List.all_eq_true, hPh]
   exact fun y hy => (e5 y hy).1
  rw [hall, decide_eq_false hlen]
  rfl
 ·unfold agB
  rw [List.all_eq_true]
  intro y hy
  have : (⟨s1⟩ : Kiln).Falls.length - 1 = x1.toNat := by show s1.length - 1 = _; omega
  rw [this]
  exact (e5 y hy).2
 ·have : (⟨s1⟩ : Kiln).Falls.length - 1 = x1.toNat + 1 - 1 := by show s1.length - 1 = _; omega
  rw [this]
  exact d4 p (by rw [← d2]; exact hp)
end Go.Abs
namespace Go.Abs
open Go
set_option linter.unusedVariables false
structure Fur.Sub (g f : Fur) : Prop where
 m : g.m = f.m
 lo : g.lo = f.lo
 hi : g.hi = f.hi
 L : ∀ x ∈ g.L, x ∈ f.L
 M : ∀ x ∈ g.M, x ∈ f.M
namespace Fur.Sub
variable {g f : Fur}
theorem U (h : Sub g f) (j : Nat) : f.U j ≤ g.U j := by
 rw [Fur.U_iff]
 refine ⟨f.U_le j, fun x hx => ?_⟩
 rw [h.hi]
 exact f.U_lim j (h.M x hx)
theorem sound (h : Sub g f) (hs : f.Sound) : g.Sound := (Fur.sub_sound h.m h.lo h.hi h.L h.M hs).1
theorem high (h : Sub g f) {q : Nat} {t : Int} (ht : f.High q t) : g.High q t := by
 obtain ⟨⟨j, h1, h2⟩, h3⟩ := ht
 have := h.U j
 exact ⟨⟨j, by rw [h.m]; exact h1, by rw [h.lo]; omega⟩, fun y hy e => h3 y (h.M y hy) e⟩
theorem low (h : Sub g f) {q : Nat} {t : Int} (ht : f.Low q t) : g.Low q t := by
 obtain ⟨h1, h2, h3⟩ := ht
 refine ⟨fun j hj => by rw [h.hi]; exact h1 j (by rw [← h.m]; exact hj), fun x hx e => h2 x (h.L x hx) e, fun x hx e => ?_⟩
 obtain ⟨j, k1, k2, k3⟩ := h3 x (h.L x hx) e
 have := h.U j
 exact ⟨j, by rw [h.m]; exact k1, by rw [h.lo]; omega, by rw [h.lo, h.hi]; exact k3⟩
end Fur.Sub
theorem firingCode_of {f : Firing} (h1 : kilnB f.Kiln = true) (h2 : f.Readings.length ≤ 60) (h3 : ∀ r ∈ f.Readings, readB (f.Kiln.P : Int) r = true) : firingCode f = 0 := by
 unfold firingCode
 have : ¬ ((60 : Int) < (f.Readings.length : Int)) := by omega
 have h4 : f.Readings.all (readB ((f.Kiln.Falls.headD []).length : Int)) = true := by
  rw [List.all_eq_true]; exact h3
 rw [h1, decide_eq_false this, h4]; rfl
theorem askCode_of {f : Firing} (h : firingCode f = 0) (hs : (nf f).fur.Sound) {p : Int} (h0 : 0 ≤ p) (hp : p < f.Kiln.P) : askCode f p = 0 := by
 have hi : inB p 0 ((f.Kiln.P : Int) - 1) = true := by simp [inB]; omega
 have hb : soundB (nf f) = true := (soundB_iff (nf_ok (firing_ok h))).2 hs
 unfold askCode
 simp [h, hi, hb]
theorem bndR_of {f : Firing} {p : Int} (h : askCode f p = 0) : bndR f p = (rngX (nf f) p.toNat, 0) := by unfold bndR; simp [h]
end Go.Abs
namespace Go.Abs
open Go
set_option linter.unusedVariables false
theorem R04_Made_o_eq (k : Nat) (r : R04_Raw) : R04_Made_o k r = R04_Made k r := rfl
end Go.Abs
namespace Go.Abs
open Go
set_option linter.unusedVariables false
def hotRow (a b : List Range) : Prop := ∃ c h : Range, b = a ++ [c, h] ∧ 0 ≤ h.Lo ∧ h.Lo ≤ c.Lo ∧ c.Lo ≤ c.Hi ∧ c.Hi ≤ 3000 ∧ h.Lo ≤ h.Hi ∧ h.Hi ≤ c.Hi
theorem getD_left {α : Type} {d : α} {a b : List α} {q : Nat} (h : q < a.length) : (a ++ b).getD q d = a.getD q d := by
 rw [List.getD_eq_getElem?_getD, List.getD_eq_getElem?_getD, List.getElem?_append_left h]
theorem getD_right {α : Type} {d : α} {a b : List α} {q : Nat} : (a ++ b).getD (a.length + q) d = b.getD q d := by
 rw [List.getD_eq_getElem?_getD, List.getD_eq_getElem?_getD, List.getElem?_append_right (by omega), show a.length + q - a.length = q by omega]
theorem heatHotter_plain (a0 : R04_Raw) (a1 : List Int) (q0 : R04_Raw.q a0) (q1 : a1.length ≤ Go.maxLen) (q2 : a1.length * 8 ≤ 140737488355328) : L04_HeatHotter KK a0 a1 = some true := by
 obtain ⟨f, x, e0, hm⟩ := R04_Made_eq a0 q0
 have hok := firing_ok hm.c
 have hk := kilnB_len hok.k
 obtain ⟨hS, _⟩ := agree_facts hok hm.fld hm.a
 have hr14 := hm.r
 have hrow := fun j (hj : j < f.Kiln.Falls.length) => kilnB_row hok.k hj
 obtain ⟨l, e1, e2, e3⟩ := whl_inv (n := f.Kiln.Falls.length) (body := L04_HeatHotter.b0 KK a1) (k := KK) (fun i s => (i, s)) id (fun i (s : List (List Range)) => s.length = f.Kiln.Falls.length ∧ ∀ j, j < f.Kiln.Falls.length → if j < i then hotRow (f.Kiln.Falls.getD j []) (s.getD j []) else s.getD j [] = f.Kiln.Falls.getD j []) (by omega) (by unfold KK; omega) (s0 := f.Kiln.Falls) ⟨rfl, fun j hj => by simp⟩ (fun i s hi hI => by
  obtain ⟨I1, I2⟩ := hI
  have hlt : decide ((i : Int) < ((s.length : Nat) : Int)) = true := by rw [I1]; exact lt_dec hi
  have I3 := I2 i hi
  rw [if_neg (by omega)] at I3
  have hP := hrow i hi
  have hb := hm.hi i 0 hi (by omega)
  have hb2 := kilnB_at hok.k i 0
  have hcell : at? (f.Kiln.Falls.getD i []) (0 : Int) = some (f.Kiln.at i 0) := at_cellN hok.k hi (p := 0) (by omega)
  obtain ⟨u, u1⟩ := R01_At_eq a1 q1 (i : Int) q2
  obtain ⟨b, b1, b2, b3⟩ := R01_Mod_eq u (m := 300) (by omega) (by omega)
  have w0 : w64 ((i : Int) + 1) = (i : Int) + 1 := w64_of (by omega) (by omega)
  obtain ⟨v, v1⟩ := R01_At_eq a1 q1 ((i : Int) + 1) q2
  obtain ⟨c, c1, c2, c3⟩ := R01_Mod_eq v (m := 100) (by omega) (by omega)
  generalize f.Kiln.at i 0 = a at hb hb2 hcell
  have w1 : w64 (a.Lo + 300) = a.Lo + 300 := w64_of (by omega) (by omega)
  have w2 : w64 (a.Hi + 400) = a.Hi + 400 := w64_of (by omega) (by omega)
  obtain ⟨hi', ehi⟩ : ∃ z, max (a.Lo + 300) (a.Hi + 400) = z := ⟨_, rfl⟩
  have w3 : w64 (a.Lo + 300 - b) = a.Lo + 300 - b := w64_of (by omega) (by omega)
  have w4 : w64 (hi' - b) = hi' - b := w64_of (by omega) (by omega)
  have w5 : w64 (hi' - b - c) = hi' - b - c := w64_of (by omega) (by omega)
  refine ⟨s.set i (f.Kiln.Falls.getD i [] ++ [⟨a.Lo + 300, hi'⟩, ⟨a.Lo + 300 - b, max (a.Lo + 300 - b) (hi' - b - c)⟩]), ?_, by simp [I1], fun j hj => ?_⟩
  ·unfold L04_HeatHotter.b0
   simp only [hlt, cond_true]
   rw [at_nat ([] : List Range) (by omega)]
   simp only [Option.bind_some, I3, hcell, u1, b1, w0, v1, c1, w1, w2, ehi, w3, w4, w5]
   rw [room_of (by omega) (by omega)]
   simp only [Option.bind_some]
   have ha : app? 16 (f.Kiln.Falls.getD i []) [(⟨a.Lo + 300, hi'⟩ : Range), ⟨a.Lo + 300 - b, max (a.Lo + 300 - b) (hi' - b - c)⟩] = some (f.Kiln.Falls.getD i [] ++ [⟨a.Lo + 300, hi'⟩, ⟨a.Lo + 300 - b, max (a.Lo + 300 - b) (hi' - b - c)⟩]) := by
    unfold app?
    rw [if_pos (by show _ ∧ _; constructor <;> (simp only [List.length_cons, List.length_nil]; omega))]
   rw [ha]
   simp only [Option.bind_some]
   rw [set_of (by omega)]
   rfl
  ·rw [set_getD ([] : List Range) s i j _ (by omega)]
   by_cases hji : j = i
   ·subst hji
    rw [if_pos (by omega), if_pos rfl]
    exact ⟨_, _, rfl, by show 0 ≤ a.Lo + 300 - b; omega, by show a.Lo + 300 - b ≤ a.Lo + 300; omega, by show a.Lo + 300 ≤ hi'; omega, by show hi' ≤ 3000; omega, by show a.Lo + 300 - b ≤ max _ _; omega, by show max _ _ ≤ hi'; omega⟩
   ·rw [if_neg hji]
    have := I2 j hj
    by_cases h2 : j < i
    ·rw [if_pos h2] at this; rw [if_pos (by omega)]; exact this
    ·rw [if_neg h2] at this; rw [if_neg (by omega)]; exact this) (fun s hI => by
  unfold L04_HeatHotter.b0
  simp only [hI.1, lt_dec_self]; rfl)
 have hr : ∀ j, j < f.Kiln.Falls.length → hotRow (f.Kiln.Falls.getD j []) (l.getD j []) := fun j hj => by
  have := e3 j hj
  rw [if_pos hj] at this; exact this
 have hlenr : ∀ j, j < f.Kiln.Falls.length → (l.getD j []).length = f.Kiln.P + 2 := fun j hj => by
  obtain ⟨c, h, e, _⟩ := hr j hj
  rw [e, List.length_append, kilnB_row hok.k hj]; rfl
 have hhead : (l.headD []).length = f.Kiln.P + 2 := by
  have := hlenr 0 (by omega)
  cases hl : l with
  | nil => rw [hl] at e2; simp at e2; omega
  | cons a m => rw [hl] at this; simpa using this
 have hat : ∀ j p, j < f.Kiln.Falls.length → p < f.Kiln.P → (⟨l⟩ : Kiln).at j p = f.Kiln.at j p := fun j p hj hp => by
  obtain ⟨c, h, e, _⟩ := hr j hj
  show (l.getD j []).getD p R0 = (f.Kiln.Falls.getD j []).getD p R0
  rw [e, getD_left (by rw [kilnB_row hok.k hj]; exact hp)]
 have hatc : ∀ j, j < f.Kiln.Falls.length → 0 ≤ ((⟨l⟩ : Kiln).at j (f.Kiln.P + 1)).Lo ∧ ((⟨l⟩ : Kiln).at j (f.Kiln.P + 1)).Lo ≤ ((⟨l⟩ : Kiln).at j f.Kiln.P).Lo ∧ ((⟨l⟩ : Kiln).at j f.Kiln.P).Lo ≤ ((⟨l⟩ : Kiln).at j f.Kiln.P).Hi ∧ ((⟨l⟩ : Kiln).at j f.Kiln.P).Hi ≤ 3000 ∧ ((⟨l⟩ : Kiln).at j (f.Kiln.P + 1)).Lo ≤ ((⟨l⟩ : Kiln).at j (f.Kiln.P + 1)).Hi ∧ ((⟨l⟩ : Kiln).at j (f.Kiln.P + 1)).Hi ≤ ((⟨l⟩ : Kiln).at j f.Kiln.P).Hi := fun j hj => by
  obtain ⟨c, h, e, hh⟩ := hr j hj
  have l1 := kilnB_row hok.k hj
  have ec : (⟨l⟩ : Kiln).at j f.Kiln.P = c := by
   show (l.getD j []).getD f.Kiln.P R0 = c
   have := getD_right (d := R0) (a := f.Kiln.Falls.getD j []) (b := [c, h]) (q := 0)
   rw [l1] at this
   rw [e]; exact this
  have eh : (⟨l⟩ : Kiln).at j (f.Kiln.P + 1) = h := by
   show (l.getD j []).getD (f.Kiln.P + 1) R0 = h
   have := getD_right (d := R0) (a := f.Kiln.Falls.getD j []) (b := [c, h]) (q := 1)
   rw [l1] at this
   rw [e]; exact this
  rw [ec, eh]; exact hh
 have hP7 := hm.P
 have hkb : kilnB ⟨l⟩ = true := by
  simp only [kilnB, inB, Bool.and_eq_true, decide_eq_true_eq, List.all_eq_true, hhead, e2]
  refine ⟨by omega, by omega, fun y hy => ?_⟩
  obtain ⟨j, hj, rfl⟩ := List.getElem_of_mem hy
  have hj' : j < f.Kiln.Falls.length := by omega
  have hx' : l.getD j [] = l[j] := getD_of _ (List.getElem?_eq_getElem hj)
  refine ⟨by rw [← hx']; exact hlenr j hj', fun z hz => ?_⟩
  obtain ⟨p, hp, rfl⟩ := List.getElem_of_mem hz
  have hpl : p < f.Kiln.P + 2 := by rw [← hlenr j hj', hx']; exact hp
  have hz' : (⟨l⟩ : Kiln).at j p = l[j][p] := by
   show (l.getD j []).getD p R0 = _
   rw [hx']; exact getD_of _ (List.getElem?_eq_getElem hp)
  rw [← hz', rangeB_iff]
  by_cases h1 : p < f.Kiln.P
  ·rw [hat j p hj' h1]; exact kilnB_at hok.k j p
  ·have h2 := hatc j hj'
   rcases (by omega : p = f.Kiln.P ∨ p = f.Kiln.P + 1) with rfl | rfl
   ·omega
   ·omega
 have hP2 : (⟨l⟩ : Kiln).P = f.Kiln.P + 2 := hhead
 obtain ⟨_, _, hrf⟩ := firing_small hm.c
 have wP : w64 ((f.Kiln.P : Int) - 1) = (f.Kiln.P : Int) - 1 := w64_of (by omega) (by omega)
 have wP2 : w64 (((f.Kiln.P + 2 : Nat) : Int) - 1) = (f.Kiln.P : Int) + 1 := by rw [w64_of (by omega) (by omega)]; omega
 have hc : firingCode ⟨⟨l⟩, f.Readings⟩ = 0 := firingCode_of hkb (by show f.Readings.length ≤ 60; omega) (fun r hr => by
  have := hrf r hr
  show readB (((⟨l⟩ : Kiln).P : Nat) : Int) r = true
  rw [hP2]
  have this' : readB (f.Kiln.P : Int) r = true := this
  unfold readB at this' ⊢
  rw [wP] at this'
  rw [wP2]
  simp only [Bool.and_eq_true] at this' ⊢
  refine ⟨this'.1, ?_, this'.2.2⟩
  have := this'.2.1
  simp only [inB, Bool.and_eq_true, decide_eq_true_eq] at this ⊢
  omega)
 have hgok := firing_ok hc
 have hgm : (nf ⟨⟨l⟩, f.Readings⟩).fur.m = (nf f).fur.m := by show l.length - 1 = f.Kiln.Falls.length - 1; rw [e2]
 have hm' : (nf f).fur.m = f.Kiln.Falls.length - 1 := rfl
 have hsm := fur_small (nf_ok hok)
 have hU : ∀ j, j ≤ (nf f).fur.m → (nf ⟨⟨l⟩, f.Readings⟩).fur.U j = (nf f).fur.U j := fun j hj => by
  refine eq_of_le_iff fun t => ?_
  rw [Fur.U_iff, Fur.U_iff]
  have : ∀ z ∈ (nf f).fur.M, (nf ⟨⟨l⟩, f.Readings⟩).fur.hi j z.1 = (nf f).fur.hi j z.1 := fun z hz => by
   show ((⟨l⟩ : Kiln).at j z.1).Hi = (f.Kiln.at j z.1).Hi
   rw [hat j z.1 (by omega) (hsm.2 z hz).1]
  constructor
  ·rintro ⟨h1, h2⟩; exact ⟨h1, fun z hz => by rw [← this z hz]; exact h2 z hz⟩
  ·rintro ⟨h1, h2⟩; exact ⟨h1, fun z hz => by rw [this z hz]; exact h2 z hz⟩
 have hgS : (nf ⟨⟨l⟩, f.Readings⟩).fur.Sound := by
  refine ⟨fun j hj => ?_, fun z hz => ⟨fun y hy e => (hS.2 z hz).1 y hy e, ?_⟩⟩
  ·rw [hgm] at hj; rw [hU j hj]; exact hS.1 j hj
  ·obtain ⟨j, h1, h2⟩ := (hS.2 z hz).2
   refine ⟨j, by rw [hgm]; exact h1, ?_⟩
   rw [hU j h1]
   have : (nf ⟨⟨l⟩, f.Readings⟩).fur.lo j z.1 = (nf f).fur.lo j z.1 := by
    show ((⟨l⟩ : Kiln).at j z.1).Lo = (f.Kiln.at j z.1).Lo
    rw [hat j z.1 (by omega) (hsm.1 z hz).1]
   rw [this]; exact h2
 have ea : at? l (0 : Int) = some (l.getD 0 []) := at_nat [] (l := l) (i := 0) (by omega)
 have eb : (l.getD 0 []).length = f.Kiln.P + 2 := hlenr 0 (by omega)
 have w6 : w64 (((f.Kiln.P + 2 : Nat) : Int) - 2) = (f.Kiln.P : Int) := by rw [w64_of (by omega) (by omega)]; omega
 have hac : askCode ⟨⟨l⟩, f.Readings⟩ (f.Kiln.P : Int) = 0 := askCode_of hc hgS (by omega) (by rw [hP2]; omega)
 have hah : askCode ⟨⟨l⟩, f.Readings⟩ ((f.Kiln.P : Int) + 1) = 0 := askCode_of hc hgS (by omega) (by rw [hP2]; omega)
 obtain ⟨c1, c2⟩ := rng_isBound _ _ hac
 obtain ⟨d1, d2⟩ := rng_isBound _ _ hah
 have t1 : ((f.Kiln.P : Int) + 1).toNat = f.Kiln.P + 1 := by omega
 have t0 : (f.Kiln.P : Int).toNat = f.Kiln.P := by omega
 rw [t0] at c1 c2
 rw [t1] at d1 d2
 have hglo : ∀ j p, (nf ⟨⟨l⟩, f.Readings⟩).fur.lo j p = ((⟨l⟩ : Kiln).at j p).Lo := fun _ _ => rfl
 have hghi : ∀ j p, (nf ⟨⟨l⟩, f.Readings⟩).fur.hi j p = ((⟨l⟩ : Kiln).at j p).Hi := fun _ _ => rfl
 have hplL : ∀ z ∈ (nf ⟨⟨l⟩, f.Readings⟩).fur.L, z.1 < f.Kiln.P := fun z hz => (hsm.1 z hz).1
 have hplM : ∀ z ∈ (nf ⟨⟨l⟩, f.Readings⟩).fur.M, z.1 < f.Kiln.P := fun z hz => (hsm.2 z hz).1
 have hLo : (rngX (nf ⟨⟨l⟩, f.Readings⟩) f.Kiln.P).Lo ≤ (rngX (nf ⟨⟨l⟩, f.Readings⟩) (f.Kiln.P + 1)).Lo := by
  rw [c1]
  obtain ⟨k1, k2, k3⟩ := (d1 _).1 (Int.le_refl _)
  refine ⟨fun j hj => ?_, fun z hz e => ?_, fun z hz e => ?_⟩
  ·have := k1 j hj
   have := hatc j (by rw [hgm] at hj; omega)
   rw [hghi] at *
   omega
  ·have := hplL z hz; omega
  ·have hz' := hplL z hz
   obtain ⟨j, j1, j2, j3⟩ := k3 z hz (by omega)
   refine ⟨j, j1, j2, ?_⟩
   have := hatc j (by rw [hgm] at j1; omega)
   rw [hghi] at j3 ⊢
   omega
 have hHi : (rngX (nf ⟨⟨l⟩, f.Readings⟩) f.Kiln.P).Hi ≤ (rngX (nf ⟨⟨l⟩, f.Readings⟩) (f.Kiln.P + 1)).Hi := by
  rw [d2]
  obtain ⟨⟨j, j1, j2⟩, k2⟩ := (c2 _).1 (Int.le_refl _)
  refine ⟨⟨j, j1, ?_⟩, fun y hy e => by have := hplM y hy; omega⟩
  have := hatc j (by rw [hgm] at j1; omega)
  rw [hglo] at j2 ⊢
  omega
 have hgs := firing_s hgok
 have hgw := firing_w hgok
 unfold L04_HeatHotter
 simp only [R04_Made_o_eq, e0, Option.bind_some, e1, id, ea, eb, w6, wP2, heat_Bound_rng _ hgs hgw, bndR_of hac, bndR_of hah, t0, t1, decide_true, cond_true, decide_eq_true hLo, decide_eq_true hHi, sane_KK]
end Go.Abs
namespace Go.Proofs.Ytafmgcbfmifaeaa.heatHotter
open Go.Abs
theorem plain (a0 : Go.Abs.R04_Raw) (a1 : (List Int)) : Go.Abs.R04_Raw.q a0 → (fun l => l.length ≤ Go.maxLen ∧ l.length * 8 ≤ qB ∧ ∀ a ∈ l, i64ok a) a1 → ∃ k, L04_HeatHotter k a0 a1 = some true := by
 intro q0 q1; exact ⟨_, heatHotter_plain a0 a1 q0 q1.1 (by have := q1.2.1; have := qB_le; omega)⟩
end Go.Proofs.Ytafmgcbfmifaeaa.heatHotter
namespace Go.Proofs.Ytafmgcbfmifaeaa.heatHotter
open Go.ChangeShapes Go.WideShapes Go.ChangeAt Go.RowKit Go.Abs
set_option maxRecDepth 100000
theorem own : ownKnob Try.prog.godebug = none := by kernel_rfl
theorem contract (H : Type) (enc : TypeId × Value → H) (W : World) (base : Nat) (args : Array Value) (ds gs : List (DataW H)) (before : List MemPlace)
  (hval : ∀ (j : Nat) t v, Try.f3.params[j]? = some t → args[j]? = some v → Value.okWide Try.prog W .any base t v)
  (hW : DataW.Whole enc Try.prog Try.f3.params.toList Rows.heatHotterSpec.vars false W args.toList ds gs before) (hsz0 : (DataW.weightsEach Try.prog (Try.f3.params.toList ++ Rows.heatHotterSpec.plain.varTypes Try.prog) (ds ++ gs)).all (· ≤ reachBytes) = true) :
  Calls Try.prog 3 args W fun e W' => ∃ v, e = .returned v ∧ Rows.heatHotterSpec.post enc Try.prog Try.f3 false true false false W args v W' := by
 have hW' := hW
 obtain ⟨p, q, hA0, hV, rfl, hfz, hnd⟩ := hW
 have hA : DataW.TrodAll enc Try.prog W 0 (fun _ => true) true Try.f3.params.toList args.toList ds p := hA0
 rw [Try.params3] at hA hval
 obtain ⟨v0, vs0, d0, ds0, p0, q0, hargs, rfl, rfl, h0, r0⟩ := trodAll_cons hA
 obtain ⟨v1, vs1, d1, ds1, p1, q1, rfl, rfl, rfl, h1, r1⟩ := trodAll_cons r0
 obtain ⟨rfl, rfl, rfl⟩ := trodAll_nil r1
 have hsz : ∀ (j : Nat) t d, Try.f3.params.toList[j]? = some t → [d0, d1][j]? = some d → ∀ n ∈ d.weights Try.prog t, n ≤ reachBytes := weights_of (by rw [Try.params3]; rfl) hsz0
 rw [Try.params3] at hsz
 obtain rfl : args = #[v0, v1] := by cases args; simp_all
 obtain ⟨a0, Q0, V0⟩ := arg_agg reads_26 (by have h := hval 0 26 v0 rfl rfl; unfold Value.okWide at h; rw [Try.underlying26] at h; obtain ⟨cs, h, _⟩ := h; exact ⟨cs, h⟩) h0 (hsz 0 26 d0 rfl rfl)
 obtain ⟨a1, Q1, V1⟩ := arg_one reads_23 (by have h := hval 1 23 v1 rfl rfl; unfold Value.okWide at h; rw [Try.underlying23] at h; unfold Cell.okWide Cell.ok at h; rw [Try.underlying23] at h; cases v1 <;> first | rfl | (simp at h; done)) (fun l => AV.sl 1 (List.map eI l)) (fun _ => rfl) h1 (hsz 1 23 d1 rfl rfl)
 obtain ⟨k, hk⟩ := plain a0 a1 Q0 Q1
 have hv : VRs (fmAll W) [] [.agg (Go.Abs.R04_Raw.c a0), .sl 1 (List.map eI a1)] [v0, v1] := ⟨rfl, fun i x v h1 h2 => by
  match i with
  | 0 => cases h1; cases h2; exact V0
  | 1 => cases h1; cases h2; exact V1
  | i + 2 => simp at h1⟩
 refine Calls.mono ((L04_HeatHotter_ok k a0 a1 true hk).2 (fmAll W) W _ (fun _ _ _ h => h) hv) ?_
 rintro e W1 ⟨v, y, fm1, rfl, rfl, _, hvr, _, hB⟩
 cases hvr
 exact ⟨_, rfl, law_post (t := 4) (by kernel_rfl) (by kernel_rfl) (by kernel_rfl) hW' rfl hB (by rw [Try.params3]; decide +kernel) rfl Try.underlying4 (by obtain ⟨rfl, _⟩ := trodVars_none hV; rfl)⟩
theorem lifted (os : Os) (started : os.Started) (H : Type) (enc : TypeId × Value → H) :
  ReturnsInHanded {} Try.checked os 3 .any (Rows.heatHotterSpec.pre6 enc Try.prog Try.f3 Rows.heatHotterRow.domain false) (Rows.heatHotterSpec.post enc Try.prog Try.f3 false true false false) := by
 refine returnsInHanded_of_change_sized (C := Try.checked) own started (by kernel_rfl) Try.func3
  (ChangeSpec.witness6 (enc := enc) (C := Try.checked) false ⟨#[], #[.agg #[.int .i64 0, .int .i64 0, .slice none 0 0, .slice none 0 0, .slice none 0 0], .slice none 0 0], []⟩ 8 (by kernel_rfl) (by kernel_rfl) (by kernel_rfl) (by kernel_rfl)) ?_
 intro W base args ds gs before hval0 hW hcnd hsz _
 exact contract H enc W base args ds gs before hval0 hW hsz
theorem over : Rows.heatHotterRow.holds Try.pinned (OpenSpec.ofChange Rows.heatHotterSpec) :=
 OpenClaim.holds_of_wide 3 Try.f3 rfl rfl rfl rfl rfl rfl rfl ⟨rfl, rfl, rfl, rfl, rfl⟩ rfl rfl rfl rfl rfl (by kernel_rfl) Try.func3 (by kernel_rfl)
  (of_decide_eq_true (by kernel_rfl)) (by unfold Func.isWrapper; first | (rw [if_pos (by decide +kernel)]; kernel_rfl) | (rw [if_neg (by decide +kernel)]; exact ⟨rfl, rfl⟩))
  (fun os started H enc _ => lifted os started H enc)
theorem proved : Rows.HeatHotterSaid := over
end Go.Proofs.Ytafmgcbfmifaeaa.heatHotter
