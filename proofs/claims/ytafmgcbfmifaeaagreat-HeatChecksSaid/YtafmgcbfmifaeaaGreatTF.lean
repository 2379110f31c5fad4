/-
  Part 6 of the proof: a machine over named blocks, what each function computes, and what follows. No condition.
-/
import Derived.Test.YtafmgcbfmifaeaaGreatRows
import Derived.WalkKit
import Derived.ProofKit
import Derived.OpenShut
import Derived.Test.YtafmgcbfmifaeaaGreatTE
set_option linter.unusedVariables false
set_option linter.unusedSimpArgs false
set_option linter.all false
namespace Go.Abs
open Go.Proofs
set_option maxRecDepth 20000
set_option linter.unusedVariables false
set_option linter.unusedSimpArgs false
set_option maxHeartbeats 8000000
def F91.s0 : SC :=
 (.seq
  (.seq
   (.reg [⟨some 5, .move (.tmp 4), 3, none, []⟩,
     ⟨some 6, .fieldAddr 24 (.tmp 1) 0, 0, none, []⟩,
     ⟨some 7, .load 22 (.tmp 6), 22, none, [6]⟩,
     ⟨some 8, .call ⟨.builtin .len, #[.tmp 7], #[22]⟩, 3, none, [7]⟩,
     ⟨some 9, .binOp .lss 3 (.tmp 5) (.tmp 8) 3, 4, none, [5, 8]⟩])
   (.cond (.tmp 9)
    .skip
    (.exit 0)))
  (.seq
   (.block 1
    (.dreg [⟨some 12, .fieldAddr 24 (.tmp 3) 0, 0, none, []⟩,
      ⟨some 13, .load 22 (.tmp 12), 22, none, []⟩,
      ⟨some 14, .buildSlice 89 0 #[], 89, none, []⟩,
      ⟨some 15, .fieldAddr 24 (.tmp 1) 0, 0, none, []⟩,
      ⟨some 16, .load 22 (.tmp 15), 22, none, []⟩,
      ⟨some 17, .move (.tmp 4), 3, none, []⟩,
      ⟨some 18, .indexAddr 22 (.tmp 16) (.tmp 17), 0, none, []⟩,
      ⟨some 19, .load 89 (.tmp 18), 89, none, []⟩,
      ⟨some 20, .call ⟨.builtin .append, #[.tmp 14, .tmp 19], #[89, 89]⟩, 89, none, []⟩,
      ⟨some 21, .buildSlice 22 1 #[(0, .tmp 20)], 22, none, []⟩,
      ⟨some 22, .call ⟨.builtin .append, #[.tmp 13, .tmp 21], #[22, 22]⟩, 22, none, []⟩,
      ⟨some 23, .fieldAddr 24 (.tmp 3) 0, 0, none, []⟩,
      ⟨none, .store 22 (.tmp 23) (.tmp 22), 0, none, []⟩] [[], [0], [], [], [3], [], [3, 4, 5], [3, 4, 5, 6], [2, 3, 4, 5, 6, 7], [2, 3, 4, 5, 6, 7, 8], [0, 1, 2, 3, 4, 5, 6, 7, 8, 9], [0, 1, 2, 3, 4, 5, 6, 7, 8, 9, 10], [0, 1, 2, 3, 4, 5, 6, 7, 8, 9, 10, 11]] [12, 13, 14, 15, 16, 17, 18, 19, 20, 21, 22, 23]))
   (.reg [⟨some 10, .move (.tmp 4), 3, none, [4]⟩,
     ⟨some 11, .binOp .add 3 (.tmp 10) (.const (.int .i64 1)) 3, 3, none, [10]⟩,
     ⟨some 4, .assign (.tmp 11), 3, none, [11]⟩])))
def F91.c : SC :=
 (.seq
  (.reg [⟨some 1, .box 24 (.tmp 0), 0, none, [0]⟩,
    ⟨some 2, .alloc 24, 0, none, []⟩])
  (.seq
   (.reg [⟨some 3, .alloc 24, 0, none, []⟩])
   (.seq
    (.seq
     (.reg [⟨some 4, .assign (.const (.int .i64 0)), 3, none, []⟩])
     (.block 0
      (.loop F91.s0)))
    (.seq
     (.reg [⟨some 24, .load 24 (.tmp 3), 24, none, [3]⟩,
       ⟨none, .store 24 (.tmp 2) (.tmp 24), 0, none, [24]⟩])
     .ret))))
theorem F91.rs : Tryz.f91.results.toList = [.cell 2 24] := rfl
def R04_kiln.b0 (k : Nat) (k0 : Kiln) : (Int × (List (List Range))) → Option (Stp (Int × (List (List Range))) ((List (List Range))) (Kiln)) := fun (s : Int × (List (List Range))) => match s with
  | (i1, l2) => 
      bif decide (i1 < (k0.Falls.length : Int)) then
        (at? k0.Falls i1).bind fun x5 =>
        (room? x5.length 16).bind fun _ =>
        (push? 24 l2 x5).bind fun l7 =>
        some (.next (w64 (i1 + 1), l7))
      else
        some (.brk l2)
noncomputable def R04_kiln.h0 (k0 : Kiln) : (Int × (List (List Range))) → St := fun (s : Int × (List (List Range))) => match s with
  | (i1, l2) => ⟨[(1, .ptr 0 0 0), (2, .ptr 0 1 0), (3, .ptr 0 3 0), (4, .int .i64 i1)], [(0, .box [.sl 1 (List.map (eL 2 Range.c) k0.Falls)]), (1, .box [.loc 0 2 1 0 0 0]), (2, .arr 89 1 (List.map (eL 2 Range.c) [])), (3, .box [.loc 0 4 1 0 l2.length l2.length]), (4, .arr 89 1 (List.map (eL 2 Range.c) l2))], [], 5, Tryz.f91.ntmps⟩
noncomputable def R04_kiln.x0 : (List (List Range)) → St := fun (l3 : (List (List Range))) => ⟨[(2, .ptr 0 0 0), (3, .ptr 0 2 0)], [(0, .box [.loc 0 1 1 0 0 0]), (1, .arr 89 1 (List.map (eL 2 Range.c) [])), (2, .box [.loc 0 3 1 0 l3.length l3.length]), (3, .arr 89 1 (List.map (eL 2 Range.c) l3))], [], 4, Tryz.f91.ntmps⟩
def R04_kiln (k : Nat) (k0 : Kiln) : Option (Kiln) :=
  (whl (R04_kiln.b0 k k0) k (0, [])).bind fun r8 => match r8 with
  | .next _ => none
  | .ret v_ => some v_
  | .brk l3 =>
    some (⟨l3⟩ : Kiln)
theorem R04_kiln_ok (k : Nat) (k0 : Kiln) (r : Kiln) (h0 : R04_kiln k k0 = some r) : PCall Tryz.prog 91 [.agg (Kiln.c k0)] (fun y => y = .agg (Kiln.c r)) := by
  refine PCall.nlr (PCall.of_body T_ok (fn := Tryz.f91) (sc := F91.c) (by rfl) (by rfl) (by decide +kernel) (by rfl) (by decide +kernel) (Nat.le_of_ble_eq_true rfl) ?_)
  refine run_sound T_ok 1000 _ _ ?_
  simp only [R04_kiln] at h0
  try simp only [F91.c, go_sem]
  obtain ⟨r8, yr8, h0⟩ := bind_some h0
  refine AKev_loopS yr8 (R04_kiln.h0 k0) (R04_kiln.x0) ?_ ?_ ?_
  · refine Weak.go [1, 2, 3, 4] [0, 16, 17, 32, 33] rfl ?_
    try simp only [R04_kiln.h0, go_sem]
  · rintro ⟨i1, l2⟩ x_1 Bk1 Br1 h1 hnext1 hbrk1 hret1
    refine run_sound T_ok 1000 _ _ ?_
    simp only [R04_kiln.b0] at h1
    try simp only [F91.s0, R04_kiln.h0, go_sem]
    refine AKev_bif h1 (fun c4 h1 => ?_) (fun c4 h1 => ?_)
    · try simp only [c4, go_sem]
      refine AKev_region T_ok follows_ok 1000 ?_
      try simp only [c4, go_sem]
      obtain ⟨x5, yx5, h1⟩ := bind_some h1
      try simp only [at_in yx5, at_get (eL 2 Range.c) yx5, c4, go_sem]
      obtain ⟨u6, yu6, h1⟩ := bind_some h1
      try simp only [room_some yu6, c4, at_in yx5, at_get (eL 2 Range.c) yx5, go_sem]
      obtain ⟨l7, yl7, h1⟩ := bind_some h1
      have eyl7 := push_map (eL 2 Range.c) yl7
      have tyl7 := push_take (eL 2 Range.c) yl7
      have nyl7 := push_len yl7
      have myl7 := push_room yl7
      try simp only [c4, at_in yx5, at_get (eL 2 Range.c) yx5, go_sem] at eyl7 tyl7 nyl7 myl7
      try simp only [myl7, eyl7, c4, at_in yx5, at_get (eL 2 Range.c) yx5, nyl7, tyl7, go_sem]
      refine DG_done ⟨rfl, run_sound T_ok 1000 _ _ ?_⟩
      try simp only [c4, at_in yx5, at_get (eL 2 Range.c) yx5, eyl7, nyl7, tyl7, go_sem]
      refine AKev_backB (hnext1 _ _ (Option.some.inj h1).symm ?_)
      refine Weak.go [1, 2, 3, 4] [0, 1, 2, 3, 4] rfl ?_
      try simp only [R04_kiln.h0, c4, at_in yx5, at_get (eL 2 Range.c) yx5, eyl7, nyl7, tyl7, go_sem]
    · try simp only [c4, go_sem]
      refine AKev_backB (hbrk1 _ _ (Option.some.inj h1).symm ?_)
      refine Weak.go [2, 3] [1, 2, 3, 4] rfl ?_
      try simp only [R04_kiln.x0, c4, go_sem]
  · rintro l3 hr_
    subst hr_
    simp only at h0
    refine run_sound T_ok 1000 _ _ ?_
    try simp only [R04_kiln.x0, go_sem]
    obtain rfl := Option.some.inj h0
    refine AKev_ret rfl ?_
    try simp only [F91.rs, go_sem]
end Go.Abs
namespace Go.Abs
open Go.Proofs
set_option maxRecDepth 20000
set_option linter.unusedVariables false
set_option linter.unusedSimpArgs false
set_option maxHeartbeats 8000000
def F30.c : SC :=
 (.seq
  (.reg [⟨some 2, .box 27 (.tmp 0), 0, none, [0]⟩,
    ⟨some 3, .box 64 (.tmp 1), 0, none, [1]⟩,
    ⟨some 4, .alloc 27, 0, none, []⟩,
    ⟨some 5, .assign (.const (.int .i64 0)), 33, none, [5]⟩])
  (.seq
   (.seq
    (.reg [⟨some 6, .load 27 (.tmp 2), 27, none, []⟩,
      ⟨some 7, .call ⟨.value (.func 43), #[.tmp 6], #[27]⟩, 33, none, [6]⟩,
      ⟨some 8, .binOp .neq 33 (.tmp 7) (.const (.int .i64 0)) 33, 4, none, [7]⟩])
    (.cond (.tmp 8)
     (.seq
      (.reg [⟨some 9, .build 27 #[], 27, none, []⟩,
        ⟨none, .store 27 (.tmp 4) (.tmp 9), 0, none, [9]⟩,
        ⟨some 5, .assign (.const (.int .i64 42)), 33, none, []⟩])
      .ret)
     .skip))
   (.seq
    (.seq
     (.reg [⟨some 10, .fieldAddr 27 (.tmp 2) 0, 0, none, []⟩,
       ⟨some 11, .load 24 (.tmp 10), 24, none, [10]⟩,
       ⟨some 12, .load 64 (.tmp 3), 64, none, []⟩,
       ⟨some 13, .call ⟨.value (.func 90), #[.tmp 11, .tmp 12], #[24, 64]⟩, 4, none, [11, 12]⟩,
       ⟨some 14, .unOp .not 4 (.tmp 13), 4, none, [13]⟩])
     (.cond (.tmp 14)
      (.seq
       (.reg [⟨some 15, .build 27 #[], 27, none, []⟩,
         ⟨none, .store 27 (.tmp 4) (.tmp 15), 0, none, [15]⟩,
         ⟨some 5, .assign (.const (.int .i64 41)), 33, none, []⟩])
       .ret)
      .skip))
    (.seq
     (.seq
      (.reg [⟨some 16, .fieldAddr 27 (.tmp 2) 1, 0, none, []⟩,
        ⟨some 17, .load 25 (.tmp 16), 25, none, [16]⟩,
        ⟨some 18, .call ⟨.builtin .len, #[.tmp 17], #[25]⟩, 3, none, [17]⟩,
        ⟨some 19, .binOp .eql 3 (.tmp 18) (.const (.int .i64 60)) 3, 4, none, [18]⟩])
      (.cond (.tmp 19)
       (.seq
        (.reg [⟨some 20, .build 27 #[], 27, none, []⟩,
          ⟨none, .store 27 (.tmp 4) (.tmp 20), 0, none, [20]⟩,
          ⟨some 5, .assign (.const (.int .i64 2)), 33, none, []⟩])
        .ret)
       .skip))
     (.seq
      (.dreg [⟨some 21, .fieldAddr 27 (.tmp 2) 0, 0, none, []⟩,
        ⟨some 22, .load 24 (.tmp 21), 24, none, []⟩,
        ⟨some 23, .call ⟨.value (.func 91), #[.tmp 22], #[24]⟩, 24, none, []⟩,
        ⟨some 24, .buildSlice 25 0 #[], 25, none, []⟩,
        ⟨some 25, .fieldAddr 27 (.tmp 2) 1, 0, none, []⟩,
        ⟨some 26, .load 25 (.tmp 25), 25, none, []⟩,
        ⟨some 27, .call ⟨.builtin .append, #[.tmp 24, .tmp 26], #[25, 25]⟩, 25, none, []⟩,
        ⟨some 28, .load 64 (.tmp 3), 64, none, []⟩,
        ⟨some 29, .buildSlice 25 1 #[(0, .tmp 28)], 25, none, []⟩,
        ⟨some 30, .call ⟨.builtin .append, #[.tmp 27, .tmp 29], #[25, 25]⟩, 25, none, []⟩,
        ⟨some 31, .build 27 #[(0, .tmp 23), (1, .tmp 30)], 27, none, []⟩,
        ⟨none, .store 27 (.tmp 4) (.tmp 31), 0, none, []⟩,
        ⟨some 5, .assign (.const (.int .i64 0)), 33, none, []⟩] [[], [0], [0, 1], [], [], [4], [3, 4, 5, 0, 1, 2], [], [7], [3, 4, 5, 0, 1, 2, 6, 7, 8], [0, 1, 2, 3, 4, 5, 6, 7, 8, 9], [0, 1, 2, 3, 4, 5, 6, 7, 8, 9, 10], [0, 1, 2, 3, 4, 5, 6, 7, 8, 9, 10, 11]] [2, 3, 21, 22, 23, 24, 25, 26, 27, 28, 29, 30, 31])
      .ret)))))
theorem F30.rs : Tryz.f30.results.toList = [.cell 4 27, .tmp 5] := rfl
def R04_With (k : Nat) (f0 : Firing) (r1 : Reading) : Option (Firing × Int) :=
  (R04_Check k f0).bind fun x1 =>
  bif (!decide (x1 = (0 : Int))) then
    some ((⟨(⟨[]⟩ : Kiln), []⟩ : Firing), 42)
  else
    (R04_isReading k f0.Kiln r1).bind fun x3 =>
    bif (!x3) then
      some ((⟨(⟨[]⟩ : Kiln), []⟩ : Firing), 41)
    else
      bif decide ((f0.Readings.length : Int) = (60 : Int)) then
        some ((⟨(⟨[]⟩ : Kiln), []⟩ : Firing), 2)
      else
        (R04_kiln k f0.Kiln).bind fun x6 =>
        (room? f0.Readings.length 48).bind fun _ =>
        (push? 48 f0.Readings r1).bind fun l8 =>
        some ((⟨x6, l8⟩ : Firing), 0)
theorem R04_With_ok (k : Nat) (f0 : Firing) (r1 : Reading) (r : Firing × Int) (h0 : R04_With k f0 r1 = some r) : PCall Tryz.prog 30 [.agg (Firing.c f0), .agg (Reading.c r1)] (fun y => y = .tup [.agg (Firing.c r.1), .int .i64 r.2]) := by
  refine PCall.nlr (PCall.of_body T_ok (fn := Tryz.f30) (sc := F30.c) (by rfl) (by rfl) (by decide +kernel) (by rfl) (by decide +kernel) (Nat.le_of_ble_eq_true rfl) ?_)
  refine run_sound T_ok 1000 _ _ ?_
  simp only [R04_With] at h0
  try simp only [F30.c, go_sem]
  obtain ⟨x1, yx1, h0⟩ := bind_some h0
  refine AKev_call0 T_ok 1000 (R04_Check_ok k _ _ yx1) ?_ (by first | rfl | simp [AV.refsL, AV.refs, AV.scal, AV.leaf]) ?_
  · try simp only [go_sem]
  try simp only [go_sem]
  refine AKev_bif h0 (fun c2 h0 => ?_) (fun c2 h0 => ?_)
  · have c2 := bnot_t c2
    try simp only [c2, go_sem]
    obtain rfl := Option.some.inj h0
    refine AKev_ret rfl ?_
    try simp only [F30.rs, c2, go_sem]
  · have c2 := bnot_f c2
    try simp only [c2, go_sem]
    obtain ⟨x3, yx3, h0⟩ := bind_some h0
    refine AKev_call0 T_ok 1000 (R04_isReading_ok k _ _ _ yx3) ?_ (by first | rfl | simp [AV.refsL, AV.refs, AV.scal, AV.leaf]) ?_
    · try simp only [c2, go_sem]
    try simp only [c2, go_sem]
    refine AKev_bif h0 (fun c4 h0 => ?_) (fun c4 h0 => ?_)
    · have c4 := bnot_t c4
      try simp only [c4, c2, go_sem]
      obtain rfl := Option.some.inj h0
      refine AKev_ret rfl ?_
      try simp only [F30.rs, c2, c4, go_sem]
    · have c4 := bnot_f c4
      try simp only [c4, c2, go_sem]
      refine AKev_bif h0 (fun c5 h0 => ?_) (fun c5 h0 => ?_)
      · try simp only [c5, c2, c4, go_sem]
        obtain rfl := Option.some.inj h0
        refine AKev_ret rfl ?_
        try simp only [F30.rs, c2, c4, c5, go_sem]
      · try simp only [c5, c2, c4, go_sem]
        refine AKev_region T_ok follows_ok 1000 ?_
        try simp only [c2, c4, c5, go_sem]
        obtain ⟨x6, yx6, h0⟩ := bind_some h0
        refine DG_call0 1000 (R04_kiln_ok k _ _ yx6) ?_ (by first | rfl | simp [AV.refsL, AV.refs, AV.scal, AV.leaf]) ?_
        · try simp only [c2, c4, c5, go_sem]
        try simp only [c2, c4, c5, go_sem]
        obtain ⟨u7, yu7, h0⟩ := bind_some h0
        try simp only [room_some yu7, c2, c4, c5, go_sem]
        obtain ⟨l8, yl8, h0⟩ := bind_some h0
        have eyl8 := push_map Reading.c yl8
        have tyl8 := push_take Reading.c yl8
        have nyl8 := push_len yl8
        have myl8 := push_room yl8
        try simp only [c2, c4, c5, go_sem] at eyl8 tyl8 nyl8 myl8
        try simp only [myl8, eyl8, c2, c4, c5, nyl8, tyl8, go_sem]
        refine DG_done ⟨rfl, run_sound T_ok 1000 _ _ ?_⟩
        try simp only [c2, c4, c5, eyl8, nyl8, tyl8, go_sem]
        obtain rfl := Option.some.inj h0
        refine AKev_ret rfl ?_
        try simp only [F30.rs, c2, c4, c5, eyl8, nyl8, tyl8, go_sem]
end Go.Abs
namespace Go.Abs
open Go.Proofs
set_option maxRecDepth 20000
set_option linter.unusedVariables false
set_option linter.unusedSimpArgs false
set_option maxHeartbeats 8000000
def F31.c : SC :=
 (.seq
  (.reg [⟨some 1, .box 27 (.tmp 0), 0, none, [0]⟩,
    ⟨some 2, .assign (.const (.slice none 0 0)), 37, none, [2]⟩,
    ⟨some 3, .assign (.const (.int .i64 0)), 33, none, [3]⟩])
  (.seq
   (.seq
    (.reg [⟨some 4, .load 27 (.tmp 1), 27, none, []⟩,
      ⟨some 5, .call ⟨.value (.func 42), #[.tmp 4], #[27]⟩, 33, none, [4]⟩,
      ⟨some 6, .binOp .neq 33 (.tmp 5) (.const (.int .i64 0)) 33, 4, none, [5]⟩])
    (.cond (.tmp 6)
     (.seq
      (.reg [⟨some 2, .assign (.const (.slice none 0 0)), 37, none, []⟩,
        ⟨some 3, .assign (.const (.int .i64 42)), 33, none, []⟩])
      .ret)
     .skip))
   (.seq
    (.reg [⟨some 7, .fieldAddr 27 (.tmp 1) 1, 0, none, [1]⟩,
      ⟨some 8, .load 25 (.tmp 7), 25, none, [7]⟩,
      ⟨some 9, .call ⟨.value (.func 67), #[.tmp 8], #[25]⟩, 37, none, [8]⟩,
      ⟨some 2, .assign (.tmp 9), 37, none, [9]⟩,
      ⟨some 3, .assign (.const (.int .i64 0)), 33, none, []⟩])
    .ret)))
theorem F31.rs : Tryz.f31.results.toList = [.tmp 2, .tmp 3] := rfl
def heat_Sources (k : Nat) (f0 : Firing) : Option ((List Int) × Int) :=
  (heat_Check k f0).bind fun x1 =>
  bif (!decide (x1 = (0 : Int))) then
    some ([], 42)
  else
    (heat_sources k f0.Readings).bind fun x3 =>
    some (x3, 0)
theorem heat_Sources_ok (k : Nat) (f0 : Firing) (r : (List Int) × Int) (h0 : heat_Sources k f0 = some r) : PCall Tryz.prog 31 [.agg (Firing.c f0)] (fun y => y = .tup [.sl 1 (List.map eI r.1), .int .i64 r.2]) := by
  refine PCall.nlr (PCall.of_body T_ok (fn := Tryz.f31) (sc := F31.c) (by rfl) (by rfl) (by decide +kernel) (by rfl) (by decide +kernel) (Nat.le_of_ble_eq_true rfl) ?_)
  refine run_sound T_ok 1000 _ _ ?_
  simp only [heat_Sources] at h0
  try simp only [F31.c, go_sem]
  obtain ⟨x1, yx1, h0⟩ := bind_some h0
  refine AKev_call0 T_ok 1000 (heat_Check_ok k _ _ yx1) ?_ (by first | rfl | simp [AV.refsL, AV.refs, AV.scal, AV.leaf]) ?_
  · try simp only [go_sem]
  try simp only [go_sem]
  refine AKev_bif h0 (fun c2 h0 => ?_) (fun c2 h0 => ?_)
  · have c2 := bnot_t c2
    try simp only [c2, go_sem]
    obtain rfl := Option.some.inj h0
    refine AKev_ret rfl ?_
    try simp only [F31.rs, c2, go_sem]
  · have c2 := bnot_f c2
    try simp only [c2, go_sem]
    obtain ⟨x3, yx3, h0⟩ := bind_some h0
    refine AKev_call0 T_ok 1000 (heat_sources_ok k _ _ yx3) ?_ (by first | rfl | simp [AV.refsL, AV.refs, AV.scal, AV.leaf]) ?_
    · try simp only [c2, go_sem]
    try simp only [c2, go_sem]
    obtain rfl := Option.some.inj h0
    refine AKev_ret rfl ?_
    try simp only [F31.rs, c2, go_sem]
end Go.Abs
namespace Go.Abs
open Go.Proofs
set_option maxRecDepth 20000
set_option linter.unusedVariables false
set_option linter.unusedSimpArgs false
set_option maxHeartbeats 8000000
def F137.s0 : SC :=
 (.seq
  (.seq
   (.reg [⟨some 8, .move (.tmp 7), 3, none, []⟩,
     ⟨some 9, .move (.tmp 0), 37, none, []⟩,
     ⟨some 10, .call ⟨.builtin .len, #[.tmp 9], #[37]⟩, 3, none, [9]⟩,
     ⟨some 11, .binOp .lss 3 (.tmp 8) (.tmp 10) 3, 4, none, [8, 10]⟩])
   (.cond (.tmp 11)
    .skip
    (.exit 0)))
  (.seq
   (.block 1
    (.seq
     (.seq
      (.reg [⟨some 14, .move (.tmp 0), 37, none, []⟩,
        ⟨some 15, .move (.tmp 7), 3, none, []⟩,
        ⟨some 16, .indexAddr 37 (.tmp 14) (.tmp 15), 0, none, [14, 15]⟩,
        ⟨some 17, .load 3 (.tmp 16), 3, none, [16]⟩,
        ⟨some 18, .move (.tmp 1), 3, none, []⟩,
        ⟨some 19, .binOp .eql 3 (.tmp 17) (.tmp 18) 3, 4, none, [17, 18]⟩])
      (.cond (.tmp 19)
       (.seq
        (.reg [⟨some 20, .move (.tmp 0), 37, none, [0]⟩,
          ⟨some 4, .assign (.tmp 20), 37, none, [20]⟩])
        .ret)
       .skip))
     (.seq
      (.seq
       (.reg [⟨some 21, .move (.tmp 6), 4, none, []⟩,
         ⟨some 22, .unOp .not 4 (.tmp 21), 4, none, [21]⟩,
         ⟨some 23, .move (.tmp 22), 4, none, [22]⟩,
         ⟨some 24, .move (.tmp 0), 37, some (23, true), []⟩,
         ⟨some 25, .move (.tmp 7), 3, some (23, true), []⟩,
         ⟨some 26, .indexAddr 37 (.tmp 24) (.tmp 25), 0, some (23, true), [24, 25]⟩,
         ⟨some 27, .load 3 (.tmp 26), 3, some (23, true), [26]⟩,
         ⟨some 28, .move (.tmp 1), 3, some (23, true), []⟩,
         ⟨some 29, .binOp .gtr 3 (.tmp 27) (.tmp 28) 3, 4, some (23, true), [27, 28]⟩,
         ⟨some 30, .pick (.tmp 23) (.tmp 29) (.const (.bool false)), 4, none, [23, 29]⟩])
       (.cond (.tmp 30)
        (.seq
         (.reg [⟨some 31, .move (.tmp 5), 37, none, [5]⟩,
           ⟨some 32, .move (.tmp 1), 3, none, []⟩,
           ⟨some 33, .buildSlice 37 1 #[(0, .tmp 32)], 37, none, [32]⟩,
           ⟨some 34, .call ⟨.builtin .append, #[.tmp 31, .tmp 33], #[37, 37]⟩, 37, none, [31, 33]⟩,
           ⟨some 5, .assign (.tmp 34), 37, none, [34]⟩])
         (.reg [⟨some 6, .assign (.const (.bool true)), 4, none, []⟩]))
        .skip))
      (.reg [⟨some 35, .move (.tmp 5), 37, none, [5]⟩,
        ⟨some 36, .move (.tmp 0), 37, none, []⟩,
        ⟨some 37, .move (.tmp 7), 3, none, []⟩,
        ⟨some 38, .indexAddr 37 (.tmp 36) (.tmp 37), 0, none, [36, 37]⟩,
        ⟨some 39, .load 3 (.tmp 38), 3, none, [38]⟩,
        ⟨some 40, .buildSlice 37 1 #[(0, .tmp 39)], 37, none, [39]⟩,
        ⟨some 41, .call ⟨.builtin .append, #[.tmp 35, .tmp 40], #[37, 37]⟩, 37, none, [35, 40]⟩,
        ⟨some 5, .assign (.tmp 41), 37, none, [41]⟩]))))
   (.reg [⟨some 12, .move (.tmp 7), 3, none, [7]⟩,
     ⟨some 13, .binOp .add 3 (.tmp 12) (.const (.int .i64 1)) 3, 3, none, [12]⟩,
     ⟨some 7, .assign (.tmp 13), 3, none, [13]⟩])))
def F137.c : SC :=
 (.seq
  (.reg [⟨some 4, .assign (.const (.slice none 0 0)), 37, none, [4]⟩])
  (.seq
   (.reg [⟨some 5, .assign (.const (.slice none 0 0)), 37, none, []⟩])
   (.seq
    (.reg [⟨some 6, .assign (.const (.bool false)), 4, none, []⟩])
    (.seq
     (.seq
      (.reg [⟨some 7, .assign (.const (.int .i64 0)), 3, none, []⟩])
      (.block 0
       (.loop F137.s0)))
     (.seq
      (.seq
       (.reg [⟨some 42, .move (.tmp 6), 4, none, [6]⟩,
         ⟨some 43, .unOp .not 4 (.tmp 42), 4, none, [42]⟩])
       (.cond (.tmp 43)
        (.reg [⟨some 44, .move (.tmp 5), 37, none, [5]⟩,
          ⟨some 45, .move (.tmp 1), 3, none, [1]⟩,
          ⟨some 46, .buildSlice 37 1 #[(0, .tmp 45)], 37, none, [45]⟩,
          ⟨some 47, .call ⟨.builtin .append, #[.tmp 44, .tmp 46], #[37, 37]⟩, 37, none, [44, 46]⟩,
          ⟨some 5, .assign (.tmp 47), 37, none, [47]⟩])
        .skip))
      (.seq
       (.reg [⟨some 48, .move (.tmp 5), 37, none, [5]⟩,
         ⟨some 4, .assign (.tmp 48), 37, none, [48]⟩])
       .ret))))))
theorem F137.rs : Tryz.f137.results.toList = [.tmp 4] := rfl
def R01_add.b0 (k : Nat) (l0 : (List Int)) (n1 : Int) : (Bool × Int × (List Int)) → Option (Stp (Bool × Int × (List Int)) (Bool × (List Int)) ((List Int))) := fun (s : Bool × Int × (List Int)) => match s with
  | (b1, i2, l3) => 
      bif decide (i2 < (l0.length : Int)) then
        (at? l0 i2).bind fun x7 =>
        bif decide (x7 = n1) then
          some (.ret l0)
        else
          bif (!b1) then
            bif decide (n1 < x7) then
              (push? 8 l3 n1).bind fun l11 =>
              (push? 8 l11 x7).bind fun l12 =>
              some (.next (true, w64 (i2 + 1), l12))
            else
              (push? 8 l3 x7).bind fun l13 =>
              some (.next (b1, w64 (i2 + 1), l13))
          else
            (push? 8 l3 x7).bind fun l14 =>
            some (.next (b1, w64 (i2 + 1), l14))
      else
        some (.brk (b1, l3))
noncomputable def R01_add.h0 (l0 : (List Int)) (n1 : Int) : (Bool × Int × (List Int)) → St := fun (s : Bool × Int × (List Int)) => match s with
  | (b1, i2, l3) => ⟨[(0, .sl 1 (List.map eI l0)), (1, .int .i64 n1), (5, .loc 0 0 1 0 l3.length l3.length), (6, .bool b1), (7, .int .i64 i2)], [(0, .arr 3 1 (List.map eI l3))], [], 1, Tryz.f137.ntmps⟩
noncomputable def R01_add.x0 (n1 : Int) : (Bool × (List Int)) → St := fun (s : Bool × (List Int)) => match s with
  | (b4, l5) => ⟨[(1, .int .i64 n1), (5, .loc 0 0 1 0 l5.length l5.length), (6, .bool b4)], [(0, .arr 3 1 (List.map eI l5))], [], 1, Tryz.f137.ntmps⟩
def R01_add (k : Nat) (l0 : (List Int)) (n1 : Int) : Option ((List Int)) :=
  (whl (R01_add.b0 k l0 n1) k (false, 0, [])).bind fun r15 => match r15 with
  | .next _ => none
  | .ret v_ => some v_
  | .brk (b4, l5) =>
    bif (!b4) then
      (push? 8 l5 n1).bind fun l17 =>
      some l17
    else
      some l5
theorem R01_add_ok (k : Nat) (l0 : (List Int)) (n1 : Int) (r : (List Int)) (h0 : R01_add k l0 n1 = some r) : PCall Tryz.prog 137 [.sl 1 (List.map eI l0), .int .i64 n1] (fun y => y = .sl 1 (List.map eI r)) := by
  refine PCall.nlr (PCall.of_body T_ok (fn := Tryz.f137) (sc := F137.c) (by rfl) (by rfl) (by decide +kernel) (by rfl) (by decide +kernel) (Nat.le_of_ble_eq_true rfl) ?_)
  refine run_sound T_ok 1000 _ _ ?_
  simp only [R01_add] at h0
  try simp only [F137.c, go_sem]
  obtain ⟨r15, yr15, h0⟩ := bind_some h0
  refine AKev_loopS yr15 (R01_add.h0 l0 n1) (R01_add.x0 n1) ?_ ?_ ?_
  · refine Weak.go [0, 1, 5, 6, 7] [16] rfl ?_
    try simp only [R01_add.h0, go_sem]
  · rintro ⟨b1, i2, l3⟩ x_1 Bk1 Br1 h1 hnext1 hbrk1 hret1
    refine run_sound T_ok 1000 _ _ ?_
    simp only [R01_add.b0] at h1
    try simp only [F137.s0, R01_add.h0, go_sem]
    refine AKev_bif h1 (fun c6 h1 => ?_) (fun c6 h1 => ?_)
    · try simp only [c6, go_sem]
      obtain ⟨x7, yx7, h1⟩ := bind_some h1
      try simp only [at_in yx7, at_get eI yx7, c6, go_sem]
      refine AKev_bif h1 (fun c8 h1 => ?_) (fun c8 h1 => ?_)
      · try simp only [c8, c6, at_in yx7, at_get eI yx7, go_sem]
        obtain rfl := hret1 _ (Option.some.inj h1).symm
        simp only at h0
        obtain rfl := Option.some.inj h0
        refine AKev_ret rfl ?_
        try simp only [F137.rs, c6, at_in yx7, at_get eI yx7, c8, go_sem]
      · try simp only [c8, c6, at_in yx7, at_get eI yx7, go_sem]
        refine AKev_bif h1 (fun c9 h1 => ?_) (fun c9 h1 => ?_)
        · have c9 := bnot_t c9
          try simp only [c9, at_in yx7, at_get eI yx7, c6, c8, go_sem]
          refine AKev_bif h1 (fun c10 h1 => ?_) (fun c10 h1 => ?_)
          · try simp only [c10, c6, at_in yx7, at_get eI yx7, c8, c9, go_sem]
            obtain ⟨l11, yl11, h1⟩ := bind_some h1
            have eyl11 := push_map eI yl11
            have tyl11 := push_take eI yl11
            have nyl11 := push_len yl11
            have myl11 := push_room yl11
            try simp only [c6, at_in yx7, at_get eI yx7, c8, c9, c10, go_sem] at eyl11 tyl11 nyl11 myl11
            try simp only [myl11, eyl11, at_in yx7, at_get eI yx7, c6, c8, c9, c10, nyl11, tyl11, go_sem]
            obtain ⟨l12, yl12, h1⟩ := bind_some h1
            have eyl12 := push_map eI yl12
            have tyl12 := push_take eI yl12
            have nyl12 := push_len yl12
            have myl12 := push_room yl12
            try simp only [c6, at_in yx7, at_get eI yx7, c8, c9, c10, eyl11, nyl11, tyl11, go_sem] at eyl12 tyl12 nyl12 myl12
            try simp only [myl12, eyl12, c6, at_in yx7, at_get eI yx7, c8, c9, c10, eyl11, nyl11, tyl11, nyl12, tyl12, go_sem]
            refine AKev_backB (hnext1 _ _ (Option.some.inj h1).symm ?_)
            refine Weak.go [0, 1, 5, 6, 7] [0] rfl ?_
            try simp only [R01_add.h0, c6, at_in yx7, at_get eI yx7, c8, c9, c10, eyl11, nyl11, tyl11, eyl12, nyl12, tyl12, go_sem]
          · try simp only [c10, at_in yx7, at_get eI yx7, c6, c8, c9, go_sem]
            obtain ⟨l13, yl13, h1⟩ := bind_some h1
            have eyl13 := push_map eI yl13
            have tyl13 := push_take eI yl13
            have nyl13 := push_len yl13
            have myl13 := push_room yl13
            try simp only [c6, at_in yx7, at_get eI yx7, c8, c9, c10, go_sem] at eyl13 tyl13 nyl13 myl13
            try simp only [myl13, eyl13, c6, at_in yx7, at_get eI yx7, c8, c9, c10, nyl13, tyl13, go_sem]
            refine AKev_backB (hnext1 _ _ (Option.some.inj h1).symm ?_)
            refine Weak.go [0, 1, 5, 6, 7] [0] rfl ?_
            try simp only [R01_add.h0, c6, at_in yx7, at_get eI yx7, c8, c9, c10, eyl13, nyl13, tyl13, go_sem]
        · have c9 := bnot_f c9
          try simp only [c9, at_in yx7, at_get eI yx7, c6, c8, go_sem]
          obtain ⟨l14, yl14, h1⟩ := bind_some h1
          have eyl14 := push_map eI yl14
          have tyl14 := push_take eI yl14
          have nyl14 := push_len yl14
          have myl14 := push_room yl14
          try simp only [c6, at_in yx7, at_get eI yx7, c8, c9, go_sem] at eyl14 tyl14 nyl14 myl14
          try simp only [myl14, eyl14, c6, at_in yx7, at_get eI yx7, c8, c9, nyl14, tyl14, go_sem]
          refine AKev_backB (hnext1 _ _ (Option.some.inj h1).symm ?_)
          refine Weak.go [0, 1, 5, 6, 7] [0] rfl ?_
          try simp only [R01_add.h0, c6, at_in yx7, at_get eI yx7, c8, c9, eyl14, nyl14, tyl14, go_sem]
    · try simp only [c6, go_sem]
      refine AKev_backB (hbrk1 _ _ (Option.some.inj h1).symm ?_)
      refine Weak.go [1, 5, 6] [0] rfl ?_
      try simp only [R01_add.x0, c6, go_sem]
  · rintro ⟨b4, l5⟩ hr_
    subst hr_
    simp only at h0
    refine run_sound T_ok 1000 _ _ ?_
    try simp only [R01_add.x0, go_sem]
    refine AKev_bif h0 (fun c16 h0 => ?_) (fun c16 h0 => ?_)
    · have c16 := bnot_t c16
      try simp only [c16, go_sem]
      obtain ⟨l17, yl17, h0⟩ := bind_some h0
      have eyl17 := push_map eI yl17
      have tyl17 := push_take eI yl17
      have nyl17 := push_len yl17
      have myl17 := push_room yl17
      try simp only [c16, go_sem] at eyl17 tyl17 nyl17 myl17
      try simp only [myl17, eyl17, c16, nyl17, tyl17, go_sem]
      obtain rfl := Option.some.inj h0
      refine AKev_ret rfl ?_
      try simp only [F137.rs, c16, eyl17, nyl17, tyl17, go_sem]
    · have c16 := bnot_f c16
      try simp only [c16, go_sem]
      obtain rfl := Option.some.inj h0
      refine AKev_ret rfl ?_
      try simp only [F137.rs, c16, go_sem]
end Go.Abs
namespace Go.Abs
open Go.Proofs
set_option maxRecDepth 20000
set_option linter.unusedVariables false
set_option linter.unusedSimpArgs false
set_option maxHeartbeats 8000000
def F119.s0 : SC :=
 (.seq
  (.seq
   (.reg [⟨some 5, .move (.tmp 4), 3, none, []⟩,
     ⟨some 6, .move (.tmp 0), 37, none, []⟩,
     ⟨some 7, .call ⟨.builtin .len, #[.tmp 6], #[37]⟩, 3, none, [6]⟩,
     ⟨some 8, .binOp .lss 3 (.tmp 5) (.tmp 7) 3, 4, none, [5, 7]⟩])
   (.cond (.tmp 8)
    .skip
    (.exit 0)))
  (.seq
   (.block 1
    (.reg [⟨some 11, .move (.tmp 3), 37, none, [3]⟩,
      ⟨some 12, .move (.tmp 0), 37, none, []⟩,
      ⟨some 13, .move (.tmp 4), 3, none, []⟩,
      ⟨some 14, .indexAddr 37 (.tmp 12) (.tmp 13), 0, none, [12, 13]⟩,
      ⟨some 15, .load 3 (.tmp 14), 3, none, [14]⟩,
      ⟨some 16, .call ⟨.value (.func 137), #[.tmp 11, .tmp 15], #[37, 3]⟩, 37, none, [11, 15]⟩,
      ⟨some 3, .assign (.tmp 16), 37, none, [16]⟩]))
   (.reg [⟨some 9, .move (.tmp 4), 3, none, [4]⟩,
     ⟨some 10, .binOp .add 3 (.tmp 9) (.const (.int .i64 1)) 3, 3, none, [9]⟩,
     ⟨some 4, .assign (.tmp 10), 3, none, [10]⟩])))
def F119.c : SC :=
 (.seq
  (.reg [⟨some 2, .assign (.const (.slice none 0 0)), 37, none, [2]⟩])
  (.seq
   (.reg [⟨some 3, .assign (.const (.slice none 0 0)), 37, none, []⟩])
   (.seq
    (.seq
     (.reg [⟨some 4, .assign (.const (.int .i64 0)), 3, none, []⟩])
     (.block 0
      (.loop F119.s0)))
    (.seq
     (.reg [⟨some 17, .move (.tmp 3), 37, none, [3]⟩,
       ⟨some 2, .assign (.tmp 17), 37, none, [17]⟩])
     .ret))))
theorem F119.rs : Tryz.f119.results.toList = [.tmp 2] := rfl
def R01_Sorted.b0 (k : Nat) (l0 : (List Int)) : ((List Int) × Int) → Option (Stp ((List Int) × Int) ((List Int)) ((List Int))) := fun (s : (List Int) × Int) => match s with
  | (l1, i2) => 
      bif decide (i2 < (l0.length : Int)) then
        (at? l0 i2).bind fun x5 =>
        (R01_add k l1 x5).bind fun x6 =>
        some (.next (x6, w64 (i2 + 1)))
      else
        some (.brk l1)
noncomputable def R01_Sorted.h0 (l0 : (List Int)) : ((List Int) × Int) → St := fun (s : (List Int) × Int) => match s with
  | (l1, i2) => ⟨[(0, .sl 1 (List.map eI l0)), (3, .sl 1 (List.map eI l1)), (4, .int .i64 i2)], [], [], 1, Tryz.f119.ntmps⟩
noncomputable def R01_Sorted.x0 : (List Int) → St := fun (l3 : (List Int)) => ⟨[(3, .sl 1 (List.map eI l3))], [], [], 1, Tryz.f119.ntmps⟩
def R01_Sorted (k : Nat) (l0 : (List Int)) : Option ((List Int)) :=
  (whl (R01_Sorted.b0 k l0) k ([], 0)).bind fun r7 => match r7 with
  | .next _ => none
  | .ret v_ => some v_
  | .brk l3 =>
    some l3
theorem R01_Sorted_ok (k : Nat) (l0 : (List Int)) (r : (List Int)) (h0 : R01_Sorted k l0 = some r) : PCall Tryz.prog 119 [.sl 1 (List.map eI l0)] (fun y => y = .sl 1 (List.map eI r)) := by
  refine PCall.nlr (PCall.of_body T_ok (fn := Tryz.f119) (sc := F119.c) (by rfl) (by rfl) (by decide +kernel) (by rfl) (by decide +kernel) (Nat.le_of_ble_eq_true rfl) ?_)
  refine run_sound T_ok 1000 _ _ ?_
  simp only [R01_Sorted] at h0
  try simp only [F119.c, go_sem]
  obtain ⟨r7, yr7, h0⟩ := bind_some h0
  refine AKev_loopS yr7 (R01_Sorted.h0 l0) (R01_Sorted.x0) ?_ ?_ ?_
  · refine Weak.trans (Weak.fz 16 rfl (fun _ h => by cases h)) ?_
    refine Weak.go [0, 3, 4] [] rfl ?_
    try simp only [R01_Sorted.h0, go_sem]
  · rintro ⟨l1, i2⟩ x_1 Bk1 Br1 h1 hnext1 hbrk1 hret1
    refine run_sound T_ok 1000 _ _ ?_
    simp only [R01_Sorted.b0] at h1
    try simp only [F119.s0, R01_Sorted.h0, go_sem]
    refine AKev_bif h1 (fun c4 h1 => ?_) (fun c4 h1 => ?_)
    · try simp only [c4, go_sem]
      obtain ⟨x5, yx5, h1⟩ := bind_some h1
      try simp only [at_in yx5, at_get eI yx5, c4, go_sem]
      obtain ⟨x6, yx6, h1⟩ := bind_some h1
      refine AKev_call0 T_ok 1000 (R01_add_ok k _ _ _ yx6) ?_ (by first | rfl | simp [AV.refsL, AV.refs, AV.scal, AV.leaf]) ?_
      · try simp only [c4, at_in yx5, at_get eI yx5, go_sem]
      try simp only [c4, at_in yx5, at_get eI yx5, go_sem]
      refine AKev_backB (hnext1 _ _ (Option.some.inj h1).symm ?_)
      refine Weak.go [0, 3, 4] [] rfl ?_
      try simp only [R01_Sorted.h0, c4, at_in yx5, at_get eI yx5, go_sem]
    · try simp only [c4, go_sem]
      refine AKev_backB (hbrk1 _ _ (Option.some.inj h1).symm ?_)
      refine Weak.go [3] [] rfl ?_
      try simp only [R01_Sorted.x0, c4, go_sem]
  · rintro l3 hr_
    subst hr_
    simp only at h0
    refine run_sound T_ok 1000 _ _ ?_
    try simp only [R01_Sorted.x0, go_sem]
    obtain rfl := Option.some.inj h0
    refine AKev_ret rfl ?_
    try simp only [F119.rs, go_sem]
end Go.Abs
namespace Go.Abs
open Go.Proofs
set_option maxRecDepth 20000
set_option linter.unusedVariables false
set_option linter.unusedSimpArgs false
set_option maxHeartbeats 8000000
def F71.s0 : SC :=
 (.seq
  (.seq
   (.reg [⟨some 5, .move (.tmp 4), 3, none, []⟩,
     ⟨some 6, .move (.tmp 0), 25, none, []⟩,
     ⟨some 7, .call ⟨.builtin .len, #[.tmp 6], #[25]⟩, 3, none, [6]⟩,
     ⟨some 8, .binOp .lss 3 (.tmp 5) (.tmp 7) 3, 4, none, [5, 7]⟩])
   (.cond (.tmp 8)
    .skip
    (.exit 0)))
  (.seq
   (.block 1
    (.reg [⟨some 11, .move (.tmp 3), 37, none, [3]⟩,
      ⟨some 12, .move (.tmp 0), 25, none, []⟩,
      ⟨some 13, .move (.tmp 4), 3, none, []⟩,
      ⟨some 14, .indexAddr 25 (.tmp 12) (.tmp 13), 0, none, [12, 13]⟩,
      ⟨some 15, .fieldAddr 64 (.tmp 14) 0, 0, none, [14]⟩,
      ⟨some 16, .load 3 (.tmp 15), 3, none, [15]⟩,
      ⟨some 17, .buildSlice 37 1 #[(0, .tmp 16)], 37, none, [16]⟩,
      ⟨some 18, .call ⟨.builtin .append, #[.tmp 11, .tmp 17], #[37, 37]⟩, 37, none, [11, 17]⟩,
      ⟨some 3, .assign (.tmp 18), 37, none, [18]⟩]))
   (.reg [⟨some 9, .move (.tmp 4), 3, none, [4]⟩,
     ⟨some 10, .binOp .add 3 (.tmp 9) (.const (.int .i64 1)) 3, 3, none, [9]⟩,
     ⟨some 4, .assign (.tmp 10), 3, none, [10]⟩])))
def F71.c : SC :=
 (.seq
  (.reg [⟨some 2, .assign (.const (.slice none 0 0)), 37, none, [2]⟩])
  (.seq
   (.reg [⟨some 3, .assign (.const (.slice none 0 0)), 37, none, []⟩])
   (.seq
    (.seq
     (.reg [⟨some 4, .assign (.const (.int .i64 0)), 3, none, []⟩])
     (.block 0
      (.loop F71.s0)))
    (.seq
     (.reg [⟨some 19, .move (.tmp 3), 37, none, [3]⟩,
       ⟨some 20, .call ⟨.value (.func 119), #[.tmp 19], #[37]⟩, 37, none, [19]⟩,
       ⟨some 2, .assign (.tmp 20), 37, none, [20]⟩])
     .ret))))
theorem F71.rs : Tryz.f71.results.toList = [.tmp 2] := rfl
def R04_sources.b0 (k : Nat) (l0 : (List Reading)) : (Int × (List Int)) → Option (Stp (Int × (List Int)) ((List Int)) ((List Int))) := fun (s : Int × (List Int)) => match s with
  | (i1, l2) => 
      bif decide (i1 < (l0.length : Int)) then
        (at? l0 i1).bind fun x5 =>
        (push? 8 l2 x5.Source).bind fun l6 =>
        some (.next (w64 (i1 + 1), l6))
      else
        some (.brk l2)
noncomputable def R04_sources.h0 (l0 : (List Reading)) : (Int × (List Int)) → St := fun (s : Int × (List Int)) => match s with
  | (i1, l2) => ⟨[(0, .sl 6 (List.map Reading.c l0)), (3, .loc 0 0 1 0 l2.length l2.length), (4, .int .i64 i1)], [(0, .arr 3 1 (List.map eI l2))], [], 1, Tryz.f71.ntmps⟩
noncomputable def R04_sources.x0 : (List Int) → St := fun (l3 : (List Int)) => ⟨[(3, .loc 0 0 1 0 l3.length l3.length)], [(0, .arr 3 1 (List.map eI l3))], [], 1, Tryz.f71.ntmps⟩
def R04_sources (k : Nat) (l0 : (List Reading)) : Option ((List Int)) :=
  (whl (R04_sources.b0 k l0) k (0, [])).bind fun r7 => match r7 with
  | .next _ => none
  | .ret v_ => some v_
  | .brk l3 =>
    (R01_Sorted k l3).bind fun x8 =>
    some x8
theorem R04_sources_ok (k : Nat) (l0 : (List Reading)) (r : (List Int)) (h0 : R04_sources k l0 = some r) : PCall Tryz.prog 71 [.sl 6 (List.map Reading.c l0)] (fun y => y = .sl 1 (List.map eI r)) := by
  refine PCall.nlr (PCall.of_body T_ok (fn := Tryz.f71) (sc := F71.c) (by rfl) (by rfl) (by decide +kernel) (by rfl) (by decide +kernel) (Nat.le_of_ble_eq_true rfl) ?_)
  refine run_sound T_ok 1000 _ _ ?_
  simp only [R04_sources] at h0
  try simp only [F71.c, go_sem]
  obtain ⟨r7, yr7, h0⟩ := bind_some h0
  refine AKev_loopS yr7 (R04_sources.h0 l0) (R04_sources.x0) ?_ ?_ ?_
  · refine Weak.go [0, 3, 4] [16] rfl ?_
    try simp only [R04_sources.h0, go_sem]
  · rintro ⟨i1, l2⟩ x_1 Bk1 Br1 h1 hnext1 hbrk1 hret1
    refine run_sound T_ok 1000 _ _ ?_
    simp only [R04_sources.b0] at h1
    try simp only [F71.s0, R04_sources.h0, go_sem]
    refine AKev_bif h1 (fun c4 h1 => ?_) (fun c4 h1 => ?_)
    · try simp only [c4, go_sem]
      obtain ⟨x5, yx5, h1⟩ := bind_some h1
      try simp only [at_in yx5, at_get Reading.c yx5, c4, go_sem]
      obtain ⟨l6, yl6, h1⟩ := bind_some h1
      have eyl6 := push_map eI yl6
      have tyl6 := push_take eI yl6
      have nyl6 := push_len yl6
      have myl6 := push_room yl6
      try simp only [c4, at_in yx5, at_get Reading.c yx5, go_sem] at eyl6 tyl6 nyl6 myl6
      try simp only [myl6, eyl6, c4, at_in yx5, at_get Reading.c yx5, nyl6, tyl6, go_sem]
      refine AKev_backB (hnext1 _ _ (Option.some.inj h1).symm ?_)
      refine Weak.go [0, 3, 4] [0] rfl ?_
      try simp only [R04_sources.h0, c4, at_in yx5, at_get Reading.c yx5, eyl6, nyl6, tyl6, go_sem]
    · try simp only [c4, go_sem]
      refine AKev_backB (hbrk1 _ _ (Option.some.inj h1).symm ?_)
      refine Weak.go [3] [0] rfl ?_
      try simp only [R04_sources.x0, c4, go_sem]
  · rintro l3 hr_
    subst hr_
    simp only at h0
    refine run_sound T_ok 1000 _ _ ?_
    try simp only [R04_sources.x0, go_sem]
    obtain ⟨x8, yx8, h0⟩ := bind_some h0
    refine AKev_take T_ok 1000 [0] (R01_Sorted_ok k _ _ yx8) ?_ ?_
    · try simp only [go_sem]
    try simp only [go_sem]
    obtain rfl := Option.some.inj h0
    refine AKev_ret rfl ?_
    try simp only [F71.rs, go_sem]
end Go.Abs
namespace Go.Abs
open Go.Proofs
set_option maxRecDepth 20000
set_option linter.unusedVariables false
set_option linter.unusedSimpArgs false
set_option maxHeartbeats 8000000
def F32.c : SC :=
 (.seq
  (.reg [⟨some 1, .box 27 (.tmp 0), 0, none, [0]⟩,
    ⟨some 2, .assign (.const (.slice none 0 0)), 37, none, [2]⟩,
    ⟨some 3, .assign (.const (.int .i64 0)), 33, none, [3]⟩])
  (.seq
   (.seq
    (.reg [⟨some 5, .load 27 (.tmp 1), 27, none, []⟩,
      ⟨some 6, .call ⟨.value (.func 43), #[.tmp 5], #[27]⟩, 33, none, [5]⟩,
      ⟨some 7, .binOp .neq 33 (.tmp 6) (.const (.int .i64 0)) 33, 4, none, [6]⟩])
    (.cond (.tmp 7)
     (.seq
      (.reg [⟨some 2, .assign (.const (.slice none 0 0)), 37, none, []⟩,
        ⟨some 3, .assign (.const (.int .i64 42)), 33, none, []⟩])
      .ret)
     .skip))
   (.seq
    (.reg [⟨some 8, .fieldAddr 27 (.tmp 1) 1, 0, none, [1]⟩,
      ⟨some 9, .load 25 (.tmp 8), 25, none, [8]⟩,
      ⟨some 10, .call ⟨.value (.func 71), #[.tmp 9], #[25]⟩, 37, none, [9]⟩,
      ⟨some 4, .assign (.tmp 10), 37, none, [10]⟩])
    (.seq
     (.reg [⟨some 11, .move (.tmp 4), 37, none, [4]⟩,
       ⟨some 2, .assign (.tmp 11), 37, none, [11]⟩,
       ⟨some 3, .assign (.const (.int .i64 0)), 33, none, []⟩])
     .ret))))
theorem F32.rs : Tryz.f32.results.toList = [.tmp 2, .tmp 3] := rfl
def R04_Sources (k : Nat) (f0 : Firing) : Option ((List Int) × Int) :=
  (R04_Check k f0).bind fun x1 =>
  bif (!decide (x1 = (0 : Int))) then
    some ([], 42)
  else
    (R04_sources k f0.Readings).bind fun x3 =>
    some (x3, 0)
theorem R04_Sources_ok (k : Nat) (f0 : Firing) (r : (List Int) × Int) (h0 : R04_Sources k f0 = some r) : PCall Tryz.prog 32 [.agg (Firing.c f0)] (fun y => y = .tup [.sl 1 (List.map eI r.1), .int .i64 r.2]) := by
  refine PCall.nlr (PCall.of_body T_ok (fn := Tryz.f32) (sc := F32.c) (by rfl) (by rfl) (by decide +kernel) (by rfl) (by decide +kernel) (Nat.le_of_ble_eq_true rfl) ?_)
  refine run_sound T_ok 1000 _ _ ?_
  simp only [R04_Sources] at h0
  try simp only [F32.c, go_sem]
  obtain ⟨x1, yx1, h0⟩ := bind_some h0
  refine AKev_call0 T_ok 1000 (R04_Check_ok k _ _ yx1) ?_ (by first | rfl | simp [AV.refsL, AV.refs, AV.scal, AV.leaf]) ?_
  · try simp only [go_sem]
  try simp only [go_sem]
  refine AKev_bif h0 (fun c2 h0 => ?_) (fun c2 h0 => ?_)
  · have c2 := bnot_t c2
    try simp only [c2, go_sem]
    obtain rfl := Option.some.inj h0
    refine AKev_ret rfl ?_
    try simp only [F32.rs, c2, go_sem]
  · have c2 := bnot_f c2
    try simp only [c2, go_sem]
    obtain ⟨x3, yx3, h0⟩ := bind_some h0
    refine AKev_call0 T_ok 1000 (R04_sources_ok k _ _ yx3) ?_ (by first | rfl | simp [AV.refsL, AV.refs, AV.scal, AV.leaf]) ?_
    · try simp only [c2, go_sem]
    try simp only [c2, go_sem]
    obtain rfl := Option.some.inj h0
    refine AKev_ret rfl ?_
    try simp only [F32.rs, c2, go_sem]
end Go.Abs
namespace Go.Abs
open Go.Proofs
set_option maxRecDepth 20000
set_option linter.unusedVariables false
set_option linter.unusedSimpArgs false
set_option maxHeartbeats 8000000
def F92.c : SC :=
 (.seq
  (.reg [⟨some 3, .assign (.const (.bool false)), 4, none, [3]⟩])
  (.seq
   (.reg [⟨some 4, .move (.tmp 0), 3, none, [0]⟩,
     ⟨some 5, .load 3 (.tmp 1), 3, none, [1]⟩,
     ⟨some 6, .binOp .eql 3 (.tmp 4) (.tmp 5) 3, 4, none, [4, 5]⟩,
     ⟨some 3, .assign (.tmp 6), 4, none, [6]⟩])
   .ret))
theorem F92.rs : Tryz.f92.results.toList = [.tmp 3] := rfl
def heat_Without_1 (k : Nat) (n0 : Int) (c1 : Int) : Option (Bool) :=
  some (decide (n0 = c1))
theorem heat_Without_1_ok (k : Nat) (n0 : Int) (c1 : Int) (r : Bool) (h0 : heat_Without_1 k n0 c1 = some r) : PCall Tryz.prog 92 [.int .i64 n0, .rptr 1 [eI c1] 0 0] (fun y => y = .bool r) := by
  refine PCall.nlr (PCall.of_body T_ok (fn := Tryz.f92) (sc := F92.c) (by rfl) (by rfl) (by decide +kernel) (by rfl) (by decide +kernel) (Nat.le_of_ble_eq_true rfl) ?_)
  refine run_sound T_ok 1000 _ _ ?_
  simp only [heat_Without_1] at h0
  try simp only [F92.c, go_sem]
  obtain rfl := Option.some.inj h0
  refine AKev_ret rfl ?_
  try simp only [F92.rs, go_sem]
end Go.Abs
namespace Go.Abs
open Go.Proofs
set_option maxRecDepth 20000
set_option linter.unusedVariables false
set_option linter.unusedSimpArgs false
set_option maxHeartbeats 8000000
def F33.c : SC :=
 (.seq
  (.reg [⟨some 2, .box 27 (.tmp 0), 0, none, [0]⟩,
    ⟨some 3, .box 3 (.tmp 1), 0, none, [1]⟩,
    ⟨some 4, .alloc 27, 0, none, []⟩,
    ⟨some 5, .assign (.const (.int .i64 0)), 33, none, [5]⟩])
  (.seq
   (.seq
    (.reg [⟨some 7, .load 27 (.tmp 2), 27, none, []⟩,
      ⟨some 8, .call ⟨.value (.func 42), #[.tmp 7], #[27]⟩, 33, none, [7]⟩,
      ⟨some 9, .binOp .neq 33 (.tmp 8) (.const (.int .i64 0)) 33, 4, none, [8]⟩])
    (.cond (.tmp 9)
     (.seq
      (.reg [⟨some 10, .build 27 #[], 27, none, []⟩,
        ⟨none, .store 27 (.tmp 4) (.tmp 10), 0, none, [10]⟩,
        ⟨some 5, .assign (.const (.int .i64 42)), 33, none, []⟩])
      .ret)
     .skip))
   (.seq
    (.reg [⟨some 11, .load 27 (.tmp 2), 27, none, []⟩,
      ⟨some 12, .makeFunc (.func 92) #[] #[.tmp 3], 109, none, [3]⟩,
      ⟨some 13, .call ⟨.value (.func 80), #[.tmp 11, .tmp 12], #[27, 109]⟩, 27, none, [11, 12]⟩,
      ⟨some 6, .alloc 27, 0, none, []⟩,
      ⟨none, .store 27 (.tmp 6) (.tmp 13), 0, none, [13]⟩])
    (.seq
     (.seq
      (.reg [⟨some 14, .fieldAddr 27 (.tmp 6) 1, 0, none, []⟩,
        ⟨some 15, .load 25 (.tmp 14), 25, none, [14]⟩,
        ⟨some 16, .call ⟨.builtin .len, #[.tmp 15], #[25]⟩, 3, none, [15]⟩,
        ⟨some 17, .fieldAddr 27 (.tmp 2) 1, 0, none, [2]⟩,
        ⟨some 18, .load 25 (.tmp 17), 25, none, [17]⟩,
        ⟨some 19, .call ⟨.builtin .len, #[.tmp 18], #[25]⟩, 3, none, [18]⟩,
        ⟨some 20, .binOp .eql 3 (.tmp 16) (.tmp 19) 3, 4, none, [16, 19]⟩])
      (.cond (.tmp 20)
       (.seq
        (.reg [⟨some 21, .build 27 #[], 27, none, []⟩,
          ⟨none, .store 27 (.tmp 4) (.tmp 21), 0, none, [21]⟩,
          ⟨some 5, .assign (.const (.int .i64 3)), 33, none, []⟩])
        .ret)
       .skip))
     (.seq
      (.reg [⟨some 22, .load 27 (.tmp 6), 27, none, [6]⟩,
        ⟨none, .store 27 (.tmp 4) (.tmp 22), 0, none, [22]⟩,
        ⟨some 5, .assign (.const (.int .i64 0)), 33, none, []⟩])
      .ret)))))
theorem F33.rs : Tryz.f33.results.toList = [.cell 4 27, .tmp 5] := rfl
def heat_Without (k : Nat) (f0 : Firing) (source1 : Int) : Option (Firing × Int) :=
  (heat_Check k f0).bind fun x1 =>
  bif (!decide (x1 = (0 : Int))) then
    some ((⟨(⟨[]⟩ : Kiln), []⟩ : Firing), 42)
  else
    (heat_without k f0 (fun q0 => heat_Without_1 k q0 source1)).bind fun x3 =>
    bif decide ((x3.Readings.length : Int) = (f0.Readings.length : Int)) then
      some ((⟨(⟨[]⟩ : Kiln), []⟩ : Firing), 3)
    else
      some (x3, 0)
theorem heat_Without_ok (k : Nat) (f0 : Firing) (source1 : Int) (r : Firing × Int) (h0 : heat_Without k f0 source1 = some r) : PCall Tryz.prog 33 [.agg (Firing.c f0), .int .i64 source1] (fun y => y = .tup [.agg (Firing.c r.1), .int .i64 r.2]) := by
  refine PCall.nlr (PCall.of_body T_ok (fn := Tryz.f33) (sc := F33.c) (by rfl) (by rfl) (by decide +kernel) (by rfl) (by decide +kernel) (Nat.le_of_ble_eq_true rfl) ?_)
  refine run_sound T_ok 1000 _ _ ?_
  simp only [heat_Without] at h0
  try simp only [F33.c, go_sem]
  obtain ⟨x1, yx1, h0⟩ := bind_some h0
  refine AKev_call0 T_ok 1000 (heat_Check_ok k _ _ yx1) ?_ (by first | rfl | simp [AV.refsL, AV.refs, AV.scal, AV.leaf]) ?_
  · try simp only [go_sem]
  try simp only [go_sem]
  refine AKev_bif h0 (fun c2 h0 => ?_) (fun c2 h0 => ?_)
  · have c2 := bnot_t c2
    try simp only [c2, go_sem]
    obtain rfl := Option.some.inj h0
    refine AKev_ret rfl ?_
    try simp only [F33.rs, c2, go_sem]
  · have c2 := bnot_f c2
    try simp only [c2, go_sem]
    obtain ⟨x3, yx3, h0⟩ := bind_some h0
    refine AKev_take T_ok 1000 [16] (heat_without_ok k _ 92 [.rptr 1 [eI source1] 0 0] ⟨fun _ => rfl, fun _ => rfl, fun _ _ => rfl, rfl, fun _ => rfl, fun _ => rfl, fun _ => rfl⟩ (fun q0 => heat_Without_1 k q0 source1) (fun q0 qr qh => heat_Without_1_ok k q0 _ qr qh) _ yx3) ?_ ?_
    · try simp only [c2, go_sem]
    try simp only [c2, go_sem]
    refine AKev_bif h0 (fun c4 h0 => ?_) (fun c4 h0 => ?_)
    · try simp only [c4, c2, go_sem]
      obtain rfl := Option.some.inj h0
      refine AKev_ret rfl ?_
      try simp only [F33.rs, c2, c4, go_sem]
    · try simp only [c4, c2, go_sem]
      obtain rfl := Option.some.inj h0
      refine AKev_ret rfl ?_
      try simp only [F33.rs, c2, c4, go_sem]
end Go.Abs
namespace Go.Abs
open Go.Proofs
set_option maxRecDepth 20000
set_option linter.unusedVariables false
set_option linter.unusedSimpArgs false
set_option maxHeartbeats 8000000
def F72.s0 : SC :=
 (.seq
  (.seq
   (.reg [⟨some 7, .move (.tmp 6), 3, none, []⟩,
     ⟨some 8, .move (.tmp 0), 37, none, []⟩,
     ⟨some 9, .call ⟨.builtin .len, #[.tmp 8], #[37]⟩, 3, none, [8]⟩,
     ⟨some 10, .binOp .lss 3 (.tmp 7) (.tmp 9) 3, 4, none, [7, 9]⟩])
   (.cond (.tmp 10)
    .skip
    (.exit 0)))
  (.seq
   (.block 1
    (.seq
     (.reg [⟨some 13, .move (.tmp 0), 37, none, []⟩,
       ⟨some 14, .move (.tmp 6), 3, none, []⟩,
       ⟨some 15, .indexAddr 37 (.tmp 13) (.tmp 14), 0, none, [13, 14]⟩,
       ⟨some 16, .load 3 (.tmp 15), 3, none, [15]⟩,
       ⟨some 17, .move (.tmp 1), 3, none, []⟩,
       ⟨some 18, .binOp .neq 3 (.tmp 16) (.tmp 17) 3, 4, none, [16, 17]⟩])
     (.cond (.tmp 18)
      (.reg [⟨some 19, .move (.tmp 5), 37, none, [5]⟩,
        ⟨some 20, .move (.tmp 0), 37, none, []⟩,
        ⟨some 21, .move (.tmp 6), 3, none, []⟩,
        ⟨some 22, .indexAddr 37 (.tmp 20) (.tmp 21), 0, none, [20, 21]⟩,
        ⟨some 23, .load 3 (.tmp 22), 3, none, [22]⟩,
        ⟨some 24, .buildSlice 37 1 #[(0, .tmp 23)], 37, none, [23]⟩,
        ⟨some 25, .call ⟨.builtin .append, #[.tmp 19, .tmp 24], #[37, 37]⟩, 37, none, [19, 24]⟩,
        ⟨some 5, .assign (.tmp 25), 37, none, [25]⟩])
      .skip)))
   (.reg [⟨some 11, .move (.tmp 6), 3, none, [6]⟩,
     ⟨some 12, .binOp .add 3 (.tmp 11) (.const (.int .i64 1)) 3, 3, none, [11]⟩,
     ⟨some 6, .assign (.tmp 12), 3, none, [12]⟩])))
def F72.c : SC :=
 (.seq
  (.reg [⟨some 4, .assign (.const (.slice none 0 0)), 37, none, [4]⟩])
  (.seq
   (.reg [⟨some 5, .assign (.const (.slice none 0 0)), 37, none, []⟩])
   (.seq
    (.seq
     (.reg [⟨some 6, .assign (.const (.int .i64 0)), 3, none, []⟩])
     (.block 0
      (.loop F72.s0)))
    (.seq
     (.reg [⟨some 26, .move (.tmp 5), 37, none, [5]⟩,
       ⟨some 4, .assign (.tmp 26), 37, none, [26]⟩])
     .ret))))
theorem F72.rs : Tryz.f72.results.toList = [.tmp 4] := rfl
def R01_Less.b0 (k : Nat) (l0 : (List Int)) (n1 : Int) : (Int × (List Int)) → Option (Stp (Int × (List Int)) ((List Int)) ((List Int))) := fun (s : Int × (List Int)) => match s with
  | (i1, l2) => 
      bif decide (i1 < (l0.length : Int)) then
        (at? l0 i1).bind fun x5 =>
        bif (!decide (x5 = n1)) then
          (push? 8 l2 x5).bind fun l7 =>
          some (.next (w64 (i1 + 1), l7))
        else
          some (.next (w64 (i1 + 1), l2))
      else
        some (.brk l2)
noncomputable def R01_Less.h0 (l0 : (List Int)) (n1 : Int) : (Int × (List Int)) → St := fun (s : Int × (List Int)) => match s with
  | (i1, l2) => ⟨[(0, .sl 1 (List.map eI l0)), (1, .int .i64 n1), (5, .loc 0 0 1 0 l2.length l2.length), (6, .int .i64 i1)], [(0, .arr 3 1 (List.map eI l2))], [], 1, Tryz.f72.ntmps⟩
noncomputable def R01_Less.x0 : (List Int) → St := fun (l3 : (List Int)) => ⟨[(5, .loc 0 0 1 0 l3.length l3.length)], [(0, .arr 3 1 (List.map eI l3))], [], 1, Tryz.f72.ntmps⟩
def R01_Less (k : Nat) (l0 : (List Int)) (n1 : Int) : Option ((List Int)) :=
  (whl (R01_Less.b0 k l0 n1) k (0, [])).bind fun r8 => match r8 with
  | .next _ => none
  | .ret v_ => some v_
  | .brk l3 =>
    some l3
theorem R01_Less_ok (k : Nat) (l0 : (List Int)) (n1 : Int) (r : (List Int)) (h0 : R01_Less k l0 n1 = some r) : PCall Tryz.prog 72 [.sl 1 (List.map eI l0), .int .i64 n1] (fun y => y = .sl 1 (List.map eI r)) := by
  refine PCall.nlr (PCall.of_body T_ok (fn := Tryz.f72) (sc := F72.c) (by rfl) (by rfl) (by decide +kernel) (by rfl) (by decide +kernel) (Nat.le_of_ble_eq_true rfl) ?_)
  refine run_sound T_ok 1000 _ _ ?_
  simp only [R01_Less] at h0
  try simp only [F72.c, go_sem]
  obtain ⟨r8, yr8, h0⟩ := bind_some h0
  refine AKev_loopS yr8 (R01_Less.h0 l0 n1) (R01_Less.x0) ?_ ?_ ?_
  · refine Weak.go [0, 1, 5, 6] [16] rfl ?_
    try simp only [R01_Less.h0, go_sem]
  · rintro ⟨i1, l2⟩ x_1 Bk1 Br1 h1 hnext1 hbrk1 hret1
    refine run_sound T_ok 1000 _ _ ?_
    simp only [R01_Less.b0] at h1
    try simp only [F72.s0, R01_Less.h0, go_sem]
    refine AKev_bif h1 (fun c4 h1 => ?_) (fun c4 h1 => ?_)
    · try simp only [c4, go_sem]
      obtain ⟨x5, yx5, h1⟩ := bind_some h1
      try simp only [at_in yx5, at_get eI yx5, c4, go_sem]
      refine AKev_bif h1 (fun c6 h1 => ?_) (fun c6 h1 => ?_)
      · have c6 := bnot_t c6
        try simp only [c6, at_in yx5, at_get eI yx5, c4, go_sem]
        obtain ⟨l7, yl7, h1⟩ := bind_some h1
        have eyl7 := push_map eI yl7
        have tyl7 := push_take eI yl7
        have nyl7 := push_len yl7
        have myl7 := push_room yl7
        try simp only [c4, at_in yx5, at_get eI yx5, c6, go_sem] at eyl7 tyl7 nyl7 myl7
        try simp only [myl7, eyl7, c4, at_in yx5, at_get eI yx5, c6, nyl7, tyl7, go_sem]
        refine AKev_backB (hnext1 _ _ (Option.some.inj h1).symm ?_)
        refine Weak.go [0, 1, 5, 6] [0] rfl ?_
        try simp only [R01_Less.h0, c4, at_in yx5, at_get eI yx5, c6, eyl7, nyl7, tyl7, go_sem]
      · have c6 := bnot_f c6
        try simp only [c6, c4, at_in yx5, at_get eI yx5, go_sem]
        refine AKev_backB (hnext1 _ _ (Option.some.inj h1).symm ?_)
        refine Weak.go [0, 1, 5, 6] [0] rfl ?_
        try simp only [R01_Less.h0, c4, at_in yx5, at_get eI yx5, c6, go_sem]
    · try simp only [c4, go_sem]
      refine AKev_backB (hbrk1 _ _ (Option.some.inj h1).symm ?_)
      refine Weak.go [5] [0] rfl ?_
      try simp only [R01_Less.x0, c4, go_sem]
  · rintro l3 hr_
    subst hr_
    simp only at h0
    refine run_sound T_ok 1000 _ _ ?_
    try simp only [R01_Less.x0, go_sem]
    obtain rfl := Option.some.inj h0
    refine AKev_ret rfl ?_
    try simp only [F72.rs, go_sem]
end Go.Abs
namespace Go.Abs
open Go.Proofs
set_option maxRecDepth 20000
set_option linter.unusedVariables false
set_option linter.unusedSimpArgs false
set_option maxHeartbeats 8000000
def F93.s0 : SC :=
 (.seq
  (.seq
   (.reg [⟨some 6, .move (.tmp 5), 3, none, []⟩,
     ⟨some 7, .move (.tmp 0), 37, none, []⟩,
     ⟨some 8, .call ⟨.builtin .len, #[.tmp 7], #[37]⟩, 3, none, [7]⟩,
     ⟨some 9, .binOp .lss 3 (.tmp 6) (.tmp 8) 3, 4, none, [6, 8]⟩])
   (.cond (.tmp 9)
    .skip
    (.exit 0)))
  (.seq
   (.block 1
    (.seq
     (.reg [⟨some 12, .move (.tmp 0), 37, none, []⟩,
       ⟨some 13, .move (.tmp 5), 3, none, []⟩,
       ⟨some 14, .indexAddr 37 (.tmp 12) (.tmp 13), 0, none, [12, 13]⟩,
       ⟨some 15, .load 3 (.tmp 14), 3, none, [14]⟩,
       ⟨some 16, .move (.tmp 1), 3, none, []⟩,
       ⟨some 17, .binOp .eql 3 (.tmp 15) (.tmp 16) 3, 4, none, [15, 16]⟩])
     (.cond (.tmp 17)
      (.seq
       (.reg [⟨some 4, .assign (.const (.bool true)), 4, none, []⟩])
       .ret)
      .skip)))
   (.reg [⟨some 10, .move (.tmp 5), 3, none, [5]⟩,
     ⟨some 11, .binOp .add 3 (.tmp 10) (.const (.int .i64 1)) 3, 3, none, [10]⟩,
     ⟨some 5, .assign (.tmp 11), 3, none, [11]⟩])))
def F93.c : SC :=
 (.seq
  (.reg [⟨some 4, .assign (.const (.bool false)), 4, none, [4]⟩])
  (.seq
   (.seq
    (.reg [⟨some 5, .assign (.const (.int .i64 0)), 3, none, []⟩])
    (.block 0
     (.loop F93.s0)))
   (.seq
    (.reg [⟨some 4, .assign (.const (.bool false)), 4, none, []⟩])
    .ret)))
theorem F93.rs : Tryz.f93.results.toList = [.tmp 4] := rfl
def R01_Has.b0 (k : Nat) (l0 : (List Int)) (n1 : Int) : Int → Option (Stp (Int) (Unit) (Bool)) := fun (i1 : Int) => 
  bif decide (i1 < (l0.length : Int)) then
    (at? l0 i1).bind fun x3 =>
    bif decide (x3 = n1) then
      some (.ret true)
    else
      some (.next (w64 (i1 + 1)))
  else
    some (.brk ())
noncomputable def R01_Has.h0 (l0 : (List Int)) (n1 : Int) : Int → St := fun (i1 : Int) => ⟨[(0, .sl 1 (List.map eI l0)), (1, .int .i64 n1), (5, .int .i64 i1)], [], [], 1, Tryz.f93.ntmps⟩
noncomputable def R01_Has.x0 : Unit → St := fun (_ : Unit) => ⟨[], [], [], 1, Tryz.f93.ntmps⟩
def R01_Has (k : Nat) (l0 : (List Int)) (n1 : Int) : Option (Bool) :=
  (whl (R01_Has.b0 k l0 n1) k 0).bind fun r5 => match r5 with
  | .next _ => none
  | .ret v_ => some v_
  | .brk _ =>
    some false
theorem R01_Has_ok (k : Nat) (l0 : (List Int)) (n1 : Int) (r : Bool) (h0 : R01_Has k l0 n1 = some r) : PCall Tryz.prog 93 [.sl 1 (List.map eI l0), .int .i64 n1] (fun y => y = .bool r) := by
  refine PCall.nlr (PCall.of_body T_ok (fn := Tryz.f93) (sc := F93.c) (by rfl) (by rfl) (by decide +kernel) (by rfl) (by decide +kernel) (Nat.le_of_ble_eq_true rfl) ?_)
  refine run_sound T_ok 1000 _ _ ?_
  simp only [R01_Has] at h0
  try simp only [F93.c, go_sem]
  obtain ⟨r5, yr5, h0⟩ := bind_some h0
  refine AKev_loopS yr5 (R01_Has.h0 l0 n1) (R01_Has.x0) ?_ ?_ ?_
  · refine Weak.go [0, 1, 5] [] rfl ?_
    try simp only [R01_Has.h0, go_sem]
  · rintro i1 x_1 Bk1 Br1 h1 hnext1 hbrk1 hret1
    refine run_sound T_ok 1000 _ _ ?_
    simp only [R01_Has.b0] at h1
    try simp only [F93.s0, R01_Has.h0, go_sem]
    refine AKev_bif h1 (fun c2 h1 => ?_) (fun c2 h1 => ?_)
    · try simp only [c2, go_sem]
      obtain ⟨x3, yx3, h1⟩ := bind_some h1
      try simp only [at_in yx3, at_get eI yx3, c2, go_sem]
      refine AKev_bif h1 (fun c4 h1 => ?_) (fun c4 h1 => ?_)
      · try simp only [c4, c2, at_in yx3, at_get eI yx3, go_sem]
        obtain rfl := hret1 _ (Option.some.inj h1).symm
        simp only at h0
        obtain rfl := Option.some.inj h0
        refine AKev_ret rfl ?_
        try simp only [F93.rs, c2, at_in yx3, at_get eI yx3, c4, go_sem]
      · try simp only [c4, c2, at_in yx3, at_get eI yx3, go_sem]
        refine AKev_backB (hnext1 _ _ (Option.some.inj h1).symm ?_)
        refine Weak.go [0, 1, 5] [] rfl ?_
        try simp only [R01_Has.h0, c2, at_in yx3, at_get eI yx3, c4, go_sem]
    · try simp only [c2, go_sem]
      refine AKev_backB (hbrk1 _ _ (Option.some.inj h1).symm ?_)
      refine Weak.go [] [] rfl ?_
      try simp only [R01_Has.x0, c2, go_sem]
  · rintro _ hr_
    subst hr_
    simp only at h0
    refine run_sound T_ok 1000 _ _ ?_
    try simp only [R01_Has.x0, go_sem]
    obtain rfl := Option.some.inj h0
    refine AKev_ret rfl ?_
    try simp only [F93.rs, go_sem]
end Go.Abs
namespace Go.Abs
open Go.Proofs
set_option maxRecDepth 20000
set_option linter.unusedVariables false
set_option linter.unusedSimpArgs false
set_option maxHeartbeats 8000000
def F73.s0 : SC :=
 (.seq
  (.seq
   (.reg [⟨some 11, .move (.tmp 6), 3, none, []⟩,
     ⟨some 12, .fieldAddr 27 (.tmp 2) 1, 0, none, []⟩,
     ⟨some 13, .load 25 (.tmp 12), 25, none, [12]⟩,
     ⟨some 14, .call ⟨.builtin .len, #[.tmp 13], #[25]⟩, 3, none, [13]⟩,
     ⟨some 15, .binOp .lss 3 (.tmp 11) (.tmp 14) 3, 4, none, [11, 14]⟩])
   (.cond (.tmp 15)
    .skip
    (.exit 0)))
  (.seq
   (.block 1
    (.seq
     (.reg [⟨some 18, .move (.tmp 1), 37, none, []⟩,
       ⟨some 19, .fieldAddr 27 (.tmp 2) 1, 0, none, []⟩,
       ⟨some 20, .load 25 (.tmp 19), 25, none, [19]⟩,
       ⟨some 21, .move (.tmp 6), 3, none, []⟩,
       ⟨some 22, .indexAddr 25 (.tmp 20) (.tmp 21), 0, none, [20, 21]⟩,
       ⟨some 23, .fieldAddr 64 (.tmp 22) 0, 0, none, [22]⟩,
       ⟨some 24, .load 3 (.tmp 23), 3, none, [23]⟩,
       ⟨some 25, .call ⟨.value (.func 93), #[.tmp 18, .tmp 24], #[37, 3]⟩, 4, none, [18, 24]⟩])
     (.cond (.tmp 25)
      (.dreg [⟨some 26, .fieldAddr 27 (.tmp 5) 1, 0, none, []⟩,
        ⟨some 27, .load 25 (.tmp 26), 25, none, []⟩,
        ⟨some 28, .fieldAddr 27 (.tmp 2) 1, 0, none, []⟩,
        ⟨some 29, .load 25 (.tmp 28), 25, none, []⟩,
        ⟨some 30, .move (.tmp 6), 3, none, []⟩,
        ⟨some 31, .indexAddr 25 (.tmp 29) (.tmp 30), 0, none, []⟩,
        ⟨some 32, .load 64 (.tmp 31), 64, none, []⟩,
        ⟨some 33, .buildSlice 25 1 #[(0, .tmp 32)], 25, none, []⟩,
        ⟨some 34, .call ⟨.builtin .append, #[.tmp 27, .tmp 33], #[25, 25]⟩, 25, none, []⟩,
        ⟨some 35, .fieldAddr 27 (.tmp 5) 1, 0, none, []⟩,
        ⟨none, .store 25 (.tmp 35) (.tmp 34), 0, none, []⟩] [[], [0], [], [2], [], [2, 3, 4], [2, 3, 4, 5], [2, 3, 4, 5, 6], [0, 1, 2, 3, 4, 5, 6, 7], [0, 1, 2, 3, 4, 5, 6, 7, 8], [0, 1, 2, 3, 4, 5, 6, 7, 8, 9]] [26, 27, 28, 29, 30, 31, 32, 33, 34, 35])
      .skip)))
   (.reg [⟨some 16, .move (.tmp 6), 3, none, [6]⟩,
     ⟨some 17, .binOp .add 3 (.tmp 16) (.const (.int .i64 1)) 3, 3, none, [16]⟩,
     ⟨some 6, .assign (.tmp 17), 3, none, [17]⟩])))
def F73.c : SC :=
 (.seq
  (.reg [⟨some 2, .box 27 (.tmp 0), 0, none, [0]⟩,
    ⟨some 4, .alloc 27, 0, none, []⟩])
  (.seq
   (.reg [⟨some 7, .fieldAddr 27 (.tmp 2) 0, 0, none, []⟩,
     ⟨some 8, .load 24 (.tmp 7), 24, none, [7]⟩,
     ⟨some 9, .call ⟨.value (.func 91), #[.tmp 8], #[24]⟩, 24, none, [8]⟩,
     ⟨some 10, .build 27 #[(0, .tmp 9)], 27, none, [9]⟩,
     ⟨some 5, .alloc 27, 0, none, []⟩,
     ⟨none, .store 27 (.tmp 5) (.tmp 10), 0, none, [10]⟩])
   (.seq
    (.seq
     (.reg [⟨some 6, .assign (.const (.int .i64 0)), 3, none, []⟩])
     (.block 0
      (.loop F73.s0)))
    (.seq
     (.reg [⟨some 36, .load 27 (.tmp 5), 27, none, [5]⟩,
       ⟨none, .store 27 (.tmp 4) (.tmp 36), 0, none, [36]⟩])
     .ret))))
theorem F73.rs : Tryz.f73.results.toList = [.cell 4 27] := rfl
def R04_only.b0 (k : Nat) (f0 : Firing) (by1 : (List Int)) : (Int × (List Reading)) → Option (Stp (Int × (List Reading)) ((List Reading)) (Firing)) := fun (s : Int × (List Reading)) => match s with
  | (i2, l3) => 
      bif decide (i2 < (f0.Readings.length : Int)) then
        (at? f0.Readings i2).bind fun x6 =>
        (R01_Has k by1 x6.Source).bind fun x7 =>
        bif x7 then
          (push? 48 l3 x6).bind fun l9 =>
          some (.next (w64 (i2 + 1), l9))
        else
          some (.next (w64 (i2 + 1), l3))
      else
        some (.brk l3)
noncomputable def R04_only.h0 (f0 : Firing) (by1 : (List Int)) (x1 : Kiln) : (Int × (List Reading)) → St := fun (s : Int × (List Reading)) => match s with
  | (i2, l3) => ⟨[(1, .sl 1 (List.map eI by1)), (2, .ptr 0 0 0), (4, .ptr 0 1 0), (5, .ptr 0 4 0), (6, .int .i64 i2)], [(0, .box [.sl 1 (List.map (eL 2 Range.c) f0.Kiln.Falls), .sl 6 (List.map Reading.c f0.Readings)]), (1, .box [.loc 0 2 1 0 0 0, .loc 0 3 6 0 0 0]), (2, .arr 89 1 (List.map (eL 2 Range.c) [])), (3, .arr 64 6 (List.map Reading.c [])), (4, .box [.sl 1 (List.map (eL 2 Range.c) x1.Falls), .loc 0 5 6 0 l3.length l3.length]), (5, .arr 64 6 (List.map Reading.c l3))], [], 6, Tryz.f73.ntmps⟩
noncomputable def R04_only.x0 (x1 : Kiln) : (List Reading) → St := fun (l4 : (List Reading)) => ⟨[(4, .ptr 0 0 0), (5, .ptr 0 3 0)], [(0, .box [.loc 0 1 1 0 0 0, .loc 0 2 6 0 0 0]), (1, .arr 89 1 (List.map (eL 2 Range.c) [])), (2, .arr 64 6 (List.map Reading.c [])), (3, .box [.sl 1 (List.map (eL 2 Range.c) x1.Falls), .loc 0 4 6 0 l4.length l4.length]), (4, .arr 64 6 (List.map Reading.c l4))], [], 5, Tryz.f73.ntmps⟩
def R04_only (k : Nat) (f0 : Firing) (by1 : (List Int)) : Option (Firing) :=
  (R04_kiln k f0.Kiln).bind fun x1 =>
  (whl (R04_only.b0 k f0 by1) k (0, [])).bind fun r10 => match r10 with
  | .next _ => none
  | .ret v_ => some v_
  | .brk l4 =>
    some (⟨x1, l4⟩ : Firing)
theorem R04_only_ok (k : Nat) (f0 : Firing) (by1 : (List Int)) (r : Firing) (h0 : R04_only k f0 by1 = some r) : PCall Tryz.prog 73 [.agg (Firing.c f0), .sl 1 (List.map eI by1)] (fun y => y = .agg (Firing.c r)) := by
  refine PCall.nlr (PCall.of_body T_ok (fn := Tryz.f73) (sc := F73.c) (by rfl) (by rfl) (by decide +kernel) (by rfl) (by decide +kernel) (Nat.le_of_ble_eq_true rfl) ?_)
  refine run_sound T_ok 1000 _ _ ?_
  simp only [R04_only] at h0
  try simp only [F73.c, go_sem]
  obtain ⟨x1, yx1, h0⟩ := bind_some h0
  refine AKev_call0 T_ok 1000 (R04_kiln_ok k _ _ yx1) ?_ (by first | rfl | simp [AV.refsL, AV.refs, AV.scal, AV.leaf]) ?_
  · try simp only [go_sem]
  try simp only [go_sem]
  obtain ⟨r10, yr10, h0⟩ := bind_some h0
  refine AKev_loopS yr10 (R04_only.h0 f0 by1 x1) (R04_only.x0 x1) ?_ ?_ ?_
  · refine Weak.go [1, 2, 4, 5, 6] [0, 16, 17, 18, 96, 112] rfl ?_
    try simp only [R04_only.h0, go_sem]
  · rintro ⟨i2, l3⟩ x_1 Bk1 Br1 h1 hnext1 hbrk1 hret1
    refine run_sound T_ok 1000 _ _ ?_
    simp only [R04_only.b0] at h1
    try simp only [F73.s0, R04_only.h0, go_sem]
    refine AKev_bif h1 (fun c5 h1 => ?_) (fun c5 h1 => ?_)
    · try simp only [c5, go_sem]
      obtain ⟨x6, yx6, h1⟩ := bind_some h1
      try simp only [at_in yx6, at_get Reading.c yx6, c5, go_sem]
      obtain ⟨x7, yx7, h1⟩ := bind_some h1
      refine AKev_call0 T_ok 1000 (R01_Has_ok k _ _ _ yx7) ?_ (by first | rfl | simp [AV.refsL, AV.refs, AV.scal, AV.leaf]) ?_
      · try simp only [c5, at_in yx6, at_get Reading.c yx6, go_sem]
      try simp only [c5, at_in yx6, at_get Reading.c yx6, go_sem]
      refine AKev_bif h1 (fun c8 h1 => ?_) (fun c8 h1 => ?_)
      · try simp only [c8, c5, at_in yx6, at_get Reading.c yx6, go_sem]
        refine AKev_region T_ok follows_ok 1000 ?_
        try simp only [at_in yx6, at_get Reading.c yx6, c5, c8, go_sem]
        obtain ⟨l9, yl9, h1⟩ := bind_some h1
        have eyl9 := push_map Reading.c yl9
        have tyl9 := push_take Reading.c yl9
        have nyl9 := push_len yl9
        have myl9 := push_room yl9
        try simp only [c5, at_in yx6, at_get Reading.c yx6, c8, go_sem] at eyl9 tyl9 nyl9 myl9
        try simp only [myl9, eyl9, c5, at_in yx6, at_get Reading.c yx6, c8, nyl9, tyl9, go_sem]
        refine DG_done ⟨rfl, run_sound T_ok 1000 _ _ ?_⟩
        try simp only [c5, at_in yx6, at_get Reading.c yx6, c8, eyl9, nyl9, tyl9, go_sem]
        refine AKev_backB (hnext1 _ _ (Option.some.inj h1).symm ?_)
        refine Weak.go [1, 2, 4, 5, 6] [0, 1, 2, 3, 4, 5] rfl ?_
        try simp only [R04_only.h0, c5, at_in yx6, at_get Reading.c yx6, c8, eyl9, nyl9, tyl9, go_sem]
      · try simp only [c8, c5, at_in yx6, at_get Reading.c yx6, go_sem]
        refine AKev_backB (hnext1 _ _ (Option.some.inj h1).symm ?_)
        refine Weak.go [1, 2, 4, 5, 6] [0, 1, 2, 3, 4, 5] rfl ?_
        try simp only [R04_only.h0, c5, at_in yx6, at_get Reading.c yx6, c8, go_sem]
    · try simp only [c5, go_sem]
      refine AKev_backB (hbrk1 _ _ (Option.some.inj h1).symm ?_)
      refine Weak.go [4, 5] [1, 2, 3, 4, 5] rfl ?_
      try simp only [R04_only.x0, c5, go_sem]
  · rintro l4 hr_
    subst hr_
    simp only at h0
    refine run_sound T_ok 1000 _ _ ?_
    try simp only [R04_only.x0, go_sem]
    obtain rfl := Option.some.inj h0
    refine AKev_ret rfl ?_
    try simp only [F73.rs, go_sem]
end Go.Abs
namespace Go.Abs
open Go.Proofs
set_option maxRecDepth 20000
set_option linter.unusedVariables false
set_option linter.unusedSimpArgs false
set_option maxHeartbeats 8000000
def F34.c : SC :=
 (.seq
  (.reg [⟨some 2, .box 27 (.tmp 0), 0, none, [0]⟩,
    ⟨some 4, .alloc 27, 0, none, []⟩,
    ⟨some 5, .assign (.const (.int .i64 0)), 33, none, [5]⟩])
  (.seq
   (.seq
    (.reg [⟨some 7, .load 27 (.tmp 2), 27, none, []⟩,
      ⟨some 8, .call ⟨.value (.func 43), #[.tmp 7], #[27]⟩, 33, none, [7]⟩,
      ⟨some 9, .binOp .neq 33 (.tmp 8) (.const (.int .i64 0)) 33, 4, none, [8]⟩])
    (.cond (.tmp 9)
     (.seq
      (.reg [⟨some 10, .build 27 #[], 27, none, []⟩,
        ⟨none, .store 27 (.tmp 4) (.tmp 10), 0, none, [10]⟩,
        ⟨some 5, .assign (.const (.int .i64 42)), 33, none, []⟩])
      .ret)
     .skip))
   (.seq
    (.reg [⟨some 11, .fieldAddr 27 (.tmp 2) 1, 0, none, []⟩,
      ⟨some 12, .load 25 (.tmp 11), 25, none, [11]⟩,
      ⟨some 13, .call ⟨.value (.func 71), #[.tmp 12], #[25]⟩, 37, none, [12]⟩,
      ⟨some 6, .assign (.tmp 13), 37, none, [13]⟩])
    (.seq
     (.seq
      (.reg [⟨some 14, .move (.tmp 6), 37, none, []⟩,
        ⟨some 15, .move (.tmp 1), 3, none, []⟩,
        ⟨some 16, .call ⟨.value (.func 93), #[.tmp 14, .tmp 15], #[37, 3]⟩, 4, none, [14, 15]⟩,
        ⟨some 17, .unOp .not 4 (.tmp 16), 4, none, [16]⟩])
      (.cond (.tmp 17)
       (.seq
        (.reg [⟨some 18, .build 27 #[], 27, none, []⟩,
          ⟨none, .store 27 (.tmp 4) (.tmp 18), 0, none, [18]⟩,
          ⟨some 5, .assign (.const (.int .i64 3)), 33, none, []⟩])
        .ret)
       .skip))
     (.seq
      (.dreg [⟨some 19, .load 27 (.tmp 2), 27, none, []⟩,
        ⟨some 20, .move (.tmp 6), 37, none, []⟩,
        ⟨some 21, .move (.tmp 1), 3, none, []⟩,
        ⟨some 22, .call ⟨.value (.func 72), #[.tmp 20, .tmp 21], #[37, 3]⟩, 37, none, []⟩,
        ⟨some 23, .call ⟨.value (.func 73), #[.tmp 19, .tmp 22], #[27, 37]⟩, 27, none, []⟩,
        ⟨none, .store 27 (.tmp 4) (.tmp 23), 0, none, []⟩,
        ⟨some 5, .assign (.const (.int .i64 0)), 33, none, []⟩] [[], [], [], [1, 2], [0, 1, 2, 3], [0, 1, 2, 3, 4], [0, 1, 2, 3, 4, 5]] [1, 2, 6, 19, 20, 21, 22, 23])
      .ret)))))
theorem F34.rs : Tryz.f34.results.toList = [.cell 4 27, .tmp 5] := rfl
def R04_Without (k : Nat) (f0 : Firing) (source1 : Int) : Option (Firing × Int) :=
  (R04_Check k f0).bind fun x1 =>
  bif (!decide (x1 = (0 : Int))) then
    some ((⟨(⟨[]⟩ : Kiln), []⟩ : Firing), 42)
  else
    (R04_sources k f0.Readings).bind fun x3 =>
    (R01_Has k x3 source1).bind fun x4 =>
    bif (!x4) then
      some ((⟨(⟨[]⟩ : Kiln), []⟩ : Firing), 3)
    else
      (R01_Less k x3 source1).bind fun x6 =>
      (R04_only k f0 x6).bind fun x7 =>
      some (x7, 0)
theorem R04_Without_ok (k : Nat) (f0 : Firing) (source1 : Int) (r : Firing × Int) (h0 : R04_Without k f0 source1 = some r) : PCall Tryz.prog 34 [.agg (Firing.c f0), .int .i64 source1] (fun y => y = .tup [.agg (Firing.c r.1), .int .i64 r.2]) := by
  refine PCall.nlr (PCall.of_body T_ok (fn := Tryz.f34) (sc := F34.c) (by rfl) (by rfl) (by decide +kernel) (by rfl) (by decide +kernel) (Nat.le_of_ble_eq_true rfl) ?_)
  refine run_sound T_ok 1000 _ _ ?_
  simp only [R04_Without] at h0
  try simp only [F34.c, go_sem]
  obtain ⟨x1, yx1, h0⟩ := bind_some h0
  refine AKev_call0 T_ok 1000 (R04_Check_ok k _ _ yx1) ?_ (by first | rfl | simp [AV.refsL, AV.refs, AV.scal, AV.leaf]) ?_
  · try simp only [go_sem]
  try simp only [go_sem]
  refine AKev_bif h0 (fun c2 h0 => ?_) (fun c2 h0 => ?_)
  · have c2 := bnot_t c2
    try simp only [c2, go_sem]
    obtain rfl := Option.some.inj h0
    refine AKev_ret rfl ?_
    try simp only [F34.rs, c2, go_sem]
  · have c2 := bnot_f c2
    try simp only [c2, go_sem]
    obtain ⟨x3, yx3, h0⟩ := bind_some h0
    refine AKev_call0 T_ok 1000 (R04_sources_ok k _ _ yx3) ?_ (by first | rfl | simp [AV.refsL, AV.refs, AV.scal, AV.leaf]) ?_
    · try simp only [c2, go_sem]
    try simp only [c2, go_sem]
    obtain ⟨x4, yx4, h0⟩ := bind_some h0
    refine AKev_call0 T_ok 1000 (R01_Has_ok k _ _ _ yx4) ?_ (by first | rfl | simp [AV.refsL, AV.refs, AV.scal, AV.leaf]) ?_
    · try simp only [c2, go_sem]
    try simp only [c2, go_sem]
    refine AKev_bif h0 (fun c5 h0 => ?_) (fun c5 h0 => ?_)
    · have c5 := bnot_t c5
      try simp only [c5, c2, go_sem]
      obtain rfl := Option.some.inj h0
      refine AKev_ret rfl ?_
      try simp only [F34.rs, c2, c5, go_sem]
    · have c5 := bnot_f c5
      try simp only [c5, c2, go_sem]
      refine AKev_region T_ok follows_ok 1000 ?_
      try simp only [c2, c5, go_sem]
      obtain ⟨x6, yx6, h0⟩ := bind_some h0
      refine DG_call0 1000 (R01_Less_ok k _ _ _ yx6) ?_ (by first | rfl | simp [AV.refsL, AV.refs, AV.scal, AV.leaf]) ?_
      · try simp only [c2, c5, go_sem]
      try simp only [c2, c5, go_sem]
      obtain ⟨x7, yx7, h0⟩ := bind_some h0
      refine DG_call0 1000 (R04_only_ok k _ _ _ yx7) ?_ (by first | rfl | simp [AV.refsL, AV.refs, AV.scal, AV.leaf]) ?_
      · try simp only [c2, c5, go_sem]
      try simp only [c2, c5, go_sem]
      refine DG_done ⟨rfl, run_sound T_ok 1000 _ _ ?_⟩
      try simp only [c2, c5, go_sem]
      obtain rfl := Option.some.inj h0
      refine AKev_ret rfl ?_
      try simp only [F34.rs, c2, c5, go_sem]
end Go.Abs
namespace Go.Abs
open Go.Proofs
set_option maxRecDepth 20000
set_option linter.unusedVariables false
set_option linter.unusedSimpArgs false
set_option maxHeartbeats 8000000
def F35.s2 : SC :=
 (.seq
  (.seq
   (.reg [⟨some 79, .move (.tmp 7), 3, none, []⟩,
     ⟨some 80, .fieldAddr 27 (.tmp 2) 1, 0, none, []⟩,
     ⟨some 81, .load 25 (.tmp 80), 25, none, [80]⟩,
     ⟨some 82, .call ⟨.builtin .len, #[.tmp 81], #[25]⟩, 3, none, [81]⟩,
     ⟨some 83, .binOp .lss 3 (.tmp 79) (.tmp 82) 3, 4, none, [79, 82]⟩])
   (.cond (.tmp 83)
    .skip
    (.exit 4)))
  (.seq
   (.block 5
    (.seq
     (.dreg [⟨some 86, .fieldAddr 27 (.tmp 2) 1, 0, none, []⟩,
       ⟨some 87, .load 25 (.tmp 86), 25, none, []⟩,
       ⟨some 88, .move (.tmp 7), 3, none, []⟩,
       ⟨some 89, .indexAddr 25 (.tmp 87) (.tmp 88), 0, none, []⟩,
       ⟨some 90, .load 64 (.tmp 89), 64, none, []⟩,
       ⟨some 91, .fieldAddr 27 (.tmp 3) 1, 0, none, []⟩,
       ⟨some 92, .load 25 (.tmp 91), 25, none, []⟩,
       ⟨some 93, .move (.tmp 7), 3, none, []⟩,
       ⟨some 94, .indexAddr 25 (.tmp 92) (.tmp 93), 0, none, []⟩,
       ⟨some 95, .load 64 (.tmp 94), 64, none, []⟩,
       ⟨some 96, .binOp .neq 64 (.tmp 90) (.tmp 95) 64, 4, none, []⟩] [[], [0], [], [0, 1, 2], [0, 1, 2, 3], [], [5], [], [5, 6, 7], [5, 6, 7, 8], [0, 1, 2, 3, 4, 5, 6, 7, 8, 9]] [86, 87, 88, 89, 90, 91, 92, 93, 94, 95])
     (.cond (.tmp 96)
      (.seq
       (.reg [⟨some 4, .assign (.const (.bool false)), 4, none, []⟩])
       .ret)
      .skip)))
   (.reg [⟨some 84, .move (.tmp 7), 3, none, [7]⟩,
     ⟨some 85, .binOp .add 3 (.tmp 84) (.const (.int .i64 1)) 3, 3, none, [84]⟩,
     ⟨some 7, .assign (.tmp 85), 3, none, [85]⟩])))
def F35.s1 : SC :=
 (.seq
  (.seq
   (.reg [⟨some 49, .move (.tmp 6), 3, none, []⟩,
     ⟨some 50, .fieldAddr 27 (.tmp 2) 0, 0, none, []⟩,
     ⟨some 51, .fieldAddr 24 (.tmp 50) 0, 0, none, [50]⟩,
     ⟨some 52, .load 22 (.tmp 51), 22, none, [51]⟩,
     ⟨some 53, .move (.tmp 5), 3, none, []⟩,
     ⟨some 54, .indexAddr 22 (.tmp 52) (.tmp 53), 0, none, [52, 53]⟩,
     ⟨some 55, .load 89 (.tmp 54), 89, none, [54]⟩,
     ⟨some 56, .call ⟨.builtin .len, #[.tmp 55], #[89]⟩, 3, none, [55]⟩,
     ⟨some 57, .binOp .lss 3 (.tmp 49) (.tmp 56) 3, 4, none, [49, 56]⟩])
   (.cond (.tmp 57)
    .skip
    (.exit 2)))
  (.seq
   (.block 3
    (.seq
     (.dreg [⟨some 60, .fieldAddr 27 (.tmp 2) 0, 0, none, []⟩,
       ⟨some 61, .fieldAddr 24 (.tmp 60) 0, 0, none, []⟩,
       ⟨some 62, .load 22 (.tmp 61), 22, none, []⟩,
       ⟨some 63, .move (.tmp 5), 3, none, []⟩,
       ⟨some 64, .indexAddr 22 (.tmp 62) (.tmp 63), 0, none, []⟩,
       ⟨some 65, .load 89 (.tmp 64), 89, none, []⟩,
       ⟨some 66, .move (.tmp 6), 3, none, []⟩,
       ⟨some 67, .indexAddr 89 (.tmp 65) (.tmp 66), 0, none, []⟩,
       ⟨some 68, .load 30 (.tmp 67), 30, none, []⟩,
       ⟨some 69, .fieldAddr 27 (.tmp 3) 0, 0, none, []⟩,
       ⟨some 70, .fieldAddr 24 (.tmp 69) 0, 0, none, []⟩,
       ⟨some 71, .load 22 (.tmp 70), 22, none, []⟩,
       ⟨some 72, .move (.tmp 5), 3, none, []⟩,
       ⟨some 73, .indexAddr 22 (.tmp 71) (.tmp 72), 0, none, []⟩,
       ⟨some 74, .load 89 (.tmp 73), 89, none, []⟩,
       ⟨some 75, .move (.tmp 6), 3, none, []⟩,
       ⟨some 76, .indexAddr 89 (.tmp 74) (.tmp 75), 0, none, []⟩,
       ⟨some 77, .load 30 (.tmp 76), 30, none, []⟩,
       ⟨some 78, .binOp .neq 30 (.tmp 68) (.tmp 77) 30, 4, none, []⟩] [[], [0], [0, 1], [], [0, 1, 2, 3], [0, 1, 2, 3, 4], [], [0, 1, 2, 3, 4, 5, 6], [0, 1, 2, 3, 4, 5, 6, 7], [], [9], [9, 10], [], [9, 10, 11, 12], [9, 10, 11, 12, 13], [], [9, 10, 11, 12, 13, 14, 15], [9, 10, 11, 12, 13, 14, 15, 16], [0, 1, 2, 3, 4, 5, 6, 7, 8, 9, 10, 11, 12, 13, 14, 15, 16, 17]] [60, 61, 62, 63, 64, 65, 66, 67, 68, 69, 70, 71, 72, 73, 74, 75, 76, 77])
     (.cond (.tmp 78)
      (.seq
       (.reg [⟨some 4, .assign (.const (.bool false)), 4, none, []⟩])
       .ret)
      .skip)))
   (.reg [⟨some 58, .move (.tmp 6), 3, none, [6]⟩,
     ⟨some 59, .binOp .add 3 (.tmp 58) (.const (.int .i64 1)) 3, 3, none, [58]⟩,
     ⟨some 6, .assign (.tmp 59), 3, none, [59]⟩])))
def F35.s0 : SC :=
 (.seq
  (.seq
   (.reg [⟨some 26, .move (.tmp 5), 3, none, []⟩,
     ⟨some 27, .fieldAddr 27 (.tmp 2) 0, 0, none, []⟩,
     ⟨some 28, .fieldAddr 24 (.tmp 27) 0, 0, none, [27]⟩,
     ⟨some 29, .load 22 (.tmp 28), 22, none, [28]⟩,
     ⟨some 30, .call ⟨.builtin .len, #[.tmp 29], #[22]⟩, 3, none, [29]⟩,
     ⟨some 31, .binOp .lss 3 (.tmp 26) (.tmp 30) 3, 4, none, [26, 30]⟩])
   (.cond (.tmp 31)
    .skip
    (.exit 0)))
  (.seq
   (.block 1
    (.seq
     (.seq
      (.dreg [⟨some 34, .fieldAddr 27 (.tmp 2) 0, 0, none, []⟩,
        ⟨some 35, .fieldAddr 24 (.tmp 34) 0, 0, none, []⟩,
        ⟨some 36, .load 22 (.tmp 35), 22, none, []⟩,
        ⟨some 37, .move (.tmp 5), 3, none, []⟩,
        ⟨some 38, .indexAddr 22 (.tmp 36) (.tmp 37), 0, none, []⟩,
        ⟨some 39, .load 89 (.tmp 38), 89, none, []⟩,
        ⟨some 40, .call ⟨.builtin .len, #[.tmp 39], #[89]⟩, 3, none, []⟩,
        ⟨some 41, .fieldAddr 27 (.tmp 3) 0, 0, none, []⟩,
        ⟨some 42, .fieldAddr 24 (.tmp 41) 0, 0, none, []⟩,
        ⟨some 43, .load 22 (.tmp 42), 22, none, []⟩,
        ⟨some 44, .move (.tmp 5), 3, none, []⟩,
        ⟨some 45, .indexAddr 22 (.tmp 43) (.tmp 44), 0, none, []⟩,
        ⟨some 46, .load 89 (.tmp 45), 89, none, []⟩,
        ⟨some 47, .call ⟨.builtin .len, #[.tmp 46], #[89]⟩, 3, none, []⟩,
        ⟨some 48, .binOp .neq 3 (.tmp 40) (.tmp 47) 3, 4, none, []⟩] [[], [0], [0, 1], [], [0, 1, 2, 3], [0, 1, 2, 3, 4], [0, 1, 2, 3, 4, 5], [], [7], [7, 8], [], [7, 8, 9, 10], [7, 8, 9, 10, 11], [7, 8, 9, 10, 11, 12], [0, 1, 2, 3, 4, 5, 6, 7, 8, 9, 10, 11, 12, 13]] [34, 35, 36, 37, 38, 39, 40, 41, 42, 43, 44, 45, 46, 47])
      (.cond (.tmp 48)
       (.seq
        (.reg [⟨some 4, .assign (.const (.bool false)), 4, none, []⟩])
        .ret)
       .skip))
     (.seq
      (.reg [⟨some 6, .assign (.const (.int .i64 0)), 3, none, []⟩])
      (.block 2
       (.loop F35.s1)))))
   (.reg [⟨some 32, .move (.tmp 5), 3, none, [5]⟩,
     ⟨some 33, .binOp .add 3 (.tmp 32) (.const (.int .i64 1)) 3, 3, none, [32]⟩,
     ⟨some 5, .assign (.tmp 33), 3, none, [33]⟩])))
def F35.c : SC :=
 (.seq
  (.reg [⟨some 2, .box 27 (.tmp 0), 0, none, [0]⟩,
    ⟨some 3, .box 27 (.tmp 1), 0, none, [1]⟩,
    ⟨some 4, .assign (.const (.bool false)), 4, none, [4]⟩])
  (.seq
   (.seq
    (.reg [⟨some 8, .fieldAddr 27 (.tmp 2) 0, 0, none, []⟩,
      ⟨some 9, .fieldAddr 24 (.tmp 8) 0, 0, none, [8]⟩,
      ⟨some 10, .load 22 (.tmp 9), 22, none, [9]⟩,
      ⟨some 11, .call ⟨.builtin .len, #[.tmp 10], #[22]⟩, 3, none, [10]⟩,
      ⟨some 12, .fieldAddr 27 (.tmp 3) 0, 0, none, []⟩,
      ⟨some 13, .fieldAddr 24 (.tmp 12) 0, 0, none, [12]⟩,
      ⟨some 14, .load 22 (.tmp 13), 22, none, [13]⟩,
      ⟨some 15, .call ⟨.builtin .len, #[.tmp 14], #[22]⟩, 3, none, [14]⟩,
      ⟨some 16, .binOp .neq 3 (.tmp 11) (.tmp 15) 3, 4, none, [11, 15]⟩,
      ⟨some 17, .move (.tmp 16), 4, none, [16]⟩,
      ⟨some 18, .fieldAddr 27 (.tmp 2) 1, 0, some (17, false), []⟩,
      ⟨some 19, .load 25 (.tmp 18), 25, some (17, false), [18]⟩,
      ⟨some 20, .call ⟨.builtin .len, #[.tmp 19], #[25]⟩, 3, some (17, false), [19]⟩,
      ⟨some 21, .fieldAddr 27 (.tmp 3) 1, 0, some (17, false), []⟩,
      ⟨some 22, .load 25 (.tmp 21), 25, some (17, false), [21]⟩,
      ⟨some 23, .call ⟨.builtin .len, #[.tmp 22], #[25]⟩, 3, some (17, false), [22]⟩,
      ⟨some 24, .binOp .neq 3 (.tmp 20) (.tmp 23) 3, 4, some (17, false), [20, 23]⟩,
      ⟨some 25, .pick (.tmp 17) (.const (.bool true)) (.tmp 24), 4, none, [17, 24]⟩])
    (.cond (.tmp 25)
     (.seq
      (.reg [⟨some 4, .assign (.const (.bool false)), 4, none, []⟩])
      .ret)
     .skip))
   (.seq
    (.seq
     (.reg [⟨some 5, .assign (.const (.int .i64 0)), 3, none, []⟩])
     (.block 0
      (.loop F35.s0)))
    (.seq
     (.seq
      (.reg [⟨some 7, .assign (.const (.int .i64 0)), 3, none, []⟩])
      (.block 4
       (.loop F35.s2)))
     (.seq
      (.reg [⟨some 4, .assign (.const (.bool true)), 4, none, []⟩])
      .ret)))))
theorem F35.rs : Tryz.f35.results.toList = [.tmp 4] := rfl
def R04_SameFiring.b1 (k : Nat) (x5 : (List Range)) (x6 : (List Range)) : Int → Option (Stp (Int) (Unit) (Bool)) := fun (i8 : Int) => 
  bif decide (i8 < (x5.length : Int)) then
    (at? x5 i8).bind fun x10 =>
    (at? x6 i8).bind fun x11 =>
    bif (!(decide (x10.Lo = x11.Lo) && decide (x10.Hi = x11.Hi))) then
      some (.ret false)
    else
      some (.next (w64 (i8 + 1)))
  else
    some (.brk ())
def R04_SameFiring.b0 (k : Nat) (a0 : Firing) (b1 : Firing) : Int → Option (Stp (Int) (Unit) (Bool)) := fun (i3 : Int) => 
  bif decide (i3 < (a0.Kiln.Falls.length : Int)) then
    (at? a0.Kiln.Falls i3).bind fun x5 =>
    (at? b1.Kiln.Falls i3).bind fun x6 =>
    bif (!decide ((x5.length : Int) = (x6.length : Int))) then
      some (.ret false)
    else
      (whl (R04_SameFiring.b1 k x5 x6) k 0).bind fun r13 => match r13 with
      | .next _ => none
      | .ret v_ => some (.ret v_)
      | .brk _ =>
        some (.next (w64 (i3 + 1)))
  else
    some (.brk ())
def R04_SameFiring.b2 (k : Nat) (a0 : Firing) (b1 : Firing) : Int → Option (Stp (Int) (Unit) (Bool)) := fun (i15 : Int) => 
  bif decide (i15 < (a0.Readings.length : Int)) then
    (at? a0.Readings i15).bind fun x17 =>
    (at? b1.Readings i15).bind fun x18 =>
    bif (!(decide (x17.Source = x18.Source) && (decide (x17.Place = x18.Place) && (decide (x17.Kind = x18.Kind) && (decide (x17.Mark = x18.Mark) && (decide (x17.Heat.Lo = x18.Heat.Lo) && decide (x17.Heat.Hi = x18.Heat.Hi))))))) then
      some (.ret false)
    else
      some (.next (w64 (i15 + 1)))
  else
    some (.brk ())
noncomputable def R04_SameFiring.h1 (a0 : Firing) (b1 : Firing) (i3 : Int) : Int → St := fun (i8 : Int) => ⟨[(2, .ptr 0 0 0), (3, .ptr 0 1 0), (5, .int .i64 i3), (6, .int .i64 i8)], [(0, .box [.sl 1 (List.map (eL 2 Range.c) a0.Kiln.Falls), .sl 6 (List.map Reading.c a0.Readings)]), (1, .box [.sl 1 (List.map (eL 2 Range.c) b1.Kiln.Falls), .sl 6 (List.map Reading.c b1.Readings)])], [], 2, Tryz.f35.ntmps⟩
noncomputable def R04_SameFiring.x1 (a0 : Firing) (b1 : Firing) (i3 : Int) : Unit → St := fun (_ : Unit) => ⟨[(2, .ptr 0 0 0), (3, .ptr 0 1 0), (5, .int .i64 i3)], [(0, .box [.sl 1 (List.map (eL 2 Range.c) a0.Kiln.Falls), .sl 6 (List.map Reading.c a0.Readings)]), (1, .box [.sl 1 (List.map (eL 2 Range.c) b1.Kiln.Falls), .sl 6 (List.map Reading.c b1.Readings)])], [], 2, Tryz.f35.ntmps⟩
noncomputable def R04_SameFiring.h0 (a0 : Firing) (b1 : Firing) : Int → St := fun (i3 : Int) => ⟨[(2, .ptr 0 0 0), (3, .ptr 0 1 0), (5, .int .i64 i3)], [(0, .box [.sl 1 (List.map (eL 2 Range.c) a0.Kiln.Falls), .sl 6 (List.map Reading.c a0.Readings)]), (1, .box [.sl 1 (List.map (eL 2 Range.c) b1.Kiln.Falls), .sl 6 (List.map Reading.c b1.Readings)])], [], 2, Tryz.f35.ntmps⟩
noncomputable def R04_SameFiring.x0 (a0 : Firing) (b1 : Firing) : Unit → St := fun (_ : Unit) => ⟨[(2, .ptr 0 0 0), (3, .ptr 0 1 0)], [(0, .box [.sl 1 (List.map (eL 2 Range.c) a0.Kiln.Falls), .sl 6 (List.map Reading.c a0.Readings)]), (1, .box [.sl 1 (List.map (eL 2 Range.c) b1.Kiln.Falls), .sl 6 (List.map Reading.c b1.Readings)])], [], 2, Tryz.f35.ntmps⟩
noncomputable def R04_SameFiring.h2 (a0 : Firing) (b1 : Firing) : Int → St := fun (i15 : Int) => ⟨[(2, .ptr 0 0 0), (3, .ptr 0 1 0), (7, .int .i64 i15)], [(0, .box [.sl 1 (List.map (eL 2 Range.c) a0.Kiln.Falls), .sl 6 (List.map Reading.c a0.Readings)]), (1, .box [.sl 1 (List.map (eL 2 Range.c) b1.Kiln.Falls), .sl 6 (List.map Reading.c b1.Readings)])], [], 2, Tryz.f35.ntmps⟩
noncomputable def R04_SameFiring.x2 : Unit → St := fun (_ : Unit) => ⟨[], [], [], 1, Tryz.f35.ntmps⟩
def R04_SameFiring (k : Nat) (a0 : Firing) (b1 : Firing) : Option (Bool) :=
  bif decide ((a0.Kiln.Falls.length : Int) = (b1.Kiln.Falls.length : Int)) then
    bif (!decide ((a0.Readings.length : Int) = (b1.Readings.length : Int))) then
      some false
    else
      (whl (R04_SameFiring.b0 k a0 b1) k 0).bind fun r14 => match r14 with
      | .next _ => none
      | .ret v_ => some v_
      | .brk _ =>
        (whl (R04_SameFiring.b2 k a0 b1) k 0).bind fun r20 => match r20 with
        | .next _ => none
        | .ret v_ => some v_
        | .brk _ =>
          some true
  else
    some false
theorem R04_SameFiring_ok (k : Nat) (a0 : Firing) (b1 : Firing) (r : Bool) (h0 : R04_SameFiring k a0 b1 = some r) : PCall Tryz.prog 35 [.agg (Firing.c a0), .agg (Firing.c b1)] (fun y => y = .bool r) := by
  refine PCall.nlr (PCall.of_body T_ok (fn := Tryz.f35) (sc := F35.c) (by rfl) (by rfl) (by decide +kernel) (by rfl) (by decide +kernel) (Nat.le_of_ble_eq_true rfl) ?_)
  refine run_sound T_ok 1000 _ _ ?_
  simp only [R04_SameFiring] at h0
  try simp only [F35.c, go_sem]
  refine AKev_bif h0 (fun c1 h0 => ?_) (fun c1 h0 => ?_)
  · try simp only [c1, go_sem]
    refine AKev_bif h0 (fun c2 h0 => ?_) (fun c2 h0 => ?_)
    · have c2 := bnot_t c2
      try simp only [c2, c1, go_sem]
      obtain rfl := Option.some.inj h0
      refine AKev_ret rfl ?_
      try simp only [F35.rs, c1, c2, go_sem]
    · have c2 := bnot_f c2
      try simp only [c2, c1, go_sem]
      obtain ⟨r14, yr14, h0⟩ := bind_some h0
      refine AKev_loopS yr14 (R04_SameFiring.h0 a0 b1) (R04_SameFiring.x0 a0 b1) ?_ ?_ ?_
      · refine Weak.go [2, 3, 5] [0, 16] rfl ?_
        try simp only [R04_SameFiring.h0, c1, c2, go_sem]
      · rintro i3 x_1 Bk1 Br1 h1 hnext1 hbrk1 hret1
        refine run_sound T_ok 1000 _ _ ?_
        simp only [R04_SameFiring.b0] at h1
        try simp only [F35.s0, R04_SameFiring.h0, c1, c2, go_sem]
        refine AKev_bif h1 (fun c4 h1 => ?_) (fun c4 h1 => ?_)
        · try simp only [c4, c1, c2, go_sem]
          refine AKev_region T_ok follows_ok 1000 ?_
          try simp only [c1, c2, c4, go_sem]
          obtain ⟨x5, yx5, h1⟩ := bind_some h1
          try simp only [at_in yx5, at_get (eL 2 Range.c) yx5, c1, c2, c4, go_sem]
          obtain ⟨x6, yx6, h1⟩ := bind_some h1
          try simp only [at_in yx6, at_get (eL 2 Range.c) yx6, c1, c2, c4, at_in yx5, at_get (eL 2 Range.c) yx5, go_sem]
          refine DG_done ⟨rfl, run_sound T_ok 1000 _ _ ?_⟩
          try simp only [c1, c2, c4, at_in yx5, at_get (eL 2 Range.c) yx5, at_in yx6, at_get (eL 2 Range.c) yx6, go_sem]
          refine AKev_bif h1 (fun c7 h1 => ?_) (fun c7 h1 => ?_)
          · have c7 := bnot_t c7
            try simp only [c7, c1, c2, c4, at_in yx5, at_get (eL 2 Range.c) yx5, at_in yx6, at_get (eL 2 Range.c) yx6, go_sem]
            obtain rfl := hret1 _ (Option.some.inj h1).symm
            simp only at h0
            obtain rfl := Option.some.inj h0
            refine AKev_ret rfl ?_
            try simp only [F35.rs, c1, c2, c4, at_in yx5, at_get (eL 2 Range.c) yx5, at_in yx6, at_get (eL 2 Range.c) yx6, c7, go_sem]
          · have c7 := bnot_f c7
            try simp only [c7, c1, c2, c4, at_in yx5, at_get (eL 2 Range.c) yx5, at_in yx6, at_get (eL 2 Range.c) yx6, go_sem]
            obtain ⟨r13, yr13, h1⟩ := bind_some h1
            refine AKev_loopS yr13 (R04_SameFiring.h1 a0 b1 i3) (R04_SameFiring.x1 a0 b1 i3) ?_ ?_ ?_
            · refine Weak.go [2, 3, 5, 6] [0, 1] rfl ?_
              try simp only [R04_SameFiring.h1, c1, c2, c4, at_in yx5, at_get (eL 2 Range.c) yx5, at_in yx6, at_get (eL 2 Range.c) yx6, c7, go_sem]
            · rintro i8 x_2 Bk2 Br2 h2 hnext2 hbrk2 hret2
              refine run_sound T_ok 1000 _ _ ?_
              simp only [R04_SameFiring.b1] at h2
              try simp only [F35.s1, R04_SameFiring.h1, at_in yx5, at_get (eL 2 Range.c) yx5, c1, c2, c4, at_in yx6, at_get (eL 2 Range.c) yx6, c7, go_sem]
              refine AKev_bif h2 (fun c9 h2 => ?_) (fun c9 h2 => ?_)
              · try simp only [c9, c1, c2, c4, at_in yx5, at_get (eL 2 Range.c) yx5, at_in yx6, at_get (eL 2 Range.c) yx6, c7, go_sem]
                refine AKev_region T_ok follows_ok 1000 ?_
                try simp only [at_in yx5, at_get (eL 2 Range.c) yx5, c1, c2, c4, at_in yx6, at_get (eL 2 Range.c) yx6, c7, c9, go_sem]
                obtain ⟨x10, yx10, h2⟩ := bind_some h2
                try simp only [at_in yx10, at_get Range.c yx10, at_in yx6, at_get (eL 2 Range.c) yx6, c1, c2, c4, at_in yx5, at_get (eL 2 Range.c) yx5, c7, c9, go_sem]
                obtain ⟨x11, yx11, h2⟩ := bind_some h2
                try simp only [at_in yx11, at_get Range.c yx11, c1, c2, c4, at_in yx5, at_get (eL 2 Range.c) yx5, at_in yx6, at_get (eL 2 Range.c) yx6, c7, c9, at_in yx10, at_get Range.c yx10, go_sem]
                refine DG_done ⟨rfl, run_sound T_ok 1000 _ _ ?_⟩
                try simp only [c1, c2, c4, at_in yx5, at_get (eL 2 Range.c) yx5, at_in yx6, at_get (eL 2 Range.c) yx6, c7, c9, at_in yx10, at_get Range.c yx10, at_in yx11, at_get Range.c yx11, go_sem]
                refine AKev_bif h2 (fun c12 h2 => ?_) (fun c12 h2 => ?_)
                · have c12 := bnot_t c12
                  try simp only [c12, c1, c2, c4, at_in yx5, at_get (eL 2 Range.c) yx5, at_in yx6, at_get (eL 2 Range.c) yx6, c7, c9, at_in yx10, at_get Range.c yx10, at_in yx11, at_get Range.c yx11, go_sem]
                  obtain rfl := hret2 _ (Option.some.inj h2).symm
                  simp only at h1
                  obtain rfl := hret1 _ (Option.some.inj h1).symm
                  simp only at h0
                  obtain rfl := Option.some.inj h0
                  refine AKev_ret rfl ?_
                  try simp only [F35.rs, c1, c2, c4, at_in yx5, at_get (eL 2 Range.c) yx5, at_in yx6, at_get (eL 2 Range.c) yx6, c7, c9, at_in yx10, at_get Range.c yx10, at_in yx11, at_get Range.c yx11, c12, go_sem]
                · have c12 := bnot_f c12
                  try simp only [c12, c1, c2, c4, at_in yx5, at_get (eL 2 Range.c) yx5, at_in yx6, at_get (eL 2 Range.c) yx6, c7, c9, at_in yx10, at_get Range.c yx10, at_in yx11, at_get Range.c yx11, go_sem]
                  refine AKev_backB (hnext2 _ _ (Option.some.inj h2).symm ?_)
                  refine Weak.go [2, 3, 5, 6] [0, 1] rfl ?_
                  try simp only [R04_SameFiring.h1, c1, c2, c4, at_in yx5, at_get (eL 2 Range.c) yx5, at_in yx6, at_get (eL 2 Range.c) yx6, c7, c9, at_in yx10, at_get Range.c yx10, at_in yx11, at_get Range.c yx11, c12, go_sem]
              · try simp only [c9, c1, c2, c4, at_in yx5, at_get (eL 2 Range.c) yx5, at_in yx6, at_get (eL 2 Range.c) yx6, c7, go_sem]
                refine AKev_backB (hbrk2 _ _ (Option.some.inj h2).symm ?_)
                refine Weak.go [2, 3, 5] [0, 1] rfl ?_
                try simp only [R04_SameFiring.x1, c1, c2, c4, at_in yx5, at_get (eL 2 Range.c) yx5, at_in yx6, at_get (eL 2 Range.c) yx6, c7, c9, go_sem]
            · rintro _ hr_
              subst hr_
              simp only at h1
              refine run_sound T_ok 1000 _ _ ?_
              try simp only [R04_SameFiring.x1, c1, c2, c4, at_in yx5, at_get (eL 2 Range.c) yx5, at_in yx6, at_get (eL 2 Range.c) yx6, c7, go_sem]
              refine AKev_backB (hnext1 _ _ (Option.some.inj h1).symm ?_)
              refine Weak.go [2, 3, 5] [0, 1] rfl ?_
              try simp only [R04_SameFiring.h0, c1, c2, c4, at_in yx5, at_get (eL 2 Range.c) yx5, at_in yx6, at_get (eL 2 Range.c) yx6, c7, go_sem]
        · try simp only [c4, c1, c2, go_sem]
          refine AKev_backB (hbrk1 _ _ (Option.some.inj h1).symm ?_)
          refine Weak.go [2, 3] [0, 1] rfl ?_
          try simp only [R04_SameFiring.x0, c1, c2, c4, go_sem]
      · rintro _ hr_
        subst hr_
        simp only at h0
        refine run_sound T_ok 1000 _ _ ?_
        try simp only [R04_SameFiring.x0, c1, c2, go_sem]
        obtain ⟨r20, yr20, h0⟩ := bind_some h0
        refine AKev_loopS yr20 (R04_SameFiring.h2 a0 b1) (R04_SameFiring.x2) ?_ ?_ ?_
        · refine Weak.go [2, 3, 7] [0, 1] rfl ?_
          try simp only [R04_SameFiring.h2, c1, c2, go_sem]
        · rintro i15 x_1 Bk1 Br1 h1 hnext1 hbrk1 hret1
          refine run_sound T_ok 1000 _ _ ?_
          simp only [R04_SameFiring.b2] at h1
          try simp only [F35.s2, R04_SameFiring.h2, c1, c2, go_sem]
          refine AKev_bif h1 (fun c16 h1 => ?_) (fun c16 h1 => ?_)
          · try simp only [c16, c1, c2, go_sem]
            refine AKev_region T_ok follows_ok 1000 ?_
            try simp only [c1, c2, c16, go_sem]
            obtain ⟨x17, yx17, h1⟩ := bind_some h1
            try simp only [at_in yx17, at_get Reading.c yx17, c1, c2, c16, go_sem]
            obtain ⟨x18, yx18, h1⟩ := bind_some h1
            try simp only [at_in yx18, at_get Reading.c yx18, c1, c2, c16, at_in yx17, at_get Reading.c yx17, go_sem]
            refine DG_done ⟨rfl, run_sound T_ok 1000 _ _ ?_⟩
            try simp only [c1, c2, c16, at_in yx17, at_get Reading.c yx17, at_in yx18, at_get Reading.c yx18, go_sem]
            refine AKev_bif h1 (fun c19 h1 => ?_) (fun c19 h1 => ?_)
            · have c19 := bnot_t c19
              try simp only [c19, c1, c2, c16, at_in yx17, at_get Reading.c yx17, at_in yx18, at_get Reading.c yx18, go_sem]
              obtain rfl := hret1 _ (Option.some.inj h1).symm
              simp only at h0
              obtain rfl := Option.some.inj h0
              refine AKev_ret rfl ?_
              try simp only [F35.rs, c1, c2, c16, at_in yx17, at_get Reading.c yx17, at_in yx18, at_get Reading.c yx18, c19, go_sem]
            · have c19 := bnot_f c19
              try simp only [c19, c1, c2, c16, at_in yx17, at_get Reading.c yx17, at_in yx18, at_get Reading.c yx18, go_sem]
              refine AKev_backB (hnext1 _ _ (Option.some.inj h1).symm ?_)
              refine Weak.go [2, 3, 7] [0, 1] rfl ?_
              try simp only [R04_SameFiring.h2, c1, c2, c16, at_in yx17, at_get Reading.c yx17, at_in yx18, at_get Reading.c yx18, c19, go_sem]
          · try simp only [c16, c1, c2, go_sem]
            refine AKev_backB (hbrk1 _ _ (Option.some.inj h1).symm ?_)
            refine Weak.go [] [] rfl ?_
            try simp only [R04_SameFiring.x2, c1, c2, c16, go_sem]
        · rintro _ hr_
          subst hr_
          simp only at h0
          refine run_sound T_ok 1000 _ _ ?_
          try simp only [R04_SameFiring.x2, c1, c2, go_sem]
          obtain rfl := Option.some.inj h0
          refine AKev_ret rfl ?_
          try simp only [F35.rs, c1, c2, go_sem]
  · try simp only [c1, go_sem]
    obtain rfl := Option.some.inj h0
    refine AKev_ret rfl ?_
    try simp only [F35.rs, c1, go_sem]
end Go.Abs
namespace Go.Abs
open Go.Proofs
set_option maxRecDepth 20000
set_option linter.unusedVariables false
set_option linter.unusedSimpArgs false
set_option maxHeartbeats 8000000
def F38.c : SC :=
 (.seq
  (.reg [⟨some 1, .box 24 (.tmp 0), 0, none, [0]⟩,
    ⟨some 2, .assign (.const (.int .i64 0)), 3, none, [2]⟩])
  (.seq
   (.seq
    (.reg [⟨some 3, .load 24 (.tmp 1), 24, none, []⟩,
      ⟨some 4, .call ⟨.value (.func 36), #[.tmp 3], #[24]⟩, 33, none, [3]⟩,
      ⟨some 5, .binOp .neq 33 (.tmp 4) (.const (.int .i64 0)) 33, 4, none, [4]⟩])
    (.cond (.tmp 5)
     (.seq
      (.reg [⟨some 2, .assign (.const (.int .i64 0)), 3, none, []⟩])
      .ret)
     .skip))
   (.seq
    (.reg [⟨some 6, .fieldAddr 24 (.tmp 1) 0, 0, none, [1]⟩,
      ⟨some 7, .load 22 (.tmp 6), 22, none, [6]⟩,
      ⟨some 8, .indexAddr 22 (.tmp 7) (.const (.int .i64 0)), 0, none, [7]⟩,
      ⟨some 9, .load 89 (.tmp 8), 89, none, [8]⟩,
      ⟨some 10, .call ⟨.builtin .len, #[.tmp 9], #[89]⟩, 3, none, [9]⟩,
      ⟨some 2, .assign (.tmp 10), 3, none, [10]⟩])
    .ret)))
theorem F38.rs : Tryz.f38.results.toList = [.tmp 2] := rfl
def heat_Places (k : Nat) (k0 : Kiln) : Option (Int) :=
  (heat_CheckKiln k k0).bind fun x1 =>
  bif (!decide (x1 = (0 : Int))) then
    some 0
  else
    (at? k0.Falls 0).bind fun x3 =>
    some (x3.length : Int)
theorem heat_Places_ok (k : Nat) (k0 : Kiln) (r : Int) (h0 : heat_Places k k0 = some r) : PCall Tryz.prog 38 [.agg (Kiln.c k0)] (fun y => y = .int .i64 r) := by
  refine PCall.nlr (PCall.of_body T_ok (fn := Tryz.f38) (sc := F38.c) (by rfl) (by rfl) (by decide +kernel) (by rfl) (by decide +kernel) (Nat.le_of_ble_eq_true rfl) ?_)
  refine run_sound T_ok 1000 _ _ ?_
  simp only [heat_Places] at h0
  try simp only [F38.c, go_sem]
  obtain ⟨x1, yx1, h0⟩ := bind_some h0
  refine AKev_call0 T_ok 1000 (heat_CheckKiln_ok k _ _ yx1) ?_ (by first | rfl | simp [AV.refsL, AV.refs, AV.scal, AV.leaf]) ?_
  · try simp only [go_sem]
  try simp only [go_sem]
  refine AKev_bif h0 (fun c2 h0 => ?_) (fun c2 h0 => ?_)
  · have c2 := bnot_t c2
    try simp only [c2, go_sem]
    obtain rfl := Option.some.inj h0
    refine AKev_ret rfl ?_
    try simp only [F38.rs, c2, go_sem]
  · have c2 := bnot_f c2
    try simp only [c2, go_sem]
    obtain ⟨x3, yx3, h0⟩ := bind_some h0
    try simp only [at_in yx3, at_get (eL 2 Range.c) yx3, c2, go_sem]
    obtain rfl := Option.some.inj h0
    refine AKev_ret rfl ?_
    try simp only [F38.rs, c2, at_in yx3, at_get (eL 2 Range.c) yx3, go_sem]
end Go.Abs
namespace Go.Abs
open Go.Proofs
set_option maxRecDepth 20000
set_option linter.unusedVariables false
set_option linter.unusedSimpArgs false
set_option maxHeartbeats 8000000
def F39.c : SC :=
 (.seq
  (.reg [⟨some 1, .box 24 (.tmp 0), 0, none, [0]⟩,
    ⟨some 2, .assign (.const (.int .i64 0)), 3, none, [2]⟩])
  (.seq
   (.seq
    (.reg [⟨some 3, .load 24 (.tmp 1), 24, none, []⟩,
      ⟨some 4, .call ⟨.value (.func 37), #[.tmp 3], #[24]⟩, 33, none, [3]⟩,
      ⟨some 5, .binOp .neq 33 (.tmp 4) (.const (.int .i64 0)) 33, 4, none, [4]⟩])
    (.cond (.tmp 5)
     (.seq
      (.reg [⟨some 2, .assign (.const (.int .i64 0)), 3, none, []⟩])
      .ret)
     .skip))
   (.seq
    (.reg [⟨some 6, .fieldAddr 24 (.tmp 1) 0, 0, none, [1]⟩,
      ⟨some 7, .load 22 (.tmp 6), 22, none, [6]⟩,
      ⟨some 8, .indexAddr 22 (.tmp 7) (.const (.int .i64 0)), 0, none, [7]⟩,
      ⟨some 9, .load 89 (.tmp 8), 89, none, [8]⟩,
      ⟨some 10, .call ⟨.builtin .len, #[.tmp 9], #[89]⟩, 3, none, [9]⟩,
      ⟨some 2, .assign (.tmp 10), 3, none, [10]⟩])
    .ret)))
theorem F39.rs : Tryz.f39.results.toList = [.tmp 2] := rfl
def R04_Places (k : Nat) (k0 : Kiln) : Option (Int) :=
  (R04_CheckKiln k k0).bind fun x1 =>
  bif (!decide (x1 = (0 : Int))) then
    some 0
  else
    (at? k0.Falls 0).bind fun x3 =>
    some (x3.length : Int)
theorem R04_Places_ok (k : Nat) (k0 : Kiln) (r : Int) (h0 : R04_Places k k0 = some r) : PCall Tryz.prog 39 [.agg (Kiln.c k0)] (fun y => y = .int .i64 r) := by
  refine PCall.nlr (PCall.of_body T_ok (fn := Tryz.f39) (sc := F39.c) (by rfl) (by rfl) (by decide +kernel) (by rfl) (by decide +kernel) (Nat.le_of_ble_eq_true rfl) ?_)
  refine run_sound T_ok 1000 _ _ ?_
  simp only [R04_Places] at h0
  try simp only [F39.c, go_sem]
  obtain ⟨x1, yx1, h0⟩ := bind_some h0
  refine AKev_call0 T_ok 1000 (R04_CheckKiln_ok k _ _ yx1) ?_ (by first | rfl | simp [AV.refsL, AV.refs, AV.scal, AV.leaf]) ?_
  · try simp only [go_sem]
  try simp only [go_sem]
  refine AKev_bif h0 (fun c2 h0 => ?_) (fun c2 h0 => ?_)
  · have c2 := bnot_t c2
    try simp only [c2, go_sem]
    obtain rfl := Option.some.inj h0
    refine AKev_ret rfl ?_
    try simp only [F39.rs, c2, go_sem]
  · have c2 := bnot_f c2
    try simp only [c2, go_sem]
    obtain ⟨x3, yx3, h0⟩ := bind_some h0
    try simp only [at_in yx3, at_get (eL 2 Range.c) yx3, c2, go_sem]
    obtain rfl := Option.some.inj h0
    refine AKev_ret rfl ?_
    try simp only [F39.rs, c2, at_in yx3, at_get (eL 2 Range.c) yx3, go_sem]
end Go.Abs
namespace Go.Abs
open Go.Proofs
set_option maxRecDepth 20000
set_option linter.unusedVariables false
set_option linter.unusedSimpArgs false
set_option maxHeartbeats 8000000
def F40.c : SC :=
 (.seq
  (.reg [⟨some 2, .box 24 (.tmp 0), 0, none, [0]⟩,
    ⟨some 3, .box 64 (.tmp 1), 0, none, [1]⟩,
    ⟨some 4, .assign (.const (.int .i64 0)), 33, none, [4]⟩])
  (.seq
   (.seq
    (.reg [⟨some 6, .load 24 (.tmp 2), 24, none, []⟩,
      ⟨some 7, .call ⟨.value (.func 36), #[.tmp 6], #[24]⟩, 33, none, [6]⟩,
      ⟨some 5, .assign (.tmp 7), 33, none, [7]⟩])
    (.seq
     (.reg [⟨some 8, .move (.tmp 5), 33, none, []⟩,
       ⟨some 9, .binOp .neq 33 (.tmp 8) (.const (.int .i64 0)) 33, 4, none, [8]⟩])
     (.cond (.tmp 9)
      (.seq
       (.reg [⟨some 10, .move (.tmp 5), 33, none, [5]⟩,
         ⟨some 4, .assign (.tmp 10), 33, none, [10]⟩])
       .ret)
      .skip)))
   (.seq
    (.seq
     (.dreg [⟨some 11, .fieldAddr 24 (.tmp 2) 0, 0, none, []⟩,
       ⟨some 12, .load 22 (.tmp 11), 22, none, []⟩,
       ⟨some 13, .indexAddr 22 (.tmp 12) (.const (.int .i64 0)), 0, none, []⟩,
       ⟨some 14, .load 89 (.tmp 13), 89, none, []⟩,
       ⟨some 15, .call ⟨.builtin .len, #[.tmp 14], #[89]⟩, 3, none, []⟩,
       ⟨some 16, .load 64 (.tmp 3), 64, none, []⟩,
       ⟨some 17, .call ⟨.value (.func 87), #[.tmp 15, .tmp 16], #[3, 64]⟩, 4, none, []⟩,
       ⟨some 18, .unOp .not 4 (.tmp 17), 4, none, []⟩] [[], [0], [0, 1], [0, 1, 2], [0, 1, 2, 3], [], [0, 1, 2, 3, 4, 5], [0, 1, 2, 3, 4, 5, 6]] [2, 3, 11, 12, 13, 14, 15, 16, 17])
     (.cond (.tmp 18)
      (.seq
       (.reg [⟨some 4, .assign (.const (.int .i64 41)), 33, none, []⟩])
       .ret)
      .skip))
    (.seq
     (.reg [⟨some 4, .assign (.const (.int .i64 0)), 33, none, []⟩])
     .ret))))
theorem F40.rs : Tryz.f40.results.toList = [.tmp 4] := rfl
def heat_CheckReading (k : Nat) (k0 : Kiln) (r1 : Reading) : Option (Int) :=
  (heat_CheckKiln k k0).bind fun x1 =>
  bif (!decide (x1 = (0 : Int))) then
    some x1
  else
    (at? k0.Falls 0).bind fun x3 =>
    (heat_isReading k (x3.length : Int) r1).bind fun x4 =>
    bif (!x4) then
      some 41
    else
      some 0
theorem heat_CheckReading_ok (k : Nat) (k0 : Kiln) (r1 : Reading) (r : Int) (h0 : heat_CheckReading k k0 r1 = some r) : PCall Tryz.prog 40 [.agg (Kiln.c k0), .agg (Reading.c r1)] (fun y => y = .int .i64 r) := by
  refine PCall.nlr (PCall.of_body T_ok (fn := Tryz.f40) (sc := F40.c) (by rfl) (by rfl) (by decide +kernel) (by rfl) (by decide +kernel) (Nat.le_of_ble_eq_true rfl) ?_)
  refine run_sound T_ok 1000 _ _ ?_
  simp only [heat_CheckReading] at h0
  try simp only [F40.c, go_sem]
  obtain ⟨x1, yx1, h0⟩ := bind_some h0
  refine AKev_call0 T_ok 1000 (heat_CheckKiln_ok k _ _ yx1) ?_ (by first | rfl | simp [AV.refsL, AV.refs, AV.scal, AV.leaf]) ?_
  · try simp only [go_sem]
  try simp only [go_sem]
  refine AKev_bif h0 (fun c2 h0 => ?_) (fun c2 h0 => ?_)
  · have c2 := bnot_t c2
    try simp only [c2, go_sem]
    obtain rfl := Option.some.inj h0
    refine AKev_ret rfl ?_
    try simp only [F40.rs, c2, go_sem]
  · have c2 := bnot_f c2
    try simp only [c2, go_sem]
    refine AKev_region T_ok follows_ok 1000 ?_
    try simp only [c2, go_sem]
    obtain ⟨x3, yx3, h0⟩ := bind_some h0
    try simp only [at_in yx3, at_get (eL 2 Range.c) yx3, c2, go_sem]
    obtain ⟨x4, yx4, h0⟩ := bind_some h0
    refine DG_call0 1000 (heat_isReading_ok k _ _ _ yx4) ?_ (by first | rfl | simp [AV.refsL, AV.refs, AV.scal, AV.leaf]) ?_
    · try simp only [c2, at_in yx3, at_get (eL 2 Range.c) yx3, go_sem]
    try simp only [c2, at_in yx3, at_get (eL 2 Range.c) yx3, go_sem]
    refine DG_done ⟨rfl, run_sound T_ok 1000 _ _ ?_⟩
    try simp only [c2, at_in yx3, at_get (eL 2 Range.c) yx3, go_sem]
    refine AKev_bif h0 (fun c5 h0 => ?_) (fun c5 h0 => ?_)
    · have c5 := bnot_t c5
      try simp only [c5, c2, at_in yx3, at_get (eL 2 Range.c) yx3, go_sem]
      obtain rfl := Option.some.inj h0
      refine AKev_ret rfl ?_
      try simp only [F40.rs, c2, at_in yx3, at_get (eL 2 Range.c) yx3, c5, go_sem]
    · have c5 := bnot_f c5
      try simp only [c5, c2, at_in yx3, at_get (eL 2 Range.c) yx3, go_sem]
      obtain rfl := Option.some.inj h0
      refine AKev_ret rfl ?_
      try simp only [F40.rs, c2, at_in yx3, at_get (eL 2 Range.c) yx3, c5, go_sem]
end Go.Abs
namespace Go.Abs
open Go.Proofs
set_option maxRecDepth 20000
set_option linter.unusedVariables false
set_option linter.unusedSimpArgs false
set_option maxHeartbeats 8000000
def F41.c : SC :=
 (.seq
  (.reg [⟨some 2, .box 24 (.tmp 0), 0, none, [0]⟩,
    ⟨some 3, .box 64 (.tmp 1), 0, none, [1]⟩,
    ⟨some 4, .assign (.const (.int .i64 0)), 33, none, [4]⟩])
  (.seq
   (.seq
    (.reg [⟨some 5, .load 24 (.tmp 2), 24, none, []⟩,
      ⟨some 6, .call ⟨.value (.func 37), #[.tmp 5], #[24]⟩, 33, none, [5]⟩,
      ⟨some 7, .binOp .neq 33 (.tmp 6) (.const (.int .i64 0)) 33, 4, none, [6]⟩])
    (.cond (.tmp 7)
     (.seq
      (.reg [⟨some 4, .assign (.const (.int .i64 40)), 33, none, []⟩])
      .ret)
     .skip))
   (.seq
    (.seq
     (.reg [⟨some 8, .load 24 (.tmp 2), 24, none, [2]⟩,
       ⟨some 9, .load 64 (.tmp 3), 64, none, [3]⟩,
       ⟨some 10, .call ⟨.value (.func 90), #[.tmp 8, .tmp 9], #[24, 64]⟩, 4, none, [8, 9]⟩,
       ⟨some 11, .unOp .not 4 (.tmp 10), 4, none, [10]⟩])
     (.cond (.tmp 11)
      (.seq
       (.reg [⟨some 4, .assign (.const (.int .i64 41)), 33, none, []⟩])
       .ret)
      .skip))
    (.seq
     (.reg [⟨some 4, .assign (.const (.int .i64 0)), 33, none, []⟩])
     .ret))))
theorem F41.rs : Tryz.f41.results.toList = [.tmp 4] := rfl
def R04_CheckReading (k : Nat) (k0 : Kiln) (r1 : Reading) : Option (Int) :=
  (R04_CheckKiln k k0).bind fun x1 =>
  bif (!decide (x1 = (0 : Int))) then
    some 40
  else
    (R04_isReading k k0 r1).bind fun x3 =>
    bif (!x3) then
      some 41
    else
      some 0
theorem R04_CheckReading_ok (k : Nat) (k0 : Kiln) (r1 : Reading) (r : Int) (h0 : R04_CheckReading k k0 r1 = some r) : PCall Tryz.prog 41 [.agg (Kiln.c k0), .agg (Reading.c r1)] (fun y => y = .int .i64 r) := by
  refine PCall.nlr (PCall.of_body T_ok (fn := Tryz.f41) (sc := F41.c) (by rfl) (by rfl) (by decide +kernel) (by rfl) (by decide +kernel) (Nat.le_of_ble_eq_true rfl) ?_)
  refine run_sound T_ok 1000 _ _ ?_
  simp only [R04_CheckReading] at h0
  try simp only [F41.c, go_sem]
  obtain ⟨x1, yx1, h0⟩ := bind_some h0
  refine AKev_call0 T_ok 1000 (R04_CheckKiln_ok k _ _ yx1) ?_ (by first | rfl | simp [AV.refsL, AV.refs, AV.scal, AV.leaf]) ?_
  · try simp only [go_sem]
  try simp only [go_sem]
  refine AKev_bif h0 (fun c2 h0 => ?_) (fun c2 h0 => ?_)
  · have c2 := bnot_t c2
    try simp only [c2, go_sem]
    obtain rfl := Option.some.inj h0
    refine AKev_ret rfl ?_
    try simp only [F41.rs, c2, go_sem]
  · have c2 := bnot_f c2
    try simp only [c2, go_sem]
    obtain ⟨x3, yx3, h0⟩ := bind_some h0
    refine AKev_call0 T_ok 1000 (R04_isReading_ok k _ _ _ yx3) ?_ (by first | rfl | simp [AV.refsL, AV.refs, AV.scal, AV.leaf]) ?_
    · try simp only [c2, go_sem]
    try simp only [c2, go_sem]
    refine AKev_bif h0 (fun c4 h0 => ?_) (fun c4 h0 => ?_)
    · have c4 := bnot_t c4
      try simp only [c4, c2, go_sem]
      obtain rfl := Option.some.inj h0
      refine AKev_ret rfl ?_
      try simp only [F41.rs, c2, c4, go_sem]
    · have c4 := bnot_f c4
      try simp only [c4, c2, go_sem]
      obtain rfl := Option.some.inj h0
      refine AKev_ret rfl ?_
      try simp only [F41.rs, c2, c4, go_sem]
end Go.Abs
namespace Go.Abs
open Go.Proofs
set_option maxRecDepth 20000
set_option linter.unusedVariables false
set_option linter.unusedSimpArgs false
set_option maxHeartbeats 8000000
def F6.c : SC :=
 (.seq
  (.reg [⟨some 3, .box 27 (.tmp 0), 0, none, [0]⟩,
    ⟨some 4, .box 64 (.tmp 1), 0, none, [1]⟩,
    ⟨some 6, .assign (.const (.bool false)), 4, none, [6]⟩])
  (.seq
   (.reg [⟨some 20, .load 27 (.tmp 3), 27, none, []⟩,
     ⟨some 21, .load 64 (.tmp 4), 64, none, []⟩,
     ⟨some 22, .call ⟨.value (.func 29), #[.tmp 20, .tmp 21], #[27, 64]⟩, 65, none, [20, 21]⟩,
     ⟨some 19, .move (.tmp 22), 65, none, [22]⟩,
     ⟨some 23, .extract (.tmp 19) 0, 27, none, []⟩,
     ⟨some 24, .extract (.tmp 19) 1, 33, none, [19]⟩,
     ⟨some 7, .alloc 27, 0, none, []⟩,
     ⟨none, .store 27 (.tmp 7) (.tmp 23), 0, none, [23]⟩,
     ⟨some 8, .assign (.tmp 24), 33, none, [24]⟩])
   (.seq
    (.reg [⟨some 26, .load 27 (.tmp 3), 27, none, []⟩,
      ⟨some 27, .load 64 (.tmp 4), 64, none, []⟩,
      ⟨some 28, .call ⟨.value (.func 30), #[.tmp 26, .tmp 27], #[27, 64]⟩, 65, none, [26, 27]⟩,
      ⟨some 25, .move (.tmp 28), 65, none, [28]⟩,
      ⟨some 29, .extract (.tmp 25) 0, 27, none, []⟩,
      ⟨some 30, .extract (.tmp 25) 1, 33, none, [25]⟩,
      ⟨some 9, .alloc 27, 0, none, []⟩,
      ⟨none, .store 27 (.tmp 9) (.tmp 29), 0, none, [29]⟩,
      ⟨some 10, .assign (.tmp 30), 33, none, [30]⟩])
    (.seq
     (.reg [⟨some 32, .load 27 (.tmp 3), 27, none, []⟩,
       ⟨some 33, .call ⟨.value (.func 31), #[.tmp 32], #[27]⟩, 47, none, [32]⟩,
       ⟨some 31, .move (.tmp 33), 47, none, [33]⟩,
       ⟨some 34, .extract (.tmp 31) 0, 37, none, []⟩,
       ⟨some 35, .extract (.tmp 31) 1, 33, none, [31]⟩,
       ⟨some 11, .assign (.tmp 34), 37, none, [34]⟩,
       ⟨some 12, .assign (.tmp 35), 33, none, [35]⟩])
     (.seq
      (.reg [⟨some 37, .load 27 (.tmp 3), 27, none, []⟩,
        ⟨some 38, .call ⟨.value (.func 32), #[.tmp 37], #[27]⟩, 47, none, [37]⟩,
        ⟨some 36, .move (.tmp 38), 47, none, [38]⟩,
        ⟨some 39, .extract (.tmp 36) 0, 37, none, []⟩,
        ⟨some 40, .extract (.tmp 36) 1, 33, none, [36]⟩,
        ⟨some 13, .assign (.tmp 39), 37, none, [39]⟩,
        ⟨some 14, .assign (.tmp 40), 33, none, [40]⟩])
      (.seq
       (.reg [⟨some 42, .load 27 (.tmp 3), 27, none, []⟩,
         ⟨some 43, .move (.tmp 2), 3, none, []⟩,
         ⟨some 44, .call ⟨.value (.func 33), #[.tmp 42, .tmp 43], #[27, 3]⟩, 65, none, [42, 43]⟩,
         ⟨some 41, .move (.tmp 44), 65, none, [44]⟩,
         ⟨some 45, .extract (.tmp 41) 0, 27, none, []⟩,
         ⟨some 46, .extract (.tmp 41) 1, 33, none, [41]⟩,
         ⟨some 15, .alloc 27, 0, none, []⟩,
         ⟨none, .store 27 (.tmp 15) (.tmp 45), 0, none, [45]⟩,
         ⟨some 16, .assign (.tmp 46), 33, none, [46]⟩])
       (.seq
        (.reg [⟨some 48, .load 27 (.tmp 3), 27, none, []⟩,
          ⟨some 49, .move (.tmp 2), 3, none, [2]⟩,
          ⟨some 50, .call ⟨.value (.func 34), #[.tmp 48, .tmp 49], #[27, 3]⟩, 65, none, [48, 49]⟩,
          ⟨some 47, .move (.tmp 50), 65, none, [50]⟩,
          ⟨some 51, .extract (.tmp 47) 0, 27, none, []⟩,
          ⟨some 52, .extract (.tmp 47) 1, 33, none, [47]⟩,
          ⟨some 17, .alloc 27, 0, none, []⟩,
          ⟨none, .store 27 (.tmp 17) (.tmp 51), 0, none, [51]⟩,
          ⟨some 18, .assign (.tmp 52), 33, none, [52]⟩])
        (.seq
         (.seq
          (.reg [⟨some 53, .load 27 (.tmp 7), 27, none, [7]⟩,
            ⟨some 54, .load 27 (.tmp 9), 27, none, [9]⟩,
            ⟨some 55, .call ⟨.value (.func 35), #[.tmp 53, .tmp 54], #[27, 27]⟩, 4, none, [53, 54]⟩,
            ⟨some 56, .unOp .not 4 (.tmp 55), 4, none, [55]⟩,
            ⟨some 57, .move (.tmp 56), 4, none, [56]⟩,
            ⟨some 58, .move (.tmp 8), 33, some (57, false), [8]⟩,
            ⟨some 59, .move (.tmp 10), 33, some (57, false), [10]⟩,
            ⟨some 60, .binOp .neq 33 (.tmp 58) (.tmp 59) 33, 4, some (57, false), [58, 59]⟩,
            ⟨some 61, .pick (.tmp 57) (.const (.bool true)) (.tmp 60), 4, none, [57, 60]⟩,
            ⟨some 62, .move (.tmp 61), 4, none, [61]⟩,
            ⟨some 63, .move (.tmp 11), 37, some (62, false), [11]⟩,
            ⟨some 64, .move (.tmp 13), 37, some (62, false), [13]⟩,
            ⟨some 65, .call ⟨.value (.func 18), #[.tmp 63, .tmp 64], #[37, 37]⟩, 4, some (62, false), [63, 64]⟩,
            ⟨some 66, .unOp .not 4 (.tmp 65), 4, some (62, false), [65]⟩,
            ⟨some 67, .pick (.tmp 62) (.const (.bool true)) (.tmp 66), 4, none, [62, 66]⟩,
            ⟨some 68, .move (.tmp 67), 4, none, [67]⟩,
            ⟨some 69, .move (.tmp 12), 33, some (68, false), [12]⟩,
            ⟨some 70, .move (.tmp 14), 33, some (68, false), [14]⟩,
            ⟨some 71, .binOp .neq 33 (.tmp 69) (.tmp 70) 33, 4, some (68, false), [69, 70]⟩,
            ⟨some 72, .pick (.tmp 68) (.const (.bool true)) (.tmp 71), 4, none, [68, 71]⟩,
            ⟨some 73, .move (.tmp 72), 4, none, [72]⟩,
            ⟨some 74, .load 27 (.tmp 15), 27, some (73, false), [15]⟩,
            ⟨some 75, .load 27 (.tmp 17), 27, some (73, false), [17]⟩,
            ⟨some 76, .call ⟨.value (.func 35), #[.tmp 74, .tmp 75], #[27, 27]⟩, 4, some (73, false), [74, 75]⟩,
            ⟨some 77, .unOp .not 4 (.tmp 76), 4, some (73, false), [76]⟩,
            ⟨some 78, .pick (.tmp 73) (.const (.bool true)) (.tmp 77), 4, none, [73, 77]⟩,
            ⟨some 79, .move (.tmp 78), 4, none, [78]⟩,
            ⟨some 80, .move (.tmp 16), 33, some (79, false), [16]⟩,
            ⟨some 81, .move (.tmp 18), 33, some (79, false), [18]⟩,
            ⟨some 82, .binOp .neq 33 (.tmp 80) (.tmp 81) 33, 4, some (79, false), [80, 81]⟩,
            ⟨some 83, .pick (.tmp 79) (.const (.bool true)) (.tmp 82), 4, none, [79, 82]⟩])
          (.cond (.tmp 83)
           (.seq
            (.reg [⟨some 6, .assign (.const (.bool false)), 4, none, []⟩])
            .ret)
           .skip))
         (.seq
          (.dreg [⟨some 84, .fieldAddr 27 (.tmp 3) 0, 0, none, []⟩,
            ⟨some 85, .load 24 (.tmp 84), 24, none, []⟩,
            ⟨some 86, .call ⟨.value (.func 36), #[.tmp 85], #[24]⟩, 33, none, []⟩,
            ⟨some 87, .fieldAddr 27 (.tmp 3) 0, 0, none, []⟩,
            ⟨some 88, .load 24 (.tmp 87), 24, none, []⟩,
            ⟨some 89, .call ⟨.value (.func 37), #[.tmp 88], #[24]⟩, 33, none, []⟩,
            ⟨some 90, .binOp .eql 33 (.tmp 86) (.tmp 89) 33, 4, none, []⟩,
            ⟨some 91, .move (.tmp 90), 4, none, []⟩,
            ⟨some 92, .fieldAddr 27 (.tmp 3) 0, 0, some (91, true), []⟩,
            ⟨some 93, .load 24 (.tmp 92), 24, some (91, true), []⟩,
            ⟨some 94, .call ⟨.value (.func 38), #[.tmp 93], #[24]⟩, 3, some (91, true), []⟩,
            ⟨some 95, .fieldAddr 27 (.tmp 3) 0, 0, some (91, true), []⟩,
            ⟨some 96, .load 24 (.tmp 95), 24, some (91, true), []⟩,
            ⟨some 97, .call ⟨.value (.func 39), #[.tmp 96], #[24]⟩, 3, some (91, true), []⟩,
            ⟨some 98, .binOp .eql 3 (.tmp 94) (.tmp 97) 3, 4, some (91, true), []⟩,
            ⟨some 99, .pick (.tmp 91) (.tmp 98) (.const (.bool false)), 4, none, []⟩,
            ⟨some 100, .move (.tmp 99), 4, none, []⟩,
            ⟨some 101, .fieldAddr 27 (.tmp 3) 0, 0, some (100, true), []⟩,
            ⟨some 102, .load 24 (.tmp 101), 24, some (100, true), []⟩,
            ⟨some 103, .load 64 (.tmp 4), 64, some (100, true), []⟩,
            ⟨some 104, .call ⟨.value (.func 40), #[.tmp 102, .tmp 103], #[24, 64]⟩, 33, some (100, true), []⟩,
            ⟨some 105, .fieldAddr 27 (.tmp 3) 0, 0, some (100, true), []⟩,
            ⟨some 106, .load 24 (.tmp 105), 24, some (100, true), []⟩,
            ⟨some 107, .load 64 (.tmp 4), 64, some (100, true), []⟩,
            ⟨some 108, .call ⟨.value (.func 41), #[.tmp 106, .tmp 107], #[24, 64]⟩, 33, some (100, true), []⟩,
            ⟨some 109, .binOp .eql 33 (.tmp 104) (.tmp 108) 33, 4, some (100, true), []⟩,
            ⟨some 110, .pick (.tmp 100) (.tmp 109) (.const (.bool false)), 4, none, []⟩,
            ⟨some 111, .move (.tmp 110), 4, none, []⟩,
            ⟨some 112, .load 27 (.tmp 3), 27, some (111, true), []⟩,
            ⟨some 113, .call ⟨.value (.func 42), #[.tmp 112], #[27]⟩, 33, some (111, true), []⟩,
            ⟨some 114, .load 27 (.tmp 3), 27, some (111, true), []⟩,
            ⟨some 115, .call ⟨.value (.func 43), #[.tmp 114], #[27]⟩, 33, some (111, true), []⟩,
            ⟨some 116, .binOp .eql 33 (.tmp 113) (.tmp 115) 33, 4, some (111, true), []⟩,
            ⟨some 117, .pick (.tmp 111) (.tmp 116) (.const (.bool false)), 4, none, []⟩,
            ⟨some 118, .move (.tmp 117), 4, none, []⟩,
            ⟨some 119, .call ⟨.value (.func 15), #[], #[]⟩, 4, some (118, true), []⟩,
            ⟨some 120, .pick (.tmp 118) (.tmp 119) (.const (.bool false)), 4, none, []⟩,
            ⟨some 6, .assign (.tmp 120), 4, none, []⟩] [[], [0], [0, 1], [], [3], [3, 4, 0, 1, 2], [0, 1, 2, 3, 4, 5], [0, 1, 2, 3, 4, 5, 6], [0, 1, 2, 3, 4, 5, 6, 7], [0, 1, 2, 3, 4, 5, 6, 7, 8], [0, 1, 2, 3, 4, 5, 6, 7, 8, 9], [0, 1, 2, 3, 4, 5, 6, 7], [0, 1, 2, 3, 4, 5, 6, 7, 11], [0, 1, 2, 3, 4, 5, 6, 7, 11, 12, 8, 9, 10], [0, 1, 2, 3, 4, 5, 6, 7, 8, 9, 10, 11, 12, 13], [0, 1, 2, 3, 4, 5, 6, 7, 8, 9, 10, 11, 12, 13, 14], [0, 1, 2, 3, 4, 5, 6, 7, 8, 9, 10, 11, 12, 13, 14, 15], [0, 1, 2, 3, 4, 5, 6, 7, 8, 9, 10, 11, 12, 13, 14, 15, 16], [0, 1, 2, 3, 4, 5, 6, 7, 8, 9, 10, 11, 12, 13, 14, 15, 16, 17], [0, 1, 2, 3, 4, 5, 6, 7, 8, 9, 10, 11, 12, 13, 14, 15, 16], [0, 1, 2, 3, 4, 5, 6, 7, 8, 9, 10, 11, 12, 13, 14, 15, 16, 17, 18, 19], [0, 1, 2, 3, 4, 5, 6, 7, 8, 9, 10, 11, 12, 13, 14, 15, 16], [0, 1, 2, 3, 4, 5, 6, 7, 8, 9, 10, 11, 12, 13, 14, 15, 16, 21], [0, 1, 2, 3, 4, 5, 6, 7, 8, 9, 10, 11, 12, 13, 14, 15, 16], [0, 1, 2, 3, 4, 5, 6, 7, 8, 9, 10, 11, 12, 13, 14, 15, 16, 21, 22, 23, 17, 18, 19, 20], [0, 1, 2, 3, 4, 5, 6, 7, 8, 9, 10, 11, 12, 13, 14, 15, 16, 17, 18, 19, 20, 21, 22, 23, 24], [0, 1, 2, 3, 4, 5, 6, 7, 8, 9, 10, 11, 12, 13, 14, 15, 16, 17, 18, 19, 20, 21, 22, 23, 24, 25], [0, 1, 2, 3, 4, 5, 6, 7, 8, 9, 10, 11, 12, 13, 14, 15, 16, 17, 18, 19, 20, 21, 22, 23, 24, 25, 26], [0, 1, 2, 3, 4, 5, 6, 7, 8, 9, 10, 11, 12, 13, 14, 15, 16, 17, 18, 19, 20, 21, 22, 23, 24, 25, 26, 27], [0, 1, 2, 3, 4, 5, 6, 7, 8, 9, 10, 11, 12, 13, 14, 15, 16, 17, 18, 19, 20, 21, 22, 23, 24, 25, 26, 27, 28], [0, 1, 2, 3, 4, 5, 6, 7, 8, 9, 10, 11, 12, 13, 14, 15, 16, 17, 18, 19, 20, 21, 22, 23, 24, 25, 26, 27], [0, 1, 2, 3, 4, 5, 6, 7, 8, 9, 10, 11, 12, 13, 14, 15, 16, 17, 18, 19, 20, 21, 22, 23, 24, 25, 26, 27, 30, 28, 29], [0, 1, 2, 3, 4, 5, 6, 7, 8, 9, 10, 11, 12, 13, 14, 15, 16, 17, 18, 19, 20, 21, 22, 23, 24, 25, 26, 27, 28, 29, 30, 31], [0, 1, 2, 3, 4, 5, 6, 7, 8, 9, 10, 11, 12, 13, 14, 15, 16, 17, 18, 19, 20, 21, 22, 23, 24, 25, 26, 27, 28, 29, 30, 31, 32], [0, 1, 2, 3, 4, 5, 6, 7, 8, 9, 10, 11, 12, 13, 14, 15, 16, 17, 18, 19, 20, 21, 22, 23, 24, 25, 26, 27, 28, 29, 30, 31, 32, 33], [0, 1, 2, 3, 4, 5, 6, 7, 8, 9, 10, 11, 12, 13, 14, 15, 16, 17, 18, 19, 20, 21, 22, 23, 24, 25, 26, 27, 28, 29, 30, 31, 32, 33, 34], [0, 1, 2, 3, 4, 5, 6, 7, 8, 9, 10, 11, 12, 13, 14, 15, 16, 17, 18, 19, 20, 21, 22, 23, 24, 25, 26, 27, 28, 29, 30, 31, 32, 33, 34, 35], [0, 1, 2, 3, 4, 5, 6, 7, 8, 9, 10, 11, 12, 13, 14, 15, 16, 17, 18, 19, 20, 21, 22, 23, 24, 25, 26, 27, 28, 29, 30, 31, 32, 33, 34, 35, 36]] [3, 4, 84, 85, 86, 87, 88, 89, 90, 91, 92, 93, 94, 95, 96, 97, 98, 99, 100, 101, 102, 103, 104, 105, 106, 107, 108, 109, 110, 111, 112, 113, 114, 115, 116, 117, 118, 119, 120])
          .ret)))))))))
theorem F6.rs : Tryz.f6.results.toList = [.tmp 6] := rfl
def L04_HeatChecks (k : Nat) (f0 : Firing) (r1 : Reading) (source2 : Int) : Option (Bool) :=
  (heat_With k f0 r1).bind fun x1 =>
  (R04_With k f0 r1).bind fun x2 =>
  (heat_Sources k f0).bind fun x3 =>
  (R04_Sources k f0).bind fun x4 =>
  (heat_Without k f0 source2).bind fun x5 =>
  (R04_Without k f0 source2).bind fun x6 =>
  (R04_SameFiring k x1.1 x2.1).bind fun x7 =>
  bif x7 then
    bif decide (x1.2 = x2.2) then
      (R01_Same k x3.1 x4.1).bind fun x10 =>
      bif x10 then
        bif decide (x3.2 = x4.2) then
          (R04_SameFiring k x5.1 x6.1).bind fun x13 =>
          bif x13 then
            bif (!decide (x5.2 = x6.2)) then
              some false
            else
              (heat_CheckKiln k f0.Kiln).bind fun x16 =>
              (R04_CheckKiln k f0.Kiln).bind fun x17 =>
              bif decide (x16 = x17) then
                (heat_Places k f0.Kiln).bind fun x19 =>
                (R04_Places k f0.Kiln).bind fun x20 =>
                bif decide (x19 = x20) then
                  (heat_CheckReading k f0.Kiln r1).bind fun x22 =>
                  (R04_CheckReading k f0.Kiln r1).bind fun x23 =>
                  bif decide (x22 = x23) then
                    (heat_Check k f0).bind fun x25 =>
                    (R04_Check k f0).bind fun x26 =>
                    bif decide (x25 = x26) then
                      (L04_sane k).bind fun x28 =>
                      some x28
                    else
                      some false
                  else
                    some false
                else
                  some false
              else
                some false
          else
            some false
        else
          some false
      else
        some false
    else
      some false
  else
    some false
theorem L04_HeatChecks_ok (k : Nat) (f0 : Firing) (r1 : Reading) (source2 : Int) (r : Bool) (h0 : L04_HeatChecks k f0 r1 source2 = some r) : PCall Tryz.prog 6 [.agg (Firing.c f0), .agg (Reading.c r1), .int .i64 source2] (fun y => y = .bool r) := by
  refine PCall.nlr (PCall.of_body T_ok (fn := Tryz.f6) (sc := F6.c) (by rfl) (by rfl) (by decide +kernel) (by rfl) (by decide +kernel) (Nat.le_of_ble_eq_true rfl) ?_)
  refine run_sound T_ok 1000 _ _ ?_
  simp only [L04_HeatChecks] at h0
  try simp only [F6.c, go_sem]
  obtain ⟨x1, yx1, h0⟩ := bind_some h0
  refine AKev_call0 T_ok 1000 (heat_With_ok k _ _ _ yx1) ?_ (by first | rfl | simp [AV.refsL, AV.refs, AV.scal, AV.leaf]) ?_
  · try simp only [go_sem]
  try simp only [go_sem]
  obtain ⟨x2, yx2, h0⟩ := bind_some h0
  refine AKev_call0 T_ok 1000 (R04_With_ok k _ _ _ yx2) ?_ (by first | rfl | simp [AV.refsL, AV.refs, AV.scal, AV.leaf]) ?_
  · try simp only [go_sem]
  try simp only [go_sem]
  obtain ⟨x3, yx3, h0⟩ := bind_some h0
  refine AKev_call0 T_ok 1000 (heat_Sources_ok k _ _ yx3) ?_ (by first | rfl | simp [AV.refsL, AV.refs, AV.scal, AV.leaf]) ?_
  · try simp only [go_sem]
  try simp only [go_sem]
  obtain ⟨x4, yx4, h0⟩ := bind_some h0
  refine AKev_call0 T_ok 1000 (R04_Sources_ok k _ _ yx4) ?_ (by first | rfl | simp [AV.refsL, AV.refs, AV.scal, AV.leaf]) ?_
  · try simp only [go_sem]
  try simp only [go_sem]
  obtain ⟨x5, yx5, h0⟩ := bind_some h0
  refine AKev_call0 T_ok 1000 (heat_Without_ok k _ _ _ yx5) ?_ (by first | rfl | simp [AV.refsL, AV.refs, AV.scal, AV.leaf]) ?_
  · try simp only [go_sem]
  try simp only [go_sem]
  obtain ⟨x6, yx6, h0⟩ := bind_some h0
  refine AKev_call0 T_ok 1000 (R04_Without_ok k _ _ _ yx6) ?_ (by first | rfl | simp [AV.refsL, AV.refs, AV.scal, AV.leaf]) ?_
  · try simp only [go_sem]
  try simp only [go_sem]
  obtain ⟨x7, yx7, h0⟩ := bind_some h0
  refine AKev_call0 T_ok 1000 (R04_SameFiring_ok k _ _ _ yx7) ?_ (by first | rfl | simp [AV.refsL, AV.refs, AV.scal, AV.leaf]) ?_
  · try simp only [go_sem]
  try simp only [go_sem]
  refine AKev_bif h0 (fun c8 h0 => ?_) (fun c8 h0 => ?_)
  · try simp only [c8, go_sem]
    refine AKev_bif h0 (fun c9 h0 => ?_) (fun c9 h0 => ?_)
    · try simp only [c9, c8, go_sem]
      obtain ⟨x10, yx10, h0⟩ := bind_some h0
      refine AKev_call0 T_ok 1000 (R01_Same_ok k _ _ _ yx10) ?_ (by first | rfl | simp [AV.refsL, AV.refs, AV.scal, AV.leaf]) ?_
      · try simp only [c8, c9, go_sem]
      try simp only [c8, c9, go_sem]
      refine AKev_bif h0 (fun c11 h0 => ?_) (fun c11 h0 => ?_)
      · try simp only [c11, c8, c9, go_sem]
        refine AKev_bif h0 (fun c12 h0 => ?_) (fun c12 h0 => ?_)
        · try simp only [c12, c8, c9, c11, go_sem]
          obtain ⟨x13, yx13, h0⟩ := bind_some h0
          refine AKev_call0 T_ok 1000 (R04_SameFiring_ok k _ _ _ yx13) ?_ (by first | rfl | simp [AV.refsL, AV.refs, AV.scal, AV.leaf]) ?_
          · try simp only [c8, c9, c11, c12, go_sem]
          try simp only [c8, c9, c11, c12, go_sem]
          refine AKev_bif h0 (fun c14 h0 => ?_) (fun c14 h0 => ?_)
          · try simp only [c14, c8, c9, c11, c12, go_sem]
            refine AKev_bif h0 (fun c15 h0 => ?_) (fun c15 h0 => ?_)
            · have c15 := bnot_t c15
              try simp only [c15, c8, c9, c11, c12, c14, go_sem]
              obtain rfl := Option.some.inj h0
              refine AKev_ret rfl ?_
              try simp only [F6.rs, c8, c9, c11, c12, c14, c15, go_sem]
            · have c15 := bnot_f c15
              try simp only [c15, c8, c9, c11, c12, c14, go_sem]
              refine AKev_region T_ok follows_ok 1000 ?_
              try simp only [c8, c9, c11, c12, c14, c15, go_sem]
              obtain ⟨x16, yx16, h0⟩ := bind_some h0
              refine DG_call0 1000 (heat_CheckKiln_ok k _ _ yx16) ?_ (by first | rfl | simp [AV.refsL, AV.refs, AV.scal, AV.leaf]) ?_
              · try simp only [c8, c9, c11, c12, c14, c15, go_sem]
              try simp only [c8, c9, c11, c12, c14, c15, go_sem]
              obtain ⟨x17, yx17, h0⟩ := bind_some h0
              refine DG_call0 1000 (R04_CheckKiln_ok k _ _ yx17) ?_ (by first | rfl | simp [AV.refsL, AV.refs, AV.scal, AV.leaf]) ?_
              · try simp only [c8, c9, c11, c12, c14, c15, go_sem]
              try simp only [c8, c9, c11, c12, c14, c15, go_sem]
              refine DG_bif h0 (fun c18 h0 => ?_) (fun c18 h0 => ?_)
              · try simp only [c18, c8, c9, c11, c12, c14, c15, go_sem]
                obtain ⟨x19, yx19, h0⟩ := bind_some h0
                refine DG_call0 1000 (heat_Places_ok k _ _ yx19) ?_ (by first | rfl | simp [AV.refsL, AV.refs, AV.scal, AV.leaf]) ?_
                · try simp only [c8, c9, c11, c12, c14, c15, c18, go_sem]
                try simp only [c8, c9, c11, c12, c14, c15, c18, go_sem]
                obtain ⟨x20, yx20, h0⟩ := bind_some h0
                refine DG_call0 1000 (R04_Places_ok k _ _ yx20) ?_ (by first | rfl | simp [AV.refsL, AV.refs, AV.scal, AV.leaf]) ?_
                · try simp only [c8, c9, c11, c12, c14, c15, c18, go_sem]
                try simp only [c8, c9, c11, c12, c14, c15, c18, go_sem]
                refine DG_bif h0 (fun c21 h0 => ?_) (fun c21 h0 => ?_)
                · try simp only [c21, c8, c9, c11, c12, c14, c15, c18, go_sem]
                  obtain ⟨x22, yx22, h0⟩ := bind_some h0
                  refine DG_call0 1000 (heat_CheckReading_ok k _ _ _ yx22) ?_ (by first | rfl | simp [AV.refsL, AV.refs, AV.scal, AV.leaf]) ?_
                  · try simp only [c8, c9, c11, c12, c14, c15, c18, c21, go_sem]
                  try simp only [c8, c9, c11, c12, c14, c15, c18, c21, go_sem]
                  obtain ⟨x23, yx23, h0⟩ := bind_some h0
                  refine DG_call0 1000 (R04_CheckReading_ok k _ _ _ yx23) ?_ (by first | rfl | simp [AV.refsL, AV.refs, AV.scal, AV.leaf]) ?_
                  · try simp only [c8, c9, c11, c12, c14, c15, c18, c21, go_sem]
                  try simp only [c8, c9, c11, c12, c14, c15, c18, c21, go_sem]
                  refine DG_bif h0 (fun c24 h0 => ?_) (fun c24 h0 => ?_)
                  · try simp only [c24, c8, c9, c11, c12, c14, c15, c18, c21, go_sem]
                    obtain ⟨x25, yx25, h0⟩ := bind_some h0
                    refine DG_call0 1000 (heat_Check_ok k _ _ yx25) ?_ (by first | rfl | simp [AV.refsL, AV.refs, AV.scal, AV.leaf]) ?_
                    · try simp only [c8, c9, c11, c12, c14, c15, c18, c21, c24, go_sem]
                    try simp only [c8, c9, c11, c12, c14, c15, c18, c21, c24, go_sem]
                    obtain ⟨x26, yx26, h0⟩ := bind_some h0
                    refine DG_call0 1000 (R04_Check_ok k _ _ yx26) ?_ (by first | rfl | simp [AV.refsL, AV.refs, AV.scal, AV.leaf]) ?_
                    · try simp only [c8, c9, c11, c12, c14, c15, c18, c21, c24, go_sem]
                    try simp only [c8, c9, c11, c12, c14, c15, c18, c21, c24, go_sem]
                    refine DG_bif h0 (fun c27 h0 => ?_) (fun c27 h0 => ?_)
                    · try simp only [c27, c8, c9, c11, c12, c14, c15, c18, c21, c24, go_sem]
                      obtain ⟨x28, yx28, h0⟩ := bind_some h0
                      refine DG_call0 1000 (L04_sane_ok k _ yx28) ?_ (by first | rfl | simp [AV.refsL, AV.refs, AV.scal, AV.leaf]) ?_
                      · try simp only [c8, c9, c11, c12, c14, c15, c18, c21, c24, c27, go_sem]
                      try simp only [c8, c9, c11, c12, c14, c15, c18, c21, c24, c27, go_sem]
                      refine DG_done ⟨rfl, run_sound T_ok 1000 _ _ ?_⟩
                      try simp only [c8, c9, c11, c12, c14, c15, c18, c21, c24, c27, go_sem]
                      obtain rfl := Option.some.inj h0
                      refine AKev_ret rfl ?_
                      try simp only [F6.rs, c8, c9, c11, c12, c14, c15, c18, c21, c24, c27, go_sem]
                    · try simp only [c27, c8, c9, c11, c12, c14, c15, c18, c21, c24, go_sem]
                      refine DG_done ⟨rfl, run_sound T_ok 1000 _ _ ?_⟩
                      try simp only [c8, c9, c11, c12, c14, c15, c18, c21, c24, c27, go_sem]
                      obtain rfl := Option.some.inj h0
                      refine AKev_ret rfl ?_
                      try simp only [F6.rs, c8, c9, c11, c12, c14, c15, c18, c21, c24, c27, go_sem]
                  · try simp only [c24, c8, c9, c11, c12, c14, c15, c18, c21, go_sem]
                    refine DG_done ⟨rfl, run_sound T_ok 1000 _ _ ?_⟩
                    try simp only [c8, c9, c11, c12, c14, c15, c18, c21, c24, go_sem]
                    obtain rfl := Option.some.inj h0
                    refine AKev_ret rfl ?_
                    try simp only [F6.rs, c8, c9, c11, c12, c14, c15, c18, c21, c24, go_sem]
                · try simp only [c21, c8, c9, c11, c12, c14, c15, c18, go_sem]
                  refine DG_done ⟨rfl, run_sound T_ok 1000 _ _ ?_⟩
                  try simp only [c8, c9, c11, c12, c14, c15, c18, c21, go_sem]
                  obtain rfl := Option.some.inj h0
                  refine AKev_ret rfl ?_
                  try simp only [F6.rs, c8, c9, c11, c12, c14, c15, c18, c21, go_sem]
              · try simp only [c18, c8, c9, c11, c12, c14, c15, go_sem]
                refine DG_done ⟨rfl, run_sound T_ok 1000 _ _ ?_⟩
                try simp only [c8, c9, c11, c12, c14, c15, c18, go_sem]
                obtain rfl := Option.some.inj h0
                refine AKev_ret rfl ?_
                try simp only [F6.rs, c8, c9, c11, c12, c14, c15, c18, go_sem]
          · try simp only [c14, c8, c9, c11, c12, go_sem]
            obtain rfl := Option.some.inj h0
            refine AKev_ret rfl ?_
            try simp only [F6.rs, c8, c9, c11, c12, c14, go_sem]
        · try simp only [c12, c8, c9, c11, go_sem]
          obtain rfl := Option.some.inj h0
          refine AKev_ret rfl ?_
          try simp only [F6.rs, c8, c9, c11, c12, go_sem]
      · try simp only [c11, c8, c9, go_sem]
        obtain rfl := Option.some.inj h0
        refine AKev_ret rfl ?_
        try simp only [F6.rs, c8, c9, c11, go_sem]
    · try simp only [c9, c8, go_sem]
      obtain rfl := Option.some.inj h0
      refine AKev_ret rfl ?_
      try simp only [F6.rs, c8, c9, go_sem]
  · try simp only [c8, go_sem]
    obtain rfl := Option.some.inj h0
    refine AKev_ret rfl ?_
    try simp only [F6.rs, c8, go_sem]
end Go.Abs
namespace Go.Abs
open Go Go.Proofs Go.RowKit
set_option maxRecDepth 20000
theorem reads_3 : Reads Tryz.prog 3 eI i64ok := Reads.int Tryz.underlying3
def Range.q (x : Range) : Prop := i64ok x.Lo ∧ i64ok x.Hi
theorem reads_30 : Reads Tryz.prog 30 Range.c Range.q := (Reads.struct Tryz.underlying30 (by kernel_rfl) (ReadsL.cons (off := 0) (sz := 1) (off' := 1) (tot := 2) rfl (by kernel_rfl) rfl reads_3 (ReadsL.cons (off := 1) (sz := 1) (off' := 2) (tot := 2) rfl (by kernel_rfl) rfl reads_3 (ReadsL.nil (off := 2) (tot := 2) (by decide))))).as (fun p => ⟨p.1, p.2.1⟩) (fun _ => rfl) (fun _ h => ⟨h.1, h.2.1⟩)
theorem reads_89 : Reads Tryz.prog 89 (eL 2 Range.c) (fun l => l.length ≤ Go.maxLen ∧ ∀ a ∈ l, Range.q a) := Reads.slice Tryz.underlying89 (by kernel_rfl) (by decide) reads_30
theorem reads_22 : Reads Tryz.prog 22 (eL 1 (eL 2 Range.c)) (fun l => l.length ≤ Go.maxLen ∧ ∀ a ∈ l, (fun l => l.length ≤ Go.maxLen ∧ ∀ a ∈ l, Range.q a) a) := Reads.slice Tryz.underlying22 (by kernel_rfl) (by decide) reads_89
def Kiln.q (x : Kiln) : Prop := (fun l => l.length ≤ Go.maxLen ∧ ∀ a ∈ l, (fun l => l.length ≤ Go.maxLen ∧ ∀ a ∈ l, Range.q a) a) x.Falls
theorem reads_24 : Reads Tryz.prog 24 Kiln.c Kiln.q := (Reads.struct Tryz.underlying24 (by kernel_rfl) (ReadsL.cons (off := 0) (sz := 1) (off' := 1) (tot := 1) rfl (by kernel_rfl) rfl reads_22 (ReadsL.nil (off := 1) (tot := 1) (by decide)))).as (fun p => ⟨p.1⟩) (fun _ => rfl) (fun _ h => h.1)
def Reading.q (x : Reading) : Prop := i64ok x.Source ∧ i64ok x.Place ∧ i64ok x.Kind ∧ i64ok x.Mark ∧ Range.q x.Heat
theorem reads_64 : Reads Tryz.prog 64 Reading.c Reading.q := (Reads.struct Tryz.underlying64 (by kernel_rfl) (ReadsL.cons (off := 0) (sz := 1) (off' := 1) (tot := 6) rfl (by kernel_rfl) rfl reads_3 (ReadsL.cons (off := 1) (sz := 1) (off' := 2) (tot := 6) rfl (by kernel_rfl) rfl reads_3 (ReadsL.cons (off := 2) (sz := 1) (off' := 3) (tot := 6) rfl (by kernel_rfl) rfl reads_3 (ReadsL.cons (off := 3) (sz := 1) (off' := 4) (tot := 6) rfl (by kernel_rfl) rfl reads_3 (ReadsL.cons (off := 4) (sz := 2) (off' := 6) (tot := 6) rfl (by kernel_rfl) rfl reads_30 (ReadsL.nil (off := 6) (tot := 6) (by decide)))))))).as (fun p => ⟨p.1, p.2.1, p.2.2.1, p.2.2.2.1, p.2.2.2.2.1⟩) (fun _ => rfl) (fun _ h => ⟨h.1, h.2.1, h.2.2.1, h.2.2.2.1, h.2.2.2.2.1⟩)
theorem reads_25 : Reads Tryz.prog 25 (eL 6 Reading.c) (fun l => l.length ≤ Go.maxLen ∧ ∀ a ∈ l, Reading.q a) := Reads.slice Tryz.underlying25 (by kernel_rfl) (by decide) reads_64
def Firing.q (x : Firing) : Prop := Kiln.q x.Kiln ∧ (fun l => l.length ≤ Go.maxLen ∧ ∀ a ∈ l, Reading.q a) x.Readings
theorem reads_27 : Reads Tryz.prog 27 Firing.c Firing.q := (Reads.struct Tryz.underlying27 (by kernel_rfl) (ReadsL.cons (off := 0) (sz := 1) (off' := 1) (tot := 2) rfl (by kernel_rfl) rfl reads_24 (ReadsL.cons (off := 1) (sz := 1) (off' := 2) (tot := 2) rfl (by kernel_rfl) rfl reads_25 (ReadsL.nil (off := 2) (tot := 2) (by decide))))).as (fun p => ⟨p.1, p.2.1⟩) (fun _ => rfl) (fun _ h => ⟨h.1, h.2.1⟩)
def Want.q (x : Want) : Prop := i64ok x.Place ∧ Range.q x.Heat
theorem reads_32 : Reads Tryz.prog 32 Want.c Want.q := (Reads.struct Tryz.underlying32 (by kernel_rfl) (ReadsL.cons (off := 0) (sz := 1) (off' := 1) (tot := 3) rfl (by kernel_rfl) rfl reads_3 (ReadsL.cons (off := 1) (sz := 2) (off' := 3) (tot := 3) rfl (by kernel_rfl) rfl reads_30 (ReadsL.nil (off := 3) (tot := 3) (by decide))))).as (fun p => ⟨p.1, p.2.1⟩) (fun _ => rfl) (fun _ h => ⟨h.1, h.2.1⟩)
theorem reads_28 : Reads Tryz.prog 28 (eL 3 Want.c) (fun l => l.length ≤ Go.maxLen ∧ ∀ a ∈ l, Want.q a) := Reads.slice Tryz.underlying28 (by kernel_rfl) (by decide) reads_32
theorem reads_37 : Reads Tryz.prog 37 (eL 1 eI) (fun l => l.length ≤ Go.maxLen ∧ ∀ a ∈ l, i64ok a) := Reads.slice Tryz.underlying37 (by kernel_rfl) (by decide) reads_3
theorem reads_4 : Reads Tryz.prog 4 eB (fun _ => True) := Reads.bool Tryz.underlying4
theorem reads_38 : Reads Tryz.prog 38 (eL 1 (eL 1 eI)) (fun l => l.length ≤ Go.maxLen ∧ ∀ a ∈ l, (fun l => l.length ≤ Go.maxLen ∧ ∀ a ∈ l, i64ok a) a) := Reads.slice Tryz.underlying38 (by kernel_rfl) (by decide) reads_37
def Field.q (x : Field) : Prop := (fun l => l.length ≤ Go.maxLen ∧ ∀ a ∈ l, i64ok a) x.Mouths ∧ (fun l => l.length ≤ Go.maxLen ∧ ∀ a ∈ l, (fun l => l.length ≤ Go.maxLen ∧ ∀ a ∈ l, i64ok a) a) x.Falls
theorem reads_40 : Reads Tryz.prog 40 Field.c Field.q := (Reads.struct Tryz.underlying40 (by kernel_rfl) (ReadsL.cons (off := 0) (sz := 1) (off' := 1) (tot := 2) rfl (by kernel_rfl) rfl reads_37 (ReadsL.cons (off := 1) (sz := 1) (off' := 2) (tot := 2) rfl (by kernel_rfl) rfl reads_38 (ReadsL.nil (off := 2) (tot := 2) (by decide))))).as (fun p => ⟨p.1, p.2.1⟩) (fun _ => rfl) (fun _ h => ⟨h.1, h.2.1⟩)
end Go.Abs
namespace Go.Abs
open Go
set_option linter.unusedVariables false
def KK : Nat := 18446744073709551616
theorem KK_big {n : Nat} (h : n ≤ Go.maxLen) : n < KK := by unfold KK; unfold Go.maxLen at h; omega
theorem maxLen_le {n : Nat} (h : n ≤ Go.maxLen) : n ≤ 9223372036854775807 := by unfold Go.maxLen at h; omega
theorem sane_KK : L04_sane KK = some true := by unfold KK; decide +kernel
def inB (n lo hi : Int) : Bool := decide (lo ≤ n) && decide (n ≤ hi)
theorem heat_in_eq (k : Nat) (n lo hi : Int) : heat_in k n lo hi = some (inB n lo hi) := by
  unfold heat_in inB; cases decide (lo ≤ n) <;> rfl
theorem R01_In_eq (k : Nat) (n lo hi : Int) : R01_In k n lo hi = some (inB n lo hi) := by
  unfold R01_In inB; cases decide (lo ≤ n) <;> rfl
def rangeB (r : Range) (lo hi : Int) : Bool := decide (lo ≤ r.Lo) && (decide (r.Lo ≤ r.Hi) && decide (r.Hi ≤ hi))
theorem R01_Part_eq (k : Nat) (r : Range) (lo hi : Int) : R01_Part k r lo hi = some (rangeB r lo hi) := by
  unfold R01_Part rangeB; cases decide (lo ≤ r.Lo) <;> cases decide (r.Lo ≤ r.Hi) <;> rfl
def readB (places : Int) (r : Reading) : Bool :=
  inB r.Source 1 99999 && (inB r.Place 0 (w64 (places - 1)) &&
    (bif decide (r.Kind = (1 : Int)) then (inB r.Mark 1 2000 && (decide (r.Heat.Lo = (0 : Int)) && decide (r.Heat.Hi = (0 : Int))))
    else bif decide (r.Kind = (2 : Int)) then (inB r.Mark 1 2000 && (decide (r.Heat.Lo = (0 : Int)) && decide (r.Heat.Hi = (0 : Int))))
    else bif decide (r.Kind = (3 : Int)) then (decide (r.Mark = (0 : Int)) && rangeB r.Heat 1 2000) else false))
theorem heat_isReading_eq (k : Nat) (places : Int) (r : Reading) : heat_isReading k places r = some (readB places r) := by
  unfold heat_isReading readB rangeB
  simp only [heat_in_eq, Option.bind_some]
  cases inB r.Source 1 99999 <;> cases inB r.Place 0 (w64 (places - 1)) <;> cases decide (r.Kind = (1 : Int)) <;> cases decide (r.Kind = (2 : Int)) <;> cases decide (r.Kind = (3 : Int)) <;> cases inB r.Mark 1 2000 <;> cases decide (r.Mark = (0 : Int)) <;> cases decide ((1 : Int) ≤ r.Heat.Lo) <;> cases decide (r.Heat.Lo ≤ r.Heat.Hi) <;> rfl
theorem R04_isReading_eq (k : Nat) (k0 : Kiln) (r : Reading) (x3 : List Range) (h : k0.Falls[0]? = some x3) : R04_isReading k k0 r = some (readB (x3.length : Int) r) := by
  unfold R04_isReading readB
  have ha : at? k0.Falls 0 = some x3 := by have := at_of h; simpa using this
  simp only [R01_In_eq, R01_Part_eq, Option.bind_some, ha]
  cases inB r.Source 1 99999 <;> cases inB r.Place 0 (w64 (x3.length - 1)) <;> cases decide (r.Kind = (1 : Int)) <;> cases decide (r.Kind = (2 : Int)) <;> cases decide (r.Kind = (3 : Int)) <;> cases inB r.Mark 1 2000 <;> cases decide (r.Mark = (0 : Int)) <;> rfl
theorem findSome_bif {α R : Type} (p : α → Bool) (c : R) : ∀ l : List α, l.findSome? (fun x => bif p x then none else some c) = bif l.all p then none else some c
  | [] => rfl
  | x :: l => by
    rw [List.findSome?_cons, List.all_cons]
    cases h : p x with
    | true => simp [findSome_bif p c l]
    | false => simp
theorem lt_dec {i n : Nat} (h : i < n) : decide ((i : Int) < (n : Int)) = true := by simp; omega
theorem lt_dec_self (n : Nat) : decide ((n : Int) < (n : Int)) = false := by simp
theorem len_dec {α β : Type} (a : List α) (b : List β) : decide ((a.length : Int) = (b.length : Int)) = decide (a.length = b.length) := by
  by_cases h : a.length = b.length
  · simp [h]
  · have : ¬ ((a.length : Int) = (b.length : Int)) := by omega
    simp [h, this]
def kilnB (a : Kiln) : Bool := inB a.Falls.length 1 6 && (inB (a.Falls.headD []).length 1 24 && a.Falls.all fun l => decide (l.length = (a.Falls.headD []).length) && l.all fun r => rangeB r 0 3000)
theorem bad_eq (k : Nat) (r : Range) : heat_CheckKiln_1 k r = some (!rangeB r 0 3000) := by
  unfold heat_CheckKiln_1 rangeB
  have h1 : decide (r.Lo < (0 : Int)) = !decide (0 ≤ r.Lo) := by by_cases h : 0 ≤ r.Lo <;> simp [h] <;> omega
  have h2 : decide (r.Hi < r.Lo) = !decide (r.Lo ≤ r.Hi) := by by_cases h : r.Lo ≤ r.Hi <;> simp [h] <;> omega
  have h3 : decide ((3000 : Int) < r.Hi) = !decide (r.Hi ≤ 3000) := by by_cases h : r.Hi ≤ 3000 <;> simp [h] <;> omega
  rw [h1, h2, h3]
  cases decide (0 ≤ r.Lo) <;> cases decide (r.Lo ≤ r.Hi) <;> rfl
theorem contains_Range {l : List Range} (hl : l.length ≤ Go.maxLen) {f : Range → Option Bool} {p : Range → Bool} (hf : ∀ x, f x = some (p x)) : slices_ContainsFunc_api_Range KK l f = some (l.any p) := by
  unfold slices_ContainsFunc_api_Range slices_IndexFunc_api_Range
  rw [indexFunc_gen (body := slices_IndexFunc_api_Range.b0 KK f l) (p := p) (fun x _ => hf x) (maxLen_le hl) (KK_big hl) rfl]
  have : l.any p = (l.findIdx? p).isSome := by rw [List.findIdx?_isSome]
  rw [this]
  cases l.findIdx? p with
  | none => rfl
  | some i => simp
theorem heat_CheckKiln_eq (a : Kiln) (q : Kiln.q a) : heat_CheckKiln KK a = some (bif kilnB a then 0 else 40) := by
  obtain ⟨q1, q2⟩ := q
  unfold heat_CheckKiln kilnB
  simp only [heat_in_eq, Option.bind_some]
  cases h0 : inB (a.Falls.length : Int) 1 6 with
  | false => rfl
  | true =>
    obtain ⟨x3, hx⟩ : ∃ x3, a.Falls[0]? = some x3 := by
      have : 0 < a.Falls.length := by simp [inB] at h0; omega
      exact ⟨_, List.getElem?_eq_getElem this⟩
    have hd : a.Falls.headD [] = x3 := by cases hF : a.Falls with | nil => rw [hF] at hx; cases hx | cons y l => rw [hF] at hx; simpa using hx
    have ha : at? a.Falls 0 = some x3 := by have := at_of hx; simpa using this
    simp only [ha, hd, cond_true, Option.bind_some, Bool.true_and]
    cases h1 : inB (x3.length : Int) 1 24 with
    | false => rfl
    | true =>
      simp only [Bool.not_true, cond_false, Bool.true_and]
      rw [whl_each (l := a.Falls) (f := fun l => bif (decide (l.length = x3.length) && l.all fun r => rangeB r 0 3000) then none else some 40) (maxLen_le q1) (KK_big q1) ?_ ?_]
      · rw [findSome_bif]
        cases a.Falls.all _ <;> rfl
      · intro i x hx
        have hi : i < a.Falls.length := (List.getElem?_eq_some_iff.1 hx).1
        unfold heat_CheckKiln.b0
        rw [lt_dec hi, at_of hx]
        simp only [cond_true, Option.bind_some, len_dec]
        rw [contains_Range (q2 x (List.mem_of_getElem? hx)).1 (fun r => bad_eq KK r)]
        have : (x.any fun r => !rangeB r 0 3000) = !(x.all fun r => rangeB r 0 3000) := by simp [List.all_eq_not_any_not]
        rw [this]
        cases decide (x.length = x3.length) <;> cases (x.all fun r => rangeB r 0 3000) <;> rfl
      · unfold heat_CheckKiln.b0
        rw [lt_dec_self]; rfl
theorem R04_CheckKiln_eq (a : Kiln) (q : Kiln.q a) : R04_CheckKiln KK a = some (bif kilnB a then 0 else 40) := by
  obtain ⟨q1, q2⟩ := q
  unfold R04_CheckKiln kilnB
  simp only [R01_In_eq, Option.bind_some]
  cases h0 : inB (a.Falls.length : Int) 1 6 with
  | false => rfl
  | true =>
    have hpos : 0 < a.Falls.length := by simp [inB] at h0; omega
    obtain ⟨x3, hx⟩ : ∃ x3, a.Falls[0]? = some x3 := ⟨_, List.getElem?_eq_getElem hpos⟩
    have hd : a.Falls.headD [] = x3 := by cases hF : a.Falls with | nil => rw [hF] at hx; cases hx | cons y l => rw [hF] at hx; simpa using hx
    have ha : at? a.Falls 0 = some x3 := by have := at_of hx; simpa using this
    simp only [ha, hd, Bool.not_true, cond_false, Option.bind_some, Bool.true_and]
    rw [whl_each (l := a.Falls) (f := fun l => bif (decide (l.length = x3.length) && (inB (x3.length : Int) 1 24 && l.all fun r => rangeB r 0 3000)) then none else some 40) (maxLen_le q1) (KK_big q1) ?_ ?_]
    · rw [findSome_bif]
      have : (a.Falls.all fun l => decide (l.length = x3.length) && (inB (x3.length : Int) 1 24 && l.all fun r => rangeB r 0 3000)) = (inB (x3.length : Int) 1 24 && a.Falls.all fun l => decide (l.length = x3.length) && l.all fun r => rangeB r 0 3000) := by
        cases inB (x3.length : Int) 1 24 with
        | true => simp
        | false =>
          simp only [Bool.false_and, Bool.and_false]
          cases hF : a.Falls with
          | nil => rw [hF] at hpos; simp at hpos
          | cons y l => simp
      rw [this]
      cases (inB (x3.length : Int) 1 24 && a.Falls.all fun l => decide (l.length = x3.length) && l.all fun r => rangeB r 0 3000) <;> rfl
    · intro i x hx'
      have hi : i < a.Falls.length := (List.getElem?_eq_some_iff.1 hx').1
      have hq := q2 x (List.mem_of_getElem? hx')
      unfold R04_CheckKiln.b0
      rw [lt_dec hi, at_of hx']
      simp only [cond_true, Option.bind_some, len_dec, R01_In_eq]
      cases hl : decide (x.length = x3.length) with
      | false => rfl
      | true =>
        simp only [cond_true, Bool.true_and]
        cases inB (x3.length : Int) 1 24 with
        | false => rfl
        | true =>
          simp only [Bool.not_true, cond_false, Bool.true_and]
          have hl' : x.length = x3.length := by simpa using hl
          rw [whl_each (l := x) (f := fun r => bif rangeB r 0 3000 then none else some 40) (maxLen_le hq.1) (KK_big hq.1) ?_ ?_]
          · rw [findSome_bif]
            cases (x.all fun r => rangeB r 0 3000) <;> rfl
          · intro j r hr
            have hj : j < x.length := (List.getElem?_eq_some_iff.1 hr).1
            unfold R04_CheckKiln.b1
            rw [← hl', lt_dec hj, at_of hr]
            simp only [cond_true, Option.bind_some, R01_Part_eq]
            cases rangeB r 0 3000 <;> rfl
          · unfold R04_CheckKiln.b1
            rw [← hl', lt_dec_self]; rfl
    · unfold R04_CheckKiln.b0
      rw [lt_dec_self]; rfl
theorem kilnB_head {a : Kiln} (h : kilnB a = true) : ∃ x3, a.Falls[0]? = some x3 ∧ at? a.Falls 0 = some x3 ∧ a.Falls.headD [] = x3 := by
  have hpos : 0 < a.Falls.length := by simp [kilnB, inB] at h; omega
  obtain ⟨x3, hx⟩ : ∃ x3, a.Falls[0]? = some x3 := ⟨_, List.getElem?_eq_getElem hpos⟩
  exact ⟨x3, hx, by have := at_of hx; simpa using this, by cases hF : a.Falls with | nil => rw [hF] at hx; cases hx | cons y l => rw [hF] at hx; simpa using hx⟩
theorem heat_Places_eq (a : Kiln) (q : Kiln.q a) : heat_Places KK a = some (bif kilnB a then ((a.Falls.headD []).length : Int) else 0) := by
  unfold heat_Places
  rw [heat_CheckKiln_eq a q]
  cases h : kilnB a with
  | false => rfl
  | true => obtain ⟨x3, h1, h2, h3⟩ := kilnB_head h; simp only [Option.bind_some, cond_true, h2, h3]; rfl
theorem R04_Places_eq (a : Kiln) (q : Kiln.q a) : R04_Places KK a = some (bif kilnB a then ((a.Falls.headD []).length : Int) else 0) := by
  unfold R04_Places
  rw [R04_CheckKiln_eq a q]
  cases h : kilnB a with
  | false => rfl
  | true => obtain ⟨x3, h1, h2, h3⟩ := kilnB_head h; simp only [Option.bind_some, cond_true, h2, h3]; rfl
def readCode (a : Kiln) (r : Reading) : Int := bif kilnB a then (bif readB ((a.Falls.headD []).length : Int) r then 0 else 41) else 40
theorem heat_CheckReading_eq (a : Kiln) (q : Kiln.q a) (r : Reading) : heat_CheckReading KK a r = some (readCode a r) := by
  unfold heat_CheckReading readCode
  rw [heat_CheckKiln_eq a q]
  cases h : kilnB a with
  | false => rfl
  | true =>
    obtain ⟨x3, h1, h2, h3⟩ := kilnB_head h
    simp only [Option.bind_some, cond_true, h2, h3, heat_isReading_eq]
    cases readB (x3.length : Int) r <;> rfl
theorem R04_CheckReading_eq (a : Kiln) (q : Kiln.q a) (r : Reading) : R04_CheckReading KK a r = some (readCode a r) := by
  unfold R04_CheckReading readCode
  rw [R04_CheckKiln_eq a q]
  cases h : kilnB a with
  | false => rfl
  | true =>
    obtain ⟨x3, h1, h2, h3⟩ := kilnB_head h
    simp only [Option.bind_some, cond_true, h3, R04_isReading_eq KK a r x3 h1]
    cases readB (x3.length : Int) r <;> rfl
def firingCode (f : Firing) : Int := bif kilnB f.Kiln then (bif decide ((60 : Int) < (f.Readings.length : Int)) then 2 else bif f.Readings.all (readB ((f.Kiln.Falls.headD []).length : Int)) then 0 else 41) else 40
theorem heat_Check_eq (f : Firing) (q : Firing.q f) : heat_Check KK f = some (firingCode f) := by
  obtain ⟨q1, q2, q3⟩ := q
  unfold heat_Check firingCode
  rw [heat_CheckKiln_eq _ q1]
  cases h : kilnB f.Kiln with
  | false => rfl
  | true =>
    obtain ⟨x3, h1, h2, h3⟩ := kilnB_head h
    simp only [Option.bind_some, cond_true, h3]
    simp only [decide_true, Bool.not_true, cond_false]
    cases decide ((60 : Int) < (f.Readings.length : Int)) with
    | true => rfl
    | false =>
      simp only [cond_false]
      rw [whl_each (l := f.Readings) (f := fun r => bif readB (x3.length : Int) r then none else some 41) (maxLen_le q2) (KK_big q2) ?_ ?_]
      · rw [findSome_bif]
        have : (f.Readings.all fun r => readB (x3.length : Int) r) = f.Readings.all (readB (x3.length : Int)) := rfl
        rw [this]
        cases f.Readings.all (readB (x3.length : Int)) <;> rfl
      · intro i r hr
        have hi : i < f.Readings.length := (List.getElem?_eq_some_iff.1 hr).1
        unfold heat_Check.b0
        rw [lt_dec hi, at_of hr]
        simp only [cond_true, Option.bind_some, h2, heat_isReading_eq]
        cases readB (x3.length : Int) r <;> rfl
      · unfold heat_Check.b0
        rw [lt_dec_self]; rfl
theorem R04_Check_eq (f : Firing) (q : Firing.q f) : R04_Check KK f = some (firingCode f) := by
  obtain ⟨q1, q2, q3⟩ := q
  unfold R04_Check firingCode
  rw [R04_CheckKiln_eq _ q1]
  cases h : kilnB f.Kiln with
  | false => rfl
  | true =>
    obtain ⟨x3, h1, h2, h3⟩ := kilnB_head h
    simp only [Option.bind_some, cond_true, h3]
    simp only [decide_true, Bool.not_true, cond_false]
    cases decide ((60 : Int) < (f.Readings.length : Int)) with
    | true => rfl
    | false =>
      simp only [cond_false]
      rw [whl_each (l := f.Readings) (f := fun r => bif readB (x3.length : Int) r then none else some 41) (maxLen_le q2) (KK_big q2) ?_ ?_]
      · rw [findSome_bif]
        have : (f.Readings.all fun r => readB (x3.length : Int) r) = f.Readings.all (readB (x3.length : Int)) := rfl
        rw [this]
        cases f.Readings.all (readB (x3.length : Int)) <;> rfl
      · intro i r hr
        have hi : i < f.Readings.length := (List.getElem?_eq_some_iff.1 hr).1
        unfold R04_Check.b0
        rw [lt_dec hi, at_of hr]
        simp only [cond_true, Option.bind_some, R04_isReading_eq KK f.Kiln r x3 h1]
        cases readB (x3.length : Int) r <;> rfl
      · unfold R04_Check.b0
        rw [lt_dec_self]; rfl
end Go.Abs
namespace Go.Abs
open Go
set_option linter.unusedVariables false
theorem R01_Same_refl (a : List Int) (q : a.length ≤ Go.maxLen) : R01_Same KK a a = some true := by
  unfold R01_Same
  simp only [decide_true, Bool.not_true, cond_false]
  rw [whl_each (l := a) (f := fun _ => (none : Option Bool)) (maxLen_le q) (KK_big q) ?_ ?_]
  · have : a.findSome? (fun _ => (none : Option Bool)) = none := by induction a <;> simp_all
    rw [this]; rfl
  · intro i x hx
    have hi : i < a.length := (List.getElem?_eq_some_iff.1 hx).1
    unfold R01_Same.b0
    rw [lt_dec hi, at_of hx]
    simp
  · unfold R01_Same.b0
    rw [lt_dec_self]; rfl
theorem findSome_none {α R : Type} (l : List α) : l.findSome? (fun _ => (none : Option R)) = none := by induction l <;> simp_all
theorem R04_SameFiring_refl (a : Firing) (h1 : a.Kiln.Falls.length ≤ Go.maxLen) (h2 : ∀ x ∈ a.Kiln.Falls, x.length ≤ Go.maxLen) (h3 : a.Readings.length ≤ Go.maxLen) : R04_SameFiring KK a a = some true := by
  unfold R04_SameFiring
  simp only [decide_true, Bool.not_true, cond_false, cond_true]
  rw [whl_each (l := a.Kiln.Falls) (f := fun _ => (none : Option Bool)) (maxLen_le h1) (KK_big h1) ?_ ?_]
  · rw [findSome_none]
    simp only [Option.bind_some]
    rw [whl_each (l := a.Readings) (f := fun _ => (none : Option Bool)) (maxLen_le h3) (KK_big h3) ?_ ?_]
    · rw [findSome_none]; rfl
    · intro i x hx
      have hi : i < a.Readings.length := (List.getElem?_eq_some_iff.1 hx).1
      unfold R04_SameFiring.b2
      rw [lt_dec hi, at_of hx]
      simp
    · unfold R04_SameFiring.b2
      rw [lt_dec_self]; rfl
  · intro i x hx
    have hi : i < a.Kiln.Falls.length := (List.getElem?_eq_some_iff.1 hx).1
    have hq := h2 x (List.mem_of_getElem? hx)
    unfold R04_SameFiring.b0
    rw [lt_dec hi, at_of hx]
    simp only [decide_true, Bool.not_true, cond_false, cond_true, Option.bind_some]
    rw [whl_each (l := x) (f := fun _ => (none : Option Bool)) (maxLen_le hq) (KK_big hq) ?_ ?_]
    · rw [findSome_none]; rfl
    · intro j r hr
      have hj : j < x.length := (List.getElem?_eq_some_iff.1 hr).1
      unfold R04_SameFiring.b1
      rw [lt_dec hj, at_of hr]
      simp
    · unfold R04_SameFiring.b1
      rw [lt_dec_self]; rfl
  · unfold R04_SameFiring.b0
    rw [lt_dec_self]; rfl
theorem heat_kilnCopy_eq (a : Kiln) (h1 : a.Falls.length ≤ 1000) (h2 : ∀ x ∈ a.Falls, x.length ≤ 1000) : heat_kilnCopy KK a = some a := by
  unfold heat_kilnCopy
  have h := (whl_fold (l := a.Falls) (body := heat_kilnCopy.b0 KK a) (k := KK) (fun i s => (i, s)) (fun s x => s ++ [x]) (fun i s => s.length = i) (s0 := []) (by omega) (by unfold KK; omega) rfl ?_ ?_).1
  · rw [h, foldl_push]; rfl
  · intro i x s hx hI
    have hi : i < a.Falls.length := (List.getElem?_eq_some_iff.1 hx).1
    have hq := h2 x (List.mem_of_getElem? hx)
    refine ⟨?_, by simp [hI]⟩
    unfold heat_kilnCopy.b0 slices_Clone_api_Range
    simp only [lt_dec hi, at_of hx, cond_true, Option.bind_some]
    rw [room_of (by omega) (by omega)]
    simp only [Option.bind_some]
    rw [push_of (by omega) (by omega)]
    rfl
  · intro s _
    unfold heat_kilnCopy.b0
    simp only [lt_dec_self]; rfl
theorem R04_kiln_eq (a : Kiln) (h1 : a.Falls.length ≤ 1000) (h2 : ∀ x ∈ a.Falls, x.length ≤ 1000) : R04_kiln KK a = some a := by
  unfold R04_kiln
  have h := (whl_fold (l := a.Falls) (body := R04_kiln.b0 KK a) (k := KK) (fun i s => (i, s)) (fun s x => s ++ [x]) (fun i s => s.length = i) (s0 := []) (by omega) (by unfold KK; omega) rfl ?_ ?_).1
  · rw [h, foldl_push]; rfl
  · intro i x s hx hI
    have hi : i < a.Falls.length := (List.getElem?_eq_some_iff.1 hx).1
    have hq := h2 x (List.mem_of_getElem? hx)
    refine ⟨?_, by simp [hI]⟩
    unfold R04_kiln.b0
    simp only [lt_dec hi, at_of hx, cond_true, Option.bind_some]
    rw [room_of (by omega) (by omega)]
    simp only [Option.bind_some]
    rw [push_of (by omega) (by omega)]
    rfl
  · intro s _
    unfold R04_kiln.b0
    simp only [lt_dec_self]; rfl
theorem kilnB_small {a : Kiln} (h : kilnB a = true) : a.Falls.length ≤ 6 ∧ (a.Falls.headD []).length ≤ 24 ∧ ∀ x ∈ a.Falls, x.length = (a.Falls.headD []).length := by
  simp only [kilnB, inB, Bool.and_eq_true, decide_eq_true_eq, List.all_eq_true] at h
  obtain ⟨h1, h2, h3⟩ := h
  exact ⟨by omega, by omega, fun x hx => (h3 x hx).1⟩
theorem firing_small {f : Firing} (h : firingCode f = 0) : kilnB f.Kiln = true ∧ f.Readings.length ≤ 60 ∧ ∀ r ∈ f.Readings, readB ((f.Kiln.Falls.headD []).length : Int) r = true := by
  unfold firingCode at h
  cases h1 : kilnB f.Kiln with
  | false => rw [h1] at h; simp at h
  | true =>
    rw [h1] at h
    simp only [cond_true] at h
    by_cases h2 : (60 : Int) < (f.Readings.length : Int)
    · simp [h2] at h
    · simp only [h2, decide_false, cond_false] at h
      cases h3 : f.Readings.all (readB ((f.Kiln.Falls.headD []).length : Int)) with
      | false => rw [h3] at h; simp at h
      | true => exact ⟨rfl, by omega, fun r hr => List.all_eq_true.1 h3 r hr⟩
def withR (f : Firing) (r : Reading) : Firing × Int :=
  bif !decide (firingCode f = 0) then (⟨⟨[]⟩, []⟩, 42)
  else bif !readB ((f.Kiln.Falls.headD []).length : Int) r then (⟨⟨[]⟩, []⟩, 41)
  else bif decide ((f.Readings.length : Int) = 60) then (⟨⟨[]⟩, []⟩, 2)
  else (⟨f.Kiln, f.Readings ++ [r]⟩, 0)
theorem heat_With_eq (f : Firing) (q : Firing.q f) (r : Reading) : heat_With KK f r = some (withR f r) := by
  unfold heat_With withR
  rw [heat_Check_eq f q]
  simp only [Option.bind_some]
  by_cases h : firingCode f = 0
  · obtain ⟨h1, h2, _⟩ := firing_small h
    obtain ⟨x3, g1, g2, g3⟩ := kilnB_head h1
    obtain ⟨s1, s2, s3⟩ := kilnB_small h1
    simp only [h, decide_true, Bool.not_true, cond_false, g2, g3, Option.bind_some, heat_isReading_eq]
    cases readB (x3.length : Int) r with
    | false => rfl
    | true =>
      simp only [Bool.not_true, cond_false]
      cases decide ((f.Readings.length : Int) = 60) with
      | true => rfl
      | false =>
        simp only [cond_false]
        rw [heat_kilnCopy_eq f.Kiln (by omega) (fun x hx => by rw [s3 x hx]; omega)]
        unfold slices_Clone_api_Reading
        rw [room_of (by omega) (by omega)]
        simp only [Option.bind_some]
        rw [push_of (by omega) (by omega)]
        rfl
  · simp only [h, decide_false, Bool.not_false, cond_true]
theorem R04_With_eq (f : Firing) (q : Firing.q f) (r : Reading) : R04_With KK f r = some (withR f r) := by
  unfold R04_With withR
  rw [R04_Check_eq f q]
  simp only [Option.bind_some]
  by_cases h : firingCode f = 0
  · obtain ⟨h1, h2, _⟩ := firing_small h
    obtain ⟨x3, g1, g2, g3⟩ := kilnB_head h1
    obtain ⟨s1, s2, s3⟩ := kilnB_small h1
    simp only [h, decide_true, Bool.not_true, cond_false, g3, Option.bind_some, R04_isReading_eq KK f.Kiln r x3 g1]
    cases readB (x3.length : Int) r with
    | false => rfl
    | true =>
      simp only [Bool.not_true, cond_false]
      cases decide ((f.Readings.length : Int) = 60) with
      | true => rfl
      | false =>
        simp only [cond_false]
        rw [R04_kiln_eq f.Kiln (by omega) (fun x hx => by rw [s3 x hx]; omega)]
        simp only [Option.bind_some]
        rw [room_of (by omega) (by omega)]
        simp only [Option.bind_some]
        rw [push_of (by omega) (by omega)]
        rfl
  · simp only [h, decide_false, Bool.not_false, cond_true]
end Go.Abs
namespace Go.Abs
open Go
set_option linter.unusedVariables false
def insU (n : Int) : List Int → List Int
  | [] => [n]
  | y :: l => bif decide (y = n) then y :: l else bif decide (n < y) then n :: y :: l else y :: insU n l
theorem insU_mem (n : Int) : ∀ (l : List Int) (x : Int), x ∈ insU n l ↔ x = n ∨ x ∈ l
  | [], x => by simp [insU]
  | y :: l, x => by
    unfold insU
    by_cases h1 : y = n
    · simp [h1]
    · by_cases h2 : n < y
      · simp [h1, h2]
      · simp only [h1, h2, decide_false, cond_false, List.mem_cons, insU_mem n l]
        constructor
        · rintro (h | h | h) <;> simp [h]
        · rintro (h | h | h) <;> simp [h]
theorem insU_sorted (n : Int) : ∀ l : List Int, l.Pairwise (· < ·) → (insU n l).Pairwise (· < ·)
  | [], _ => by simp [insU]
  | y :: l, h => by
    have h0 := h
    rw [List.pairwise_cons] at h
    unfold insU
    by_cases h1 : y = n
    · simp only [h1, decide_true, cond_true]; rw [← h1]; exact h0
    · by_cases h2 : n < y
      · simp only [h1, h2, decide_false, decide_true, cond_false, cond_true]
        rw [List.pairwise_cons]
        refine ⟨fun z hz => ?_, h0⟩
        rcases List.mem_cons.1 hz with rfl | hz
        · exact h2
        · have := h.1 z hz; omega
      · simp only [h1, h2, decide_false, cond_false]
        rw [List.pairwise_cons]
        refine ⟨fun z hz => ?_, insU_sorted n l h.2⟩
        rcases (insU_mem n l z).1 hz with rfl | hz
        · omega
        · exact h.1 z hz
theorem insU_of_mem (n : Int) : ∀ l : List Int, l.Pairwise (· < ·) → n ∈ l → insU n l = l
  | [], _, h => by simp at h
  | y :: l, h, hm => by
    rw [List.pairwise_cons] at h
    unfold insU
    by_cases h1 : y = n
    · simp [h1]
    · rcases List.mem_cons.1 hm with rfl | hm
      · exact absurd rfl h1
      · have := h.1 n hm
        have h2 : ¬ n < y := by omega
        simp only [h1, h2, decide_false, cond_false]
        rw [insU_of_mem n l h.2 hm]
theorem insU_len (n : Int) : ∀ l : List Int, (insU n l).length ≤ l.length + 1
  | [] => by simp [insU]
  | y :: l => by
    unfold insU
    cases decide (y = n) <;> cases decide (n < y) <;> simp <;> exact insU_len n l
theorem rising_eq : ∀ {a b : List Int}, a.Pairwise (· < ·) → b.Pairwise (· < ·) → (∀ x, x ∈ a ↔ x ∈ b) → a = b
  | [], [], _, _, _ => rfl
  | [], y :: b, _, _, h => by have := (h y).2 (by simp); simp at this
  | x :: a, [], _, _, h => by have := (h x).1 (by simp); simp at this
  | x :: a, y :: b, ha, hb, h => by
    rw [List.pairwise_cons] at ha hb
    have hxy : x = y := by
      have h1 := (h x).1 (by simp)
      have h2 := (h y).2 (by simp)
      rcases List.mem_cons.1 h1 with e | e
      · exact e
      · rcases List.mem_cons.1 h2 with e' | e'
        · exact e'.symm
        · have := ha.1 y e'; have := hb.1 x e; omega
    subst hxy
    congr 1
    refine rising_eq ha.2 hb.2 fun z => ⟨fun hz => ?_, fun hz => ?_⟩
    · rcases List.mem_cons.1 ((h z).1 (List.mem_cons_of_mem _ hz)) with e | e
      · subst e; have := ha.1 z hz; omega
      · exact e
    · rcases List.mem_cons.1 ((h z).2 (List.mem_cons_of_mem _ hz)) with e | e
      · subst e; have := hb.1 z hz; omega
      · exact e
theorem drop_cons {α : Type} {l m : List α} {i : Nat} {x : α} (h : l.drop i = x :: m) : l[i]? = some x ∧ i < l.length ∧ l.drop (i + 1) = m := by
  have hx : l[i]? = some x := by
    have := congrArg (fun q => q[0]?) h
    simpa using this
  exact ⟨hx, (List.getElem?_eq_some_iff.1 hx).1, by rw [← List.drop_drop, h]; rfl⟩
theorem w64_succ {i n : Nat} (h : i < n) (hn : n ≤ 9223372036854775807) : w64 ((i : Int) + 1) = ((i + 1 : Nat) : Int) := by rw [w64_of (by omega) (by omega)]; omega
theorem R01_add_eq (l0 : List Int) (n : Int) (hs : l0.Pairwise (· < ·)) (hl : l0.length ≤ 100000) : R01_add KK l0 n = some (insU n l0) := by
  have hn : l0.length ≤ 9223372036854775807 := by omega
  -- once it is in, the rest follows
  have rest : ∀ (m : List Int) (i k : Nat) (l3 : List Int), l0.drop i = m → i + m.length = l0.length → m.length < k → (∀ x ∈ m, n < x) → l3.length = i + 1 →
      whl (R01_add.b0 KK l0 n) k (true, (i : Int), l3) = some (.brk (true, l3 ++ m)) := by
    intro m
    induction m with
    | nil =>
      intro i k l3 _ h3 h4 _ _
      cases k with
      | zero => omega
      | succ k =>
        have : i = l0.length := by simpa using h3
        subst this
        rw [whl]
        unfold R01_add.b0
        simp only [lt_dec_self, cond_false, List.append_nil]
    | cons x m ih =>
      intro i k l3 h1 h3 h4 h5 h6
      cases k with
      | zero => omega
      | succ k =>
        obtain ⟨hx, hi, hd⟩ := drop_cons h1
        simp only [List.length_cons] at h3 h4
        have hne : ¬ x = n := by have := h5 x (by simp); omega
        rw [whl]
        have : R01_add.b0 KK l0 n (true, (i : Int), l3) = some (.next (true, ((i + 1 : Nat) : Int), l3 ++ [x])) := by
          unfold R01_add.b0
          simp only [lt_dec hi, at_of hx, cond_true, Option.bind_some, hne, decide_false, cond_false, Bool.not_true]
          rw [push_of (by omega) (by omega), w64_succ hi hn]
          rfl
        rw [this]
        simp only
        rw [ih (i + 1) k (l3 ++ [x]) hd (by omega) (by omega) (fun y hy => h5 y (List.mem_cons_of_mem _ hy)) (by simp [h6])]
        simp
  have main : ∀ (m : List Int) (i k : Nat) (l3 : List Int), l0.drop i = m → i + m.length = l0.length → m.length < k → m.Pairwise (· < ·) → l3.length = i →
      (n ∈ m ∧ whl (R01_add.b0 KK l0 n) k (false, (i : Int), l3) = some (.ret l0)) ∨ (n ∉ m ∧ ∃ b l5, whl (R01_add.b0 KK l0 n) k (false, (i : Int), l3) = some (.brk (b, l5)) ∧ (bif b then l5 else l5 ++ [n]) = l3 ++ insU n m ∧ (b = false → l5.length = l0.length)) := by
    intro m
    induction m with
    | nil =>
      intro i k l3 _ h3 h4 _ h6
      cases k with
      | zero => omega
      | succ k =>
        have : i = l0.length := by simpa using h3
        subst this
        refine .inr ⟨by simp, false, l3, ?_, rfl, fun _ => h6⟩
        rw [whl]
        unfold R01_add.b0
        simp only [lt_dec_self, cond_false]
    | cons x m ih =>
      intro i k l3 h1 h3 h4 h5 h6
      cases k with
      | zero => omega
      | succ k =>
        obtain ⟨hx, hi, hd⟩ := drop_cons h1
        simp only [List.length_cons] at h3 h4
        rw [List.pairwise_cons] at h5
        rw [whl]
        by_cases he : x = n
        · left
          refine ⟨by simp [he], ?_⟩
          unfold R01_add.b0
          simp only [lt_dec hi, at_of hx, cond_true, Option.bind_some, he, decide_true]
        · by_cases hlt : n < x
          · right
            have hnm : n ∉ x :: m := by
              intro hh
              rcases List.mem_cons.1 hh with rfl | hh
              · exact he rfl
              · have := h5.1 n hh; omega
            have : R01_add.b0 KK l0 n (false, (i : Int), l3) = some (.next (true, ((i + 1 : Nat) : Int), l3 ++ [n] ++ [x])) := by
              unfold R01_add.b0
              simp only [lt_dec hi, at_of hx, cond_true, Option.bind_some, he, hlt, decide_false, decide_true, cond_false, Bool.not_false]
              rw [push_of (by omega) (by omega)]
              simp only [Option.bind_some]
              rw [push_of (by simp; omega) (by simp; omega), w64_succ hi hn]
              rfl
            rw [this]
            simp only
            refine ⟨hnm, true, _, rest m (i + 1) k _ hd (by omega) (by omega) (fun y hy => by have := h5.1 y hy; omega) (by simp [h6]), ?_, by simp⟩
            unfold insU
            simp [he, hlt]
          · have : R01_add.b0 KK l0 n (false, (i : Int), l3) = some (.next (false, ((i + 1 : Nat) : Int), l3 ++ [x])) := by
              unfold R01_add.b0
              simp only [lt_dec hi, at_of hx, cond_true, Option.bind_some, he, hlt, decide_false, cond_false, Bool.not_false]
              rw [push_of (by omega) (by omega), w64_succ hi hn]
              rfl
            rw [this]
            simp only
            have hins : insU n (x :: m) = x :: insU n m := by
              rw [insU]; simp [he, hlt]
            rcases ih (i + 1) k (l3 ++ [x]) hd (by omega) (by omega) h5.2 (by simp [h6]) with ⟨g1, g2⟩ | ⟨g1, b, l5, g2, g3, g4⟩
            · exact .inl ⟨List.mem_cons_of_mem _ g1, g2⟩
            · refine .inr ⟨?_, b, l5, g2, ?_, g4⟩
              · intro hh
                rcases List.mem_cons.1 hh with rfl | hh
                · exact he rfl
                · exact g1 hh
              · rw [g3, hins]; simp
  unfold R01_add
  have hk : l0.length < KK := by unfold KK; omega
  rcases main l0 0 KK [] rfl (by simp) hk hs rfl with ⟨g1, g2⟩ | ⟨g1, b, l5, g2, g3, g4⟩
  · have g2' : whl (R01_add.b0 KK l0 n) KK (false, 0, []) = some (.ret l0) := g2
    rw [g2', insU_of_mem n l0 hs g1]; rfl
  · have g2' : whl (R01_add.b0 KK l0 n) KK (false, 0, []) = some (.brk (b, l5)) := g2
    rw [g2']
    simp only [Option.bind_some]
    cases b with
    | true => simp only [Bool.not_true, cond_false]; simpa using g3
    | false =>
      have := g4 rfl
      simp only [Bool.not_false, cond_true]
      rw [push_of (by omega) (by omega)]
      simpa using g3
def usort (l : List Int) : List Int := l.foldl (fun s x => insU x s) []
theorem R01_Sorted_eq (l : List Int) (hl : l.length ≤ 10000) : R01_Sorted KK l = some (usort l) ∧ (usort l).Pairwise (· < ·) := by
  have h := whl_fold (l := l) (body := R01_Sorted.b0 KK l) (k := KK) (fun i s => (s, i)) (fun s x => insU x s) (fun i s => s.length ≤ i ∧ s.Pairwise (· < ·)) (s0 := []) (by omega) (by unfold KK; omega) ⟨by simp, by simp⟩ ?_ ?_
  · refine ⟨?_, h.2.2⟩
    unfold R01_Sorted
    rw [h.1]; rfl
  · intro i x s hx hI
    have hi : i < l.length := (List.getElem?_eq_some_iff.1 hx).1
    refine ⟨?_, by have := insU_len x s; omega, insU_sorted x s hI.2⟩
    unfold R01_Sorted.b0
    simp only [lt_dec hi, at_of hx, cond_true, Option.bind_some]
    rw [R01_add_eq s x hI.2 (by omega)]
    rfl
  · intro s _
    unfold R01_Sorted.b0
    simp only [lt_dec_self]; rfl
theorem usort_mem (l : List Int) (x : Int) : x ∈ usort l ↔ x ∈ l := by
  have : ∀ (l s : List Int), x ∈ l.foldl (fun s x => insU x s) s ↔ x ∈ l ∨ x ∈ s := by
    intro l
    induction l with
    | nil => simp
    | cons y l ih => intro s; rw [List.foldl_cons, ih, insU_mem, List.mem_cons]; grind
  rw [usort, this]; simp
end Go.Abs
namespace Go.Abs
open Go
set_option linter.unusedVariables false
theorem at_part {α : Type} {l : List α} {a m j : Nat} {x : α} (h : l[j]? = some x) (h1 : a ≤ j) (h2 : j - a < m) : at? ((l.drop a).take m) ((j - a : Nat) : Int) = some x := by
  apply at_of
  rw [List.getElem?_take, if_pos h2, List.getElem?_drop, show a + (j - a) = j by omega]
  exact h
theorem set_of {α : Type} {l : List α} {i : Nat} {x : α} (h : i < l.length) : set? l (i : Int) x = some (l.set i x) := by
  unfold set?
  rw [if_pos ⟨by omega, by omega⟩]
  simp
theorem ls_of {n i : Nat} (h : i ≤ n) : ls? n (i : Int) = some () := by
  unfold ls?
  rw [if_pos ⟨by omega, by omega⟩]
theorem hs_of {n i : Nat} (h : i ≤ n) : hs? n (i : Int) = some () := by
  unfold hs?
  rw [if_pos ⟨by omega, by omega⟩]
theorem clr_take {α : Type} (l : List α) (i n : Nat) (z : α) (h : i ≤ l.length) : (clr l i n z).take i = l.take i := by
  unfold clr
  rw [List.take_append_of_le_length (by simp; omega), List.take_take, Nat.min_self]
theorem take_succ_of {α : Type} {l : List α} {i : Nat} {x : α} (h : l[i]? = some x) : l.take (i + 1) = l.take i ++ [x] := by
  rw [List.take_add_one, h]; rfl
theorem sorted_le {s : List Int} (hs : s.Pairwise (· ≤ ·)) {i j : Nat} {x y : Int} (hij : i ≤ j) (hx : s[i]? = some x) (hy : s[j]? = some y) : x ≤ y := by
  obtain ⟨h1, rfl⟩ := List.getElem?_eq_some_iff.1 hx
  obtain ⟨h2, rfl⟩ := List.getElem?_eq_some_iff.1 hy
  rcases Nat.lt_or_ge i j with h | h
  · exact (List.pairwise_iff_getElem.1 hs) i j h1 h2 h
  · have : i = j := by omega
    subst this; exact Int.le_refl _
theorem take_le {s : List Int} (hs : s.Pairwise (· ≤ ·)) {j : Nat} {x y : Int} (hx : x ∈ s.take j) (hy : s[j - 1]? = some y) : x ≤ y := by
  obtain ⟨i, hi, rfl⟩ := List.getElem_of_mem hx
  rw [List.getElem_take]
  simp only [List.length_take] at hi
  exact sorted_le hs (i := i) (j := j - 1) (by omega) (List.getElem?_eq_getElem (by omega)) hy
theorem compact_inner (s : List Int) (hs : s.Pairwise (· ≤ ·)) (hl : s.length ≤ 10000) (a : Nat) (ha : 1 ≤ a) (han : a < s.length) (hr : (s.take a).Pairwise (· < ·)) (he : s[a]? = s[a - 1]?) :
    ∃ (w : Nat) (l : List Int), whl (slices_Compact_int.b1 KK s a) KK ((a : Int), (1 : Int), s) = some (.brk ((w : Int), l)) ∧ w ≤ l.length ∧ (l.take w).Pairwise (· < ·) ∧ ∀ x, x ∈ l.take w ↔ x ∈ s := by
  have h := whl_ok (body := slices_Compact_int.b1 KK s a)
    (fun t => ∃ (w j : Nat) (l : List Int), t = ((w : Int), ((j - a : Nat) : Int), l) ∧ l.length = s.length ∧ a ≤ w ∧ w + 1 ≤ j ∧ j ≤ s.length ∧ (∀ m, j ≤ m + 1 → l[m]? = s[m]?) ∧ (l.take w).Pairwise (· < ·) ∧ ∀ x, x ∈ l.take w ↔ x ∈ s.take j)
    (fun r => ∃ (w : Nat) (l : List Int), r = .brk ((w : Int), l) ∧ w ≤ l.length ∧ (l.take w).Pairwise (· < ·) ∧ ∀ x, x ∈ l.take w ↔ x ∈ s)
    (fun t => s.length - (t.2.1.toNat + a)) ?_ KK ((a : Int), (1 : Int), s) ⟨a, a + 1, s, ?_, rfl, Nat.le_refl _, Nat.le_refl _, by omega, fun _ _ => rfl, hr, ?_⟩ (by unfold KK; omega)
  · obtain ⟨r, h1, ⟨w, l, h2, h3⟩, _⟩ := h
    subst h2
    exact ⟨w, l, h1, h3⟩
  · rintro t ⟨w, j, l, rfl, g1, g2, g3, g4, g5, g6, g7⟩
    by_cases hj : j = s.length
    · right; left
      refine ⟨((w : Int), l), ?_, w, l, rfl, by omega, g6, ?_⟩
      · unfold slices_Compact_int.b1
        have : decide (((j - a : Nat) : Int) < ((s.length - (a : Int).toNat : Nat) : Int)) = false := by subst hj; simp
        simp only [this, cond_false]
      · intro x; rw [g7, hj, List.take_length]
    · left
      obtain ⟨y, hy⟩ : ∃ y, s[j]? = some y := ⟨_, List.getElem?_eq_getElem (by omega)⟩
      obtain ⟨z, hz⟩ : ∃ z, s[j - 1]? = some z := ⟨_, List.getElem?_eq_getElem (by omega)⟩
      have d1 : decide (((j - a : Nat) : Int) < ((s.length - a : Nat) : Int)) = true := by simp; omega
      have d2 : w64 (((j - a : Nat) : Int) - 1) = ((j - 1 - a : Nat) : Int) := by rw [w64_of (by omega) (by omega)]; omega
      have d3 : w64 (((j - a : Nat) : Int) + 1) = ((j + 1 - a : Nat) : Int) := by rw [w64_of (by omega) (by omega)]; omega
      have e1 : at? ((l.drop a).take (s.length - a)) ((j - a : Nat) : Int) = some y := at_part (by rw [g5 j (by omega)]; exact hy) (by omega) (by omega)
      have e2 : at? ((l.drop a).take (s.length - a)) ((j - 1 - a : Nat) : Int) = some z := at_part (by rw [g5 (j - 1) (by omega)]; exact hz) (by omega) (by omega)
      have hw : w < l.length := by omega
      by_cases hyz : y = z
      · refine ⟨((w : Int), ((j + 1 - a : Nat) : Int), l), ?_, ⟨w, j + 1, l, rfl, g1, g2, by omega, by omega, fun m hm => g5 m (by omega), g6, ?_⟩, ?_⟩
        · unfold slices_Compact_int.b1
          simp only [d1, cond_true, Int.toNat_natCast, e1, d2, e2, Option.bind_some, hyz, decide_true, Bool.not_true, cond_false, d3]
        · intro x
          rw [g7, take_succ_of hy, List.mem_append, List.mem_singleton]
          constructor
          · exact .inl
          · rintro (h | h)
            · exact h
            · rw [h, hyz]
              exact List.mem_of_getElem? (i := j - 1) (by rw [List.getElem?_take, if_pos (by omega)]; exact hz)
        · simp only [Int.toNat_natCast]; omega
      · have ew : at? l (w : Int) = some l[w] := at_of (List.getElem?_eq_getElem hw)
        have d4 : w64 ((w : Int) + 1) = ((w + 1 : Nat) : Int) := by rw [w64_of (by omega) (by omega)]; omega
        have tk : (l.set w y).take (w + 1) = l.take w ++ [y] := by
          rw [take_succ_of (x := y) (by rw [List.getElem?_set]; simp [hw])]
          rw [List.take_set_of_le (Nat.le_refl _)]
        refine ⟨(((w + 1 : Nat) : Int), ((j + 1 - a : Nat) : Int), l.set w y), ?_, ⟨w + 1, j + 1, l.set w y, rfl, by simp [g1], by omega, by omega, by omega, fun m hm => ?_, ?_, ?_⟩, ?_⟩
        · unfold slices_Compact_int.b1
          simp only [d1, cond_true, Int.toNat_natCast, e1, d2, e2, Option.bind_some, hyz, decide_false, Bool.not_false, d3, ew, set_of hw, d4]
        · rw [List.getElem?_set, if_neg (by omega)]; exact g5 m (by omega)
        · rw [tk, List.pairwise_append]
          refine ⟨g6, by simp, fun x hx y' hy' => ?_⟩
          simp only [List.mem_singleton] at hy'
          subst hy'
          have h1 := take_le hs ((g7 x).1 hx) hz
          have h2 := sorted_le hs (i := j - 1) (j := j) (by omega) hz hy
          omega
        · intro x
          rw [tk, take_succ_of hy, List.mem_append, List.mem_append, g7]
        · simp only [Int.toNat_natCast]; omega
  · have : a + 1 - a = 1 := by omega
    rw [this]; rfl
  · intro x
    obtain ⟨y, hy⟩ : ∃ y, s[a]? = some y := ⟨_, List.getElem?_eq_getElem han⟩
    rw [take_succ_of hy, List.mem_append, List.mem_singleton]
    constructor
    · exact .inl
    · rintro (h | h)
      · exact h
      · rw [h]
        exact List.mem_of_getElem? (i := a - 1) (by rw [List.getElem?_take, if_pos (by omega), ← he]; exact hy)
theorem compact_eq (s : List Int) (hs : s.Pairwise (· ≤ ·)) (hl : s.length ≤ 10000) : ∃ r, slices_Compact_int KK s = some r ∧ r.Pairwise (· < ·) ∧ ∀ x, x ∈ r ↔ x ∈ s := by
  unfold slices_Compact_int
  by_cases h2 : ((s.length : Nat) : Int) < 2
  · simp only [h2, decide_true, cond_true]
    refine ⟨s, rfl, ?_, fun _ => Iff.rfl⟩
    match s, h2 with
    | [], _ => exact List.Pairwise.nil
    | [x], _ => simp
    | x :: y :: l, h2 => simp at h2; omega
  · simp only [h2, decide_false, cond_false]
    have h := whl_ok (body := slices_Compact_int.b0 KK s)
      (fun t => ∃ a : Nat, t = (a : Int) ∧ 1 ≤ a ∧ a ≤ s.length ∧ (s.take a).Pairwise (· < ·))
      (fun r => (r = .brk () ∧ s.Pairwise (· < ·)) ∨ ∃ l : List Int, r = .ret l ∧ l.Pairwise (· < ·) ∧ ∀ x, x ∈ l ↔ x ∈ s)
      (fun t => s.length - t.toNat) ?_ KK 1 ⟨1, rfl, Nat.le_refl _, by omega, ?_⟩ (by unfold KK; omega)
    · obtain ⟨r, h1, h3 | ⟨l, h3, h4⟩, _⟩ := h
      · rw [h1, h3.1]
        exact ⟨s, rfl, h3.2, fun _ => Iff.rfl⟩
      · rw [h1, h3]
        exact ⟨l, rfl, h4⟩
    · rintro t ⟨a, rfl, g1, g2, g3⟩
      by_cases ha : a = s.length
      · right; left
        refine ⟨(), ?_, .inl ⟨rfl, ?_⟩⟩
        · unfold slices_Compact_int.b0
          subst ha
          simp only [lt_dec_self, cond_false]
        · rw [ha, List.take_length] at g3; exact g3
      · obtain ⟨y, hy⟩ : ∃ y, s[a]? = some y := ⟨_, List.getElem?_eq_getElem (by omega)⟩
        obtain ⟨z, hz⟩ : ∃ z, s[a - 1]? = some z := ⟨_, List.getElem?_eq_getElem (by omega)⟩
        have d1 : decide ((a : Int) < ((s.length : Nat) : Int)) = true := lt_dec (by omega)
        have d2 : w64 ((a : Int) - 1) = ((a - 1 : Nat) : Int) := by rw [w64_of (by omega) (by omega)]; omega
        have d3 : w64 ((a : Int) + 1) = ((a + 1 : Nat) : Int) := by rw [w64_of (by omega) (by omega)]; omega
        by_cases hyz : y = z
        · right; right
          obtain ⟨w, l, k1, k2, k3, k4⟩ := compact_inner s hs hl a g1 (by omega) g3 (by rw [hy, hz, hyz])
          refine ⟨l.take w, ?_, .inr ⟨_, rfl, k3, k4⟩⟩
          unfold slices_Compact_int.b0
          simp only [d1, cond_true, at_of hy, d2, at_of hz, Option.bind_some, hyz, decide_true, ls_of (show a ≤ s.length by omega), k1, ls_of k2, hs_of k2, Int.toNat_natCast, clr_take l w _ 0 k2]
        · left
          refine ⟨((a + 1 : Nat) : Int), ?_, ⟨a + 1, rfl, by omega, by omega, ?_⟩, by simp only [Int.toNat_natCast]; omega⟩
          · unfold slices_Compact_int.b0
            simp only [d1, cond_true, at_of hy, d2, at_of hz, Option.bind_some, hyz, decide_false, cond_false, d3]
          · rw [take_succ_of hy, List.pairwise_append]
            refine ⟨g3, by simp, fun x hx y' hy' => ?_⟩
            simp only [List.mem_singleton] at hy'
            subst hy'
            have h1 := take_le hs hx hz
            have h2 := sorted_le hs (i := a - 1) (j := a) (by omega) hz hy
            omega
    · match s, h2 with
      | [], h2 => simp at h2
      | x :: l, _ => simp
end Go.Abs
namespace Go.Abs
open Go
set_option linter.unusedVariables false
theorem heat_sources_eq (l : List Reading) (hl : l.length ≤ 1000) : heat_sources KK l = some (usort (l.map fun r => r.Source)) := by
  unfold heat_sources
  have h := (whl_fold (l := l) (body := heat_sources.b0 KK l) (k := KK) (fun i s => (i, s)) (fun s x => s ++ [x.Source]) (fun i s => s.length = i) (s0 := []) (by omega) (by unfold KK; omega) rfl ?_ ?_).1
  · rw [h, foldl_map (fun r : Reading => r.Source)]
    simp only [List.nil_append, Option.bind_some]
    rw [room_of (by simp; omega) (by simp; omega)]
    simp only [Option.bind_some]
    obtain ⟨r, h1, h2, h3⟩ := compact_eq (srt (l.map fun r => r.Source)) (srt_sorted _) (by rw [srt_len]; simp; omega)
    rw [h1]
    have : r = usort (l.map fun r => r.Source) := rising_eq h2 (R01_Sorted_eq _ (by simp; omega)).2 fun x => by rw [h3, usort_mem]; exact (srt_perm _).mem_iff
    rw [this]; rfl
  · intro i x s hx hI
    have hi : i < l.length := (List.getElem?_eq_some_iff.1 hx).1
    refine ⟨?_, by simp [hI]⟩
    unfold heat_sources.b0
    simp only [lt_dec hi, at_of hx, cond_true, Option.bind_some]
    rw [push_of (by omega) (by omega)]
    rfl
  · intro s _
    unfold heat_sources.b0
    simp only [lt_dec_self]; rfl
theorem R04_sources_eq (l : List Reading) (hl : l.length ≤ 1000) : R04_sources KK l = some (usort (l.map fun r => r.Source)) := by
  unfold R04_sources
  have h := (whl_fold (l := l) (body := R04_sources.b0 KK l) (k := KK) (fun i s => (i, s)) (fun s x => s ++ [x.Source]) (fun i s => s.length = i) (s0 := []) (by omega) (by unfold KK; omega) rfl ?_ ?_).1
  · rw [h, foldl_map (fun r : Reading => r.Source)]
    simp only [List.nil_append, Option.bind_some]
    rw [(R01_Sorted_eq _ (by simp; omega)).1]; rfl
  · intro i x s hx hI
    have hi : i < l.length := (List.getElem?_eq_some_iff.1 hx).1
    refine ⟨?_, by simp [hI]⟩
    unfold R04_sources.b0
    simp only [lt_dec hi, at_of hx, cond_true, Option.bind_some]
    rw [push_of (by omega) (by omega)]
    rfl
  · intro s _
    unfold R04_sources.b0
    simp only [lt_dec_self]; rfl
def sourcesR (f : Firing) : List Int × Int := bif !decide (firingCode f = 0) then ([], 42) else (usort (f.Readings.map fun r => r.Source), 0)
theorem heat_Sources_eq (f : Firing) (q : Firing.q f) : heat_Sources KK f = some (sourcesR f) := by
  unfold heat_Sources sourcesR
  rw [heat_Check_eq f q]
  simp only [Option.bind_some]
  by_cases h : firingCode f = 0
  · have := (firing_small h).2.1
    simp only [h, decide_true, Bool.not_true, cond_false]
    rw [heat_sources_eq _ (by omega)]; rfl
  · simp only [h, decide_false, Bool.not_false, cond_true]
theorem R04_Sources_eq (f : Firing) (q : Firing.q f) : R04_Sources KK f = some (sourcesR f) := by
  unfold R04_Sources sourcesR
  rw [R04_Check_eq f q]
  simp only [Option.bind_some]
  by_cases h : firingCode f = 0
  · have := (firing_small h).2.1
    simp only [h, decide_true, Bool.not_true, cond_false]
    rw [R04_sources_eq _ (by omega)]; rfl
  · simp only [h, decide_false, Bool.not_false, cond_true]
theorem R01_Has_eq (l : List Int) (n : Int) (hl : l.length ≤ Go.maxLen) : R01_Has KK l n = some (decide (n ∈ l)) := by
  unfold R01_Has
  rw [whl_each (l := l) (f := fun x => bif !decide (x = n) then none else some true) (maxLen_le hl) (KK_big hl) ?_ ?_]
  · rw [findSome_bif]
    have : (l.all fun x => !decide (x = n)) = !decide (n ∈ l) := by
      rw [Bool.eq_iff_iff]
      simp only [List.all_eq_true, Bool.not_eq_true', decide_eq_false_iff_not]
      constructor
      · intro h hm; exact h n hm rfl
      · intro h x hx e; exact h (e ▸ hx)
    rw [this]
    cases decide (n ∈ l) <;> rfl
  · intro i x hx
    have hi : i < l.length := (List.getElem?_eq_some_iff.1 hx).1
    unfold R01_Has.b0
    rw [lt_dec hi, at_of hx]
    simp only [cond_true, Option.bind_some]
    cases decide (x = n) <;> rfl
  · unfold R01_Has.b0
    rw [lt_dec_self]; rfl
theorem R01_Less_eq (l : List Int) (n : Int) (hl : l.length ≤ 10000) : R01_Less KK l n = some (l.filter fun x => !decide (x = n)) := by
  unfold R01_Less
  have h := (whl_fold (l := l) (body := R01_Less.b0 KK l n) (k := KK) (fun i s => (i, s)) (fun s x => bif !decide (x = n) then s ++ [x] else s) (fun i s => s.length ≤ i) (s0 := []) (by omega) (by unfold KK; omega) (by simp) ?_ ?_).1
  · rw [h, foldl_filter (fun x => !decide (x = n))]; rfl
  · intro i x s hx hI
    have hi : i < l.length := (List.getElem?_eq_some_iff.1 hx).1
    unfold R01_Less.b0
    simp only [lt_dec hi, at_of hx, cond_true, Option.bind_some]
    cases !decide (x = n) with
    | true =>
      simp only [cond_true]
      rw [push_of (by omega) (by omega)]
      exact ⟨rfl, by simp; omega⟩
    | false => exact ⟨rfl, by simp; omega⟩
  · intro s _
    unfold R01_Less.b0
    simp only [lt_dec_self]; rfl
theorem R04_only_eq (f : Firing) (by1 : List Int) (h1 : f.Kiln.Falls.length ≤ 1000) (h2 : ∀ x ∈ f.Kiln.Falls, x.length ≤ 1000) (h3 : f.Readings.length ≤ 1000) (h4 : by1.length ≤ Go.maxLen) :
    R04_only KK f by1 = some ⟨f.Kiln, f.Readings.filter fun r => decide (r.Source ∈ by1)⟩ := by
  unfold R04_only
  rw [R04_kiln_eq _ h1 h2]
  simp only [Option.bind_some]
  have h := (whl_fold (l := f.Readings) (body := R04_only.b0 KK f by1) (k := KK) (fun i s => (i, s)) (fun s x => bif decide (x.Source ∈ by1) then s ++ [x] else s) (fun i s => s.length ≤ i) (s0 := []) (by omega) (by unfold KK; omega) (by simp) ?_ ?_).1
  · rw [h, foldl_filter (fun x : Reading => decide (x.Source ∈ by1))]; rfl
  · intro i x s hx hI
    have hi : i < f.Readings.length := (List.getElem?_eq_some_iff.1 hx).1
    unfold R04_only.b0
    simp only [lt_dec hi, at_of hx, cond_true, Option.bind_some, R01_Has_eq by1 x.Source h4]
    cases decide (x.Source ∈ by1) with
    | true =>
      simp only [cond_true]
      rw [push_of (by omega) (by omega)]
      exact ⟨rfl, by simp; omega⟩
    | false => exact ⟨rfl, by simp; omega⟩
  · intro s _
    unfold R04_only.b0
    simp only [lt_dec_self]; rfl
theorem deleteFunc_eq (l : List Reading) (hl : l.length ≤ 10000) {del : Reading → Option Bool} {p : Reading → Bool} (hp : ∀ x, del x = some (p x)) : slices_DeleteFunc_api_Reading KK l del = some (l.filter fun x => !p x) := by
  unfold slices_DeleteFunc_api_Reading slices_IndexFunc_api_Reading
  rw [indexFunc_gen (body := slices_IndexFunc_api_Reading.b0 KK del l) (p := p) (fun x _ => hp x) (by omega) (by unfold KK; omega) rfl]
  cases hf : l.findIdx? p with
  | none =>
    simp only [Option.bind_some, decide_true, cond_true]
    rw [List.findIdx?_eq_none_iff] at hf
    rw [List.filter_eq_self.2 (fun x hx => by rw [hf x hx]; rfl)]
  | some a =>
    rw [List.findIdx?_eq_some_iff_getElem] at hf
    obtain ⟨ha, hpa, hbef⟩ := hf
    have hne : ¬ (a : Int) = -1 := by omega
    have d0 : w64 ((a : Int) + 1) = ((a + 1 : Nat) : Int) := by rw [w64_of (by omega) (by omega)]; omega
    simp only [Option.bind_some, hne, decide_false, cond_false, d0]
    have h := whl_ok (body := slices_DeleteFunc_api_Reading.b0 KK del)
      (fun t => ∃ (w j : Nat) (m : List Reading), t = ((w : Int), (j : Int), m) ∧ m.length = l.length ∧ w + 1 ≤ j ∧ j ≤ l.length ∧ (∀ i, j ≤ i → m[i]? = l[i]?) ∧ m.take w = (l.take j).filter fun x => !p x)
      (fun r => ∃ (w : Nat) (m : List Reading), r = .brk ((w : Int), m) ∧ w ≤ m.length ∧ m.take w = l.filter fun x => !p x)
      (fun t => l.length - t.2.1.toNat) ?_ KK ((a : Int), ((a + 1 : Nat) : Int), l) ⟨a, a + 1, l, rfl, rfl, Nat.le_refl _, by omega, fun _ _ => rfl, ?_⟩ (by unfold KK; omega)
    · obtain ⟨r, h1, ⟨w, m, h2, h3, h4⟩, _⟩ := h
      rw [h1, h2]
      simp only [Option.bind_some, ls_of h3, hs_of h3, Int.toNat_natCast, clr_take m w _ _ h3, h4]
    · rintro t ⟨w, j, m, rfl, g1, g2, g3, g4, g5⟩
      by_cases hj : j = l.length
      · right; left
        refine ⟨((w : Int), m), ?_, w, m, rfl, by omega, ?_⟩
        · unfold slices_DeleteFunc_api_Reading.b0
          have : decide ((j : Int) < ((m.length : Nat) : Int)) = false := by rw [g1, hj]; exact lt_dec_self _
          simp only [this, cond_false]
        · rw [g5, hj, List.take_length]
      · left
        obtain ⟨y, hy⟩ : ∃ y, l[j]? = some y := ⟨_, List.getElem?_eq_getElem (by omega)⟩
        have hw : w < m.length := by omega
        have d1 : decide ((j : Int) < ((m.length : Nat) : Int)) = true := lt_dec (by omega)
        have d3 : w64 ((j : Int) + 1) = ((j + 1 : Nat) : Int) := by rw [w64_of (by omega) (by omega)]; omega
        have d4 : w64 ((w : Int) + 1) = ((w + 1 : Nat) : Int) := by rw [w64_of (by omega) (by omega)]; omega
        have e1 : at? m (j : Int) = some y := at_of (by rw [g4 j (Nat.le_refl _)]; exact hy)
        cases hpy : p y with
        | true =>
          refine ⟨((w : Int), ((j + 1 : Nat) : Int), m), ?_, ⟨w, j + 1, m, rfl, g1, by omega, by omega, fun i hi => g4 i (by omega), ?_⟩, by simp only [Int.toNat_natCast]; omega⟩
          · unfold slices_DeleteFunc_api_Reading.b0
            simp only [d1, cond_true, e1, Option.bind_some, hp, hpy, Bool.not_true, cond_false, d3]
          · rw [take_succ_of hy, List.filter_append, g5]; simp [hpy]
        | false =>
          have ew : at? m (w : Int) = some m[w] := at_of (List.getElem?_eq_getElem hw)
          refine ⟨(((w + 1 : Nat) : Int), ((j + 1 : Nat) : Int), m.set w y), ?_, ⟨w + 1, j + 1, m.set w y, rfl, by simp [g1], by omega, by omega, fun i hi => ?_, ?_⟩, by simp only [Int.toNat_natCast]; omega⟩
          · unfold slices_DeleteFunc_api_Reading.b0
            simp only [d1, cond_true, e1, Option.bind_some, hp, hpy, Bool.not_false, d3, ew, set_of hw, d4]
          · rw [List.getElem?_set, if_neg (by omega)]; exact g4 i (by omega)
          · rw [take_succ_of (x := y) (by rw [List.getElem?_set]; simp [hw]), List.take_set_of_le (Nat.le_refl _), take_succ_of hy, List.filter_append, g5]; simp [hpy]
    · rw [take_succ_of (List.getElem?_eq_getElem ha), List.filter_append]
      have : (l.take a).filter (fun x => !p x) = l.take a := List.filter_eq_self.2 (fun x hx => by
        obtain ⟨i, hi, rfl⟩ := List.getElem_of_mem hx
        rw [List.getElem_take]
        simp only [List.length_take] at hi
        have := hbef i (by omega)
        simpa using this)
      rw [this]
      simp [hpa]
end Go.Abs
namespace Go.Abs
open Go
set_option linter.unusedVariables false
def withoutR (f : Firing) (s : Int) : Firing × Int :=
  bif !decide (firingCode f = 0) then (⟨⟨[]⟩, []⟩, 42)
  else bif !decide (s ∈ f.Readings.map fun r => r.Source) then (⟨⟨[]⟩, []⟩, 3)
  else (⟨f.Kiln, f.Readings.filter fun r => !decide (r.Source = s)⟩, 0)
theorem heat_without_eq (f : Firing) (h : firingCode f = 0) (g : Int → Option Bool) (p : Int → Bool) (hg : ∀ x, g x = some (p x)) : heat_without KK f g = some ⟨f.Kiln, f.Readings.filter fun r => !p r.Source⟩ := by
  obtain ⟨h1, h2, _⟩ := firing_small h
  obtain ⟨s1, s2, s3⟩ := kilnB_small h1
  unfold heat_without
  rw [heat_kilnCopy_eq f.Kiln (by omega) (fun x hx => by rw [s3 x hx]; omega)]
  unfold slices_Clone_api_Reading
  simp only [Option.bind_some]
  rw [room_of (by omega) (by omega)]
  simp only [Option.bind_some]
  rw [deleteFunc_eq f.Readings (by omega) (p := fun r => p r.Source) (fun r => by unfold heat_without_1; rw [hg]; rfl)]
  rfl
theorem filter_len {α : Type} (p : α → Bool) (l : List α) : (l.filter p).length = l.length ↔ ∀ x ∈ l, p x = true := by
  rw [List.length_filter_eq_length_iff]
theorem heat_Without_eq (f : Firing) (q : Firing.q f) (s : Int) : heat_Without KK f s = some (withoutR f s) := by
  unfold heat_Without withoutR
  rw [heat_Check_eq f q]
  simp only [Option.bind_some]
  by_cases h : firingCode f = 0
  · simp only [h, decide_true, Bool.not_true, cond_false]
    rw [heat_without_eq f h (fun q0 => heat_Without_1 KK q0 s) (fun x => decide (x = s)) (fun x => rfl)]
    simp only [Option.bind_some]
    rw [len_dec]
    by_cases hm : s ∈ f.Readings.map fun r => r.Source
    · have : ¬ (f.Readings.filter fun r => !decide (r.Source = s)).length = f.Readings.length := by
        rw [filter_len]
        intro hall
        obtain ⟨r, hr, e⟩ := List.mem_map.1 hm
        have := hall r hr
        simp [e] at this
      simp only [hm, this, decide_true, decide_false, Bool.not_true, cond_false]
    · have : (f.Readings.filter fun r => !decide (r.Source = s)).length = f.Readings.length := by
        rw [filter_len]
        intro r hr
        have : ¬ r.Source = s := fun e => hm (List.mem_map.2 ⟨r, hr, e⟩)
        simp [this]
      simp only [hm, this, decide_true, decide_false, Bool.not_false, cond_true]
  · simp only [h, decide_false, Bool.not_false, cond_true]
theorem usort_len (l : List Int) : (usort l).length ≤ l.length := by
  have : ∀ (l s : List Int), (l.foldl (fun s x => insU x s) s).length ≤ l.length + s.length := by
    intro l
    induction l with
    | nil => simp
    | cons y l ih => intro s; rw [List.foldl_cons]; have := ih (insU y s); have := insU_len y s; simp only [List.length_cons]; omega
  have := this l []
  simpa [usort] using this
theorem R04_Without_eq (f : Firing) (q : Firing.q f) (s : Int) : R04_Without KK f s = some (withoutR f s) := by
  unfold R04_Without withoutR
  rw [R04_Check_eq f q]
  simp only [Option.bind_some]
  by_cases h : firingCode f = 0
  · obtain ⟨h1, h2, _⟩ := firing_small h
    obtain ⟨s1, s2, s3⟩ := kilnB_small h1
    have hul := usort_len (f.Readings.map fun r => r.Source)
    simp only [List.length_map] at hul
    simp only [h, decide_true, Bool.not_true, cond_false]
    rw [R04_sources_eq _ (by omega)]
    simp only [Option.bind_some]
    rw [R01_Has_eq _ _ (by unfold Go.maxLen; omega)]
    simp only [Option.bind_some]
    have hd : decide (s ∈ usort (f.Readings.map fun r => r.Source)) = decide (s ∈ f.Readings.map fun r => r.Source) := by
      rw [Bool.eq_iff_iff, decide_eq_true_eq, decide_eq_true_eq, usort_mem]
    rw [hd]
    cases decide (s ∈ f.Readings.map fun r => r.Source) with
    | false => rfl
    | true =>
      simp only [Bool.not_true, cond_false]
      rw [R01_Less_eq _ _ (by omega)]
      simp only [Option.bind_some]
      have hfl := List.length_filter_le (fun x => !decide (x = s)) (usort (f.Readings.map fun r => r.Source))
      rw [R04_only_eq f _ (by omega) (fun x hx => by rw [s3 x hx]; omega) (by omega) (by unfold Go.maxLen; omega)]
      simp only [Option.bind_some]
      have : (f.Readings.filter fun r => decide (r.Source ∈ (usort (f.Readings.map fun r => r.Source)).filter fun x => !decide (x = s))) = f.Readings.filter fun r => !decide (r.Source = s) := by
        refine List.filter_congr fun r hr => ?_
        rw [Bool.eq_iff_iff, decide_eq_true_eq, List.mem_filter, usort_mem]
        constructor
        · exact fun h => h.2
        · exact fun h => ⟨List.mem_map.2 ⟨r, hr, rfl⟩, h⟩
      rw [this]
  · simp only [h, decide_false, Bool.not_false, cond_true]
theorem same_self (a : Firing) (q : Firing.q a) : R04_SameFiring KK a a = some true := R04_SameFiring_refl a q.1.1 (fun x hx => (q.1.2 x hx).1) q.2.1
theorem heatChecks_plain (a0 : Firing) (a1 : Reading) (a2 : Int) (q0 : Firing.q a0) (q1 : Reading.q a1) (q2 : i64ok a2) : L04_HeatChecks KK a0 a1 a2 = some true := by
  have hempty : R04_SameFiring KK ⟨⟨[]⟩, []⟩ ⟨⟨[]⟩, []⟩ = some true := R04_SameFiring_refl _ (by simp) (by simp) (by simp)
  have hW : R04_SameFiring KK (withR a0 a1).1 (withR a0 a1).1 = some true := by
    unfold withR
    by_cases h : firingCode a0 = 0
    · obtain ⟨h1, h2, _⟩ := firing_small h
      simp only [h, decide_true, Bool.not_true, cond_false]
      cases readB ((a0.Kiln.Falls.headD []).length : Int) a1 with
      | false => exact hempty
      | true =>
        simp only [Bool.not_true, cond_false]
        cases decide ((a0.Readings.length : Int) = 60) with
        | true => exact hempty
        | false => exact R04_SameFiring_refl _ q0.1.1 (fun x hx => (q0.1.2 x hx).1) (by simp [Go.maxLen]; omega)
    · simp only [h, decide_false, Bool.not_false, cond_true]; exact hempty
  have hV : R04_SameFiring KK (withoutR a0 a2).1 (withoutR a0 a2).1 = some true := by
    unfold withoutR
    by_cases h : firingCode a0 = 0
    · obtain ⟨h1, h2, _⟩ := firing_small h
      simp only [h, decide_true, Bool.not_true, cond_false]
      cases decide (a2 ∈ a0.Readings.map fun r => r.Source) with
      | false => exact hempty
      | true =>
        have hfl := List.length_filter_le (fun r : Reading => !decide (r.Source = a2)) a0.Readings
        exact R04_SameFiring_refl _ q0.1.1 (fun x hx => (q0.1.2 x hx).1) (by simp only [Go.maxLen]; simp only [Bool.not_true, cond_false]; omega)
    · simp only [h, decide_false, Bool.not_false, cond_true]; exact hempty
  have hS : R01_Same KK (sourcesR a0).1 (sourcesR a0).1 = some true := by
    refine R01_Same_refl _ ?_
    unfold sourcesR
    by_cases h : firingCode a0 = 0
    · obtain ⟨h1, h2, _⟩ := firing_small h
      have hul := usort_len (a0.Readings.map fun r => r.Source)
      simp only [List.length_map] at hul
      simp only [h, decide_true, Bool.not_true, cond_false, Go.maxLen]; omega
    · simp [h]
  unfold L04_HeatChecks
  simp only [heat_With_eq a0 q0, R04_With_eq a0 q0, heat_Sources_eq a0 q0, R04_Sources_eq a0 q0, heat_Without_eq a0 q0, R04_Without_eq a0 q0, hW, hS, hV, Option.bind_some, cond_true, decide_true, Bool.not_true, cond_false,
    heat_CheckKiln_eq _ q0.1, R04_CheckKiln_eq _ q0.1, heat_Places_eq _ q0.1, R04_Places_eq _ q0.1, heat_CheckReading_eq _ q0.1, R04_CheckReading_eq _ q0.1, heat_Check_eq a0 q0, R04_Check_eq a0 q0, sane_KK]
end Go.Abs
namespace Go.Proofs.YtafmgcbfmifaeaaGreat.heatChecks
open Go.Abs
theorem plain (a0 : Firing) (a1 : Reading) (a2 : Int) : Firing.q a0 → Reading.q a1 → i64ok a2 → ∃ k, L04_HeatChecks k a0 a1 a2 = some true := by
  intro q0 q1 q2; exact ⟨_, heatChecks_plain a0 a1 a2 q0 q1 q2⟩
end Go.Proofs.YtafmgcbfmifaeaaGreat.heatChecks
namespace Go.Proofs.YtafmgcbfmifaeaaGreat.heatChecks
open Go.ChangeShapes Go.WideShapes Go.ChangeAt Go.RowKit Go.Abs
set_option maxRecDepth 100000
theorem own : ownKnob Tryz.prog.godebug = none := by kernel_rfl
theorem contract (H : Type) (enc : TypeId × Value → H) (W : World) (base : Nat) (args : Array Value) (ds gs : List (DataW H)) (before : List MemPlace)
    (hval : ∀ (j : Nat) t v, Tryz.f6.params[j]? = some t → args[j]? = some v → Value.okWide Tryz.prog W .any base t v)
    (hW : DataW.Whole enc Tryz.prog Tryz.f6.params.toList Rows.heatChecksSpec.vars false W args.toList ds gs before) :
    Calls Tryz.prog 6 args W fun e W' => ∃ v, e = .returned v ∧ Rows.heatChecksSpec.post enc Tryz.prog Tryz.f6 false true false false W args v W' := by
  have hW' := hW
  obtain ⟨p, q, hA0, hV, rfl, hfz, hnd⟩ := hW
  have hA : DataW.TrodAll enc Tryz.prog W 0 (fun _ => true) true Tryz.f6.params.toList args.toList ds p := hA0
  rw [Tryz.params6] at hA hval
  obtain ⟨v0, vs0, d0, ds0, p0, q0, hargs, rfl, rfl, h0, r0⟩ := trodAll_cons hA
  obtain ⟨v1, vs1, d1, ds1, p1, q1, rfl, rfl, rfl, h1, r1⟩ := trodAll_cons r0
  obtain ⟨v2, vs2, d2, ds2, p2, q2, rfl, rfl, rfl, h2, r2⟩ := trodAll_cons r1
  obtain ⟨rfl, rfl, rfl⟩ := trodAll_nil r2
  obtain rfl : args = #[v0, v1, v2] := by cases args; simp_all
  obtain ⟨a0, Q0, V0⟩ := arg_agg reads_27 (by have h := hval 0 27 v0 rfl rfl; unfold Value.okWide at h; rw [Tryz.underlying27] at h; obtain ⟨cs, h, _⟩ := h; exact ⟨cs, h⟩) h0
  obtain ⟨a1, Q1, V1⟩ := arg_agg reads_64 (by have h := hval 1 64 v1 rfl rfl; unfold Value.okWide at h; rw [Tryz.underlying64] at h; obtain ⟨cs, h, _⟩ := h; exact ⟨cs, h⟩) h1
  obtain ⟨a2, Q2, V2⟩ := arg_one reads_3 (by have h := hval 2 3 v2 rfl rfl; unfold Value.okWide at h; rw [Tryz.underlying3] at h; unfold Cell.okWide Cell.ok at h; rw [Tryz.underlying3] at h; cases v2 <;> first | rfl | (simp at h; done)) (fun x => AV.int .i64 x) (fun _ => rfl) h2
  obtain ⟨k, hk⟩ := plain a0 a1 a2 Q0 Q1 Q2
  have hv : VRs (fmAll W) [] [.agg (Firing.c a0), .agg (Reading.c a1), .int .i64 a2] [v0, v1, v2] := ⟨rfl, fun i x v h1 h2 => by
    match i with
    | 0 => cases h1; cases h2; exact V0
    | 1 => cases h1; cases h2; exact V1
    | 2 => cases h1; cases h2; exact V2
    | i + 3 => simp at h1⟩
  refine Calls.mono ((L04_HeatChecks_ok k a0 a1 a2 true hk).2 (fmAll W) W _ (fun _ _ _ h => h) hv) ?_
  rintro e W1 ⟨v, y, fm1, rfl, rfl, _, hvr, _, hB⟩
  cases hvr
  exact ⟨_, rfl, law_post (t := 4) (by kernel_rfl) (by kernel_rfl) (by kernel_rfl) hW' rfl hB (by rw [Tryz.params6]; decide +kernel) rfl Tryz.underlying4 (by obtain ⟨rfl, _⟩ := trodVars_none hV; rfl)⟩
theorem lifted (os : Os) (started : os.Started) (H : Type) (enc : TypeId × Value → H) :
    ReturnsInHanded {} Tryz.checked os 6 .any (Rows.heatChecksSpec.pre6 enc Tryz.prog Tryz.f6 Rows.heatChecksRow.domain false) (Rows.heatChecksSpec.post enc Tryz.prog Tryz.f6 false true false false) := by
  refine returnsInHanded_of_change (C := Tryz.checked) own started (by kernel_rfl) Tryz.func6
    (ChangeSpec.witness6 (enc := enc) (C := Tryz.checked) false ⟨#[], #[.agg #[.slice none 0 0, .slice none 0 0], .agg #[.int .i64 0, .int .i64 0, .int .i64 0, .int .i64 0, .int .i64 0, .int .i64 0], .int .i64 0], []⟩ 8 (by kernel_rfl) (by kernel_rfl) (by kernel_rfl) (by kernel_rfl)) ?_
  intro W base args ds gs before hval0 hW hcnd _
  exact contract H enc W base args ds gs before hval0 hW
theorem over : Rows.heatChecksRow.holds Tryz.pinned (OpenSpec.ofChange Rows.heatChecksSpec) :=
  OpenClaim.holds_of_wide 6 Tryz.f6 rfl rfl rfl rfl rfl rfl rfl ⟨rfl, rfl, rfl, rfl, rfl⟩ rfl rfl rfl rfl rfl (by kernel_rfl) Tryz.func6 (by kernel_rfl)
    (of_decide_eq_true (by kernel_rfl)) (by unfold Func.isWrapper; first | (rw [if_pos (by decide +kernel)]; kernel_rfl) | (rw [if_neg (by decide +kernel)]; exact ⟨rfl, rfl⟩))
    (fun os started H enc _ => lifted os started H enc)
theorem proved : Rows.HeatChecksSaid := over
end Go.Proofs.YtafmgcbfmifaeaaGreat.heatChecks
