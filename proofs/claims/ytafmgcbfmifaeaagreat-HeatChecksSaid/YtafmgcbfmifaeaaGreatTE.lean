/-
  Part 5 of the proof: a machine over named blocks, what each function computes, and what follows. No condition.
-/
import Derived.Test.YtafmgcbfmifaeaaGreatTD
set_option linter.unusedVariables false
set_option linter.unusedSimpArgs false
set_option linter.all false
namespace Go.Abs
open Go.Proofs
set_option maxRecDepth 20000
set_option linter.unusedVariables false
set_option linter.unusedSimpArgs false
set_option maxHeartbeats 8000000
def F67.s0 : SC :=
 (.seq
  (.reg [⟨some 9, .binOp .lss 3 (.tmp 8) (.tmp 7) 3, 0, none, []⟩])
  (.seq
   (.cond (.tmp 9)
    .skip
    (.exit 0))
   (.seq
    (.block 1
     (.seq
      (.reg [⟨some 10, .indexAddr 25 (.tmp 6) (.tmp 8), 0, none, []⟩,
        ⟨some 11, .load 64 (.tmp 10), 64, none, [10]⟩,
        ⟨some 5, .alloc 64, 0, none, []⟩,
        ⟨none, .store 64 (.tmp 5) (.tmp 11), 0, none, [11]⟩])
      (.reg [⟨some 12, .move (.tmp 3), 37, none, [3]⟩,
        ⟨some 13, .fieldAddr 64 (.tmp 5) 0, 0, none, [5]⟩,
        ⟨some 14, .load 3 (.tmp 13), 3, none, [13]⟩,
        ⟨some 15, .buildSlice 37 1 #[(0, .tmp 14)], 37, none, [14]⟩,
        ⟨some 16, .call ⟨.builtin .append, #[.tmp 12, .tmp 15], #[37, 37]⟩, 37, none, [12, 15]⟩,
        ⟨some 3, .assign (.tmp 16), 37, none, [16]⟩])))
    (.reg [⟨some 17, .binOp .add 3 (.tmp 8) (.const (.int .i64 1)) 3, 3, none, [8]⟩,
      ⟨some 8, .move (.tmp 17), 3, none, [17]⟩]))))
def F67.c : SC :=
 (.seq
  (.reg [⟨some 2, .assign (.const (.slice none 0 0)), 37, none, [2]⟩])
  (.seq
   (.reg [⟨some 3, .assign (.const (.slice none 0 0)), 37, none, []⟩])
   (.seq
    (.seq
     (.reg [⟨some 6, .move (.tmp 0), 25, none, [0]⟩,
       ⟨some 7, .call ⟨.builtin .len, #[.tmp 6], #[25]⟩, 3, none, []⟩,
       ⟨some 8, .move (.const (.int .i64 0)), 3, none, []⟩])
     (.block 0
      (.loop F67.s0)))
    (.seq
     (.reg [⟨some 18, .move (.tmp 3), 37, none, []⟩,
       ⟨some 19, .call ⟨.value (.func 116), #[.tmp 18], #[37]⟩, 0, none, [18, 19]⟩])
     (.seq
      (.reg [⟨some 20, .move (.tmp 3), 37, none, [3]⟩,
        ⟨some 21, .call ⟨.value (.func 117), #[.tmp 20], #[37]⟩, 37, none, [20]⟩,
        ⟨some 2, .assign (.tmp 21), 37, none, [21]⟩])
      .ret)))))
theorem F67.rs : Tryz.f67.results.toList = [.tmp 2] := rfl
def heat_sources.b0 (k : Nat) (l0 : (List Reading)) : (Int × (List Int)) → Option (Stp (Int × (List Int)) ((List Int)) ((List Int))) := fun (s : Int × (List Int)) => match s with
  | (i1, l2) => 
      bif decide (i1 < (l0.length : Int)) then
        (at? l0 i1).bind fun x5 =>
        (push? 8 l2 x5.Source).bind fun l6 =>
        some (.next (w64 (i1 + 1), l6))
      else
        some (.brk l2)
noncomputable def heat_sources.h0 (l0 : (List Reading)) : (Int × (List Int)) → St := fun (s : Int × (List Int)) => match s with
  | (i1, l2) => ⟨[(3, .loc 0 0 1 0 l2.length l2.length), (6, .sl 6 (List.map Reading.c l0)), (7, .int .i64 (l0.length : Int)), (8, .int .i64 i1)], [(0, .arr 3 1 (List.map eI l2))], [], 1, Tryz.f67.ntmps⟩
noncomputable def heat_sources.x0 : (List Int) → St := fun (l3 : (List Int)) => ⟨[(3, .loc 0 0 1 0 l3.length l3.length)], [(0, .arr 3 1 (List.map eI l3))], [], 1, Tryz.f67.ntmps⟩
def heat_sources (k : Nat) (l0 : (List Reading)) : Option ((List Int)) :=
  (whl (heat_sources.b0 k l0) k (0, [])).bind fun r7 => match r7 with
  | .next _ => none
  | .ret v_ => some v_
  | .brk l3 =>
    (room? l3.length 8).bind fun _ =>
    (slices_Compact_int k (srt l3)).bind fun x11 =>
    some x11
theorem heat_sources_ok (k : Nat) (l0 : (List Reading)) (r : (List Int)) (h0 : heat_sources k l0 = some r) : PCall Tryz.prog 67 [.sl 6 (List.map Reading.c l0)] (fun y => y = .sl 1 (List.map eI r)) := by
  refine PCall.nlr (PCall.of_body T_ok (fn := Tryz.f67) (sc := F67.c) (by rfl) (by rfl) (by decide +kernel) (by rfl) (by decide +kernel) (Nat.le_of_ble_eq_true rfl) ?_)
  refine run_sound T_ok 1000 _ _ ?_
  simp only [heat_sources] at h0
  try simp only [F67.c, go_sem]
  obtain ⟨r7, yr7, h0⟩ := bind_some h0
  refine AKev_loopS yr7 (heat_sources.h0 l0) (heat_sources.x0) ?_ ?_ ?_
  · refine Weak.go [3, 6, 7, 8] [16] rfl ?_
    try simp only [heat_sources.h0, go_sem]
  · rintro ⟨i1, l2⟩ x_1 Bk1 Br1 h1 hnext1 hbrk1 hret1
    refine run_sound T_ok 1000 _ _ ?_
    simp only [heat_sources.b0] at h1
    try simp only [F67.s0, heat_sources.h0, go_sem]
    refine AKev_bif h1 (fun c4 h1 => ?_) (fun c4 h1 => ?_)
    · try simp only [c4, go_sem]
      obtain ⟨x5, yx5, h1⟩ := bind_some h1
      try simp only [at_in yx5, at_get Reading.c yx5, c4, go_sem]
      obtain ⟨l6, yl6, h1⟩ := bind_some h1
      have eyl6 := push_map eI yl6
      have tyl6 := push_take eI yl6
      have nyl6 := push_len yl6
      have myl6 := push_room yl6
      try simp only [c4, at_in yx5, at_get Reading.c yx5, go_sem] at eyl6 tyl6 nyl6 myl6
      try simp only [myl6, eyl6, c4, at_in yx5, at_get Reading.c yx5, nyl6, tyl6, go_sem]
      refine AKev_backB (hnext1 _ _ (Option.some.inj h1).symm ?_)
      refine Weak.go [3, 6, 7, 8] [0] rfl ?_
      try simp only [heat_sources.h0, c4, at_in yx5, at_get Reading.c yx5, eyl6, nyl6, tyl6, go_sem]
    · try simp only [c4, go_sem]
      refine AKev_backB (hbrk1 _ _ (Option.some.inj h1).symm ?_)
      refine Weak.go [3] [0] rfl ?_
      try simp only [heat_sources.x0, c4, go_sem]
  · rintro l3 hr_
    subst hr_
    simp only at h0
    refine run_sound T_ok 1000 _ _ ?_
    try simp only [heat_sources.x0, go_sem]
    obtain ⟨u9, yu9, h0⟩ := bind_some h0
    have myu9 := room_some yu9
    refine AKev_sortI sort_ok (l := l3) (k := 0) (et := 3) (b := 8) ?_ ?_ ?_ ?_
    · try simp only [go_sem]
    · try simp only [go_sem]
    · try simp only [myu9, go_sem]
    refine run_sound T_ok 1000 _ _ ?_
    try simp only [srt_len, go_sem]
    obtain ⟨x11, yx11, h0⟩ := bind_some h0
    refine AKev_give T_ok 1000 [] [0] (slices_Compact_int_ok k _ _ yx11) ?_ rfl ?_
    · try simp only [gOK, List.length_map, srt_len, go_sem]
    try simp only [srt_len, go_sem]
    obtain rfl := Option.some.inj h0
    refine AKev_ret rfl ?_
    try simp only [F67.rs, srt_len, go_sem]
def heat_sources_o.b0 (k : Nat) (l0 : (List Reading)) : (Int × (List Int)) → Option (Stp (Int × (List Int)) ((List Int)) ((List Int))) := fun (s : Int × (List Int)) => match s with
  | (i1, l2) => 
      bif decide (i1 < (l0.length : Int)) then
        (at? l0 i1).bind fun x5 =>
        (push? 8 l2 x5.Source).bind fun l6 =>
        some (.next (w64 (i1 + 1), l6))
      else
        some (.brk l2)
noncomputable def heat_sources_o.h0 (H : Heap) (l0 : (List Reading)) : (Int × (List Int)) → St := fun (s : Int × (List Int)) => match s with
  | (i1, l2) => ⟨[(3, .loc 0 0 1 0 l2.length l2.length), (6, .sl 6 (List.map Reading.c l0)), (7, .int .i64 (l0.length : Int)), (8, .int .i64 i1)], [(0, .arr 3 1 (List.map eI l2))], H, 1, Tryz.f67.ntmps⟩
noncomputable def heat_sources_o.x0 (H : Heap) : (List Int) → St := fun (l3 : (List Int)) => ⟨[(3, .loc 0 0 1 0 l3.length l3.length)], [(0, .arr 3 1 (List.map eI l3))], H, 1, Tryz.f67.ntmps⟩
def heat_sources_o (k : Nat) (l0 : (List Reading)) : Option ((List Int)) :=
  (whl (heat_sources_o.b0 k l0) k (0, [])).bind fun r7 => match r7 with
  | .next _ => none
  | .ret v_ => some v_
  | .brk l3 =>
    (room? l3.length 8).bind fun _ =>
    (slices_Compact_int k (srt l3)).bind fun x11 =>
    some x11
theorem heat_sources_o_ok (k : Nat) (l0 : (List Reading)) (r : (List Int)) (h0 : heat_sources_o k l0 = some r) : GCall Tryz.prog 67 [.sl 6 (List.map Reading.c l0)] [] (fun y fr => y = .loc 0 0 1 0 r.length r.length ∧ fr = [(0, .arr 3 1 (List.map eI r))]) := by
  have hr := GCall.own (et := 3) (sz := 1) (ls := List.map eI r) (GCall.of_body T_ok (f := 67) (fn := Tryz.f67) (sc := F67.c) (args := [.sl 6 (List.map Reading.c l0)]) (fr0 := []) (by rfl) (by rfl) (by decide +kernel) (by rfl) (by decide +kernel) (Nat.le_of_ble_eq_true rfl) (fun H => ?_))
  · simpa only [List.length_map] using hr
  refine run_sound T_ok 1000 _ _ ?_
  simp only [heat_sources_o] at h0
  try simp only [F67.c, go_sem]
  obtain ⟨r7, yr7, h0⟩ := bind_some h0
  refine AKev_loopS yr7 (heat_sources_o.h0 H l0) (heat_sources_o.x0 H) ?_ ?_ ?_
  · refine Weak.go [3, 6, 7, 8] [32] rfl ?_
    try simp only [heat_sources_o.h0, go_sem]
  · rintro ⟨i1, l2⟩ x_1 Bk1 Br1 h1 hnext1 hbrk1 hret1
    refine run_sound T_ok 1000 _ _ ?_
    simp only [heat_sources_o.b0] at h1
    try simp only [F67.s0, heat_sources_o.h0, go_sem]
    refine AKev_bif h1 (fun c4 h1 => ?_) (fun c4 h1 => ?_)
    · try simp only [c4, go_sem]
      obtain ⟨x5, yx5, h1⟩ := bind_some h1
      try simp only [at_in yx5, at_get Reading.c yx5, c4, go_sem]
      obtain ⟨l6, yl6, h1⟩ := bind_some h1
      have eyl6 := push_map eI yl6
      have tyl6 := push_take eI yl6
      have nyl6 := push_len yl6
      have myl6 := push_room yl6
      try simp only [c4, at_in yx5, at_get Reading.c yx5, go_sem] at eyl6 tyl6 nyl6 myl6
      try simp only [myl6, eyl6, c4, at_in yx5, at_get Reading.c yx5, nyl6, tyl6, go_sem]
      refine AKev_backB (hnext1 _ _ (Option.some.inj h1).symm ?_)
      refine Weak.go [3, 6, 7, 8] [0] rfl ?_
      try simp only [heat_sources_o.h0, c4, at_in yx5, at_get Reading.c yx5, eyl6, nyl6, tyl6, go_sem]
    · try simp only [c4, go_sem]
      refine AKev_backB (hbrk1 _ _ (Option.some.inj h1).symm ?_)
      refine Weak.go [3] [0] rfl ?_
      try simp only [heat_sources_o.x0, c4, go_sem]
  · rintro l3 hr_
    subst hr_
    simp only at h0
    refine run_sound T_ok 1000 _ _ ?_
    try simp only [heat_sources_o.x0, go_sem]
    obtain ⟨u9, yu9, h0⟩ := bind_some h0
    have myu9 := room_some yu9
    refine AKev_sortI sort_ok (l := l3) (k := 0) (et := 3) (b := 8) ?_ ?_ ?_ ?_
    · try simp only [go_sem]
    · try simp only [go_sem]
    · try simp only [myu9, go_sem]
    refine run_sound T_ok 1000 _ _ ?_
    try simp only [srt_len, go_sem]
    obtain ⟨x11, yx11, h0⟩ := bind_some h0
    refine AKev_give T_ok 1000 [] [0] (slices_Compact_int_ok k _ _ yx11) ?_ rfl ?_
    · try simp only [gOK, List.length_map, srt_len, go_sem]
    try simp only [srt_len, go_sem]
    obtain rfl := Option.some.inj h0
    refine AKev_gret rfl ?_
    try simp only [F67.rs, oOK, Option.map_some, tupOf, cut0_map, cut_map, Nat.le_refl, List.take_length, srt_len, go_sem]
end Go.Abs
namespace Go.Abs
open Go.Proofs
set_option maxRecDepth 20000
set_option linter.unusedVariables false
set_option linter.unusedSimpArgs false
set_option maxHeartbeats 8000000
def F68.c : SC :=
 (.seq
  (.reg [⟨some 6, .assign (.const (.slice none 0 0)), 37, none, [6]⟩])
  (.seq
   (.reg [⟨some 8, .move (.tmp 0), 37, none, []⟩,
     ⟨some 9, .move (.tmp 1), 3, none, []⟩,
     ⟨some 10, .move (.tmp 2), 3, none, []⟩,
     ⟨some 11, .move (.tmp 0), 37, none, []⟩,
     ⟨some 12, .call ⟨.builtin .len, #[.tmp 11], #[37]⟩, 3, none, [11]⟩,
     ⟨some 13, .slice 37 (.tmp 8) (some (.tmp 9)) (some (.tmp 10)) (some (.tmp 12)), 37, none, [8, 9, 10, 12, 13]⟩])
   (.seq
    (.seq
     (.reg [⟨some 14, .move (.tmp 1), 3, none, []⟩,
       ⟨some 15, .move (.tmp 2), 3, none, []⟩,
       ⟨some 16, .binOp .eql 3 (.tmp 14) (.tmp 15) 3, 4, none, [14, 15]⟩])
     (.cond (.tmp 16)
      (.seq
       (.reg [⟨some 17, .move (.tmp 0), 37, none, [0]⟩,
         ⟨some 6, .assign (.tmp 17), 37, none, [17]⟩])
       .ret)
      .skip))
    (.seq
     (.reg [⟨some 18, .move (.tmp 0), 37, none, []⟩,
       ⟨some 19, .call ⟨.builtin .len, #[.tmp 18], #[37]⟩, 3, none, [18]⟩,
       ⟨some 7, .assign (.tmp 19), 3, none, [19]⟩])
     (.seq
      (.dreg [⟨some 20, .move (.tmp 0), 37, none, []⟩,
        ⟨some 21, .move (.tmp 1), 3, none, []⟩,
        ⟨some 22, .slice 37 (.tmp 20) none (some (.tmp 21)) none, 37, none, []⟩,
        ⟨some 23, .move (.tmp 0), 37, none, []⟩,
        ⟨some 24, .move (.tmp 2), 3, none, []⟩,
        ⟨some 25, .slice 37 (.tmp 23) (some (.tmp 24)) none none, 37, none, []⟩,
        ⟨some 26, .call ⟨.builtin .append, #[.tmp 22, .tmp 25], #[37, 37]⟩, 37, none, []⟩,
        ⟨some 0, .assign (.tmp 26), 37, none, []⟩] [[], [], [0, 1], [], [], [3, 4], [0, 1, 2, 3, 4, 5], [0, 1, 2, 3, 4, 5, 6]] [1, 2, 20, 21, 22, 23, 24, 25, 26])
      (.seq
       (.reg [⟨some 27, .move (.tmp 0), 37, none, []⟩,
         ⟨some 28, .move (.tmp 0), 37, none, []⟩,
         ⟨some 29, .call ⟨.builtin .len, #[.tmp 28], #[37]⟩, 3, none, [28]⟩,
         ⟨some 30, .move (.tmp 7), 3, none, [7]⟩,
         ⟨some 31, .slice 37 (.tmp 27) (some (.tmp 29)) (some (.tmp 30)) none, 37, none, [27, 29, 30]⟩,
         ⟨none, .call ⟨.builtin .clear, #[.tmp 31], #[37]⟩, 0, none, [31]⟩])
       (.seq
        (.reg [⟨some 32, .move (.tmp 0), 37, none, [0]⟩,
          ⟨some 6, .assign (.tmp 32), 37, none, [32]⟩])
        .ret)))))))
theorem F68.rs : Tryz.f68.results.toList = [.tmp 6] := rfl
def slices_Delete_int (k : Nat) (s0 : (List Int)) (i1 : Int) (j2 : Int) : Option ((List Int)) :=
  (s3? s0.length i1 j2 ((s0.length : Nat) : Int)).bind fun _ =>
  bif decide (i1 = j2) then
    some s0
  else
    (hs? s0.length i1).bind fun _ =>
    (ls? s0.length j2).bind fun _ =>
    (ov? s0.length i1.toNat (((s0.drop j2.toNat).take (s0.length - j2.toNat)).length)).bind fun _ =>
    (rs? s0.length 0 ((i1.toNat + (((s0.drop j2.toNat).take (s0.length - j2.toNat)).length) : Nat) : Int) ((s0.length : Nat) : Int)).bind fun _ =>
    some ((clr (ovr s0 i1.toNat ((s0.drop j2.toNat).take (s0.length - j2.toNat))) (i1.toNat + (((s0.drop j2.toNat).take (s0.length - j2.toNat)).length)) (s0.length - (i1.toNat + (((s0.drop j2.toNat).take (s0.length - j2.toNat)).length))) 0).take (i1.toNat + (((s0.drop j2.toNat).take (s0.length - j2.toNat)).length)))
theorem slices_Delete_int_ok (k : Nat) (s0 : (List Int)) (i1 : Int) (j2 : Int) (r : (List Int)) (h0 : slices_Delete_int k s0 i1 j2 = some r) : GCall Tryz.prog 68 [.loc 0 0 1 0 s0.length s0.length, .int .i64 i1, .int .i64 j2] [(0, .arr 3 1 (List.map eI s0))] (fun y fr => y = .loc 0 0 1 0 r.length r.length ∧ fr = [(0, .arr 3 1 (List.map eI r))]) := by
  have hr := GCall.own (et := 3) (sz := 1) (ls := List.map eI r) (GCall.of_body T_ok (f := 68) (fn := Tryz.f68) (sc := F68.c) (args := [.loc 0 0 1 0 s0.length s0.length, .int .i64 i1, .int .i64 j2]) (fr0 := [(0, .arr 3 1 (List.map eI s0))]) (by rfl) (by rfl) (by decide +kernel) (by rfl) (by decide +kernel) (Nat.le_of_ble_eq_true rfl) (fun H => ?_))
  · simpa only [List.length_map] using hr
  refine run_sound T_ok 1000 _ _ ?_
  simp only [slices_Delete_int] at h0
  try simp only [F68.c, go_sem]
  obtain ⟨u1, yu1, h0⟩ := bind_some h0
  have eyu1 := s3_some yu1
  try simp only [eyu1, go_sem]
  refine AKev_bif h0 (fun c2 h0 => ?_) (fun c2 h0 => ?_)
  · try simp only [c2, go_sem]
    obtain rfl := Option.some.inj h0
    refine AKev_gret rfl ?_
    try simp only [F68.rs, oOK, Option.map_some, tupOf, cut0_map, cut_map, Nat.le_refl, List.take_length, c2, go_sem]
  · try simp only [c2, go_sem]
    refine AKev_region T_ok follows_ok 1000 ?_
    try simp only [c2, go_sem]
    obtain ⟨u3, yu3, h0⟩ := bind_some h0
    have lyu3 := hs_le yu3
    try simp only [hs_bounds yu3, lyu3, c2, go_sem]
    obtain ⟨u4, yu4, h0⟩ := bind_some h0
    have lyu4 := ls_le yu4
    try simp only [ls_bounds yu4, lyu4, c2, lyu3, go_sem]
    obtain ⟨u5, yu5, h0⟩ := bind_some h0
    have e_yu5 := ovr_map eI s0 i1.toNat ((s0.drop j2.toNat).take (s0.length - j2.toNat))
    have l_yu5 : (ovr s0 i1.toNat ((s0.drop j2.toNat).take (s0.length - j2.toNat))).length = s0.length := by rw [ovr_len (by first | exact ov_le yu5 | (simp only [c2, lyu3, lyu4, go_sem]; exact ov_le yu5))] <;> simp only [c2, lyu3, lyu4, go_sem]
    try simp only [ov_ne yu5, ov_le yu5, cut_map eI s0 j2.toNat (s0.length - j2.toNat), e_yu5, l_yu5, c2, lyu3, lyu4, go_sem]
    refine DG_done ⟨rfl, run_sound T_ok 1000 _ _ ?_⟩
    try simp only [c2, lyu3, lyu4, ov_le yu5, l_yu5, go_sem]
    obtain ⟨u6, yu6, h0⟩ := bind_some h0
    have eyu6 := rs_some yu6
    have lyu6 := rs_le yu6
    try simp only [c2, lyu3, lyu4, ov_le yu5, l_yu5, go_sem] at eyu6 lyu6
    have eq7 := clr_map eI (ovr s0 i1.toNat ((s0.drop j2.toNat).take (s0.length - j2.toNat))) (i1.toNat + (((s0.drop j2.toNat).take (s0.length - j2.toNat)).length)) (s0.length - (i1.toNat + (((s0.drop j2.toNat).take (s0.length - j2.toNat)).length))) 0
    have lq7 : (clr (ovr s0 i1.toNat ((s0.drop j2.toNat).take (s0.length - j2.toNat))) (i1.toNat + (((s0.drop j2.toNat).take (s0.length - j2.toNat)).length)) (s0.length - (i1.toNat + (((s0.drop j2.toNat).take (s0.length - j2.toNat)).length))) 0).length = s0.length := by rw [clr_len] <;> simp only [c2, lyu3, lyu4, ov_le yu5, l_yu5, lyu6, go_sem]
    try simp only [go_sem] at eq7
    try simp only [eyu6, lyu6, eq7, c2, lyu3, lyu4, ov_le yu5, l_yu5, lq7, go_sem]
    obtain rfl := Option.some.inj h0
    refine AKev_gret rfl ?_
    try simp only [F68.rs, oOK, Option.map_some, tupOf, cut0_map, cut_map, Nat.le_refl, List.take_length, c2, lyu3, lyu4, ov_le yu5, l_yu5, lyu6, lq7, go_sem]
end Go.Abs
namespace Go.Abs
open Go.Proofs
set_option maxRecDepth 20000
set_option linter.unusedVariables false
set_option linter.unusedSimpArgs false
set_option maxHeartbeats 8000000
def F69.c : SC :=
 (.seq
  (.reg [⟨some 2, .assign (.const (.slice none 0 0)), 37, none, [2]⟩])
  (.seq
   (.seq
    (.reg [⟨some 3, .move (.tmp 0), 37, none, []⟩,
      ⟨some 4, .binOp .eql 37 (.tmp 3) (.const (.slice none 0 0)) 37, 4, none, [3]⟩])
    (.cond (.tmp 4)
     (.seq
      (.reg [⟨some 2, .assign (.const (.slice none 0 0)), 37, none, []⟩])
      .ret)
     .skip))
   (.seq
    (.reg [⟨some 5, .buildSlice 37 0 #[], 37, none, []⟩,
      ⟨some 6, .move (.tmp 0), 37, none, [0]⟩,
      ⟨some 7, .call ⟨.builtin .append, #[.tmp 5, .tmp 6], #[37, 37]⟩, 37, none, [5, 6]⟩,
      ⟨some 2, .assign (.tmp 7), 37, none, [7]⟩])
    .ret)))
theorem F69.rs : Tryz.f69.results.toList = [.tmp 2] := rfl
def slices_Clone_int (k : Nat) (s0 : (List Int)) : Option ((List Int)) :=
  (room? s0.length 8).bind fun _ =>
  some s0
theorem slices_Clone_int_ok (k : Nat) (s0 : (List Int)) (r : (List Int)) (h0 : slices_Clone_int k s0 = some r) : GCall Tryz.prog 69 [.sl 1 (List.map eI s0)] [] (fun y fr => y = .loc 0 0 1 0 r.length r.length ∧ fr = [(0, .arr 3 1 (List.map eI r))]) := by
  have hr := GCall.own (et := 3) (sz := 1) (ls := List.map eI r) (GCall.of_body T_ok (f := 69) (fn := Tryz.f69) (sc := F69.c) (args := [.sl 1 (List.map eI s0)]) (fr0 := []) (by rfl) (by rfl) (by decide +kernel) (by rfl) (by decide +kernel) (Nat.le_of_ble_eq_true rfl) (fun H => ?_))
  · simpa only [List.length_map] using hr
  refine run_sound T_ok 1000 _ _ ?_
  simp only [slices_Clone_int] at h0
  try simp only [F69.c, go_sem]
  refine ⟨fun he => ?_, ?_⟩
  · refine run_sound T_ok 1000 _ _ ?_
    try simp only [go_sem]
    obtain ⟨u_, hu_, h0⟩ := bind_some h0
    obtain rfl := Option.some.inj h0
    refine AKev_gret rfl ?_
    simp only [he, F69.rs, oOK, Option.map_some, tupOf, List.length_nil, List.take_nil, go_sem]
    try simp
  · refine run_sound T_ok 1000 _ _ ?_
    try simp only [go_sem]
    obtain ⟨u1, yu1, h0⟩ := bind_some h0
    try simp only [room_some yu1, go_sem]
    obtain rfl := Option.some.inj h0
    refine AKev_gret rfl ?_
    try simp only [F69.rs, oOK, Option.map_some, tupOf, cut0_map, cut_map, Nat.le_refl, List.take_length, go_sem]
end Go.Abs
namespace Go.Abs
open Go.Proofs
set_option maxRecDepth 20000
set_option linter.unusedVariables false
set_option linter.unusedSimpArgs false
set_option maxHeartbeats 8000000
def F129.c : SC :=
 (.seq
  (.reg [⟨some 2, .assign (.const (.slice none 0 0)), 89, none, [2]⟩])
  (.seq
   (.seq
    (.reg [⟨some 3, .move (.tmp 0), 89, none, []⟩,
      ⟨some 4, .binOp .eql 89 (.tmp 3) (.const (.slice none 0 0)) 89, 4, none, [3]⟩])
    (.cond (.tmp 4)
     (.seq
      (.reg [⟨some 2, .assign (.const (.slice none 0 0)), 89, none, []⟩])
      .ret)
     .skip))
   (.seq
    (.reg [⟨some 5, .buildSlice 89 0 #[], 89, none, []⟩,
      ⟨some 6, .move (.tmp 0), 89, none, [0]⟩,
      ⟨some 7, .call ⟨.builtin .append, #[.tmp 5, .tmp 6], #[89, 89]⟩, 89, none, [5, 6]⟩,
      ⟨some 2, .assign (.tmp 7), 89, none, [7]⟩])
    .ret)))
theorem F129.rs : Tryz.f129.results.toList = [.tmp 2] := rfl
def slices_Clone_api_Range (k : Nat) (s0 : (List Range)) : Option ((List Range)) :=
  (room? s0.length 16).bind fun _ =>
  some s0
theorem slices_Clone_api_Range_ok (k : Nat) (s0 : (List Range)) (r : (List Range)) (h0 : slices_Clone_api_Range k s0 = some r) : GCall Tryz.prog 129 [.sl 2 (List.map Range.c s0)] [] (fun y fr => y = .loc 0 0 2 0 r.length r.length ∧ fr = [(0, .arr 30 2 (List.map Range.c r))]) := by
  have hr := GCall.own (et := 30) (sz := 2) (ls := List.map Range.c r) (GCall.of_body T_ok (f := 129) (fn := Tryz.f129) (sc := F129.c) (args := [.sl 2 (List.map Range.c s0)]) (fr0 := []) (by rfl) (by rfl) (by decide +kernel) (by rfl) (by decide +kernel) (Nat.le_of_ble_eq_true rfl) (fun H => ?_))
  · simpa only [List.length_map] using hr
  refine run_sound T_ok 1000 _ _ ?_
  simp only [slices_Clone_api_Range] at h0
  try simp only [F129.c, go_sem]
  refine ⟨fun he => ?_, ?_⟩
  · refine run_sound T_ok 1000 _ _ ?_
    try simp only [go_sem]
    obtain ⟨u_, hu_, h0⟩ := bind_some h0
    obtain rfl := Option.some.inj h0
    refine AKev_gret rfl ?_
    simp only [he, F129.rs, oOK, Option.map_some, tupOf, List.length_nil, List.take_nil, go_sem]
    try simp
  · refine run_sound T_ok 1000 _ _ ?_
    try simp only [go_sem]
    obtain ⟨u1, yu1, h0⟩ := bind_some h0
    try simp only [room_some yu1, go_sem]
    obtain rfl := Option.some.inj h0
    refine AKev_gret rfl ?_
    try simp only [F129.rs, oOK, Option.map_some, tupOf, cut0_map, cut_map, Nat.le_refl, List.take_length, go_sem]
end Go.Abs
namespace Go.Abs
open Go.Proofs
set_option maxRecDepth 20000
set_option linter.unusedVariables false
set_option linter.unusedSimpArgs false
set_option maxHeartbeats 8000000
def F88.s0 : SC :=
 (.seq
  (.reg [⟨some 10, .binOp .lss 3 (.tmp 9) (.tmp 8) 3, 0, none, []⟩])
  (.seq
   (.cond (.tmp 10)
    .skip
    (.exit 0))
   (.seq
    (.block 1
     (.seq
      (.reg [⟨some 11, .indexAddr 22 (.tmp 7) (.tmp 9), 0, none, []⟩,
        ⟨some 12, .load 89 (.tmp 11), 89, none, [11]⟩,
        ⟨some 5, .assign (.tmp 12), 89, none, [12]⟩])
      (.dreg [⟨some 13, .fieldAddr 24 (.tmp 3) 0, 0, none, []⟩,
        ⟨some 14, .load 22 (.tmp 13), 22, none, []⟩,
        ⟨some 15, .move (.tmp 5), 89, none, []⟩,
        ⟨some 16, .call ⟨.value (.func 129), #[.tmp 15], #[89]⟩, 89, none, []⟩,
        ⟨some 17, .buildSlice 22 1 #[(0, .tmp 16)], 22, none, []⟩,
        ⟨some 18, .call ⟨.builtin .append, #[.tmp 14, .tmp 17], #[22, 22]⟩, 22, none, []⟩,
        ⟨some 19, .fieldAddr 24 (.tmp 3) 0, 0, none, []⟩,
        ⟨none, .store 22 (.tmp 19) (.tmp 18), 0, none, []⟩] [[], [0], [], [2], [2, 3], [0, 1, 2, 3, 4], [0, 1, 2, 3, 4, 5], [0, 1, 2, 3, 4, 5, 6]] [5, 13, 14, 15, 16, 17, 18, 19])))
    (.reg [⟨some 20, .binOp .add 3 (.tmp 9) (.const (.int .i64 1)) 3, 3, none, [9]⟩,
      ⟨some 9, .move (.tmp 20), 3, none, [20]⟩]))))
def F88.c : SC :=
 (.seq
  (.reg [⟨some 1, .box 24 (.tmp 0), 0, none, [0]⟩,
    ⟨some 2, .alloc 24, 0, none, []⟩])
  (.seq
   (.reg [⟨some 3, .alloc 24, 0, none, []⟩])
   (.seq
    (.seq
     (.reg [⟨some 6, .fieldAddr 24 (.tmp 1) 0, 0, none, [1]⟩,
       ⟨some 7, .load 22 (.tmp 6), 22, none, [6]⟩,
       ⟨some 8, .call ⟨.builtin .len, #[.tmp 7], #[22]⟩, 3, none, []⟩,
       ⟨some 9, .move (.const (.int .i64 0)), 3, none, []⟩])
     (.block 0
      (.loop F88.s0)))
    (.seq
     (.reg [⟨some 21, .load 24 (.tmp 3), 24, none, [3]⟩,
       ⟨none, .store 24 (.tmp 2) (.tmp 21), 0, none, [21]⟩])
     .ret))))
theorem F88.rs : Tryz.f88.results.toList = [.cell 2 24] := rfl
def heat_kilnCopy.b0 (k : Nat) (k0 : Kiln) : (Int × (List (List Range))) → Option (Stp (Int × (List (List Range))) ((List (List Range))) (Kiln)) := fun (s : Int × (List (List Range))) => match s with
  | (i1, l2) => 
      bif decide (i1 < (k0.Falls.length : Int)) then
        (at? k0.Falls i1).bind fun x5 =>
        (slices_Clone_api_Range k x5).bind fun x7 =>
        (push? 24 l2 x7).bind fun l8 =>
        some (.next (w64 (i1 + 1), l8))
      else
        some (.brk l2)
noncomputable def heat_kilnCopy.h0 (k0 : Kiln) : (Int × (List (List Range))) → St := fun (s : Int × (List (List Range))) => match s with
  | (i1, l2) => ⟨[(2, .ptr 0 0 0), (3, .ptr 0 2 0), (7, .sl 1 (List.map (eL 2 Range.c) k0.Falls)), (8, .int .i64 (k0.Falls.length : Int)), (9, .int .i64 i1)], [(0, .box [.loc 0 1 1 0 0 0]), (1, .arr 89 1 (List.map (eL 2 Range.c) [])), (2, .box [.loc 0 3 1 0 l2.length l2.length]), (3, .arr 89 1 (List.map (eL 2 Range.c) l2))], [], 4, Tryz.f88.ntmps⟩
noncomputable def heat_kilnCopy.x0 : (List (List Range)) → St := fun (l3 : (List (List Range))) => ⟨[(2, .ptr 0 0 0), (3, .ptr 0 2 0)], [(0, .box [.loc 0 1 1 0 0 0]), (1, .arr 89 1 (List.map (eL 2 Range.c) [])), (2, .box [.loc 0 3 1 0 l3.length l3.length]), (3, .arr 89 1 (List.map (eL 2 Range.c) l3))], [], 4, Tryz.f88.ntmps⟩
def heat_kilnCopy (k : Nat) (k0 : Kiln) : Option (Kiln) :=
  (whl (heat_kilnCopy.b0 k k0) k (0, [])).bind fun r9 => match r9 with
  | .next _ => none
  | .ret v_ => some v_
  | .brk l3 =>
    some (⟨l3⟩ : Kiln)
theorem heat_kilnCopy_ok (k : Nat) (k0 : Kiln) (r : Kiln) (h0 : heat_kilnCopy k k0 = some r) : PCall Tryz.prog 88 [.agg (Kiln.c k0)] (fun y => y = .agg (Kiln.c r)) := by
  refine PCall.nlr (PCall.of_body T_ok (fn := Tryz.f88) (sc := F88.c) (by rfl) (by rfl) (by decide +kernel) (by rfl) (by decide +kernel) (Nat.le_of_ble_eq_true rfl) ?_)
  refine run_sound T_ok 1000 _ _ ?_
  simp only [heat_kilnCopy] at h0
  try simp only [F88.c, go_sem]
  obtain ⟨r9, yr9, h0⟩ := bind_some h0
  refine AKev_loopS yr9 (heat_kilnCopy.h0 k0) (heat_kilnCopy.x0) ?_ ?_ ?_
  · refine Weak.go [2, 3, 7, 8, 9] [16, 17, 32, 33] rfl ?_
    try simp only [heat_kilnCopy.h0, go_sem]
  · rintro ⟨i1, l2⟩ x_1 Bk1 Br1 h1 hnext1 hbrk1 hret1
    refine run_sound T_ok 1000 _ _ ?_
    simp only [heat_kilnCopy.b0] at h1
    try simp only [F88.s0, heat_kilnCopy.h0, go_sem]
    refine AKev_bif h1 (fun c4 h1 => ?_) (fun c4 h1 => ?_)
    · try simp only [c4, go_sem]
      obtain ⟨x5, yx5, h1⟩ := bind_some h1
      try simp only [at_in yx5, at_get (eL 2 Range.c) yx5, c4, go_sem]
      refine AKev_region T_ok follows_ok 1000 ?_
      try simp only [c4, at_in yx5, at_get (eL 2 Range.c) yx5, go_sem]
      obtain ⟨x7, yx7, h1⟩ := bind_some h1
      refine DG_give 1000 [] [] (slices_Clone_api_Range_ok k _ _ yx7) ?_ rfl ?_
      · try simp only [gOK, List.length_map, c4, at_in yx5, at_get (eL 2 Range.c) yx5, go_sem]
      try simp only [c4, at_in yx5, at_get (eL 2 Range.c) yx5, go_sem]
      obtain ⟨l8, yl8, h1⟩ := bind_some h1
      have eyl8 := push_map (eL 2 Range.c) yl8
      have tyl8 := push_take (eL 2 Range.c) yl8
      have nyl8 := push_len yl8
      have myl8 := push_room yl8
      try simp only [c4, at_in yx5, at_get (eL 2 Range.c) yx5, go_sem] at eyl8 tyl8 nyl8 myl8
      try simp only [myl8, eyl8, c4, at_in yx5, at_get (eL 2 Range.c) yx5, nyl8, tyl8, go_sem]
      refine DG_done ⟨rfl, run_sound T_ok 1000 _ _ ?_⟩
      try simp only [c4, at_in yx5, at_get (eL 2 Range.c) yx5, eyl8, nyl8, tyl8, go_sem]
      refine AKev_backB (hnext1 _ _ (Option.some.inj h1).symm ?_)
      refine Weak.go [2, 3, 7, 8, 9] [0, 1, 2, 3] rfl ?_
      try simp only [heat_kilnCopy.h0, c4, at_in yx5, at_get (eL 2 Range.c) yx5, eyl8, nyl8, tyl8, go_sem]
    · try simp only [c4, go_sem]
      refine AKev_backB (hbrk1 _ _ (Option.some.inj h1).symm ?_)
      refine Weak.go [2, 3] [0, 1, 2, 3] rfl ?_
      try simp only [heat_kilnCopy.x0, c4, go_sem]
  · rintro l3 hr_
    subst hr_
    simp only at h0
    refine run_sound T_ok 1000 _ _ ?_
    try simp only [heat_kilnCopy.x0, go_sem]
    obtain rfl := Option.some.inj h0
    refine AKev_ret rfl ?_
    try simp only [F88.rs, go_sem]
end Go.Abs
namespace Go.Abs
open Go.Proofs
set_option maxRecDepth 20000
set_option linter.unusedVariables false
set_option linter.unusedSimpArgs false
set_option maxHeartbeats 8000000
def F89.c : SC :=
 (.seq
  (.reg [⟨some 2, .assign (.const (.slice none 0 0)), 25, none, [2]⟩])
  (.seq
   (.seq
    (.reg [⟨some 3, .move (.tmp 0), 25, none, []⟩,
      ⟨some 4, .binOp .eql 25 (.tmp 3) (.const (.slice none 0 0)) 25, 4, none, [3]⟩])
    (.cond (.tmp 4)
     (.seq
      (.reg [⟨some 2, .assign (.const (.slice none 0 0)), 25, none, []⟩])
      .ret)
     .skip))
   (.seq
    (.reg [⟨some 5, .buildSlice 25 0 #[], 25, none, []⟩,
      ⟨some 6, .move (.tmp 0), 25, none, [0]⟩,
      ⟨some 7, .call ⟨.builtin .append, #[.tmp 5, .tmp 6], #[25, 25]⟩, 25, none, [5, 6]⟩,
      ⟨some 2, .assign (.tmp 7), 25, none, [7]⟩])
    .ret)))
theorem F89.rs : Tryz.f89.results.toList = [.tmp 2] := rfl
def slices_Clone_api_Reading (k : Nat) (s0 : (List Reading)) : Option ((List Reading)) :=
  (room? s0.length 48).bind fun _ =>
  some s0
theorem slices_Clone_api_Reading_ok (k : Nat) (s0 : (List Reading)) (r : (List Reading)) (h0 : slices_Clone_api_Reading k s0 = some r) : GCall Tryz.prog 89 [.sl 6 (List.map Reading.c s0)] [] (fun y fr => y = .loc 0 0 6 0 r.length r.length ∧ fr = [(0, .arr 64 6 (List.map Reading.c r))]) := by
  have hr := GCall.own (et := 64) (sz := 6) (ls := List.map Reading.c r) (GCall.of_body T_ok (f := 89) (fn := Tryz.f89) (sc := F89.c) (args := [.sl 6 (List.map Reading.c s0)]) (fr0 := []) (by rfl) (by rfl) (by decide +kernel) (by rfl) (by decide +kernel) (Nat.le_of_ble_eq_true rfl) (fun H => ?_))
  · simpa only [List.length_map] using hr
  refine run_sound T_ok 1000 _ _ ?_
  simp only [slices_Clone_api_Reading] at h0
  try simp only [F89.c, go_sem]
  refine ⟨fun he => ?_, ?_⟩
  · refine run_sound T_ok 1000 _ _ ?_
    try simp only [go_sem]
    obtain ⟨u_, hu_, h0⟩ := bind_some h0
    obtain rfl := Option.some.inj h0
    refine AKev_gret rfl ?_
    simp only [he, F89.rs, oOK, Option.map_some, tupOf, List.length_nil, List.take_nil, go_sem]
    try simp
  · refine run_sound T_ok 1000 _ _ ?_
    try simp only [go_sem]
    obtain ⟨u1, yu1, h0⟩ := bind_some h0
    try simp only [room_some yu1, go_sem]
    obtain rfl := Option.some.inj h0
    refine AKev_gret rfl ?_
    try simp only [F89.rs, oOK, Option.map_some, tupOf, cut0_map, cut_map, Nat.le_refl, List.take_length, go_sem]
end Go.Abs
namespace Go.Abs
open Go.Proofs
set_option maxRecDepth 20000
set_option linter.unusedVariables false
set_option linter.unusedSimpArgs false
set_option maxHeartbeats 8000000
def F138.s0 : SC :=
 (.seq
  (.reg [⟨some 9, .binOp .lss 3 (.tmp 8) (.tmp 7) 3, 0, none, []⟩])
  (.seq
   (.cond (.tmp 9)
    .skip
    (.exit 0))
   (.seq
    (.block 1
     (.seq
      (.reg [⟨some 10, .move (.tmp 8), 3, none, []⟩,
        ⟨some 5, .assign (.tmp 10), 3, none, [10]⟩])
      (.seq
       (.reg [⟨some 11, .move (.tmp 1), 149, none, []⟩,
         ⟨some 12, .move (.tmp 0), 25, none, []⟩,
         ⟨some 13, .move (.tmp 5), 3, none, []⟩,
         ⟨some 14, .indexAddr 25 (.tmp 12) (.tmp 13), 0, none, [12, 13]⟩,
         ⟨some 15, .load 64 (.tmp 14), 64, none, [14]⟩,
         ⟨some 16, .call ⟨.value (.tmp 11), #[.tmp 15], #[64]⟩, 4, none, [11, 15]⟩])
       (.cond (.tmp 16)
        (.seq
         (.reg [⟨some 17, .move (.tmp 5), 3, none, [5]⟩,
           ⟨some 4, .assign (.tmp 17), 3, none, [17]⟩])
         .ret)
        .skip))))
    (.reg [⟨some 18, .binOp .add 3 (.tmp 8) (.const (.int .i64 1)) 3, 3, none, [8]⟩,
      ⟨some 8, .move (.tmp 18), 3, none, [18]⟩]))))
def F138.c : SC :=
 (.seq
  (.reg [⟨some 4, .assign (.const (.int .i64 0)), 3, none, [4]⟩])
  (.seq
   (.seq
    (.reg [⟨some 6, .move (.tmp 0), 25, none, []⟩,
      ⟨some 7, .call ⟨.builtin .len, #[.tmp 6], #[25]⟩, 3, none, [6]⟩,
      ⟨some 8, .move (.const (.int .i64 0)), 3, none, []⟩])
    (.block 0
     (.loop F138.s0)))
   (.seq
    (.reg [⟨some 4, .assign (.const (.int .i64 (-1))), 3, none, []⟩])
    .ret)))
theorem F138.rs : Tryz.f138.results.toList = [.tmp 4] := rfl
def slices_IndexFunc_api_Reading.b0 (k : Nat) (f1 : Reading → Option (Bool)) (s0 : (List Reading)) : Int → Option (Stp (Int) (Unit) (Int)) := fun (i1 : Int) => 
  bif decide (i1 < (s0.length : Int)) then
    (at? s0 i1).bind fun x3 =>
    (f1 x3).bind fun x4 =>
    bif x4 then
      some (.ret i1)
    else
      some (.next (w64 (i1 + 1)))
  else
    some (.brk ())
noncomputable def slices_IndexFunc_api_Reading.h0 (f1_f : Nat) (f1_c : List AV) (s0 : (List Reading)) : Int → St := fun (i1 : Int) => ⟨[(0, .sl 6 (List.map Reading.c s0)), (1, .fn (.func f1_f) [] f1_c), (7, .int .i64 (s0.length : Int)), (8, .int .i64 i1)], [], [], 1, Tryz.f138.ntmps⟩
noncomputable def slices_IndexFunc_api_Reading.x0 : Unit → St := fun (_ : Unit) => ⟨[], [], [], 1, Tryz.f138.ntmps⟩
def slices_IndexFunc_api_Reading (k : Nat) (s0 : (List Reading)) (f1 : Reading → Option (Bool)) : Option (Int) :=
  (whl (slices_IndexFunc_api_Reading.b0 k f1 s0) k 0).bind fun r6 => match r6 with
  | .next _ => none
  | .ret v_ => some v_
  | .brk _ =>
    some (-1)
theorem slices_IndexFunc_api_Reading_ok (k : Nat) (s0 : (List Reading)) (f1_f : Nat) (f1_c : List AV) (f1_i : Ice f1_c) (f1 : Reading → Option (Bool)) (f1_h : ∀ q0 qr, f1 q0 = some qr → PCall Tryz.prog f1_f (.agg (Reading.c q0) :: f1_c) (fun y => y = .bool qr)) (r : Int) (h0 : slices_IndexFunc_api_Reading k s0 f1 = some r) : PCall Tryz.prog 138 [.sl 6 (List.map Reading.c s0), .fn (.func f1_f) [] f1_c] (fun y => y = .int .i64 r) := by
  refine PCall.nlr (PCall.of_body T_ok (fn := Tryz.f138) (sc := F138.c) (by rfl) (by rfl) (by decide +kernel) (by rfl) (by decide +kernel) (Nat.le_of_ble_eq_true rfl) ?_)
  refine run_sound T_ok 1000 _ _ ?_
  simp only [slices_IndexFunc_api_Reading] at h0
  try simp only [F138.c, f1_i.sh, f1_i.frz, f1_i.br, f1_i.refs, f1_i.imp, f1_i.ren, f1_i.un, go_sem]
  obtain ⟨r6, yr6, h0⟩ := bind_some h0
  refine AKev_loopS yr6 (slices_IndexFunc_api_Reading.h0 f1_f f1_c s0) (slices_IndexFunc_api_Reading.x0) ?_ ?_ ?_
  · refine Weak.go [0, 1, 7, 8] [] rfl ?_
    try simp only [slices_IndexFunc_api_Reading.h0, f1_i.sh, f1_i.frz, f1_i.br, f1_i.refs, f1_i.imp, f1_i.ren, f1_i.un, go_sem]
  · rintro i1 x_1 Bk1 Br1 h1 hnext1 hbrk1 hret1
    refine run_sound T_ok 1000 _ _ ?_
    simp only [slices_IndexFunc_api_Reading.b0] at h1
    try simp only [F138.s0, slices_IndexFunc_api_Reading.h0, f1_i.sh, f1_i.frz, f1_i.br, f1_i.refs, f1_i.imp, f1_i.ren, f1_i.un, go_sem]
    refine AKev_bif h1 (fun c2 h1 => ?_) (fun c2 h1 => ?_)
    · try simp only [c2, f1_i.sh, f1_i.frz, f1_i.br, f1_i.refs, f1_i.imp, f1_i.ren, f1_i.un, go_sem]
      obtain ⟨x3, yx3, h1⟩ := bind_some h1
      try simp only [at_in yx3, at_get Reading.c yx3, f1_i.sh, f1_i.frz, f1_i.br, f1_i.refs, f1_i.imp, f1_i.ren, f1_i.un, c2, go_sem]
      obtain ⟨x4, yx4, h1⟩ := bind_some h1
      refine AKev_call0 T_ok 1000 (f1_h _ _ yx4) ?_ (by first | rfl | simp [AV.refsL, AV.refs, AV.scal, AV.leaf, f1_i.refs]) ?_
      · try simp only [f1_i.sh, f1_i.frz, f1_i.br, f1_i.refs, f1_i.imp, f1_i.ren, f1_i.un, c2, at_in yx3, at_get Reading.c yx3, go_sem]
      try simp only [f1_i.sh, f1_i.frz, f1_i.br, f1_i.refs, f1_i.imp, f1_i.ren, f1_i.un, c2, at_in yx3, at_get Reading.c yx3, go_sem]
      refine AKev_bif h1 (fun c5 h1 => ?_) (fun c5 h1 => ?_)
      · try simp only [c5, f1_i.sh, f1_i.frz, f1_i.br, f1_i.refs, f1_i.imp, f1_i.ren, f1_i.un, c2, at_in yx3, at_get Reading.c yx3, go_sem]
        obtain rfl := hret1 _ (Option.some.inj h1).symm
        simp only at h0
        obtain rfl := Option.some.inj h0
        refine AKev_ret rfl ?_
        try simp only [F138.rs, f1_i.sh, f1_i.frz, f1_i.br, f1_i.refs, f1_i.imp, f1_i.ren, f1_i.un, c2, at_in yx3, at_get Reading.c yx3, c5, go_sem]
      · try simp only [c5, f1_i.sh, f1_i.frz, f1_i.br, f1_i.refs, f1_i.imp, f1_i.ren, f1_i.un, c2, at_in yx3, at_get Reading.c yx3, go_sem]
        refine AKev_backB (hnext1 _ _ (Option.some.inj h1).symm ?_)
        refine Weak.go [0, 1, 7, 8] [] rfl ?_
        try simp only [slices_IndexFunc_api_Reading.h0, f1_i.sh, f1_i.frz, f1_i.br, f1_i.refs, f1_i.imp, f1_i.ren, f1_i.un, c2, at_in yx3, at_get Reading.c yx3, c5, go_sem]
    · try simp only [c2, f1_i.sh, f1_i.frz, f1_i.br, f1_i.refs, f1_i.imp, f1_i.ren, f1_i.un, go_sem]
      refine AKev_backB (hbrk1 _ _ (Option.some.inj h1).symm ?_)
      refine Weak.go [] [] rfl ?_
      try simp only [slices_IndexFunc_api_Reading.x0, f1_i.sh, f1_i.frz, f1_i.br, f1_i.refs, f1_i.imp, f1_i.ren, f1_i.un, c2, go_sem]
  · rintro _ hr_
    subst hr_
    simp only at h0
    refine run_sound T_ok 1000 _ _ ?_
    try simp only [slices_IndexFunc_api_Reading.x0, f1_i.sh, f1_i.frz, f1_i.br, f1_i.refs, f1_i.imp, f1_i.ren, f1_i.un, go_sem]
    obtain rfl := Option.some.inj h0
    refine AKev_ret rfl ?_
    try simp only [F138.rs, f1_i.sh, f1_i.frz, f1_i.br, f1_i.refs, f1_i.imp, f1_i.ren, f1_i.un, go_sem]
end Go.Abs
namespace Go.Abs
open Go.Proofs
set_option maxRecDepth 20000
set_option linter.unusedVariables false
set_option linter.unusedSimpArgs false
set_option maxHeartbeats 8000000
def F122.s0 : SC :=
 (.seq
  (.seq
   (.reg [⟨some 16, .move (.tmp 6), 3, none, []⟩,
     ⟨some 17, .move (.tmp 0), 25, none, []⟩,
     ⟨some 18, .call ⟨.builtin .len, #[.tmp 17], #[25]⟩, 3, none, [17]⟩,
     ⟨some 19, .binOp .lss 3 (.tmp 16) (.tmp 18) 3, 4, none, [16, 18]⟩])
   (.cond (.tmp 19)
    .skip
    (.exit 0)))
  (.seq
   (.block 1
    (.seq
     (.reg [⟨some 22, .move (.tmp 0), 25, none, []⟩,
       ⟨some 23, .move (.tmp 6), 3, none, []⟩,
       ⟨some 24, .indexAddr 25 (.tmp 22) (.tmp 23), 0, none, [22, 23]⟩,
       ⟨some 25, .load 64 (.tmp 24), 64, none, [24]⟩,
       ⟨some 7, .alloc 64, 0, none, []⟩,
       ⟨none, .store 64 (.tmp 7) (.tmp 25), 0, none, [25]⟩])
     (.seq
      (.reg [⟨some 26, .move (.tmp 1), 149, none, []⟩,
        ⟨some 27, .load 64 (.tmp 7), 64, none, []⟩,
        ⟨some 28, .call ⟨.value (.tmp 26), #[.tmp 27], #[64]⟩, 4, none, [26, 27]⟩,
        ⟨some 29, .unOp .not 4 (.tmp 28), 4, none, [28]⟩])
      (.cond (.tmp 29)
       (.seq
        (.reg [⟨some 30, .move (.tmp 0), 25, none, []⟩,
          ⟨some 31, .move (.tmp 5), 3, none, []⟩,
          ⟨some 32, .load 64 (.tmp 7), 64, none, [7]⟩,
          ⟨some 33, .indexAddr 25 (.tmp 30) (.tmp 31), 0, none, [30, 31]⟩,
          ⟨none, .store 64 (.tmp 33) (.tmp 32), 0, none, [32, 33]⟩])
        (.reg [⟨some 34, .move (.tmp 5), 3, none, [5]⟩,
          ⟨some 35, .binOp .add 3 (.tmp 34) (.const (.int .i64 1)) 3, 3, none, [34]⟩,
          ⟨some 5, .assign (.tmp 35), 3, none, [35]⟩]))
       .skip))))
   (.reg [⟨some 20, .move (.tmp 6), 3, none, [6]⟩,
     ⟨some 21, .binOp .add 3 (.tmp 20) (.const (.int .i64 1)) 3, 3, none, [20]⟩,
     ⟨some 6, .assign (.tmp 21), 3, none, [21]⟩])))
def F122.c : SC :=
 (.seq
  (.reg [⟨some 4, .assign (.const (.slice none 0 0)), 25, none, [4]⟩])
  (.seq
   (.reg [⟨some 8, .move (.tmp 0), 25, none, []⟩,
     ⟨some 9, .move (.tmp 1), 149, none, []⟩,
     ⟨some 10, .call ⟨.value (.func 138), #[.tmp 8, .tmp 9], #[25, 149]⟩, 3, none, [8, 9]⟩,
     ⟨some 5, .assign (.tmp 10), 3, none, [10]⟩])
   (.seq
    (.seq
     (.reg [⟨some 11, .move (.tmp 5), 3, none, []⟩,
       ⟨some 12, .binOp .eql 3 (.tmp 11) (.const (.int .i64 (-1))) 3, 4, none, [11]⟩])
     (.cond (.tmp 12)
      (.seq
       (.reg [⟨some 13, .move (.tmp 0), 25, none, [0]⟩,
         ⟨some 4, .assign (.tmp 13), 25, none, [13]⟩])
       .ret)
      .skip))
    (.seq
     (.seq
      (.reg [⟨some 14, .move (.tmp 5), 3, none, []⟩,
        ⟨some 15, .binOp .add 3 (.tmp 14) (.const (.int .i64 1)) 3, 3, none, [14]⟩,
        ⟨some 6, .assign (.tmp 15), 3, none, [15]⟩])
      (.block 0
       (.loop F122.s0)))
     (.seq
      (.reg [⟨some 36, .move (.tmp 0), 25, none, []⟩,
        ⟨some 37, .move (.tmp 5), 3, none, []⟩,
        ⟨some 38, .slice 25 (.tmp 36) (some (.tmp 37)) none none, 25, none, [36, 37]⟩,
        ⟨none, .call ⟨.builtin .clear, #[.tmp 38], #[25]⟩, 0, none, [38]⟩])
      (.seq
       (.reg [⟨some 39, .move (.tmp 0), 25, none, [0]⟩,
         ⟨some 40, .move (.tmp 5), 3, none, [5]⟩,
         ⟨some 41, .slice 25 (.tmp 39) none (some (.tmp 40)) none, 25, none, [39, 40]⟩,
         ⟨some 4, .assign (.tmp 41), 25, none, [41]⟩])
       .ret))))))
theorem F122.rs : Tryz.f122.results.toList = [.tmp 4] := rfl
def slices_DeleteFunc_api_Reading.b0 (k : Nat) (del1 : Reading → Option (Bool)) : (Int × Int × (List Reading)) → Option (Stp (Int × Int × (List Reading)) (Int × (List Reading)) ((List Reading))) := fun (s : Int × Int × (List Reading)) => match s with
  | (i3, i4, l5) => 
      bif decide (i4 < ((l5.length : Nat) : Int)) then
        (at? l5 i4).bind fun x9 =>
        (del1 x9).bind fun x10 =>
        bif (!x10) then
          (at? l5 i3).bind fun x12 =>
          (set? l5 i3 x9).bind fun l13 =>
          some (.next (w64 (i3 + 1), w64 (i4 + 1), l13))
        else
          some (.next (i3, w64 (i4 + 1), l5))
      else
        some (.brk (i3, l5))
noncomputable def slices_DeleteFunc_api_Reading.h0 (H : Heap) (del1_f : Nat) (del1_c : List AV) : (Int × Int × (List Reading)) → St := fun (s : Int × Int × (List Reading)) => match s with
  | (i3, i4, l5) => ⟨[(0, .loc 0 0 6 0 l5.length l5.length), (1, .fn (.func del1_f) [] del1_c), (5, .int .i64 i3), (6, .int .i64 i4)], [(0, .arr 64 6 (List.map Reading.c l5))], H, 1, Tryz.f122.ntmps⟩
noncomputable def slices_DeleteFunc_api_Reading.x0 (H : Heap) : (Int × (List Reading)) → St := fun (s : Int × (List Reading)) => match s with
  | (i6, l7) => ⟨[(0, .loc 0 0 6 0 l7.length l7.length), (5, .int .i64 i6)], [(0, .arr 64 6 (List.map Reading.c l7))], H, 1, Tryz.f122.ntmps⟩
def slices_DeleteFunc_api_Reading (k : Nat) (s0 : (List Reading)) (del1 : Reading → Option (Bool)) : Option ((List Reading)) :=
  (slices_IndexFunc_api_Reading k s0 del1).bind fun x1 =>
  bif decide (x1 = (-1 : Int)) then
    some s0
  else
    (whl (slices_DeleteFunc_api_Reading.b0 k del1) k (x1, w64 (x1 + 1), s0)).bind fun r14 => match r14 with
    | .next _ => none
    | .ret v_ => some v_
    | .brk (i6, l7) =>
      (ls? l7.length i6).bind fun _ =>
      (hs? l7.length i6).bind fun _ =>
      some ((clr l7 i6.toNat (l7.length - i6.toNat) (⟨0, 0, 0, 0, (⟨0, 0⟩ : Range)⟩ : Reading)).take i6.toNat)
theorem slices_DeleteFunc_api_Reading_ok (k : Nat) (s0 : (List Reading)) (del1_f : Nat) (del1_c : List AV) (del1_i : Ice del1_c) (del1 : Reading → Option (Bool)) (del1_h : ∀ q0 qr, del1 q0 = some qr → PCall Tryz.prog del1_f (.agg (Reading.c q0) :: del1_c) (fun y => y = .bool qr)) (r : (List Reading)) (h0 : slices_DeleteFunc_api_Reading k s0 del1 = some r) : GCall Tryz.prog 122 [.loc 0 0 6 0 s0.length s0.length, .fn (.func del1_f) [] del1_c] [(0, .arr 64 6 (List.map Reading.c s0))] (fun y fr => y = .loc 0 0 6 0 r.length r.length ∧ fr = [(0, .arr 64 6 (List.map Reading.c r))]) := by
  have hr := GCall.own (et := 64) (sz := 6) (ls := List.map Reading.c r) (GCall.of_body T_ok (f := 122) (fn := Tryz.f122) (sc := F122.c) (args := [.loc 0 0 6 0 s0.length s0.length, .fn (.func del1_f) [] del1_c]) (fr0 := [(0, .arr 64 6 (List.map Reading.c s0))]) (by rfl) (by rfl) (by decide +kernel) (by rfl) (by decide +kernel) (Nat.le_of_ble_eq_true rfl) (fun H => ?_))
  · simpa only [List.length_map] using hr
  refine run_sound T_ok 1000 _ _ ?_
  simp only [slices_DeleteFunc_api_Reading] at h0
  try simp only [F122.c, del1_i.sh, del1_i.frz, del1_i.br, del1_i.refs, del1_i.imp, del1_i.ren, del1_i.un, go_sem]
  obtain ⟨x1, yx1, h0⟩ := bind_some h0
  refine AKev_call0 T_ok 1000 (slices_IndexFunc_api_Reading_ok k _ del1_f del1_c del1_i del1 del1_h _ yx1) ?_ (by first | rfl | simp [AV.refsL, AV.refs, AV.scal, AV.leaf, del1_i.refs]) ?_
  · try simp only [del1_i.sh, del1_i.frz, del1_i.br, del1_i.refs, del1_i.imp, del1_i.ren, del1_i.un, go_sem]
  try simp only [del1_i.sh, del1_i.frz, del1_i.br, del1_i.refs, del1_i.imp, del1_i.ren, del1_i.un, go_sem]
  refine AKev_bif h0 (fun c2 h0 => ?_) (fun c2 h0 => ?_)
  · try simp only [c2, del1_i.sh, del1_i.frz, del1_i.br, del1_i.refs, del1_i.imp, del1_i.ren, del1_i.un, go_sem]
    obtain rfl := Option.some.inj h0
    refine AKev_gret rfl ?_
    try simp only [F122.rs, oOK, Option.map_some, tupOf, cut0_map, cut_map, Nat.le_refl, List.take_length, del1_i.sh, del1_i.frz, del1_i.br, del1_i.refs, del1_i.imp, del1_i.ren, del1_i.un, c2, go_sem]
  · try simp only [c2, del1_i.sh, del1_i.frz, del1_i.br, del1_i.refs, del1_i.imp, del1_i.ren, del1_i.un, go_sem]
    obtain ⟨r14, yr14, h0⟩ := bind_some h0
    refine AKev_loopS yr14 (slices_DeleteFunc_api_Reading.h0 H del1_f del1_c) (slices_DeleteFunc_api_Reading.x0 H) ?_ ?_ ?_
    · refine Weak.go [0, 1, 5, 6] [0] rfl ?_
      try simp only [slices_DeleteFunc_api_Reading.h0, del1_i.sh, del1_i.frz, del1_i.br, del1_i.refs, del1_i.imp, del1_i.ren, del1_i.un, c2, go_sem]
    · rintro ⟨i3, i4, l5⟩ x_1 Bk1 Br1 h1 hnext1 hbrk1 hret1
      refine run_sound T_ok 1000 _ _ ?_
      simp only [slices_DeleteFunc_api_Reading.b0] at h1
      try simp only [F122.s0, slices_DeleteFunc_api_Reading.h0, del1_i.sh, del1_i.frz, del1_i.br, del1_i.refs, del1_i.imp, del1_i.ren, del1_i.un, c2, go_sem]
      refine AKev_bif h1 (fun c8 h1 => ?_) (fun c8 h1 => ?_)
      · try simp only [c8, del1_i.sh, del1_i.frz, del1_i.br, del1_i.refs, del1_i.imp, del1_i.ren, del1_i.un, c2, go_sem]
        obtain ⟨x9, yx9, h1⟩ := bind_some h1
        try simp only [at_in yx9, at_get Reading.c yx9, del1_i.sh, del1_i.frz, del1_i.br, del1_i.refs, del1_i.imp, del1_i.ren, del1_i.un, c2, c8, go_sem]
        obtain ⟨x10, yx10, h1⟩ := bind_some h1
        refine AKev_call0 T_ok 1000 (del1_h _ _ yx10) ?_ (by first | rfl | simp [AV.refsL, AV.refs, AV.scal, AV.leaf, del1_i.refs]) ?_
        · try simp only [del1_i.sh, del1_i.frz, del1_i.br, del1_i.refs, del1_i.imp, del1_i.ren, del1_i.un, c2, c8, at_in yx9, at_get Reading.c yx9, go_sem]
        try simp only [del1_i.sh, del1_i.frz, del1_i.br, del1_i.refs, del1_i.imp, del1_i.ren, del1_i.un, c2, c8, at_in yx9, at_get Reading.c yx9, go_sem]
        refine AKev_bif h1 (fun c11 h1 => ?_) (fun c11 h1 => ?_)
        · have c11 := bnot_t c11
          try simp only [c11, del1_i.sh, del1_i.frz, del1_i.br, del1_i.refs, del1_i.imp, del1_i.ren, del1_i.un, c2, c8, at_in yx9, at_get Reading.c yx9, go_sem]
          obtain ⟨x12, yx12, h1⟩ := bind_some h1
          try simp only [at_in yx12, at_get Reading.c yx12, del1_i.sh, del1_i.frz, del1_i.br, del1_i.refs, del1_i.imp, del1_i.ren, del1_i.un, c2, c8, at_in yx9, at_get Reading.c yx9, c11, go_sem]
          obtain ⟨l13, yl13, h1⟩ := bind_some h1
          have eyl13 := set_map Reading.c yl13
          simp only [go_sem] at eyl13
          try simp only [eyl13, del1_i.sh, del1_i.frz, del1_i.br, del1_i.refs, del1_i.imp, del1_i.ren, del1_i.un, c2, c8, at_in yx9, at_get Reading.c yx9, c11, at_in yx12, at_get Reading.c yx12, set_len yl13, set_take Reading.c yl13, go_sem]
          refine AKev_backB (hnext1 _ _ (Option.some.inj h1).symm ?_)
          refine Weak.go [0, 1, 5, 6] [0] rfl ?_
          try simp only [slices_DeleteFunc_api_Reading.h0, del1_i.sh, del1_i.frz, del1_i.br, del1_i.refs, del1_i.imp, del1_i.ren, del1_i.un, c2, c8, at_in yx9, at_get Reading.c yx9, c11, at_in yx12, at_get Reading.c yx12, eyl13, set_len yl13, set_take Reading.c yl13, go_sem]
        · have c11 := bnot_f c11
          try simp only [c11, del1_i.sh, del1_i.frz, del1_i.br, del1_i.refs, del1_i.imp, del1_i.ren, del1_i.un, c2, c8, at_in yx9, at_get Reading.c yx9, go_sem]
          refine AKev_backB (hnext1 _ _ (Option.some.inj h1).symm ?_)
          refine Weak.go [0, 1, 5, 6] [0] rfl ?_
          try simp only [slices_DeleteFunc_api_Reading.h0, del1_i.sh, del1_i.frz, del1_i.br, del1_i.refs, del1_i.imp, del1_i.ren, del1_i.un, c2, c8, at_in yx9, at_get Reading.c yx9, c11, go_sem]
      · try simp only [c8, del1_i.sh, del1_i.frz, del1_i.br, del1_i.refs, del1_i.imp, del1_i.ren, del1_i.un, c2, go_sem]
        refine AKev_backB (hbrk1 _ _ (Option.some.inj h1).symm ?_)
        refine Weak.go [0, 5] [0] rfl ?_
        try simp only [slices_DeleteFunc_api_Reading.x0, del1_i.sh, del1_i.frz, del1_i.br, del1_i.refs, del1_i.imp, del1_i.ren, del1_i.un, c2, c8, go_sem]
    · rintro ⟨i6, l7⟩ hr_
      subst hr_
      simp only at h0
      refine run_sound T_ok 1000 _ _ ?_
      try simp only [slices_DeleteFunc_api_Reading.x0, del1_i.sh, del1_i.frz, del1_i.br, del1_i.refs, del1_i.imp, del1_i.ren, del1_i.un, c2, go_sem]
      obtain ⟨u15, yu15, h0⟩ := bind_some h0
      have lyu15 := ls_le yu15
      have eq16 := clr_map Reading.c l7 i6.toNat (l7.length - i6.toNat) (⟨0, 0, 0, 0, (⟨0, 0⟩ : Range)⟩ : Reading)
      have lq16 : (clr l7 i6.toNat (l7.length - i6.toNat) (⟨0, 0, 0, 0, (⟨0, 0⟩ : Range)⟩ : Reading)).length = l7.length := by rw [clr_len] <;> simp only [del1_i.sh, del1_i.frz, del1_i.br, del1_i.refs, del1_i.imp, del1_i.ren, del1_i.un, c2, lyu15, go_sem]
      try simp only [go_sem] at eq16
      try simp only [ls_bounds yu15, lyu15, eq16, del1_i.sh, del1_i.frz, del1_i.br, del1_i.refs, del1_i.imp, del1_i.ren, del1_i.un, c2, lq16, go_sem]
      obtain ⟨u17, yu17, h0⟩ := bind_some h0
      have lyu17 := hs_le yu17
      try simp only [hs_bounds yu17, lyu17, del1_i.sh, del1_i.frz, del1_i.br, del1_i.refs, del1_i.imp, del1_i.ren, del1_i.un, c2, lyu15, lq16, go_sem]
      obtain rfl := Option.some.inj h0
      refine AKev_gret rfl ?_
      try simp only [F122.rs, oOK, Option.map_some, tupOf, cut0_map, cut_map, Nat.le_refl, List.take_length, del1_i.sh, del1_i.frz, del1_i.br, del1_i.refs, del1_i.imp, del1_i.ren, del1_i.un, c2, lyu15, lq16, lyu17, go_sem]
end Go.Abs
namespace Go.Abs
open Go.Proofs
set_option maxRecDepth 20000
set_option linter.unusedVariables false
set_option linter.unusedSimpArgs false
set_option maxHeartbeats 8000000
def F123.c : SC :=
 (.seq
  (.reg [⟨some 2, .box 64 (.tmp 0), 0, none, [0]⟩,
    ⟨some 3, .assign (.const (.bool false)), 4, none, [3]⟩])
  (.seq
   (.reg [⟨some 4, .load 109 (.tmp 1), 109, none, [1]⟩,
     ⟨some 5, .fieldAddr 64 (.tmp 2) 0, 0, none, [2]⟩,
     ⟨some 6, .load 3 (.tmp 5), 3, none, [5]⟩,
     ⟨some 7, .call ⟨.value (.tmp 4), #[.tmp 6], #[3]⟩, 4, none, [4, 6]⟩,
     ⟨some 3, .assign (.tmp 7), 4, none, [7]⟩])
   .ret))
theorem F123.rs : Tryz.f123.results.toList = [.tmp 3] := rfl
def heat_without_1 (k : Nat) (r0 : Reading) (c1 : Int → Option (Bool)) : Option (Bool) :=
  (c1 r0.Source).bind fun x1 =>
  some x1
theorem heat_without_1_ok (k : Nat) (r0 : Reading) (c1_f : Nat) (c1_c : List AV) (c1_i : Ice c1_c) (c1 : Int → Option (Bool)) (c1_h : ∀ q0 qr, c1 q0 = some qr → PCall Tryz.prog c1_f (.int .i64 q0 :: c1_c) (fun y => y = .bool qr)) (r : Bool) (h0 : heat_without_1 k r0 c1 = some r) : PCall Tryz.prog 123 [.agg (Reading.c r0), .rptr 1 [[.fn (.func c1_f) [] c1_c]] 0 0] (fun y => y = .bool r) := by
  refine PCall.nlr (PCall.of_body T_ok (fn := Tryz.f123) (sc := F123.c) (by rfl) (by rfl) (by decide +kernel) (by rfl) (by decide +kernel) (Nat.le_of_ble_eq_true rfl) ?_)
  refine run_sound T_ok 1000 _ _ ?_
  simp only [heat_without_1] at h0
  try simp only [F123.c, c1_i.sh, c1_i.frz, c1_i.br, c1_i.refs, c1_i.imp, c1_i.ren, c1_i.un, go_sem]
  obtain ⟨x1, yx1, h0⟩ := bind_some h0
  refine AKev_call0 T_ok 1000 (c1_h _ _ yx1) ?_ (by first | rfl | simp [AV.refsL, AV.refs, AV.scal, AV.leaf, c1_i.refs]) ?_
  · try simp only [c1_i.sh, c1_i.frz, c1_i.br, c1_i.refs, c1_i.imp, c1_i.ren, c1_i.un, go_sem]
  try simp only [c1_i.sh, c1_i.frz, c1_i.br, c1_i.refs, c1_i.imp, c1_i.ren, c1_i.un, go_sem]
  obtain rfl := Option.some.inj h0
  refine AKev_ret rfl ?_
  try simp only [F123.rs, c1_i.sh, c1_i.frz, c1_i.br, c1_i.refs, c1_i.imp, c1_i.ren, c1_i.un, go_sem]
end Go.Abs
namespace Go.Abs
open Go.Proofs
set_option maxRecDepth 20000
set_option linter.unusedVariables false
set_option linter.unusedSimpArgs false
set_option maxHeartbeats 8000000
def F80.c : SC :=
 (.seq
  (.reg [⟨some 2, .box 27 (.tmp 0), 0, none, [0]⟩,
    ⟨some 3, .box 109 (.tmp 1), 0, none, [1]⟩,
    ⟨some 4, .alloc 27, 0, none, []⟩])
  (.seq
   (.dreg [⟨some 5, .fieldAddr 27 (.tmp 2) 0, 0, none, []⟩,
     ⟨some 6, .load 24 (.tmp 5), 24, none, []⟩,
     ⟨some 7, .call ⟨.value (.func 88), #[.tmp 6], #[24]⟩, 24, none, []⟩,
     ⟨some 8, .fieldAddr 27 (.tmp 2) 1, 0, none, []⟩,
     ⟨some 9, .load 25 (.tmp 8), 25, none, []⟩,
     ⟨some 10, .call ⟨.value (.func 89), #[.tmp 9], #[25]⟩, 25, none, []⟩,
     ⟨some 11, .makeFunc (.func 123) #[] #[.tmp 3], 149, none, []⟩,
     ⟨some 12, .call ⟨.value (.func 122), #[.tmp 10, .tmp 11], #[25, 149]⟩, 25, none, []⟩,
     ⟨some 13, .build 27 #[(0, .tmp 7), (1, .tmp 12)], 27, none, []⟩,
     ⟨none, .store 27 (.tmp 4) (.tmp 13), 0, none, []⟩] [[], [0], [0, 1], [], [3], [3, 4, 0, 1, 2], [], [3, 4, 0, 1, 2, 5, 6], [0, 1, 2, 3, 4, 5, 6, 7], [0, 1, 2, 3, 4, 5, 6, 7, 8]] [2, 3, 5, 6, 7, 8, 9, 10, 11, 12, 13])
   .ret))
theorem F80.rs : Tryz.f80.results.toList = [.cell 4 27] := rfl
def heat_without (k : Nat) (f0 : Firing) (gone1 : Int → Option (Bool)) : Option (Firing) :=
  (heat_kilnCopy k f0.Kiln).bind fun x1 =>
  (slices_Clone_api_Reading k f0.Readings).bind fun x3 =>
  (slices_DeleteFunc_api_Reading k x3 (fun q0 => heat_without_1 k q0 gone1)).bind fun x5 =>
  some (⟨x1, x5⟩ : Firing)
theorem heat_without_ok (k : Nat) (f0 : Firing) (gone1_f : Nat) (gone1_c : List AV) (gone1_i : Ice gone1_c) (gone1 : Int → Option (Bool)) (gone1_h : ∀ q0 qr, gone1 q0 = some qr → PCall Tryz.prog gone1_f (.int .i64 q0 :: gone1_c) (fun y => y = .bool qr)) (r : Firing) (h0 : heat_without k f0 gone1 = some r) : PCall Tryz.prog 80 [.agg (Firing.c f0), .fn (.func gone1_f) [] gone1_c] (fun y => y = .agg (Firing.c r)) := by
  refine PCall.nlr (PCall.of_body T_ok (fn := Tryz.f80) (sc := F80.c) (by rfl) (by rfl) (by decide +kernel) (by rfl) (by decide +kernel) (Nat.le_of_ble_eq_true rfl) ?_)
  refine run_sound T_ok 1000 _ _ ?_
  simp only [heat_without] at h0
  try simp only [F80.c, gone1_i.sh, gone1_i.frz, gone1_i.br, gone1_i.refs, gone1_i.imp, gone1_i.ren, gone1_i.un, go_sem]
  refine AKev_region T_ok follows_ok 1000 ?_
  try simp only [gone1_i.sh, gone1_i.frz, gone1_i.br, gone1_i.refs, gone1_i.imp, gone1_i.ren, gone1_i.un, go_sem]
  obtain ⟨x1, yx1, h0⟩ := bind_some h0
  refine DG_call0 1000 (heat_kilnCopy_ok k _ _ yx1) ?_ (by first | rfl | simp [AV.refsL, AV.refs, AV.scal, AV.leaf, gone1_i.refs]) ?_
  · try simp only [gone1_i.sh, gone1_i.frz, gone1_i.br, gone1_i.refs, gone1_i.imp, gone1_i.ren, gone1_i.un, go_sem]
  try simp only [gone1_i.sh, gone1_i.frz, gone1_i.br, gone1_i.refs, gone1_i.imp, gone1_i.ren, gone1_i.un, go_sem]
  obtain ⟨x3, yx3, h0⟩ := bind_some h0
  refine DG_give 1000 [] [] (slices_Clone_api_Reading_ok k _ _ yx3) ?_ rfl ?_
  · try simp only [gOK, List.length_map, gone1_i.sh, gone1_i.frz, gone1_i.br, gone1_i.refs, gone1_i.imp, gone1_i.ren, gone1_i.un, go_sem]
  try simp only [gone1_i.sh, gone1_i.frz, gone1_i.br, gone1_i.refs, gone1_i.imp, gone1_i.ren, gone1_i.un, go_sem]
  obtain ⟨x5, yx5, h0⟩ := bind_some h0
  refine DG_give 1000 [16] [128] (slices_DeleteFunc_api_Reading_ok k _ 123 [.rptr 1 [[.fn (.func gone1_f) [] gone1_c]] 0 0] ⟨fun _ => rfl, fun _ => rfl, fun _ _ => rfl, rfl, fun _ => rfl, fun _ => rfl, fun _ => rfl⟩ (fun q0 => heat_without_1 k q0 gone1) (fun q0 qr qh => heat_without_1_ok k q0 gone1_f gone1_c gone1_i gone1 gone1_h qr qh) _ yx5) ?_ rfl ?_
  · try simp only [gOK, List.length_map, gone1_i.sh, gone1_i.frz, gone1_i.br, gone1_i.refs, gone1_i.imp, gone1_i.ren, gone1_i.un, go_sem]
  try simp only [gone1_i.sh, gone1_i.frz, gone1_i.br, gone1_i.refs, gone1_i.imp, gone1_i.ren, gone1_i.un, go_sem]
  refine DG_done ⟨rfl, run_sound T_ok 1000 _ _ ?_⟩
  try simp only [gone1_i.sh, gone1_i.frz, gone1_i.br, gone1_i.refs, gone1_i.imp, gone1_i.ren, gone1_i.un, go_sem]
  obtain rfl := Option.some.inj h0
  refine AKev_ret rfl ?_
  try simp only [F80.rs, gone1_i.sh, gone1_i.frz, gone1_i.br, gone1_i.refs, gone1_i.imp, gone1_i.ren, gone1_i.un, go_sem]
end Go.Abs
namespace Go.Abs
open Go.Proofs
set_option maxRecDepth 20000
set_option linter.unusedVariables false
set_option linter.unusedSimpArgs false
set_option maxHeartbeats 8000000
def F120.s0 : SC :=
 (.seq
  (.reg [⟨some 9, .binOp .lss 3 (.tmp 8) (.tmp 7) 3, 0, none, []⟩])
  (.seq
   (.cond (.tmp 9)
    .skip
    (.exit 0))
   (.seq
    (.block 1
     (.seq
      (.reg [⟨some 10, .move (.tmp 8), 3, none, []⟩,
        ⟨some 5, .assign (.tmp 10), 3, none, [10]⟩])
      (.seq
       (.reg [⟨some 11, .move (.tmp 1), 3, none, []⟩,
         ⟨some 12, .move (.tmp 0), 37, none, []⟩,
         ⟨some 13, .move (.tmp 5), 3, none, []⟩,
         ⟨some 14, .indexAddr 37 (.tmp 12) (.tmp 13), 0, none, [12, 13]⟩,
         ⟨some 15, .load 3 (.tmp 14), 3, none, [14]⟩,
         ⟨some 16, .binOp .eql 3 (.tmp 11) (.tmp 15) 3, 4, none, [11, 15]⟩])
       (.cond (.tmp 16)
        (.seq
         (.reg [⟨some 17, .move (.tmp 5), 3, none, [5]⟩,
           ⟨some 4, .assign (.tmp 17), 3, none, [17]⟩])
         .ret)
        .skip))))
    (.reg [⟨some 18, .binOp .add 3 (.tmp 8) (.const (.int .i64 1)) 3, 3, none, [8]⟩,
      ⟨some 8, .move (.tmp 18), 3, none, [18]⟩]))))
def F120.c : SC :=
 (.seq
  (.reg [⟨some 4, .assign (.const (.int .i64 0)), 3, none, [4]⟩])
  (.seq
   (.seq
    (.reg [⟨some 6, .move (.tmp 0), 37, none, []⟩,
      ⟨some 7, .call ⟨.builtin .len, #[.tmp 6], #[37]⟩, 3, none, [6]⟩,
      ⟨some 8, .move (.const (.int .i64 0)), 3, none, []⟩])
    (.block 0
     (.loop F120.s0)))
   (.seq
    (.reg [⟨some 4, .assign (.const (.int .i64 (-1))), 3, none, []⟩])
    .ret)))
theorem F120.rs : Tryz.f120.results.toList = [.tmp 4] := rfl
def slices_Index_int.b0 (k : Nat) (s0 : (List Int)) (v1 : Int) : Int → Option (Stp (Int) (Unit) (Int)) := fun (i1 : Int) => 
  bif decide (i1 < (s0.length : Int)) then
    (at? s0 i1).bind fun x3 =>
    bif decide (v1 = x3) then
      some (.ret i1)
    else
      some (.next (w64 (i1 + 1)))
  else
    some (.brk ())
noncomputable def slices_Index_int.h0 (s0 : (List Int)) (v1 : Int) : Int → St := fun (i1 : Int) => ⟨[(0, .sl 1 (List.map eI s0)), (1, .int .i64 v1), (7, .int .i64 (s0.length : Int)), (8, .int .i64 i1)], [], [], 1, Tryz.f120.ntmps⟩
noncomputable def slices_Index_int.x0 : Unit → St := fun (_ : Unit) => ⟨[], [], [], 1, Tryz.f120.ntmps⟩
def slices_Index_int (k : Nat) (s0 : (List Int)) (v1 : Int) : Option (Int) :=
  (whl (slices_Index_int.b0 k s0 v1) k 0).bind fun r5 => match r5 with
  | .next _ => none
  | .ret v_ => some v_
  | .brk _ =>
    some (-1)
theorem slices_Index_int_ok (k : Nat) (s0 : (List Int)) (v1 : Int) (r : Int) (h0 : slices_Index_int k s0 v1 = some r) : PCall Tryz.prog 120 [.sl 1 (List.map eI s0), .int .i64 v1] (fun y => y = .int .i64 r) := by
  refine PCall.nlr (PCall.of_body T_ok (fn := Tryz.f120) (sc := F120.c) (by rfl) (by rfl) (by decide +kernel) (by rfl) (by decide +kernel) (Nat.le_of_ble_eq_true rfl) ?_)
  refine run_sound T_ok 1000 _ _ ?_
  simp only [slices_Index_int] at h0
  try simp only [F120.c, go_sem]
  obtain ⟨r5, yr5, h0⟩ := bind_some h0
  refine AKev_loopS yr5 (slices_Index_int.h0 s0 v1) (slices_Index_int.x0) ?_ ?_ ?_
  · refine Weak.go [0, 1, 7, 8] [] rfl ?_
    try simp only [slices_Index_int.h0, go_sem]
  · rintro i1 x_1 Bk1 Br1 h1 hnext1 hbrk1 hret1
    refine run_sound T_ok 1000 _ _ ?_
    simp only [slices_Index_int.b0] at h1
    try simp only [F120.s0, slices_Index_int.h0, go_sem]
    refine AKev_bif h1 (fun c2 h1 => ?_) (fun c2 h1 => ?_)
    · try simp only [c2, go_sem]
      obtain ⟨x3, yx3, h1⟩ := bind_some h1
      try simp only [at_in yx3, at_get eI yx3, c2, go_sem]
      refine AKev_bif h1 (fun c4 h1 => ?_) (fun c4 h1 => ?_)
      · try simp only [c4, c2, at_in yx3, at_get eI yx3, go_sem]
        obtain rfl := hret1 _ (Option.some.inj h1).symm
        simp only at h0
        obtain rfl := Option.some.inj h0
        refine AKev_ret rfl ?_
        try simp only [F120.rs, c2, at_in yx3, at_get eI yx3, c4, go_sem]
      · try simp only [c4, c2, at_in yx3, at_get eI yx3, go_sem]
        refine AKev_backB (hnext1 _ _ (Option.some.inj h1).symm ?_)
        refine Weak.go [0, 1, 7, 8] [] rfl ?_
        try simp only [slices_Index_int.h0, c2, at_in yx3, at_get eI yx3, c4, go_sem]
    · try simp only [c2, go_sem]
      refine AKev_backB (hbrk1 _ _ (Option.some.inj h1).symm ?_)
      refine Weak.go [] [] rfl ?_
      try simp only [slices_Index_int.x0, c2, go_sem]
  · rintro _ hr_
    subst hr_
    simp only at h0
    refine run_sound T_ok 1000 _ _ ?_
    try simp only [slices_Index_int.x0, go_sem]
    obtain rfl := Option.some.inj h0
    refine AKev_ret rfl ?_
    try simp only [F120.rs, go_sem]
end Go.Abs
namespace Go.Abs
open Go.Proofs
set_option maxRecDepth 20000
set_option linter.unusedVariables false
set_option linter.unusedSimpArgs false
set_option maxHeartbeats 8000000
def F74.c : SC :=
 (.seq
  (.reg [⟨some 4, .assign (.const (.bool false)), 4, none, [4]⟩])
  (.seq
   (.reg [⟨some 5, .move (.tmp 0), 37, none, [0]⟩,
     ⟨some 6, .move (.tmp 1), 3, none, [1]⟩,
     ⟨some 7, .call ⟨.value (.func 120), #[.tmp 5, .tmp 6], #[37, 3]⟩, 3, none, [5, 6]⟩,
     ⟨some 8, .binOp .geq 3 (.tmp 7) (.const (.int .i64 0)) 3, 4, none, [7]⟩,
     ⟨some 4, .assign (.tmp 8), 4, none, [8]⟩])
   .ret))
theorem F74.rs : Tryz.f74.results.toList = [.tmp 4] := rfl
def slices_Contains_int (k : Nat) (s0 : (List Int)) (v1 : Int) : Option (Bool) :=
  (slices_Index_int k s0 v1).bind fun x1 =>
  some (decide ((0 : Int) ≤ x1))
theorem slices_Contains_int_ok (k : Nat) (s0 : (List Int)) (v1 : Int) (r : Bool) (h0 : slices_Contains_int k s0 v1 = some r) : PCall Tryz.prog 74 [.sl 1 (List.map eI s0), .int .i64 v1] (fun y => y = .bool r) := by
  refine PCall.nlr (PCall.of_body T_ok (fn := Tryz.f74) (sc := F74.c) (by rfl) (by rfl) (by decide +kernel) (by rfl) (by decide +kernel) (Nat.le_of_ble_eq_true rfl) ?_)
  refine run_sound T_ok 1000 _ _ ?_
  simp only [slices_Contains_int] at h0
  try simp only [F74.c, go_sem]
  obtain ⟨x1, yx1, h0⟩ := bind_some h0
  refine AKev_call0 T_ok 1000 (slices_Index_int_ok k _ _ _ yx1) ?_ (by first | rfl | simp [AV.refsL, AV.refs, AV.scal, AV.leaf]) ?_
  · try simp only [go_sem]
  try simp only [go_sem]
  obtain rfl := Option.some.inj h0
  refine AKev_ret rfl ?_
  try simp only [F74.rs, go_sem]
end Go.Abs
namespace Go.Abs
open Go.Proofs
set_option maxRecDepth 20000
set_option linter.unusedVariables false
set_option linter.unusedSimpArgs false
set_option maxHeartbeats 8000000
def F118.c : SC :=
 (.seq
  (.reg [⟨some 3, .assign (.const (.bool false)), 4, none, [3]⟩])
  (.seq
   (.reg [⟨some 4, .load 37 (.tmp 1), 37, none, [1]⟩,
     ⟨some 5, .move (.tmp 0), 3, none, [0]⟩,
     ⟨some 6, .call ⟨.value (.func 74), #[.tmp 4, .tmp 5], #[37, 3]⟩, 4, none, [4, 5]⟩,
     ⟨some 7, .unOp .not 4 (.tmp 6), 4, none, [6]⟩,
     ⟨some 3, .assign (.tmp 7), 4, none, [7]⟩])
   .ret))
theorem F118.rs : Tryz.f118.results.toList = [.tmp 3] := rfl
def heat_only_1 (k : Nat) (n0 : Int) (c1 : (List Int)) : Option (Bool) :=
  (slices_Contains_int k c1 n0).bind fun x1 =>
  some (!x1)
theorem heat_only_1_ok (k : Nat) (n0 : Int) (c1 : (List Int)) (r : Bool) (h0 : heat_only_1 k n0 c1 = some r) : PCall Tryz.prog 118 [.int .i64 n0, .rptr 1 [(eL 1 eI) c1] 0 0] (fun y => y = .bool r) := by
  refine PCall.nlr (PCall.of_body T_ok (fn := Tryz.f118) (sc := F118.c) (by rfl) (by rfl) (by decide +kernel) (by rfl) (by decide +kernel) (Nat.le_of_ble_eq_true rfl) ?_)
  refine run_sound T_ok 1000 _ _ ?_
  simp only [heat_only_1] at h0
  try simp only [F118.c, go_sem]
  obtain ⟨x1, yx1, h0⟩ := bind_some h0
  refine AKev_call0 T_ok 1000 (slices_Contains_int_ok k _ _ _ yx1) ?_ (by first | rfl | simp [AV.refsL, AV.refs, AV.scal, AV.leaf]) ?_
  · try simp only [go_sem]
  try simp only [go_sem]
  obtain rfl := Option.some.inj h0
  refine AKev_ret rfl ?_
  try simp only [F118.rs, go_sem]
end Go.Abs
namespace Go.Abs
open Go.Proofs
set_option maxRecDepth 20000
set_option linter.unusedVariables false
set_option linter.unusedSimpArgs false
set_option maxHeartbeats 8000000
def F70.c : SC :=
 (.seq
  (.reg [⟨some 2, .box 27 (.tmp 0), 0, none, [0]⟩,
    ⟨some 3, .box 37 (.tmp 1), 0, none, [1]⟩,
    ⟨some 4, .alloc 81, 0, none, []⟩])
  (.seq
   (.reg [⟨some 5, .load 27 (.tmp 2), 27, none, [2]⟩,
     ⟨some 6, .makeFunc (.func 118) #[] #[.tmp 3], 109, none, [3]⟩,
     ⟨some 7, .call ⟨.value (.func 80), #[.tmp 5, .tmp 6], #[27, 109]⟩, 27, none, [5, 6]⟩,
     ⟨some 8, .call ⟨.value (.func 66), #[.tmp 7], #[27]⟩, 81, none, [7]⟩,
     ⟨none, .store 81 (.tmp 4) (.tmp 8), 0, none, [8]⟩])
   .ret))
theorem F70.rs : Tryz.f70.results.toList = [.cell 4 81] := rfl
def heat_only (k : Nat) (f0 : Firing) (by1 : (List Int)) : Option (heat_furnace) :=
  (heat_without k f0 (fun q0 => heat_only_1 k q0 by1)).bind fun x1 =>
  (heat_newFurnace k x1).bind fun x2 =>
  some x2
theorem heat_only_ok (k : Nat) (f0 : Firing) (by1 : (List Int)) (r : heat_furnace) (h0 : heat_only k f0 by1 = some r) : PCall Tryz.prog 70 [.agg (Firing.c f0), .sl 1 (List.map eI by1)] (fun y => y = .agg (heat_furnace.c r)) := by
  refine PCall.nlr (PCall.of_body T_ok (fn := Tryz.f70) (sc := F70.c) (by rfl) (by rfl) (by decide +kernel) (by rfl) (by decide +kernel) (Nat.le_of_ble_eq_true rfl) ?_)
  refine run_sound T_ok 1000 _ _ ?_
  simp only [heat_only] at h0
  try simp only [F70.c, go_sem]
  obtain ⟨x1, yx1, h0⟩ := bind_some h0
  refine AKev_take T_ok 1000 [16] (heat_without_ok k _ 118 [.rptr 1 [(eL 1 eI) by1] 0 0] ⟨fun _ => rfl, fun _ => rfl, fun _ _ => rfl, rfl, fun _ => rfl, fun _ => rfl, fun _ => rfl⟩ (fun q0 => heat_only_1 k q0 by1) (fun q0 qr qh => heat_only_1_ok k q0 _ qr qh) _ yx1) ?_ ?_
  · try simp only [go_sem]
  try simp only [go_sem]
  obtain ⟨x2, yx2, h0⟩ := bind_some h0
  refine AKev_call0 T_ok 1000 (heat_newFurnace_ok k _ _ yx2) ?_ (by first | rfl | simp [AV.refsL, AV.refs, AV.scal, AV.leaf]) ?_
  · try simp only [go_sem]
  try simp only [go_sem]
  obtain rfl := Option.some.inj h0
  refine AKev_ret rfl ?_
  try simp only [F70.rs, go_sem]
end Go.Abs
namespace Go.Abs
open Go.Proofs
set_option maxRecDepth 20000
set_option linter.unusedVariables false
set_option linter.unusedSimpArgs false
set_option maxHeartbeats 8000000
def F16.s0 : SC :=
 (.seq
  (.seq
   (.reg [⟨some 21, .move (.tmp 5), 3, none, []⟩,
     ⟨some 22, .binOp .geq 3 (.tmp 21) (.const (.int .i64 0)) 3, 4, none, [21]⟩])
   (.cond (.tmp 22)
    .skip
    (.exit 1)))
  (.seq
   (.block 2
    (.seq
     (.reg [⟨some 25, .move (.tmp 4), 37, none, []⟩,
       ⟨some 26, .call ⟨.value (.func 69), #[.tmp 25], #[37]⟩, 37, none, [25]⟩,
       ⟨some 27, .move (.tmp 5), 3, none, []⟩,
       ⟨some 28, .move (.tmp 5), 3, none, []⟩,
       ⟨some 29, .binOp .add 3 (.tmp 28) (.const (.int .i64 1)) 3, 3, none, [28]⟩,
       ⟨some 30, .call ⟨.value (.func 68), #[.tmp 26, .tmp 27, .tmp 29], #[37, 3, 3]⟩, 37, none, [26, 27, 29]⟩,
       ⟨some 6, .assign (.tmp 30), 37, none, [30]⟩])
     (.seq
      (.reg [⟨some 31, .load 27 (.tmp 1), 27, none, []⟩,
        ⟨some 32, .move (.tmp 6), 37, none, []⟩,
        ⟨some 33, .call ⟨.value (.func 70), #[.tmp 31, .tmp 32], #[27, 37]⟩, 81, none, [31, 32]⟩,
        ⟨some 34, .call ⟨.value (.func 53), #[.tmp 33], #[81]⟩, 4, none, [33]⟩,
        ⟨some 35, .unOp .not 4 (.tmp 34), 4, none, [34]⟩])
      (.cond (.tmp 35)
       (.reg [⟨some 36, .move (.tmp 6), 37, none, [6]⟩,
         ⟨some 4, .assign (.tmp 36), 37, none, [36]⟩])
       .skip))))
   (.reg [⟨some 23, .move (.tmp 5), 3, none, [5]⟩,
     ⟨some 24, .binOp .sub 3 (.tmp 23) (.const (.int .i64 1)) 3, 3, none, [23]⟩,
     ⟨some 5, .assign (.tmp 24), 3, none, [24]⟩])))
def F16.c : SC :=
 (.seq
  (.reg [⟨some 1, .box 27 (.tmp 0), 0, none, [0]⟩,
    ⟨some 2, .assign (.const (.slice none 0 0)), 37, none, [2]⟩,
    ⟨some 3, .assign (.const (.int .i64 0)), 33, none, [3]⟩])
  (.seq
   (.block 0
    (.seq
     (.reg [⟨some 8, .load 27 (.tmp 1), 27, none, []⟩,
       ⟨some 9, .call ⟨.value (.func 42), #[.tmp 8], #[27]⟩, 33, none, [8]⟩,
       ⟨some 10, .binOp .neq 33 (.tmp 9) (.const (.int .i64 0)) 33, 4, none, [9]⟩,
       ⟨some 7, .assign (.tmp 10), 4, none, [10]⟩])
     (.cond (.tmp 7)
      (.seq
       (.reg [⟨some 2, .assign (.const (.slice none 0 0)), 37, none, []⟩,
         ⟨some 3, .assign (.const (.int .i64 42)), 33, none, []⟩])
       .ret)
      (.seq
       (.reg [⟨some 12, .load 27 (.tmp 1), 27, none, []⟩,
         ⟨some 13, .call ⟨.value (.func 66), #[.tmp 12], #[27]⟩, 81, none, [12]⟩,
         ⟨some 14, .call ⟨.value (.func 53), #[.tmp 13], #[81]⟩, 4, none, [13]⟩,
         ⟨some 11, .assign (.tmp 14), 4, none, [14]⟩])
       (.cond (.tmp 11)
        (.seq
         (.reg [⟨some 2, .assign (.const (.slice none 0 0)), 37, none, []⟩,
           ⟨some 3, .assign (.const (.int .i64 3)), 33, none, []⟩])
         .ret)
        .skip)))))
   (.seq
    (.reg [⟨some 15, .fieldAddr 27 (.tmp 1) 1, 0, none, []⟩,
      ⟨some 16, .load 25 (.tmp 15), 25, none, [15]⟩,
      ⟨some 17, .call ⟨.value (.func 67), #[.tmp 16], #[25]⟩, 37, none, [16]⟩,
      ⟨some 4, .assign (.tmp 17), 37, none, [17]⟩])
    (.seq
     (.seq
      (.reg [⟨some 18, .move (.tmp 4), 37, none, []⟩,
        ⟨some 19, .call ⟨.builtin .len, #[.tmp 18], #[37]⟩, 3, none, [18]⟩,
        ⟨some 20, .binOp .sub 3 (.tmp 19) (.const (.int .i64 1)) 3, 3, none, [19]⟩,
        ⟨some 5, .assign (.tmp 20), 3, none, [20]⟩])
      (.block 1
       (.loop F16.s0)))
     (.seq
      (.reg [⟨some 37, .move (.tmp 4), 37, none, [4]⟩,
        ⟨some 2, .assign (.tmp 37), 37, none, [37]⟩,
        ⟨some 3, .assign (.const (.int .i64 0)), 33, none, []⟩])
      .ret)))))
theorem F16.rs : Tryz.f16.results.toList = [.tmp 2, .tmp 3] := rfl
def heat_Conflict.b0 (k : Nat) (f0 : Firing) : ((List Int) × Int) → Option (Stp ((List Int) × Int) ((List Int)) ((List Int) × Int)) := fun (s : (List Int) × Int) => match s with
  | (l7, i8) => 
      bif decide ((0 : Int) ≤ i8) then
        (slices_Clone_int k l7).bind fun x12 =>
        (slices_Delete_int k x12 i8 (w64 (i8 + 1))).bind fun x14 =>
        (heat_only k f0 x14).bind fun x15 =>
        (heat_furnace_sound k x15).bind fun x16 =>
        bif (!x16) then
          some (.next (x14, w64 (i8 - 1)))
        else
          some (.next (l7, w64 (i8 - 1)))
      else
        some (.brk l7)
noncomputable def heat_Conflict.h0 (f0 : Firing) : ((List Int) × Int) → St := fun (s : (List Int) × Int) => match s with
  | (l7, i8) => ⟨[(1, .ptr 0 0 0), (4, .sl 1 (List.map eI l7)), (5, .int .i64 i8)], [(0, .box [.sl 1 (List.map (eL 2 Range.c) f0.Kiln.Falls), .sl 6 (List.map Reading.c f0.Readings)])], [], 1, Tryz.f16.ntmps⟩
noncomputable def heat_Conflict.x0 : (List Int) → St := fun (l9 : (List Int)) => ⟨[(4, .sl 1 (List.map eI l9))], [], [], 1, Tryz.f16.ntmps⟩
def heat_Conflict (k : Nat) (f0 : Firing) : Option ((List Int) × Int) :=
  (heat_Check k f0).bind fun x1 =>
  bif (!decide (x1 = (0 : Int))) then
    some ([], 42)
  else
    (heat_newFurnace k f0).bind fun x3 =>
    (heat_furnace_sound k x3).bind fun x4 =>
    bif x4 then
      some ([], 3)
    else
      (heat_sources k f0.Readings).bind fun x6 =>
      (whl (heat_Conflict.b0 k f0) k (x6, w64 ((x6.length : Int) - 1))).bind fun r18 => match r18 with
      | .next _ => none
      | .ret v_ => some v_
      | .brk l9 =>
        some (l9, 0)
theorem heat_Conflict_ok (k : Nat) (f0 : Firing) (r : (List Int) × Int) (h0 : heat_Conflict k f0 = some r) : PCall Tryz.prog 16 [.agg (Firing.c f0)] (fun y => y = .tup [.sl 1 (List.map eI r.1), .int .i64 r.2]) := by
  refine PCall.nlr (PCall.of_body T_ok (fn := Tryz.f16) (sc := F16.c) (by rfl) (by rfl) (by decide +kernel) (by rfl) (by decide +kernel) (Nat.le_of_ble_eq_true rfl) ?_)
  refine run_sound T_ok 1000 _ _ ?_
  simp only [heat_Conflict] at h0
  try simp only [F16.c, go_sem]
  obtain ⟨x1, yx1, h0⟩ := bind_some h0
  refine AKev_call0 T_ok 1000 (heat_Check_ok k _ _ yx1) ?_ (by first | rfl | simp [AV.refsL, AV.refs, AV.scal, AV.leaf]) ?_
  · try simp only [go_sem]
  try simp only [go_sem]
  refine AKev_bif h0 (fun c2 h0 => ?_) (fun c2 h0 => ?_)
  · have c2 := bnot_t c2
    try simp only [c2, go_sem]
    obtain rfl := Option.some.inj h0
    refine AKev_ret rfl ?_
    try simp only [F16.rs, c2, go_sem]
  · have c2 := bnot_f c2
    try simp only [c2, go_sem]
    obtain ⟨x3, yx3, h0⟩ := bind_some h0
    refine AKev_call0 T_ok 1000 (heat_newFurnace_ok k _ _ yx3) ?_ (by first | rfl | simp [AV.refsL, AV.refs, AV.scal, AV.leaf]) ?_
    · try simp only [c2, go_sem]
    try simp only [c2, go_sem]
    obtain ⟨x4, yx4, h0⟩ := bind_some h0
    refine AKev_call0 T_ok 1000 (heat_furnace_sound_ok k _ _ yx4) ?_ (by first | rfl | simp [AV.refsL, AV.refs, AV.scal, AV.leaf]) ?_
    · try simp only [c2, go_sem]
    try simp only [c2, go_sem]
    refine AKev_bif h0 (fun c5 h0 => ?_) (fun c5 h0 => ?_)
    · try simp only [c5, c2, go_sem]
      obtain rfl := Option.some.inj h0
      refine AKev_ret rfl ?_
      try simp only [F16.rs, c2, c5, go_sem]
    · try simp only [c5, c2, go_sem]
      obtain ⟨x6, yx6, h0⟩ := bind_some h0
      refine AKev_call0 T_ok 1000 (heat_sources_ok k _ _ yx6) ?_ (by first | rfl | simp [AV.refsL, AV.refs, AV.scal, AV.leaf]) ?_
      · try simp only [c2, c5, go_sem]
      try simp only [c2, c5, go_sem]
      obtain ⟨r18, yr18, h0⟩ := bind_some h0
      refine AKev_loopS yr18 (heat_Conflict.h0 f0) (heat_Conflict.x0) ?_ ?_ ?_
      · refine Weak.go [1, 4, 5] [0] rfl ?_
        try simp only [heat_Conflict.h0, c2, c5, go_sem]
      · rintro ⟨l7, i8⟩ x_1 Bk1 Br1 h1 hnext1 hbrk1 hret1
        refine run_sound T_ok 1000 _ _ ?_
        simp only [heat_Conflict.b0] at h1
        try simp only [F16.s0, heat_Conflict.h0, c2, c5, go_sem]
        refine AKev_bif h1 (fun c10 h1 => ?_) (fun c10 h1 => ?_)
        · try simp only [c10, c2, c5, go_sem]
          obtain ⟨x12, yx12, h1⟩ := bind_some h1
          refine AKev_give T_ok 1000 [] [] (slices_Clone_int_ok k _ _ yx12) ?_ rfl ?_
          · try simp only [gOK, List.length_map, c2, c5, c10, go_sem]
          try simp only [c2, c5, c10, go_sem]
          obtain ⟨x14, yx14, h1⟩ := bind_some h1
          refine AKev_giveF [] [49] (slices_Delete_int_ok k _ _ _ _ yx14) ?_ rfl ?_
          · try simp only [gOK, List.length_map, c2, c5, c10, go_sem]
          try simp only [c2, c5, c10, go_sem]
          refine AK.fz 1000 T_ok 113 rfl (fun _ h => by cases h) ?_
          try simp only [c2, c5, c10, go_sem]
          obtain ⟨x15, yx15, h1⟩ := bind_some h1
          refine AKev_call0 T_ok 1000 (heat_only_ok k _ _ _ yx15) ?_ (by first | rfl | simp [AV.refsL, AV.refs, AV.scal, AV.leaf]) ?_
          · try simp only [c2, c5, c10, go_sem]
          try simp only [c2, c5, c10, go_sem]
          obtain ⟨x16, yx16, h1⟩ := bind_some h1
          refine AKev_call0 T_ok 1000 (heat_furnace_sound_ok k _ _ yx16) ?_ (by first | rfl | simp [AV.refsL, AV.refs, AV.scal, AV.leaf]) ?_
          · try simp only [c2, c5, c10, go_sem]
          try simp only [c2, c5, c10, go_sem]
          refine AKev_bif h1 (fun c17 h1 => ?_) (fun c17 h1 => ?_)
          · have c17 := bnot_t c17
            try simp only [c17, c2, c5, c10, go_sem]
            refine AKev_backB (hnext1 _ _ (Option.some.inj h1).symm ?_)
            refine Weak.go [1, 4, 5] [0] rfl ?_
            try simp only [heat_Conflict.h0, c2, c5, c10, c17, go_sem]
          · have c17 := bnot_f c17
            try simp only [c17, c2, c5, c10, go_sem]
            refine AKev_backB (hnext1 _ _ (Option.some.inj h1).symm ?_)
            refine Weak.go [1, 4, 5] [0] rfl ?_
            try simp only [heat_Conflict.h0, c2, c5, c10, c17, go_sem]
        · try simp only [c10, c2, c5, go_sem]
          refine AKev_backB (hbrk1 _ _ (Option.some.inj h1).symm ?_)
          refine Weak.go [4] [] rfl ?_
          try simp only [heat_Conflict.x0, c2, c5, c10, go_sem]
      · rintro l9 hr_
        subst hr_
        simp only at h0
        refine run_sound T_ok 1000 _ _ ?_
        try simp only [heat_Conflict.x0, c2, c5, go_sem]
        obtain rfl := Option.some.inj h0
        refine AKev_ret rfl ?_
        try simp only [F16.rs, c2, c5, go_sem]
end Go.Abs
namespace Go.Abs
open Go.Proofs
set_option maxRecDepth 20000
set_option linter.unusedVariables false
set_option linter.unusedSimpArgs false
set_option maxHeartbeats 8000000
def F18.s0 : SC :=
 (.seq
  (.seq
   (.reg [⟨some 11, .move (.tmp 5), 3, none, []⟩,
     ⟨some 12, .move (.tmp 0), 37, none, []⟩,
     ⟨some 13, .call ⟨.builtin .len, #[.tmp 12], #[37]⟩, 3, none, [12]⟩,
     ⟨some 14, .binOp .lss 3 (.tmp 11) (.tmp 13) 3, 4, none, [11, 13]⟩])
   (.cond (.tmp 14)
    .skip
    (.exit 0)))
  (.seq
   (.block 1
    (.seq
     (.dreg [⟨some 17, .move (.tmp 0), 37, none, []⟩,
       ⟨some 18, .move (.tmp 5), 3, none, []⟩,
       ⟨some 19, .indexAddr 37 (.tmp 17) (.tmp 18), 0, none, []⟩,
       ⟨some 20, .load 3 (.tmp 19), 3, none, []⟩,
       ⟨some 21, .move (.tmp 1), 37, none, []⟩,
       ⟨some 22, .move (.tmp 5), 3, none, []⟩,
       ⟨some 23, .indexAddr 37 (.tmp 21) (.tmp 22), 0, none, []⟩,
       ⟨some 24, .load 3 (.tmp 23), 3, none, []⟩,
       ⟨some 25, .binOp .neq 3 (.tmp 20) (.tmp 24) 3, 4, none, []⟩] [[], [], [0, 1], [0, 1, 2], [], [], [4, 5], [4, 5, 6], [0, 1, 2, 3, 4, 5, 6, 7]] [17, 18, 19, 20, 21, 22, 23, 24])
     (.cond (.tmp 25)
      (.seq
       (.reg [⟨some 4, .assign (.const (.bool false)), 4, none, []⟩])
       .ret)
      .skip)))
   (.reg [⟨some 15, .move (.tmp 5), 3, none, [5]⟩,
     ⟨some 16, .binOp .add 3 (.tmp 15) (.const (.int .i64 1)) 3, 3, none, [15]⟩,
     ⟨some 5, .assign (.tmp 16), 3, none, [16]⟩])))
def F18.c : SC :=
 (.seq
  (.reg [⟨some 4, .assign (.const (.bool false)), 4, none, [4]⟩])
  (.seq
   (.seq
    (.reg [⟨some 6, .move (.tmp 0), 37, none, []⟩,
      ⟨some 7, .call ⟨.builtin .len, #[.tmp 6], #[37]⟩, 3, none, [6]⟩,
      ⟨some 8, .move (.tmp 1), 37, none, []⟩,
      ⟨some 9, .call ⟨.builtin .len, #[.tmp 8], #[37]⟩, 3, none, [8]⟩,
      ⟨some 10, .binOp .neq 3 (.tmp 7) (.tmp 9) 3, 4, none, [7, 9]⟩])
    (.cond (.tmp 10)
     (.seq
      (.reg [⟨some 4, .assign (.const (.bool false)), 4, none, []⟩])
      .ret)
     .skip))
   (.seq
    (.seq
     (.reg [⟨some 5, .assign (.const (.int .i64 0)), 3, none, []⟩])
     (.block 0
      (.loop F18.s0)))
    (.seq
     (.reg [⟨some 4, .assign (.const (.bool true)), 4, none, []⟩])
     .ret))))
theorem F18.rs : Tryz.f18.results.toList = [.tmp 4] := rfl
def R01_Same.b0 (k : Nat) (a0 : (List Int)) (b1 : (List Int)) : Int → Option (Stp (Int) (Unit) (Bool)) := fun (i2 : Int) => 
  bif decide (i2 < (a0.length : Int)) then
    (at? a0 i2).bind fun x4 =>
    (at? b1 i2).bind fun x5 =>
    bif (!decide (x4 = x5)) then
      some (.ret false)
    else
      some (.next (w64 (i2 + 1)))
  else
    some (.brk ())
noncomputable def R01_Same.h0 (a0 : (List Int)) (b1 : (List Int)) : Int → St := fun (i2 : Int) => ⟨[(0, .sl 1 (List.map eI a0)), (1, .sl 1 (List.map eI b1)), (5, .int .i64 i2)], [], [], 1, Tryz.f18.ntmps⟩
noncomputable def R01_Same.x0 : Unit → St := fun (_ : Unit) => ⟨[], [], [], 1, Tryz.f18.ntmps⟩
def R01_Same (k : Nat) (a0 : (List Int)) (b1 : (List Int)) : Option (Bool) :=
  bif (!decide ((a0.length : Int) = (b1.length : Int))) then
    some false
  else
    (whl (R01_Same.b0 k a0 b1) k 0).bind fun r7 => match r7 with
    | .next _ => none
    | .ret v_ => some v_
    | .brk _ =>
      some true
theorem R01_Same_ok (k : Nat) (a0 : (List Int)) (b1 : (List Int)) (r : Bool) (h0 : R01_Same k a0 b1 = some r) : PCall Tryz.prog 18 [.sl 1 (List.map eI a0), .sl 1 (List.map eI b1)] (fun y => y = .bool r) := by
  refine PCall.nlr (PCall.of_body T_ok (fn := Tryz.f18) (sc := F18.c) (by rfl) (by rfl) (by decide +kernel) (by rfl) (by decide +kernel) (Nat.le_of_ble_eq_true rfl) ?_)
  refine run_sound T_ok 1000 _ _ ?_
  simp only [R01_Same] at h0
  try simp only [F18.c, go_sem]
  refine AKev_bif h0 (fun c1 h0 => ?_) (fun c1 h0 => ?_)
  · have c1 := bnot_t c1
    try simp only [c1, go_sem]
    obtain rfl := Option.some.inj h0
    refine AKev_ret rfl ?_
    try simp only [F18.rs, c1, go_sem]
  · have c1 := bnot_f c1
    try simp only [c1, go_sem]
    obtain ⟨r7, yr7, h0⟩ := bind_some h0
    refine AKev_loopS yr7 (R01_Same.h0 a0 b1) (R01_Same.x0) ?_ ?_ ?_
    · refine Weak.go [0, 1, 5] [] rfl ?_
      try simp only [R01_Same.h0, c1, go_sem]
    · rintro i2 x_1 Bk1 Br1 h1 hnext1 hbrk1 hret1
      refine run_sound T_ok 1000 _ _ ?_
      simp only [R01_Same.b0] at h1
      try simp only [F18.s0, R01_Same.h0, c1, go_sem]
      refine AKev_bif h1 (fun c3 h1 => ?_) (fun c3 h1 => ?_)
      · try simp only [c3, c1, go_sem]
        refine AKev_region T_ok follows_ok 1000 ?_
        try simp only [c1, c3, go_sem]
        obtain ⟨x4, yx4, h1⟩ := bind_some h1
        try simp only [at_in yx4, at_get eI yx4, c1, c3, go_sem]
        obtain ⟨x5, yx5, h1⟩ := bind_some h1
        try simp only [at_in yx5, at_get eI yx5, c1, c3, at_in yx4, at_get eI yx4, go_sem]
        refine DG_done ⟨rfl, run_sound T_ok 1000 _ _ ?_⟩
        try simp only [c1, c3, at_in yx4, at_get eI yx4, at_in yx5, at_get eI yx5, go_sem]
        refine AKev_bif h1 (fun c6 h1 => ?_) (fun c6 h1 => ?_)
        · have c6 := bnot_t c6
          try simp only [c6, c1, c3, at_in yx4, at_get eI yx4, at_in yx5, at_get eI yx5, go_sem]
          obtain rfl := hret1 _ (Option.some.inj h1).symm
          simp only at h0
          obtain rfl := Option.some.inj h0
          refine AKev_ret rfl ?_
          try simp only [F18.rs, c1, c3, at_in yx4, at_get eI yx4, at_in yx5, at_get eI yx5, c6, go_sem]
        · have c6 := bnot_f c6
          try simp only [c6, c1, c3, at_in yx4, at_get eI yx4, at_in yx5, at_get eI yx5, go_sem]
          refine AKev_backB (hnext1 _ _ (Option.some.inj h1).symm ?_)
          refine Weak.go [0, 1, 5] [] rfl ?_
          try simp only [R01_Same.h0, c1, c3, at_in yx4, at_get eI yx4, at_in yx5, at_get eI yx5, c6, go_sem]
      · try simp only [c3, c1, go_sem]
        refine AKev_backB (hbrk1 _ _ (Option.some.inj h1).symm ?_)
        refine Weak.go [] [] rfl ?_
        try simp only [R01_Same.x0, c1, c3, go_sem]
    · rintro _ hr_
      subst hr_
      simp only at h0
      refine run_sound T_ok 1000 _ _ ?_
      try simp only [R01_Same.x0, c1, go_sem]
      obtain rfl := Option.some.inj h0
      refine AKev_ret rfl ?_
      try simp only [F18.rs, c1, go_sem]
end Go.Abs
namespace Go.Abs
open Go.Proofs
set_option maxRecDepth 20000
set_option linter.unusedVariables false
set_option linter.unusedSimpArgs false
set_option maxHeartbeats 8000000
def F21.c : SC :=
 (.seq
  (.reg [⟨some 2, .box 27 (.tmp 0), 0, none, [0]⟩,
    ⟨some 4, .alloc 30, 0, none, []⟩,
    ⟨some 5, .assign (.const (.int .i64 0)), 33, none, [5]⟩])
  (.seq
   (.reg [⟨some 9, .load 27 (.tmp 2), 27, none, [2]⟩,
     ⟨some 10, .move (.tmp 1), 3, none, []⟩,
     ⟨some 11, .call ⟨.value (.func 76), #[.tmp 9, .tmp 10], #[27, 3]⟩, 104, none, [9, 10]⟩,
     ⟨some 8, .move (.tmp 11), 104, none, [11]⟩,
     ⟨some 12, .extract (.tmp 8) 0, 81, none, []⟩,
     ⟨some 13, .extract (.tmp 8) 1, 33, none, [8]⟩,
     ⟨some 6, .alloc 81, 0, none, []⟩,
     ⟨none, .store 81 (.tmp 6) (.tmp 12), 0, none, [12]⟩,
     ⟨some 7, .assign (.tmp 13), 33, none, [13]⟩])
   (.seq
    (.seq
     (.reg [⟨some 14, .move (.tmp 7), 33, none, []⟩,
       ⟨some 15, .binOp .neq 33 (.tmp 14) (.const (.int .i64 0)) 33, 4, none, [14]⟩])
     (.cond (.tmp 15)
      (.seq
       (.reg [⟨some 16, .build 30 #[], 30, none, []⟩,
         ⟨some 17, .move (.tmp 7), 33, none, [7]⟩,
         ⟨none, .store 30 (.tmp 4) (.tmp 16), 0, none, [16]⟩,
         ⟨some 5, .assign (.tmp 17), 33, none, [17]⟩])
       .ret)
      .skip))
    (.seq
     (.reg [⟨some 18, .load 81 (.tmp 6), 81, none, [6]⟩,
       ⟨some 19, .move (.tmp 1), 3, none, [1]⟩,
       ⟨some 20, .call ⟨.value (.func 54), #[.tmp 18, .tmp 19], #[81, 3]⟩, 30, none, [18, 19]⟩,
       ⟨none, .store 30 (.tmp 4) (.tmp 20), 0, none, [20]⟩,
       ⟨some 5, .assign (.const (.int .i64 0)), 33, none, []⟩])
     .ret))))
theorem F21.rs : Tryz.f21.results.toList = [.cell 4 30, .tmp 5] := rfl
def heat_Bound (k : Nat) (f0 : Firing) (place1 : Int) : Option (Range × Int) :=
  (heat_asks k f0 place1).bind fun x1 =>
  bif (!decide (x1.2 = (0 : Int))) then
    some ((⟨0, 0⟩ : Range), x1.2)
  else
    (heat_furnace_bound k x1.1 place1).bind fun x3 =>
    some (x3, 0)
theorem heat_Bound_ok (k : Nat) (f0 : Firing) (place1 : Int) (r : Range × Int) (h0 : heat_Bound k f0 place1 = some r) : PCall Tryz.prog 21 [.agg (Firing.c f0), .int .i64 place1] (fun y => y = .tup [.agg (Range.c r.1), .int .i64 r.2]) := by
  refine PCall.nlr (PCall.of_body T_ok (fn := Tryz.f21) (sc := F21.c) (by rfl) (by rfl) (by decide +kernel) (by rfl) (by decide +kernel) (Nat.le_of_ble_eq_true rfl) ?_)
  refine run_sound T_ok 1000 _ _ ?_
  simp only [heat_Bound] at h0
  try simp only [F21.c, go_sem]
  obtain ⟨x1, yx1, h0⟩ := bind_some h0
  refine AKev_call0 T_ok 1000 (heat_asks_ok k _ _ _ yx1) ?_ (by first | rfl | simp [AV.refsL, AV.refs, AV.scal, AV.leaf]) ?_
  · try simp only [go_sem]
  try simp only [go_sem]
  refine AKev_bif h0 (fun c2 h0 => ?_) (fun c2 h0 => ?_)
  · have c2 := bnot_t c2
    try simp only [c2, go_sem]
    obtain rfl := Option.some.inj h0
    refine AKev_ret rfl ?_
    try simp only [F21.rs, c2, go_sem]
  · have c2 := bnot_f c2
    try simp only [c2, go_sem]
    obtain ⟨x3, yx3, h0⟩ := bind_some h0
    refine AKev_call0 T_ok 1000 (heat_furnace_bound_ok k _ _ _ yx3) ?_ (by first | rfl | simp [AV.refsL, AV.refs, AV.scal, AV.leaf]) ?_
    · try simp only [c2, go_sem]
    try simp only [c2, go_sem]
    obtain rfl := Option.some.inj h0
    refine AKev_ret rfl ?_
    try simp only [F21.rs, c2, go_sem]
end Go.Abs
namespace Go.Abs
open Go.Proofs
set_option maxRecDepth 20000
set_option linter.unusedVariables false
set_option linter.unusedSimpArgs false
set_option maxHeartbeats 8000000
def F60.s1 : SC :=
 (.seq
  (.reg [⟨some 39, .binOp .lss 3 (.tmp 38) (.tmp 37) 3, 0, none, []⟩])
  (.seq
   (.cond (.tmp 39)
    .skip
    (.exit 2))
   (.seq
    (.block 3
     (.seq
      (.reg [⟨some 40, .move (.tmp 38), 3, none, []⟩,
        ⟨some 41, .indexAddr 89 (.tmp 36) (.tmp 38), 0, none, []⟩,
        ⟨some 42, .load 30 (.tmp 41), 30, none, [41]⟩,
        ⟨some 10, .alloc 30, 0, none, []⟩,
        ⟨some 9, .assign (.tmp 40), 3, none, [40]⟩,
        ⟨none, .store 30 (.tmp 10) (.tmp 42), 0, none, [42]⟩])
      (.seq
       (.reg [⟨some 43, .fieldAddr 30 (.tmp 10) 0, 0, none, [10]⟩,
         ⟨some 44, .load 3 (.tmp 43), 3, none, [43]⟩,
         ⟨some 11, .assign (.tmp 44), 3, none, [44]⟩])
       (.seq
        (.seq
         (.reg [⟨some 46, .fieldAddr 81 (.tmp 1) 2, 0, none, []⟩,
           ⟨some 47, .load 79 (.tmp 46), 79, none, [46]⟩,
           ⟨some 48, .move (.tmp 9), 3, none, [9]⟩,
           ⟨some 49, .call ⟨.value (.func 108), #[.tmp 47, .tmp 48, .func 109], #[79, 3, 138]⟩, 136, none, [47, 48]⟩,
           ⟨some 45, .move (.tmp 49), 136, none, [49]⟩,
           ⟨some 50, .extract (.tmp 45) 0, 135, none, []⟩,
           ⟨some 51, .extract (.tmp 45) 1, 4, none, [45]⟩,
           ⟨some 12, .alloc 135, 0, none, []⟩,
           ⟨none, .store 135 (.tmp 12) (.tmp 50), 0, none, [50]⟩,
           ⟨some 13, .assign (.tmp 51), 4, none, [51]⟩])
         (.seq
          (.reg [⟨some 52, .move (.tmp 13), 4, none, [13]⟩])
          (.cond (.tmp 52)
           (.reg [⟨some 53, .move (.tmp 11), 3, none, [11]⟩,
             ⟨some 54, .move (.tmp 6), 3, none, []⟩,
             ⟨some 55, .fieldAddr 135 (.tmp 12) 1, 0, none, [12]⟩,
             ⟨some 56, .load 3 (.tmp 55), 3, none, [55]⟩,
             ⟨some 57, .binOp .sub 3 (.tmp 54) (.tmp 56) 3, 3, none, [54, 56]⟩,
             ⟨some 58, .call ⟨.builtin .max, #[.tmp 53, .tmp 57], #[3, 3]⟩, 3, none, [53, 57]⟩,
             ⟨some 11, .assign (.tmp 58), 3, none, [58]⟩])
           .skip)))
        (.reg [⟨some 59, .move (.tmp 8), 37, none, [8]⟩,
          ⟨some 60, .move (.tmp 11), 3, none, [11]⟩,
          ⟨some 61, .buildSlice 37 1 #[(0, .tmp 60)], 37, none, [60]⟩,
          ⟨some 62, .call ⟨.builtin .append, #[.tmp 59, .tmp 61], #[37, 37]⟩, 37, none, [59, 61]⟩,
          ⟨some 8, .assign (.tmp 62), 37, none, [62]⟩])))))
    (.reg [⟨some 63, .binOp .add 3 (.tmp 38) (.const (.int .i64 1)) 3, 3, none, [38]⟩,
      ⟨some 38, .move (.tmp 63), 3, none, [63]⟩]))))
def F60.s0 : SC :=
 (.seq
  (.reg [⟨some 20, .binOp .lss 3 (.tmp 19) (.tmp 18) 3, 0, none, []⟩])
  (.seq
   (.cond (.tmp 20)
    .skip
    (.exit 0))
   (.seq
    (.block 1
     (.seq
      (.reg [⟨some 21, .move (.tmp 19), 3, none, []⟩,
        ⟨some 22, .indexAddr 22 (.tmp 17) (.tmp 19), 0, none, []⟩,
        ⟨some 23, .load 89 (.tmp 22), 89, none, [22]⟩,
        ⟨some 4, .assign (.tmp 21), 3, none, [21]⟩,
        ⟨some 5, .assign (.tmp 23), 89, none, [23]⟩])
      (.seq
       (.reg [⟨some 25, .load 81 (.tmp 1), 81, none, []⟩,
         ⟨some 26, .move (.tmp 4), 3, none, [4]⟩,
         ⟨some 27, .call ⟨.value (.func 107), #[.tmp 25, .tmp 26], #[81, 3]⟩, 132, none, [25, 26]⟩,
         ⟨some 24, .move (.tmp 27), 132, none, [27]⟩,
         ⟨some 28, .extract (.tmp 24) 0, 3, none, []⟩,
         ⟨some 29, .extract (.tmp 24) 1, 3, none, [24]⟩,
         ⟨some 6, .assign (.tmp 28), 3, none, [28]⟩,
         ⟨some 7, .assign (.tmp 29), 3, none, [7, 29]⟩])
       (.seq
        (.reg [⟨some 30, .fieldAddr 40 (.tmp 3) 0, 0, none, []⟩,
          ⟨some 31, .load 37 (.tmp 30), 37, none, [30]⟩,
          ⟨some 32, .move (.tmp 6), 3, none, []⟩,
          ⟨some 33, .buildSlice 37 1 #[(0, .tmp 32)], 37, none, [32]⟩,
          ⟨some 34, .call ⟨.builtin .append, #[.tmp 31, .tmp 33], #[37, 37]⟩, 37, none, [31, 33]⟩,
          ⟨some 35, .fieldAddr 40 (.tmp 3) 0, 0, none, []⟩,
          ⟨none, .store 37 (.tmp 35) (.tmp 34), 0, none, [34, 35]⟩])
        (.seq
         (.reg [⟨some 8, .assign (.const (.slice none 0 0)), 37, none, []⟩])
         (.seq
          (.seq
           (.reg [⟨some 36, .move (.tmp 5), 89, none, [5]⟩,
             ⟨some 37, .call ⟨.builtin .len, #[.tmp 36], #[89]⟩, 3, none, []⟩,
             ⟨some 38, .move (.const (.int .i64 0)), 3, none, []⟩])
           (.block 2
            (.loop F60.s1)))
          (.reg [⟨some 64, .fieldAddr 40 (.tmp 3) 1, 0, none, []⟩,
            ⟨some 65, .load 38 (.tmp 64), 38, none, [64]⟩,
            ⟨some 66, .move (.tmp 8), 37, none, [8]⟩,
            ⟨some 67, .buildSlice 38 1 #[(0, .tmp 66)], 38, none, [66]⟩,
            ⟨some 68, .call ⟨.builtin .append, #[.tmp 65, .tmp 67], #[38, 38]⟩, 38, none, [65, 67]⟩,
            ⟨some 69, .fieldAddr 40 (.tmp 3) 1, 0, none, []⟩,
            ⟨none, .store 38 (.tmp 69) (.tmp 68), 0, none, [68, 69]⟩])))))))
    (.reg [⟨some 70, .binOp .add 3 (.tmp 19) (.const (.int .i64 1)) 3, 3, none, [19]⟩,
      ⟨some 19, .move (.tmp 70), 3, none, [70]⟩]))))
def F60.c : SC :=
 (.seq
  (.reg [⟨some 1, .box 81 (.tmp 0), 0, none, [0]⟩,
    ⟨some 2, .alloc 40, 0, none, []⟩])
  (.seq
   (.reg [⟨some 3, .alloc 40, 0, none, []⟩])
   (.seq
    (.seq
     (.reg [⟨some 14, .fieldAddr 81 (.tmp 1) 0, 0, none, []⟩,
       ⟨some 15, .fieldAddr 27 (.tmp 14) 0, 0, none, [14]⟩,
       ⟨some 16, .fieldAddr 24 (.tmp 15) 0, 0, none, [15]⟩,
       ⟨some 17, .load 22 (.tmp 16), 22, none, [16]⟩,
       ⟨some 18, .call ⟨.builtin .len, #[.tmp 17], #[22]⟩, 3, none, []⟩,
       ⟨some 19, .move (.const (.int .i64 0)), 3, none, []⟩])
     (.block 0
      (.loop F60.s0)))
    (.seq
     (.reg [⟨some 71, .load 40 (.tmp 3), 40, none, [3]⟩,
       ⟨none, .store 40 (.tmp 2) (.tmp 71), 0, none, [71]⟩])
     .ret))))
theorem F60.rs : Tryz.f60.results.toList = [.cell 2 40] := rfl
def heat_furnace_greatest.b1 (k : Nat) (f0 : heat_furnace) (x7 : (List Range)) (x8 : Int × Int) : (Int × (List Int)) → Option (Stp (Int × (List Int)) ((List Int)) (Field)) := fun (s : Int × (List Int)) => match s with
  | (i10, l11) => 
      bif decide (i10 < (x7.length : Int)) then
        (at? x7 i10).bind fun x14 =>
        (heat_best k f0.most i10 (fun q0 q1 => heat_less k q0 q1)).bind fun x15 =>
        bif x15.2 then
          (push? 8 l11 (max x14.Lo (w64 (x8.1 - x15.1.heat)))).bind fun l17 =>
          some (.next (w64 (i10 + 1), l17))
        else
          (push? 8 l11 x14.Lo).bind fun l18 =>
          some (.next (w64 (i10 + 1), l18))
      else
        some (.brk l11)
def heat_furnace_greatest.b0 (k : Nat) (f0 : heat_furnace) : (Int × (List Int) × (List (List Int))) → Option (Stp (Int × (List Int) × (List (List Int))) ((List Int) × (List (List Int))) (Field)) := fun (s : Int × (List Int) × (List (List Int))) => match s with
  | (i1, l2, l3) => 
      bif decide (i1 < (f0.Firing.Kiln.Falls.length : Int)) then
        (at? f0.Firing.Kiln.Falls i1).bind fun x7 =>
        (heat_furnace_hottest k f0 i1).bind fun x8 =>
        (push? 8 l2 x8.1).bind fun l9 =>
        (whl (heat_furnace_greatest.b1 k f0 x7 x8) k (0, [])).bind fun r19 => match r19 with
        | .next _ => none
        | .ret v_ => some (.ret v_)
        | .brk l12 =>
          (push? 24 l3 l12).bind fun l20 =>
          some (.next (w64 (i1 + 1), l9, l20))
      else
        some (.brk (l2, l3))
noncomputable def heat_furnace_greatest.h1 (f0 : heat_furnace) (i1 : Int) (l2 : (List Int)) (l3 : (List (List Int))) (x7 : (List Range)) (x8 : Int × Int) (l9 : List Int) : (Int × (List Int)) → St := fun (s : Int × (List Int)) => match s with
  | (i10, l11) => ⟨[(1, .ptr 0 0 0), (2, .ptr 0 1 0), (3, .ptr 0 4 0), (6, .int .i64 x8.1), (8, .loc 0 7 1 0 l11.length l11.length), (17, .sl 1 (List.map (eL 2 Range.c) f0.Firing.Kiln.Falls)), (18, .int .i64 (f0.Firing.Kiln.Falls.length : Int)), (19, .int .i64 i1), (36, .sl 2 (List.map Range.c x7)), (37, .int .i64 (x7.length : Int)), (38, .int .i64 i10)], [(0, .box [.sl 1 (List.map (eL 2 Range.c) f0.Firing.Kiln.Falls), .sl 6 (List.map Reading.c f0.Firing.Readings), .sl 3 (List.map heat_limit.c f0.least), .sl 3 (List.map heat_limit.c f0.most)]), (1, .box [.loc 0 2 1 0 0 0, .loc 0 3 1 0 0 0]), (2, .arr 3 1 (List.map eI [])), (3, .arr 37 1 (List.map (eL 1 eI) [])), (4, .box [.loc 0 5 1 0 (l2.length + 1) (l2.length + 1), .loc 0 6 1 0 l3.length l3.length]), (5, .arr 3 1 (List.map eI l9)), (6, .arr 37 1 (List.map (eL 1 eI) l3)), (7, .arr 3 1 (List.map eI l11))], [], 8, Tryz.f60.ntmps⟩
noncomputable def heat_furnace_greatest.x1 (f0 : heat_furnace) (i1 : Int) (l2 : (List Int)) (l3 : (List (List Int))) (l9 : List Int) : (List Int) → St := fun (l12 : (List Int)) => ⟨[(1, .ptr 0 0 0), (2, .ptr 0 1 0), (3, .ptr 0 4 0), (8, .loc 0 7 1 0 l12.length l12.length), (17, .sl 1 (List.map (eL 2 Range.c) f0.Firing.Kiln.Falls)), (18, .int .i64 (f0.Firing.Kiln.Falls.length : Int)), (19, .int .i64 i1)], [(0, .box [.sl 1 (List.map (eL 2 Range.c) f0.Firing.Kiln.Falls), .sl 6 (List.map Reading.c f0.Firing.Readings), .sl 3 (List.map heat_limit.c f0.least), .sl 3 (List.map heat_limit.c f0.most)]), (1, .box [.loc 0 2 1 0 0 0, .loc 0 3 1 0 0 0]), (2, .arr 3 1 (List.map eI [])), (3, .arr 37 1 (List.map (eL 1 eI) [])), (4, .box [.loc 0 5 1 0 (l2.length + 1) (l2.length + 1), .loc 0 6 1 0 l3.length l3.length]), (5, .arr 3 1 (List.map eI l9)), (6, .arr 37 1 (List.map (eL 1 eI) l3)), (7, .arr 3 1 (List.map eI l12))], [], 8, Tryz.f60.ntmps⟩
noncomputable def heat_furnace_greatest.h0 (f0 : heat_furnace) : (Int × (List Int) × (List (List Int))) → St := fun (s : Int × (List Int) × (List (List Int))) => match s with
  | (i1, l2, l3) => ⟨[(1, .ptr 0 0 0), (2, .ptr 0 1 0), (3, .ptr 0 4 0), (17, .sl 1 (List.map (eL 2 Range.c) f0.Firing.Kiln.Falls)), (18, .int .i64 (f0.Firing.Kiln.Falls.length : Int)), (19, .int .i64 i1)], [(0, .box [.sl 1 (List.map (eL 2 Range.c) f0.Firing.Kiln.Falls), .sl 6 (List.map Reading.c f0.Firing.Readings), .sl 3 (List.map heat_limit.c f0.least), .sl 3 (List.map heat_limit.c f0.most)]), (1, .box [.loc 0 2 1 0 0 0, .loc 0 3 1 0 0 0]), (2, .arr 3 1 (List.map eI [])), (3, .arr 37 1 (List.map (eL 1 eI) [])), (4, .box [.loc 0 5 1 0 l2.length l2.length, .loc 0 6 1 0 l3.length l3.length]), (5, .arr 3 1 (List.map eI l2)), (6, .arr 37 1 (List.map (eL 1 eI) l3))], [], 7, Tryz.f60.ntmps⟩
noncomputable def heat_furnace_greatest.x0 : ((List Int) × (List (List Int))) → St := fun (s : (List Int) × (List (List Int))) => match s with
  | (l4, l5) => ⟨[(2, .ptr 0 0 0), (3, .ptr 0 3 0)], [(0, .box [.loc 0 1 1 0 0 0, .loc 0 2 1 0 0 0]), (1, .arr 3 1 (List.map eI [])), (2, .arr 37 1 (List.map (eL 1 eI) [])), (3, .box [.loc 0 4 1 0 l4.length l4.length, .loc 0 5 1 0 l5.length l5.length]), (4, .arr 3 1 (List.map eI l4)), (5, .arr 37 1 (List.map (eL 1 eI) l5))], [], 6, Tryz.f60.ntmps⟩
def heat_furnace_greatest (k : Nat) (f0 : heat_furnace) : Option (Field) :=
  (whl (heat_furnace_greatest.b0 k f0) k (0, [], [])).bind fun r21 => match r21 with
  | .next _ => none
  | .ret v_ => some v_
  | .brk (l4, l5) =>
    some (⟨l4, l5⟩ : Field)
theorem heat_furnace_greatest_ok (k : Nat) (f0 : heat_furnace) (r : Field) (h0 : heat_furnace_greatest k f0 = some r) : PCall Tryz.prog 60 [.agg (heat_furnace.c f0)] (fun y => y = .agg (Field.c r)) := by
  refine PCall.nlr (PCall.of_body T_ok (fn := Tryz.f60) (sc := F60.c) (by rfl) (by rfl) (by decide +kernel) (by rfl) (by decide +kernel) (Nat.le_of_ble_eq_true rfl) ?_)
  refine run_sound T_ok 1000 _ _ ?_
  simp only [heat_furnace_greatest] at h0
  try simp only [F60.c, go_sem]
  obtain ⟨r21, yr21, h0⟩ := bind_some h0
  refine AKev_loopS yr21 (heat_furnace_greatest.h0 f0) (heat_furnace_greatest.x0) ?_ ?_ ?_
  · refine Weak.go [1, 2, 3, 17, 18, 19] [0, 16, 17, 18, 32, 33, 34] rfl ?_
    try simp only [heat_furnace_greatest.h0, go_sem]
  · rintro ⟨i1, l2, l3⟩ x_1 Bk1 Br1 h1 hnext1 hbrk1 hret1
    refine run_sound T_ok 1000 _ _ ?_
    simp only [heat_furnace_greatest.b0] at h1
    try simp only [F60.s0, heat_furnace_greatest.h0, go_sem]
    refine AKev_bif h1 (fun c6 h1 => ?_) (fun c6 h1 => ?_)
    · try simp only [c6, go_sem]
      obtain ⟨x7, yx7, h1⟩ := bind_some h1
      try simp only [at_in yx7, at_get (eL 2 Range.c) yx7, c6, go_sem]
      obtain ⟨x8, yx8, h1⟩ := bind_some h1
      refine AKev_call0 T_ok 1000 (heat_furnace_hottest_ok k _ _ _ yx8) ?_ (by first | rfl | simp [AV.refsL, AV.refs, AV.scal, AV.leaf]) ?_
      · try simp only [c6, at_in yx7, at_get (eL 2 Range.c) yx7, go_sem]
      try simp only [c6, at_in yx7, at_get (eL 2 Range.c) yx7, go_sem]
      obtain ⟨l9, yl9, h1⟩ := bind_some h1
      have eyl9 := push_map eI yl9
      have tyl9 := push_take eI yl9
      have nyl9 := push_len yl9
      have myl9 := push_room yl9
      try simp only [c6, at_in yx7, at_get (eL 2 Range.c) yx7, go_sem] at eyl9 tyl9 nyl9 myl9
      try simp only [myl9, eyl9, c6, at_in yx7, at_get (eL 2 Range.c) yx7, nyl9, tyl9, go_sem]
      obtain ⟨r19, yr19, h1⟩ := bind_some h1
      refine AKev_loopS yr19 (heat_furnace_greatest.h1 f0 i1 l2 l3 x7 x8 l9) (heat_furnace_greatest.x1 f0 i1 l2 l3 l9) ?_ ?_ ?_
      · refine Weak.go [1, 2, 3, 6, 8, 17, 18, 19, 36, 37, 38] [0, 1, 2, 3, 4, 5, 6, 343] rfl ?_
        try simp only [heat_furnace_greatest.h1, c6, at_in yx7, at_get (eL 2 Range.c) yx7, eyl9, nyl9, tyl9, go_sem]
      · rintro ⟨i10, l11⟩ x_2 Bk2 Br2 h2 hnext2 hbrk2 hret2
        refine run_sound T_ok 1000 _ _ ?_
        simp only [heat_furnace_greatest.b1] at h2
        try simp only [F60.s1, heat_furnace_greatest.h1, c6, at_in yx7, at_get (eL 2 Range.c) yx7, eyl9, nyl9, tyl9, go_sem]
        refine AKev_bif h2 (fun c13 h2 => ?_) (fun c13 h2 => ?_)
        · try simp only [c13, c6, at_in yx7, at_get (eL 2 Range.c) yx7, eyl9, nyl9, tyl9, go_sem]
          obtain ⟨x14, yx14, h2⟩ := bind_some h2
          try simp only [at_in yx14, at_get Range.c yx14, c6, at_in yx7, at_get (eL 2 Range.c) yx7, eyl9, nyl9, tyl9, c13, go_sem]
          obtain ⟨x15, yx15, h2⟩ := bind_some h2
          refine AKev_call0 T_ok 1000 (heat_best_ok k _ _ 109 [] ⟨fun _ => rfl, fun _ => rfl, fun _ _ => rfl, rfl, fun _ => rfl, fun _ => rfl, fun _ => rfl⟩ (fun q0 q1 => heat_less k q0 q1) (fun q0 q1 qr qh => heat_less_ok k q0 q1 qr qh) _ yx15) ?_ (by first | rfl | simp [AV.refsL, AV.refs, AV.scal, AV.leaf]) ?_
          · try simp only [c6, at_in yx7, at_get (eL 2 Range.c) yx7, eyl9, nyl9, tyl9, c13, at_in yx14, at_get Range.c yx14, go_sem]
          try simp only [c6, at_in yx7, at_get (eL 2 Range.c) yx7, eyl9, nyl9, tyl9, c13, at_in yx14, at_get Range.c yx14, go_sem]
          refine AKev_bif h2 (fun c16 h2 => ?_) (fun c16 h2 => ?_)
          · try simp only [c16, c6, at_in yx7, at_get (eL 2 Range.c) yx7, eyl9, nyl9, tyl9, c13, at_in yx14, at_get Range.c yx14, go_sem]
            obtain ⟨l17, yl17, h2⟩ := bind_some h2
            have eyl17 := push_map eI yl17
            have tyl17 := push_take eI yl17
            have nyl17 := push_len yl17
            have myl17 := push_room yl17
            try simp only [c6, at_in yx7, at_get (eL 2 Range.c) yx7, eyl9, nyl9, tyl9, c13, at_in yx14, at_get Range.c yx14, c16, go_sem] at eyl17 tyl17 nyl17 myl17
            try simp only [myl17, eyl17, c6, at_in yx7, at_get (eL 2 Range.c) yx7, eyl9, nyl9, tyl9, c13, at_in yx14, at_get Range.c yx14, c16, nyl17, tyl17, go_sem]
            refine AKev_backB (hnext2 _ _ (Option.some.inj h2).symm ?_)
            refine Weak.go [1, 2, 3, 6, 8, 17, 18, 19, 36, 37, 38] [0, 1, 2, 3, 4, 5, 6, 7] rfl ?_
            try simp only [heat_furnace_greatest.h1, c6, at_in yx7, at_get (eL 2 Range.c) yx7, eyl9, nyl9, tyl9, c13, at_in yx14, at_get Range.c yx14, c16, eyl17, nyl17, tyl17, go_sem]
          · try simp only [c16, c6, at_in yx7, at_get (eL 2 Range.c) yx7, eyl9, nyl9, tyl9, c13, at_in yx14, at_get Range.c yx14, go_sem]
            obtain ⟨l18, yl18, h2⟩ := bind_some h2
            have eyl18 := push_map eI yl18
            have tyl18 := push_take eI yl18
            have nyl18 := push_len yl18
            have myl18 := push_room yl18
            try simp only [c6, at_in yx7, at_get (eL 2 Range.c) yx7, eyl9, nyl9, tyl9, c13, at_in yx14, at_get Range.c yx14, c16, go_sem] at eyl18 tyl18 nyl18 myl18
            try simp only [myl18, eyl18, c6, at_in yx7, at_get (eL 2 Range.c) yx7, eyl9, nyl9, tyl9, c13, at_in yx14, at_get Range.c yx14, c16, nyl18, tyl18, go_sem]
            refine AKev_backB (hnext2 _ _ (Option.some.inj h2).symm ?_)
            refine Weak.go [1, 2, 3, 6, 8, 17, 18, 19, 36, 37, 38] [0, 1, 2, 3, 4, 5, 6, 7] rfl ?_
            try simp only [heat_furnace_greatest.h1, c6, at_in yx7, at_get (eL 2 Range.c) yx7, eyl9, nyl9, tyl9, c13, at_in yx14, at_get Range.c yx14, c16, eyl18, nyl18, tyl18, go_sem]
        · try simp only [c13, c6, at_in yx7, at_get (eL 2 Range.c) yx7, eyl9, nyl9, tyl9, go_sem]
          refine AKev_backB (hbrk2 _ _ (Option.some.inj h2).symm ?_)
          refine Weak.go [1, 2, 3, 8, 17, 18, 19] [0, 1, 2, 3, 4, 5, 6, 7] rfl ?_
          try simp only [heat_furnace_greatest.x1, c6, at_in yx7, at_get (eL 2 Range.c) yx7, eyl9, nyl9, tyl9, c13, go_sem]
      · rintro l12 hr_
        subst hr_
        simp only at h1
        refine run_sound T_ok 1000 _ _ ?_
        try simp only [heat_furnace_greatest.x1, c6, at_in yx7, at_get (eL 2 Range.c) yx7, eyl9, nyl9, tyl9, go_sem]
        obtain ⟨l20, yl20, h1⟩ := bind_some h1
        have eyl20 := push_map (eL 1 eI) yl20
        have tyl20 := push_take (eL 1 eI) yl20
        have nyl20 := push_len yl20
        have myl20 := push_room yl20
        try simp only [c6, at_in yx7, at_get (eL 2 Range.c) yx7, eyl9, nyl9, tyl9, go_sem] at eyl20 tyl20 nyl20 myl20
        try simp only [myl20, eyl20, c6, at_in yx7, at_get (eL 2 Range.c) yx7, eyl9, nyl9, tyl9, nyl20, tyl20, go_sem]
        refine AKev_backB (hnext1 _ _ (Option.some.inj h1).symm ?_)
        refine Weak.go [1, 2, 3, 17, 18, 19] [0, 1, 2, 3, 4, 5, 6] rfl ?_
        try simp only [heat_furnace_greatest.h0, c6, at_in yx7, at_get (eL 2 Range.c) yx7, eyl9, nyl9, tyl9, eyl20, nyl20, tyl20, go_sem]
    · try simp only [c6, go_sem]
      refine AKev_backB (hbrk1 _ _ (Option.some.inj h1).symm ?_)
      refine Weak.go [2, 3] [1, 2, 3, 4, 5, 6] rfl ?_
      try simp only [heat_furnace_greatest.x0, c6, go_sem]
  · rintro ⟨l4, l5⟩ hr_
    subst hr_
    simp only at h0
    refine run_sound T_ok 1000 _ _ ?_
    try simp only [heat_furnace_greatest.x0, go_sem]
    obtain rfl := Option.some.inj h0
    refine AKev_ret rfl ?_
    try simp only [F60.rs, go_sem]
end Go.Abs
namespace Go.Abs
open Go.Proofs
set_option maxRecDepth 20000
set_option linter.unusedVariables false
set_option linter.unusedSimpArgs false
set_option maxHeartbeats 8000000
def F48.c : SC :=
 (.seq
  (.reg [⟨some 1, .box 27 (.tmp 0), 0, none, [0]⟩,
    ⟨some 2, .assign (.const (.slice none 0 0)), 37, none, [2]⟩,
    ⟨some 3, .assign (.const (.int .i64 0)), 33, none, [3]⟩])
  (.seq
   (.reg [⟨some 7, .load 27 (.tmp 1), 27, none, [1]⟩,
     ⟨some 8, .call ⟨.value (.func 76), #[.tmp 7, .const (.int .i64 0)], #[27, 3]⟩, 104, none, [7]⟩,
     ⟨some 6, .move (.tmp 8), 104, none, [8]⟩,
     ⟨some 9, .extract (.tmp 6) 0, 81, none, []⟩,
     ⟨some 10, .extract (.tmp 6) 1, 33, none, [6]⟩,
     ⟨some 4, .alloc 81, 0, none, []⟩,
     ⟨none, .store 81 (.tmp 4) (.tmp 9), 0, none, [9]⟩,
     ⟨some 5, .assign (.tmp 10), 33, none, [10]⟩])
   (.seq
    (.seq
     (.reg [⟨some 11, .move (.tmp 5), 33, none, []⟩,
       ⟨some 12, .binOp .neq 33 (.tmp 11) (.const (.int .i64 0)) 33, 4, none, [11]⟩])
     (.cond (.tmp 12)
      (.seq
       (.reg [⟨some 13, .move (.tmp 5), 33, none, [5]⟩,
         ⟨some 2, .assign (.const (.slice none 0 0)), 37, none, []⟩,
         ⟨some 3, .assign (.tmp 13), 33, none, [13]⟩])
       .ret)
      .skip))
    (.seq
     (.reg [⟨some 14, .load 81 (.tmp 4), 81, none, [4]⟩,
       ⟨some 15, .call ⟨.value (.func 60), #[.tmp 14], #[81]⟩, 40, none, [14]⟩,
       ⟨some 16, .field 40 (.tmp 15) 0, 37, none, [15]⟩,
       ⟨some 2, .assign (.tmp 16), 37, none, [16]⟩,
       ⟨some 3, .assign (.const (.int .i64 0)), 33, none, []⟩])
     .ret))))
theorem F48.rs : Tryz.f48.results.toList = [.tmp 2, .tmp 3] := rfl
def heat_Hottest (k : Nat) (f0 : Firing) : Option ((List Int) × Int) :=
  (heat_asks k f0 0).bind fun x1 =>
  bif (!decide (x1.2 = (0 : Int))) then
    some ([], x1.2)
  else
    (heat_furnace_greatest k x1.1).bind fun x3 =>
    some (x3.Mouths, 0)
theorem heat_Hottest_ok (k : Nat) (f0 : Firing) (r : (List Int) × Int) (h0 : heat_Hottest k f0 = some r) : PCall Tryz.prog 48 [.agg (Firing.c f0)] (fun y => y = .tup [.sl 1 (List.map eI r.1), .int .i64 r.2]) := by
  refine PCall.nlr (PCall.of_body T_ok (fn := Tryz.f48) (sc := F48.c) (by rfl) (by rfl) (by decide +kernel) (by rfl) (by decide +kernel) (Nat.le_of_ble_eq_true rfl) ?_)
  refine run_sound T_ok 1000 _ _ ?_
  simp only [heat_Hottest] at h0
  try simp only [F48.c, go_sem]
  obtain ⟨x1, yx1, h0⟩ := bind_some h0
  refine AKev_call0 T_ok 1000 (heat_asks_ok k _ _ _ yx1) ?_ (by first | rfl | simp [AV.refsL, AV.refs, AV.scal, AV.leaf]) ?_
  · try simp only [go_sem]
  try simp only [go_sem]
  refine AKev_bif h0 (fun c2 h0 => ?_) (fun c2 h0 => ?_)
  · have c2 := bnot_t c2
    try simp only [c2, go_sem]
    obtain rfl := Option.some.inj h0
    refine AKev_ret rfl ?_
    try simp only [F48.rs, c2, go_sem]
  · have c2 := bnot_f c2
    try simp only [c2, go_sem]
    obtain ⟨x3, yx3, h0⟩ := bind_some h0
    refine AKev_call0 T_ok 1000 (heat_furnace_greatest_ok k _ _ yx3) ?_ (by first | rfl | simp [AV.refsL, AV.refs, AV.scal, AV.leaf]) ?_
    · try simp only [c2, go_sem]
    try simp only [c2, go_sem]
    obtain rfl := Option.some.inj h0
    refine AKev_ret rfl ?_
    try simp only [F48.rs, c2, go_sem]
end Go.Abs
namespace Go.Abs
open Go.Proofs
set_option maxRecDepth 20000
set_option linter.unusedVariables false
set_option linter.unusedSimpArgs false
set_option maxHeartbeats 8000000
def F64.c : SC :=
 (.seq
  (.reg [⟨some 0, .alloc 24, 0, none, []⟩])
  (.seq
   (.reg [⟨some 4, .build 30 #[(0, .const (.int .i64 100)), (1, .const (.int .i64 200))], 30, none, []⟩,
     ⟨some 1, .alloc 30, 0, none, []⟩,
     ⟨none, .store 30 (.tmp 1) (.tmp 4), 0, none, [4]⟩])
   (.seq
    (.reg [⟨some 5, .build 30 #[(0, .const (.int .i64 300)), (1, .const (.int .i64 400))], 30, none, []⟩,
      ⟨some 2, .alloc 30, 0, none, []⟩,
      ⟨none, .store 30 (.tmp 2) (.tmp 5), 0, none, [5]⟩])
    (.seq
     (.reg [⟨some 6, .build 30 #[(0, .const (.int .i64 600)), (1, .const (.int .i64 800))], 30, none, []⟩,
       ⟨some 3, .alloc 30, 0, none, []⟩,
       ⟨none, .store 30 (.tmp 3) (.tmp 6), 0, none, [6]⟩])
     (.seq
      (.reg [⟨some 7, .load 30 (.tmp 1), 30, none, []⟩,
        ⟨some 8, .load 30 (.tmp 2), 30, none, []⟩,
        ⟨some 9, .load 30 (.tmp 3), 30, none, []⟩,
        ⟨some 10, .buildSlice 89 3 #[(0, .tmp 7), (1, .tmp 8), (2, .tmp 9)], 89, none, [7, 8, 9]⟩,
        ⟨some 11, .load 30 (.tmp 3), 30, none, [3]⟩,
        ⟨some 12, .load 30 (.tmp 2), 30, none, [2]⟩,
        ⟨some 13, .load 30 (.tmp 1), 30, none, [1]⟩,
        ⟨some 14, .buildSlice 89 3 #[(0, .tmp 11), (1, .tmp 12), (2, .tmp 13)], 89, none, [11, 12, 13]⟩,
        ⟨some 15, .buildSlice 22 2 #[(0, .tmp 10), (1, .tmp 14)], 22, none, [10, 14]⟩,
        ⟨some 16, .build 24 #[(0, .tmp 15)], 24, none, [15]⟩,
        ⟨none, .store 24 (.tmp 0) (.tmp 16), 0, none, [16]⟩])
      .ret)))))
theorem F64.rs : Tryz.f64.results.toList = [.cell 0 24] := rfl
def L04_kiln (k : Nat) : Option (Kiln) :=
  some (⟨[[(⟨100, 200⟩ : Range), (⟨300, 400⟩ : Range), (⟨600, 800⟩ : Range)], [(⟨600, 800⟩ : Range), (⟨300, 400⟩ : Range), (⟨100, 200⟩ : Range)]]⟩ : Kiln)
theorem L04_kiln_ok (k : Nat) (r : Kiln) (h0 : L04_kiln k = some r) : PCall Tryz.prog 64 [] (fun y => y = .agg (Kiln.c r)) := by
  refine PCall.nlr (PCall.of_body T_ok (fn := Tryz.f64) (sc := F64.c) (by rfl) (by rfl) (by decide +kernel) (by rfl) (by decide +kernel) (Nat.le_of_ble_eq_true rfl) ?_)
  refine run_sound T_ok 1000 _ _ ?_
  simp only [L04_kiln] at h0
  try simp only [F64.c, go_sem]
  obtain rfl := Option.some.inj h0
  refine AKev_ret rfl ?_
  try simp only [F64.rs, go_sem]
end Go.Abs
namespace Go.Abs
open Go.Proofs
set_option maxRecDepth 20000
set_option linter.unusedVariables false
set_option linter.unusedSimpArgs false
set_option maxHeartbeats 8000000
def F63.c : SC :=
 (.seq
  (.reg [⟨some 0, .alloc 27, 0, none, []⟩])
  (.seq
   (.reg [⟨some 1, .call ⟨.value (.func 64), #[], #[]⟩, 24, none, []⟩,
     ⟨some 2, .build 64 #[(0, .const (.int .i64 1)), (2, .const (.int .i64 1)), (3, .const (.int .i64 1000))], 64, none, []⟩,
     ⟨some 3, .build 64 #[(0, .const (.int .i64 2)), (2, .const (.int .i64 2)), (3, .const (.int .i64 1101))], 64, none, []⟩,
     ⟨some 4, .build 64 #[(0, .const (.int .i64 3)), (1, .const (.int .i64 2)), (2, .const (.int .i64 2)), (3, .const (.int .i64 901))], 64, none, []⟩,
     ⟨some 5, .buildSlice 25 3 #[(0, .tmp 2), (1, .tmp 3), (2, .tmp 4)], 25, none, [2, 3, 4]⟩,
     ⟨some 6, .build 27 #[(0, .tmp 1), (1, .tmp 5)], 27, none, [1, 5]⟩,
     ⟨none, .store 27 (.tmp 0) (.tmp 6), 0, none, [6]⟩])
   .ret))
theorem F63.rs : Tryz.f63.results.toList = [.cell 0 27] := rfl
def L04_firing (k : Nat) : Option (Firing) :=
  (L04_kiln k).bind fun x1 =>
  some (⟨x1, [(⟨1, 0, 1, 1000, (⟨0, 0⟩ : Range)⟩ : Reading), (⟨2, 0, 2, 1101, (⟨0, 0⟩ : Range)⟩ : Reading), (⟨3, 2, 2, 901, (⟨0, 0⟩ : Range)⟩ : Reading)]⟩ : Firing)
theorem L04_firing_ok (k : Nat) (r : Firing) (h0 : L04_firing k = some r) : PCall Tryz.prog 63 [] (fun y => y = .agg (Firing.c r)) := by
  refine PCall.nlr (PCall.of_body T_ok (fn := Tryz.f63) (sc := F63.c) (by rfl) (by rfl) (by decide +kernel) (by rfl) (by decide +kernel) (Nat.le_of_ble_eq_true rfl) ?_)
  refine run_sound T_ok 1000 _ _ ?_
  simp only [L04_firing] at h0
  try simp only [F63.c, go_sem]
  obtain ⟨x1, yx1, h0⟩ := bind_some h0
  refine AKev_call0 T_ok 1000 (L04_kiln_ok k _ yx1) ?_ (by first | rfl | simp [AV.refsL, AV.refs, AV.scal, AV.leaf]) ?_
  · try simp only [go_sem]
  try simp only [go_sem]
  obtain rfl := Option.some.inj h0
  refine AKev_ret rfl ?_
  try simp only [F63.rs, go_sem]
def L04_firing_o (k : Nat) : Option (Firing) :=
  (L04_kiln k).bind fun x1 =>
  some (⟨x1, [(⟨1, 0, 1, 1000, (⟨0, 0⟩ : Range)⟩ : Reading), (⟨2, 0, 2, 1101, (⟨0, 0⟩ : Range)⟩ : Reading), (⟨3, 2, 2, 901, (⟨0, 0⟩ : Range)⟩ : Reading)]⟩ : Firing)
theorem L04_firing_o_ok (k : Nat) (r : Firing) (h0 : L04_firing_o k = some r) : GCall Tryz.prog 63 [] [] (fun y fr => y = .agg [.sl 1 (List.map (eL 2 Range.c) r.Kiln.Falls), .loc 0 0 6 0 r.Readings.length r.Readings.length] ∧ fr = [(0, .arr 64 6 (List.map Reading.c r.Readings))]) := by
  refine GCall.of_body T_ok (f := 63) (fn := Tryz.f63) (sc := F63.c) (by rfl) (by rfl) (by decide +kernel) (by rfl) (by decide +kernel) (Nat.le_of_ble_eq_true rfl) (fun H => ?_)
  refine run_sound T_ok 1000 _ _ ?_
  simp only [L04_firing_o] at h0
  try simp only [F63.c, go_sem]
  obtain ⟨x1, yx1, h0⟩ := bind_some h0
  refine AKev_call0 T_ok 1000 (L04_kiln_ok k _ yx1) ?_ (by first | rfl | simp [AV.refsL, AV.refs, AV.scal, AV.leaf]) ?_
  · try simp only [go_sem]
  try simp only [go_sem]
  obtain rfl := Option.some.inj h0
  refine AKev_gown [96] (by simp) rfl rfl ?_
  try simp only [F63.rs, gwOK, tupOf, Option.bind_some, go_sem]
end Go.Abs
namespace Go.Abs
open Go.Proofs
set_option maxRecDepth 20000
set_option linter.unusedVariables false
set_option linter.unusedSimpArgs false
set_option maxHeartbeats 8000000
def F133.s0 : SC :=
 (.seq
  (.reg [⟨some 9, .binOp .lss 3 (.tmp 8) (.tmp 7) 3, 0, none, []⟩])
  (.seq
   (.cond (.tmp 9)
    .skip
    (.exit 0))
   (.seq
    (.block 1
     (.seq
      (.reg [⟨some 10, .move (.tmp 8), 3, none, []⟩,
        ⟨some 5, .assign (.tmp 10), 3, none, [10]⟩])
      (.seq
       (.reg [⟨some 11, .move (.tmp 1), 159, none, []⟩,
         ⟨some 12, .move (.tmp 0), 79, none, []⟩,
         ⟨some 13, .move (.tmp 5), 3, none, []⟩,
         ⟨some 14, .indexAddr 79 (.tmp 12) (.tmp 13), 0, none, [12, 13]⟩,
         ⟨some 15, .load 135 (.tmp 14), 135, none, [14]⟩,
         ⟨some 16, .call ⟨.value (.tmp 11), #[.tmp 15], #[135]⟩, 4, none, [11, 15]⟩])
       (.cond (.tmp 16)
        (.seq
         (.reg [⟨some 17, .move (.tmp 5), 3, none, [5]⟩,
           ⟨some 4, .assign (.tmp 17), 3, none, [17]⟩])
         .ret)
        .skip))))
    (.reg [⟨some 18, .binOp .add 3 (.tmp 8) (.const (.int .i64 1)) 3, 3, none, [8]⟩,
      ⟨some 8, .move (.tmp 18), 3, none, [18]⟩]))))
def F133.c : SC :=
 (.seq
  (.reg [⟨some 4, .assign (.const (.int .i64 0)), 3, none, [4]⟩])
  (.seq
   (.seq
    (.reg [⟨some 6, .move (.tmp 0), 79, none, []⟩,
      ⟨some 7, .call ⟨.builtin .len, #[.tmp 6], #[79]⟩, 3, none, [6]⟩,
      ⟨some 8, .move (.const (.int .i64 0)), 3, none, []⟩])
    (.block 0
     (.loop F133.s0)))
   (.seq
    (.reg [⟨some 4, .assign (.const (.int .i64 (-1))), 3, none, []⟩])
    .ret)))
theorem F133.rs : Tryz.f133.results.toList = [.tmp 4] := rfl
def slices_IndexFunc_heat_limit.b0 (k : Nat) (f1 : heat_limit → Option (Bool)) (s0 : (List heat_limit)) : Int → Option (Stp (Int) (Unit) (Int)) := fun (i1 : Int) => 
  bif decide (i1 < (s0.length : Int)) then
    (at? s0 i1).bind fun x3 =>
    (f1 x3).bind fun x4 =>
    bif x4 then
      some (.ret i1)
    else
      some (.next (w64 (i1 + 1)))
  else
    some (.brk ())
noncomputable def slices_IndexFunc_heat_limit.h0 (f1_f : Nat) (f1_c : List AV) (s0 : (List heat_limit)) : Int → St := fun (i1 : Int) => ⟨[(0, .sl 3 (List.map heat_limit.c s0)), (1, .fn (.func f1_f) [] f1_c), (7, .int .i64 (s0.length : Int)), (8, .int .i64 i1)], [], [], 1, Tryz.f133.ntmps⟩
noncomputable def slices_IndexFunc_heat_limit.x0 : Unit → St := fun (_ : Unit) => ⟨[], [], [], 1, Tryz.f133.ntmps⟩
def slices_IndexFunc_heat_limit (k : Nat) (s0 : (List heat_limit)) (f1 : heat_limit → Option (Bool)) : Option (Int) :=
  (whl (slices_IndexFunc_heat_limit.b0 k f1 s0) k 0).bind fun r6 => match r6 with
  | .next _ => none
  | .ret v_ => some v_
  | .brk _ =>
    some (-1)
theorem slices_IndexFunc_heat_limit_ok (k : Nat) (s0 : (List heat_limit)) (f1_f : Nat) (f1_c : List AV) (f1_i : Ice f1_c) (f1 : heat_limit → Option (Bool)) (f1_h : ∀ q0 qr, f1 q0 = some qr → PCall Tryz.prog f1_f (.agg (heat_limit.c q0) :: f1_c) (fun y => y = .bool qr)) (r : Int) (h0 : slices_IndexFunc_heat_limit k s0 f1 = some r) : PCall Tryz.prog 133 [.sl 3 (List.map heat_limit.c s0), .fn (.func f1_f) [] f1_c] (fun y => y = .int .i64 r) := by
  refine PCall.nlr (PCall.of_body T_ok (fn := Tryz.f133) (sc := F133.c) (by rfl) (by rfl) (by decide +kernel) (by rfl) (by decide +kernel) (Nat.le_of_ble_eq_true rfl) ?_)
  refine run_sound T_ok 1000 _ _ ?_
  simp only [slices_IndexFunc_heat_limit] at h0
  try simp only [F133.c, f1_i.sh, f1_i.frz, f1_i.br, f1_i.refs, f1_i.imp, f1_i.ren, f1_i.un, go_sem]
  obtain ⟨r6, yr6, h0⟩ := bind_some h0
  refine AKev_loopS yr6 (slices_IndexFunc_heat_limit.h0 f1_f f1_c s0) (slices_IndexFunc_heat_limit.x0) ?_ ?_ ?_
  · refine Weak.go [0, 1, 7, 8] [] rfl ?_
    try simp only [slices_IndexFunc_heat_limit.h0, f1_i.sh, f1_i.frz, f1_i.br, f1_i.refs, f1_i.imp, f1_i.ren, f1_i.un, go_sem]
  · rintro i1 x_1 Bk1 Br1 h1 hnext1 hbrk1 hret1
    refine run_sound T_ok 1000 _ _ ?_
    simp only [slices_IndexFunc_heat_limit.b0] at h1
    try simp only [F133.s0, slices_IndexFunc_heat_limit.h0, f1_i.sh, f1_i.frz, f1_i.br, f1_i.refs, f1_i.imp, f1_i.ren, f1_i.un, go_sem]
    refine AKev_bif h1 (fun c2 h1 => ?_) (fun c2 h1 => ?_)
    · try simp only [c2, f1_i.sh, f1_i.frz, f1_i.br, f1_i.refs, f1_i.imp, f1_i.ren, f1_i.un, go_sem]
      obtain ⟨x3, yx3, h1⟩ := bind_some h1
      try simp only [at_in yx3, at_get heat_limit.c yx3, f1_i.sh, f1_i.frz, f1_i.br, f1_i.refs, f1_i.imp, f1_i.ren, f1_i.un, c2, go_sem]
      obtain ⟨x4, yx4, h1⟩ := bind_some h1
      refine AKev_call0 T_ok 1000 (f1_h _ _ yx4) ?_ (by first | rfl | simp [AV.refsL, AV.refs, AV.scal, AV.leaf, f1_i.refs]) ?_
      · try simp only [f1_i.sh, f1_i.frz, f1_i.br, f1_i.refs, f1_i.imp, f1_i.ren, f1_i.un, c2, at_in yx3, at_get heat_limit.c yx3, go_sem]
      try simp only [f1_i.sh, f1_i.frz, f1_i.br, f1_i.refs, f1_i.imp, f1_i.ren, f1_i.un, c2, at_in yx3, at_get heat_limit.c yx3, go_sem]
      refine AKev_bif h1 (fun c5 h1 => ?_) (fun c5 h1 => ?_)
      · try simp only [c5, f1_i.sh, f1_i.frz, f1_i.br, f1_i.refs, f1_i.imp, f1_i.ren, f1_i.un, c2, at_in yx3, at_get heat_limit.c yx3, go_sem]
        obtain rfl := hret1 _ (Option.some.inj h1).symm
        simp only at h0
        obtain rfl := Option.some.inj h0
        refine AKev_ret rfl ?_
        try simp only [F133.rs, f1_i.sh, f1_i.frz, f1_i.br, f1_i.refs, f1_i.imp, f1_i.ren, f1_i.un, c2, at_in yx3, at_get heat_limit.c yx3, c5, go_sem]
      · try simp only [c5, f1_i.sh, f1_i.frz, f1_i.br, f1_i.refs, f1_i.imp, f1_i.ren, f1_i.un, c2, at_in yx3, at_get heat_limit.c yx3, go_sem]
        refine AKev_backB (hnext1 _ _ (Option.some.inj h1).symm ?_)
        refine Weak.go [0, 1, 7, 8] [] rfl ?_
        try simp only [slices_IndexFunc_heat_limit.h0, f1_i.sh, f1_i.frz, f1_i.br, f1_i.refs, f1_i.imp, f1_i.ren, f1_i.un, c2, at_in yx3, at_get heat_limit.c yx3, c5, go_sem]
    · try simp only [c2, f1_i.sh, f1_i.frz, f1_i.br, f1_i.refs, f1_i.imp, f1_i.ren, f1_i.un, go_sem]
      refine AKev_backB (hbrk1 _ _ (Option.some.inj h1).symm ?_)
      refine Weak.go [] [] rfl ?_
      try simp only [slices_IndexFunc_heat_limit.x0, f1_i.sh, f1_i.frz, f1_i.br, f1_i.refs, f1_i.imp, f1_i.ren, f1_i.un, c2, go_sem]
  · rintro _ hr_
    subst hr_
    simp only at h0
    refine run_sound T_ok 1000 _ _ ?_
    try simp only [slices_IndexFunc_heat_limit.x0, f1_i.sh, f1_i.frz, f1_i.br, f1_i.refs, f1_i.imp, f1_i.ren, f1_i.un, go_sem]
    obtain rfl := Option.some.inj h0
    refine AKev_ret rfl ?_
    try simp only [F133.rs, f1_i.sh, f1_i.frz, f1_i.br, f1_i.refs, f1_i.imp, f1_i.ren, f1_i.un, go_sem]
end Go.Abs
namespace Go.Abs
open Go.Proofs
set_option maxRecDepth 20000
set_option linter.unusedVariables false
set_option linter.unusedSimpArgs false
set_option maxHeartbeats 8000000
def F141.c : SC :=
 (.seq
  (.reg [⟨some 2, .box 135 (.tmp 0), 0, none, [0]⟩,
    ⟨some 3, .assign (.const (.bool false)), 4, none, [3]⟩])
  (.seq
   (.reg [⟨some 4, .fieldAddr 135 (.tmp 2) 2, 0, none, [2]⟩,
     ⟨some 5, .load 3 (.tmp 4), 3, none, [4]⟩,
     ⟨some 6, .load 3 (.tmp 1), 3, none, [1]⟩,
     ⟨some 7, .binOp .eql 3 (.tmp 5) (.tmp 6) 3, 4, none, [5, 6]⟩,
     ⟨some 3, .assign (.tmp 7), 4, none, [7]⟩])
   .ret))
theorem F141.rs : Tryz.f141.results.toList = [.tmp 3] := rfl
def heat_furnace_told_1 (k : Nat) (x0 : heat_limit) (c1 : Int) : Option (Bool) :=
  some (decide (x0.by_ = c1))
theorem heat_furnace_told_1_ok (k : Nat) (x0 : heat_limit) (c1 : Int) (r : Bool) (h0 : heat_furnace_told_1 k x0 c1 = some r) : PCall Tryz.prog 141 [.agg (heat_limit.c x0), .rptr 1 [eI c1] 0 0] (fun y => y = .bool r) := by
  refine PCall.nlr (PCall.of_body T_ok (fn := Tryz.f141) (sc := F141.c) (by rfl) (by rfl) (by decide +kernel) (by rfl) (by decide +kernel) (Nat.le_of_ble_eq_true rfl) ?_)
  refine run_sound T_ok 1000 _ _ ?_
  simp only [heat_furnace_told_1] at h0
  try simp only [F141.c, go_sem]
  obtain rfl := Option.some.inj h0
  refine AKev_ret rfl ?_
  try simp only [F141.rs, go_sem]
end Go.Abs
namespace Go.Abs
open Go.Proofs
set_option maxRecDepth 20000
set_option linter.unusedVariables false
set_option linter.unusedSimpArgs false
set_option maxHeartbeats 8000000
def F132.c : SC :=
 (.seq
  (.reg [⟨some 2, .box 81 (.tmp 0), 0, none, [0]⟩,
    ⟨some 3, .box 3 (.tmp 1), 0, none, [1]⟩,
    ⟨some 4, .alloc 135, 0, none, []⟩,
    ⟨some 5, .assign (.const (.bool false)), 4, none, [5]⟩])
  (.seq
   (.reg [⟨some 7, .fieldAddr 81 (.tmp 2) 2, 0, none, []⟩,
     ⟨some 8, .load 79 (.tmp 7), 79, none, [7]⟩,
     ⟨some 9, .makeFunc (.func 141) #[] #[.tmp 3], 159, none, [3]⟩,
     ⟨some 10, .call ⟨.value (.func 133), #[.tmp 8, .tmp 9], #[79, 159]⟩, 3, none, [8, 9]⟩,
     ⟨some 6, .assign (.tmp 10), 3, none, [10]⟩])
   (.seq
    (.seq
     (.reg [⟨some 11, .move (.tmp 6), 3, none, []⟩,
       ⟨some 12, .binOp .lss 3 (.tmp 11) (.const (.int .i64 0)) 3, 4, none, [11]⟩])
     (.cond (.tmp 12)
      (.seq
       (.reg [⟨some 13, .build 135 #[], 135, none, []⟩,
         ⟨none, .store 135 (.tmp 4) (.tmp 13), 0, none, [13]⟩,
         ⟨some 5, .assign (.const (.bool false)), 4, none, []⟩])
       .ret)
      .skip))
    (.seq
     (.reg [⟨some 14, .fieldAddr 81 (.tmp 2) 2, 0, none, [2]⟩,
       ⟨some 15, .load 79 (.tmp 14), 79, none, [14]⟩,
       ⟨some 16, .move (.tmp 6), 3, none, [6]⟩,
       ⟨some 17, .indexAddr 79 (.tmp 15) (.tmp 16), 0, none, [15, 16]⟩,
       ⟨some 18, .load 135 (.tmp 17), 135, none, [17]⟩,
       ⟨none, .store 135 (.tmp 4) (.tmp 18), 0, none, [18]⟩,
       ⟨some 5, .assign (.const (.bool true)), 4, none, []⟩])
     .ret))))
theorem F132.rs : Tryz.f132.results.toList = [.cell 4 135, .tmp 5] := rfl
def heat_furnace_told (k : Nat) (f0 : heat_furnace) (i1 : Int) : Option (heat_limit × Bool) :=
  (slices_IndexFunc_heat_limit k f0.most (fun q0 => heat_furnace_told_1 k q0 i1)).bind fun x1 =>
  bif decide (x1 < (0 : Int)) then
    some ((⟨0, 0, 0⟩ : heat_limit), false)
  else
    (at? f0.most x1).bind fun x3 =>
    some (x3, true)
theorem heat_furnace_told_ok (k : Nat) (f0 : heat_furnace) (i1 : Int) (r : heat_limit × Bool) (h0 : heat_furnace_told k f0 i1 = some r) : PCall Tryz.prog 132 [.agg (heat_furnace.c f0), .int .i64 i1] (fun y => y = .tup [.agg (heat_limit.c r.1), .bool r.2]) := by
  refine PCall.nlr (PCall.of_body T_ok (fn := Tryz.f132) (sc := F132.c) (by rfl) (by rfl) (by decide +kernel) (by rfl) (by decide +kernel) (Nat.le_of_ble_eq_true rfl) ?_)
  refine run_sound T_ok 1000 _ _ ?_
  simp only [heat_furnace_told] at h0
  try simp only [F132.c, go_sem]
  obtain ⟨x1, yx1, h0⟩ := bind_some h0
  refine AKev_callL T_ok 1000 (slices_IndexFunc_heat_limit_ok k _ 141 [.rptr 1 [eI i1] 0 0] ⟨fun _ => rfl, fun _ => rfl, fun _ _ => rfl, rfl, fun _ => rfl, fun _ => rfl, fun _ => rfl⟩ (fun q0 => heat_furnace_told_1 k q0 i1) (fun q0 qr qh => heat_furnace_told_1_ok k q0 _ qr qh) _ yx1) ?_ (by first | rfl | simp [AV.refsL, AV.refs, AV.scal, AV.leaf]) ?_
  · try simp only [go_sem]
  try simp only [go_sem]
  refine AKev_bif h0 (fun c2 h0 => ?_) (fun c2 h0 => ?_)
  · try simp only [c2, go_sem]
    obtain rfl := Option.some.inj h0
    refine AKev_ret rfl ?_
    try simp only [F132.rs, c2, go_sem]
  · try simp only [c2, go_sem]
    obtain ⟨x3, yx3, h0⟩ := bind_some h0
    try simp only [at_in yx3, at_get heat_limit.c yx3, c2, go_sem]
    obtain rfl := Option.some.inj h0
    refine AKev_ret rfl ?_
    try simp only [F132.rs, c2, at_in yx3, at_get heat_limit.c yx3, go_sem]
end Go.Abs
namespace Go.Abs
open Go.Proofs
set_option maxRecDepth 20000
set_option linter.unusedVariables false
set_option linter.unusedSimpArgs false
set_option maxHeartbeats 8000000
def F114.s0 : SC :=
 (.seq
  (.reg [⟨some 55, .binOp .lss 3 (.tmp 54) (.tmp 53) 3, 0, none, []⟩])
  (.seq
   (.cond (.tmp 55)
    .skip
    (.exit 0))
   (.seq
    (.block 1
     (.seq
      (.reg [⟨some 56, .move (.tmp 54), 3, none, []⟩,
        ⟨some 57, .indexAddr 37 (.tmp 52) (.tmp 54), 0, none, []⟩,
        ⟨some 58, .load 3 (.tmp 57), 3, none, [57]⟩,
        ⟨some 11, .assign (.tmp 56), 3, none, [56]⟩,
        ⟨some 12, .assign (.tmp 58), 3, none, [58]⟩])
      (.seq
       (.reg [⟨some 13, .assign (.const (.int .i64 3000)), 3, none, []⟩])
       (.seq
        (.seq
         (.reg [⟨some 59, .move (.tmp 12), 3, none, []⟩,
           ⟨some 60, .binOp .neq 3 (.tmp 59) (.const (.int .i64 (-1))) 3, 4, none, [59]⟩])
         (.cond (.tmp 60)
          (.seq
           (.reg [⟨some 62, .load 81 (.tmp 3), 81, none, []⟩,
             ⟨some 63, .move (.tmp 12), 3, none, [12]⟩,
             ⟨some 64, .call ⟨.value (.func 132), #[.tmp 62, .tmp 63], #[81, 3]⟩, 136, none, [62, 63]⟩,
             ⟨some 61, .move (.tmp 64), 136, none, [64]⟩,
             ⟨some 65, .extract (.tmp 61) 0, 135, none, []⟩,
             ⟨some 66, .extract (.tmp 61) 1, 4, none, [61]⟩,
             ⟨some 14, .alloc 135, 0, none, []⟩,
             ⟨none, .store 135 (.tmp 14) (.tmp 65), 0, none, [65]⟩,
             ⟨some 15, .assign (.tmp 66), 4, none, [66]⟩])
           (.seq
            (.seq
             (.reg [⟨some 67, .move (.tmp 15), 4, none, [15]⟩,
               ⟨some 68, .unOp .not 4 (.tmp 67), 4, none, [67]⟩])
             (.cond (.tmp 68)
              (.seq
               (.reg [⟨some 6, .assign (.const (.int .i64 0)), 3, none, []⟩,
                 ⟨some 7, .assign (.const (.bool false)), 4, none, []⟩])
               .ret)
              .skip))
            (.dreg [⟨some 69, .fieldAddr 135 (.tmp 14) 1, 0, none, []⟩,
              ⟨some 70, .load 3 (.tmp 69), 3, none, []⟩,
              ⟨some 71, .fieldAddr 81 (.tmp 3) 0, 0, none, []⟩,
              ⟨some 72, .fieldAddr 27 (.tmp 71) 0, 0, none, []⟩,
              ⟨some 73, .fieldAddr 24 (.tmp 72) 0, 0, none, []⟩,
              ⟨some 74, .load 22 (.tmp 73), 22, none, []⟩,
              ⟨some 75, .move (.tmp 11), 3, none, []⟩,
              ⟨some 76, .indexAddr 22 (.tmp 74) (.tmp 75), 0, none, []⟩,
              ⟨some 77, .load 89 (.tmp 76), 89, none, []⟩,
              ⟨some 78, .fieldAddr 135 (.tmp 14) 0, 0, none, []⟩,
              ⟨some 79, .load 3 (.tmp 78), 3, none, []⟩,
              ⟨some 80, .indexAddr 89 (.tmp 77) (.tmp 79), 0, none, []⟩,
              ⟨some 81, .fieldAddr 30 (.tmp 80) 1, 0, none, []⟩,
              ⟨some 82, .load 3 (.tmp 81), 3, none, []⟩,
              ⟨some 83, .binOp .add 3 (.tmp 70) (.tmp 82) 3, 3, none, []⟩,
              ⟨some 13, .assign (.tmp 83), 3, none, []⟩] [[], [0], [], [2], [2, 3], [2, 3, 4], [], [2, 3, 4, 5, 6], [2, 3, 4, 5, 6, 7], [], [9], [2, 3, 4, 5, 6, 7, 8, 9, 10], [2, 3, 4, 5, 6, 7, 8, 9, 10, 11], [2, 3, 4, 5, 6, 7, 8, 9, 10, 11, 12], [0, 1, 2, 3, 4, 5, 6, 7, 8, 9, 10, 11, 12, 13], [0, 1, 2, 3, 4, 5, 6, 7, 8, 9, 10, 11, 12, 13, 14]] [14, 69, 70, 71, 72, 73, 74, 75, 76, 77, 78, 79, 80, 81, 82, 83])))
          .skip))
        (.seq
         (.reg [⟨some 84, .move (.tmp 13), 3, none, [13]⟩,
           ⟨some 85, .fieldAddr 81 (.tmp 3) 0, 0, none, []⟩,
           ⟨some 86, .fieldAddr 27 (.tmp 85) 0, 0, none, [85]⟩,
           ⟨some 87, .fieldAddr 24 (.tmp 86) 0, 0, none, [86]⟩,
           ⟨some 88, .load 22 (.tmp 87), 22, none, [87]⟩,
           ⟨some 89, .move (.tmp 11), 3, none, []⟩,
           ⟨some 90, .indexAddr 22 (.tmp 88) (.tmp 89), 0, none, [88, 89]⟩,
           ⟨some 91, .load 89 (.tmp 90), 89, none, [90]⟩,
           ⟨some 92, .move (.tmp 1), 3, none, []⟩,
           ⟨some 93, .indexAddr 89 (.tmp 91) (.tmp 92), 0, none, [91, 92]⟩,
           ⟨some 94, .fieldAddr 30 (.tmp 93) 0, 0, none, [93]⟩,
           ⟨some 95, .load 3 (.tmp 94), 3, none, [94]⟩,
           ⟨some 96, .binOp .sub 3 (.tmp 84) (.tmp 95) 3, 3, none, [84, 95]⟩,
           ⟨some 16, .assign (.tmp 96), 3, none, [96]⟩])
         (.seq
          (.reg [⟨some 97, .move (.tmp 11), 3, none, [11]⟩,
            ⟨some 98, .binOp .eql 3 (.tmp 97) (.const (.int .i64 0)) 3, 4, none, [97]⟩,
            ⟨some 99, .move (.tmp 98), 4, none, [98]⟩,
            ⟨some 100, .move (.tmp 16), 3, some (99, false), []⟩,
            ⟨some 101, .move (.tmp 10), 3, some (99, false), []⟩,
            ⟨some 102, .binOp .gtr 3 (.tmp 100) (.tmp 101) 3, 4, some (99, false), [100, 101]⟩,
            ⟨some 103, .pick (.tmp 99) (.const (.bool true)) (.tmp 102), 4, none, [99, 102]⟩])
          (.cond (.tmp 103)
           (.reg [⟨some 104, .move (.tmp 16), 3, none, [16]⟩,
             ⟨some 10, .assign (.tmp 104), 3, none, [104]⟩])
           .skip)))))))
    (.reg [⟨some 105, .binOp .add 3 (.tmp 54) (.const (.int .i64 1)) 3, 3, none, [54]⟩,
      ⟨some 54, .move (.tmp 105), 3, none, [105]⟩]))))
def F114.c : SC :=
 (.seq
  (.reg [⟨some 3, .box 81 (.tmp 0), 0, none, [0]⟩,
    ⟨some 5, .box 57 (.tmp 2), 0, none, [2]⟩,
    ⟨some 6, .assign (.const (.int .i64 0)), 3, none, [6]⟩,
    ⟨some 7, .assign (.const (.bool false)), 4, none, [7]⟩])
  (.seq
   (.seq
    (.reg [⟨some 17, .fieldAddr 57 (.tmp 5) 0, 0, none, []⟩,
      ⟨some 18, .load 3 (.tmp 17), 3, none, [17]⟩,
      ⟨some 19, .binOp .neq 3 (.tmp 18) (.const (.int .i64 (-1))) 3, 4, none, [18]⟩])
    (.cond (.tmp 19)
     (.seq
      (.reg [⟨some 21, .load 81 (.tmp 3), 81, none, [3]⟩,
        ⟨some 22, .fieldAddr 57 (.tmp 5) 0, 0, none, []⟩,
        ⟨some 23, .load 3 (.tmp 22), 3, none, [22]⟩,
        ⟨some 24, .call ⟨.value (.func 132), #[.tmp 21, .tmp 23], #[81, 3]⟩, 136, none, [21, 23]⟩,
        ⟨some 20, .move (.tmp 24), 136, none, [24]⟩,
        ⟨some 25, .extract (.tmp 20) 0, 135, none, []⟩,
        ⟨some 26, .extract (.tmp 20) 1, 4, none, [20]⟩,
        ⟨some 8, .alloc 135, 0, none, []⟩,
        ⟨none, .store 135 (.tmp 8) (.tmp 25), 0, none, [25]⟩,
        ⟨some 9, .assign (.tmp 26), 4, none, [26]⟩])
      (.seq
       (.dreg [⟨some 27, .fieldAddr 135 (.tmp 8) 1, 0, none, []⟩,
         ⟨some 28, .load 3 (.tmp 27), 3, none, []⟩,
         ⟨some 29, .move (.tmp 9), 4, none, []⟩,
         ⟨some 30, .move (.tmp 29), 4, none, []⟩,
         ⟨some 31, .fieldAddr 135 (.tmp 8) 0, 0, some (30, true), []⟩,
         ⟨some 32, .load 3 (.tmp 31), 3, some (30, true), []⟩,
         ⟨some 33, .move (.tmp 1), 3, some (30, true), []⟩,
         ⟨some 34, .binOp .eql 3 (.tmp 32) (.tmp 33) 3, 4, some (30, true), []⟩,
         ⟨some 35, .pick (.tmp 30) (.tmp 34) (.const (.bool false)), 4, none, []⟩,
         ⟨some 36, .move (.tmp 35), 4, none, []⟩,
         ⟨some 37, .fieldAddr 57 (.tmp 5) 1, 0, some (36, true), []⟩,
         ⟨some 38, .load 37 (.tmp 37), 37, some (36, true), []⟩,
         ⟨some 39, .call ⟨.builtin .len, #[.tmp 38], #[37]⟩, 3, some (36, true), []⟩,
         ⟨some 40, .binOp .eql 3 (.tmp 39) (.const (.int .i64 0)) 3, 4, some (36, true), []⟩,
         ⟨some 41, .pick (.tmp 36) (.tmp 40) (.const (.bool false)), 4, none, []⟩,
         ⟨some 6, .assign (.tmp 28), 3, none, []⟩,
         ⟨some 7, .assign (.tmp 41), 4, none, []⟩] [[], [0], [], [2], [2, 3], [2, 3, 4], [2, 3], [2, 3, 4, 5, 6], [2, 3, 4, 5, 6, 7], [2, 3, 4, 5, 6, 7, 8], [2, 3, 4, 5, 6, 7, 8, 9], [2, 3, 4, 5, 6, 7, 8, 9, 10], [2, 3, 4, 5, 6, 7, 8, 9, 10, 11], [2, 3, 4, 5, 6, 7, 8, 9, 10, 11, 12], [2, 3, 4, 5, 6, 7, 8, 9, 10, 11, 12, 13], [0, 1, 2, 3, 4, 5, 6, 7, 8, 9], [2, 3, 4, 5, 6, 7, 8, 9, 10, 11, 12, 13, 14, 0, 1, 15]] [1, 5, 8, 9, 27, 28, 29, 30, 31, 32, 33, 34, 35, 36, 37, 38, 39, 40, 41])
       .ret))
     .skip))
   (.seq
    (.seq
     (.reg [⟨some 42, .fieldAddr 57 (.tmp 5) 1, 0, none, []⟩,
       ⟨some 43, .load 37 (.tmp 42), 37, none, [42]⟩,
       ⟨some 44, .call ⟨.builtin .len, #[.tmp 43], #[37]⟩, 3, none, [43]⟩,
       ⟨some 45, .fieldAddr 81 (.tmp 3) 0, 0, none, []⟩,
       ⟨some 46, .fieldAddr 27 (.tmp 45) 0, 0, none, [45]⟩,
       ⟨some 47, .fieldAddr 24 (.tmp 46) 0, 0, none, [46]⟩,
       ⟨some 48, .load 22 (.tmp 47), 22, none, [47]⟩,
       ⟨some 49, .call ⟨.builtin .len, #[.tmp 48], #[22]⟩, 3, none, [48]⟩,
       ⟨some 50, .binOp .neq 3 (.tmp 44) (.tmp 49) 3, 4, none, [44, 49]⟩])
     (.cond (.tmp 50)
      (.seq
       (.reg [⟨some 6, .assign (.const (.int .i64 0)), 3, none, []⟩,
         ⟨some 7, .assign (.const (.bool false)), 4, none, []⟩])
       .ret)
      .skip))
    (.seq
     (.reg [⟨some 10, .assign (.const (.int .i64 (-3000))), 3, none, []⟩])
     (.seq
      (.seq
       (.reg [⟨some 51, .fieldAddr 57 (.tmp 5) 1, 0, none, [5]⟩,
         ⟨some 52, .load 37 (.tmp 51), 37, none, [51]⟩,
         ⟨some 53, .call ⟨.builtin .len, #[.tmp 52], #[37]⟩, 3, none, []⟩,
         ⟨some 54, .move (.const (.int .i64 0)), 3, none, []⟩])
       (.block 0
        (.loop F114.s0)))
      (.seq
       (.reg [⟨some 106, .move (.tmp 10), 3, none, [10]⟩,
         ⟨some 6, .assign (.tmp 106), 3, none, [106]⟩,
         ⟨some 7, .assign (.const (.bool true)), 4, none, []⟩])
       .ret))))))
theorem F114.rs : Tryz.f114.results.toList = [.tmp 6, .tmp 7] := rfl
def heat_furnace_showsHigh.b0 (k : Nat) (f0 : heat_furnace) (place1 : Int) (p2 : HeatProof) : (Int × Int) → Option (Stp (Int × Int) (Int) (Int × Bool)) := fun (s : Int × Int) => match s with
  | (i6, i7) => 
      bif decide (i7 < (p2.By.length : Int)) then
        (at? p2.By i7).bind fun x10 =>
        bif (!decide (x10 = (-1 : Int))) then
          (heat_furnace_told k f0 x10).bind fun x12 =>
          bif (!x12.2) then
            some (.ret (0, false))
          else
            (at? f0.Firing.Kiln.Falls i7).bind fun x14 =>
            (at? x14 x12.1.place).bind fun x15 =>
            (at? x14 place1).bind fun x16 =>
            bif (!decide (i7 = (0 : Int))) then
              bif decide (i6 < w64 ((w64 (x12.1.heat + x15.Hi)) - x16.Lo)) then
                some (.next (w64 ((w64 (x12.1.heat + x15.Hi)) - x16.Lo), w64 (i7 + 1)))
              else
                some (.next (i6, w64 (i7 + 1)))
            else
              some (.next (w64 ((w64 (x12.1.heat + x15.Hi)) - x16.Lo), w64 (i7 + 1)))
        else
          (at? f0.Firing.Kiln.Falls i7).bind fun x19 =>
          (at? x19 place1).bind fun x20 =>
          bif (!decide (i7 = (0 : Int))) then
            bif decide (i6 < w64 (3000 - x20.Lo)) then
              some (.next (w64 (3000 - x20.Lo), w64 (i7 + 1)))
            else
              some (.next (i6, w64 (i7 + 1)))
          else
            some (.next (w64 (3000 - x20.Lo), w64 (i7 + 1)))
      else
        some (.brk i6)
noncomputable def heat_furnace_showsHigh.h0 (f0 : heat_furnace) (place1 : Int) (p2 : HeatProof) : (Int × Int) → St := fun (s : Int × Int) => match s with
  | (i6, i7) => ⟨[(1, .int .i64 place1), (3, .ptr 0 0 0), (10, .int .i64 i6), (52, .sl 1 (List.map eI p2.By)), (53, .int .i64 (p2.By.length : Int)), (54, .int .i64 i7)], [(0, .box [.sl 1 (List.map (eL 2 Range.c) f0.Firing.Kiln.Falls), .sl 6 (List.map Reading.c f0.Firing.Readings), .sl 3 (List.map heat_limit.c f0.least), .sl 3 (List.map heat_limit.c f0.most)])], [], 1, Tryz.f114.ntmps⟩
noncomputable def heat_furnace_showsHigh.x0 : Int → St := fun (i8 : Int) => ⟨[(10, .int .i64 i8)], [], [], 1, Tryz.f114.ntmps⟩
def heat_furnace_showsHigh (k : Nat) (f0 : heat_furnace) (place1 : Int) (p2 : HeatProof) : Option (Int × Bool) :=
  bif (!decide (p2.Reading = (-1 : Int))) then
    (heat_furnace_told k f0 p2.Reading).bind fun x2 =>
    bif x2.2 then
      bif decide (x2.1.place = place1) then
        some (x2.1.heat, decide ((p2.By.length : Int) = (0 : Int)))
      else
        some (x2.1.heat, false)
    else
      some (x2.1.heat, false)
  else
    bif (!decide ((p2.By.length : Int) = (f0.Firing.Kiln.Falls.length : Int))) then
      some (0, false)
    else
      (whl (heat_furnace_showsHigh.b0 k f0 place1 p2) k (-3000, 0)).bind fun r23 => match r23 with
      | .next _ => none
      | .ret v_ => some v_
      | .brk i8 =>
        some (i8, true)
theorem heat_furnace_showsHigh_ok (k : Nat) (f0 : heat_furnace) (place1 : Int) (p2 : HeatProof) (r : Int × Bool) (h0 : heat_furnace_showsHigh k f0 place1 p2 = some r) : PCall Tryz.prog 114 [.agg (heat_furnace.c f0), .int .i64 place1, .agg (HeatProof.c p2)] (fun y => y = .tup [.int .i64 r.1, .bool r.2]) := by
  refine PCall.nlr (PCall.of_body T_ok (fn := Tryz.f114) (sc := F114.c) (by rfl) (by rfl) (by decide +kernel) (by rfl) (by decide +kernel) (Nat.le_of_ble_eq_true rfl) ?_)
  refine run_sound T_ok 1000 _ _ ?_
  simp only [heat_furnace_showsHigh] at h0
  try simp only [F114.c, go_sem]
  refine AKev_bif h0 (fun c1 h0 => ?_) (fun c1 h0 => ?_)
  · have c1 := bnot_t c1
    try simp only [c1, go_sem]
    obtain ⟨x2, yx2, h0⟩ := bind_some h0
    refine AKev_call0 T_ok 1000 (heat_furnace_told_ok k _ _ _ yx2) ?_ (by first | rfl | simp [AV.refsL, AV.refs, AV.scal, AV.leaf]) ?_
    · try simp only [c1, go_sem]
    try simp only [c1, go_sem]
    refine AKev_region T_ok follows_ok 1000 ?_
    try simp only [c1, go_sem]
    refine DG_bif h0 (fun c3 h0 => ?_) (fun c3 h0 => ?_)
    · try simp only [c3, c1, go_sem]
      refine DG_bif h0 (fun c4 h0 => ?_) (fun c4 h0 => ?_)
      · try simp only [c4, c1, c3, go_sem]
        refine DG_done ⟨rfl, run_sound T_ok 1000 _ _ ?_⟩
        try simp only [c1, c3, c4, go_sem]
        obtain rfl := Option.some.inj h0
        refine AKev_ret rfl ?_
        try simp only [F114.rs, c1, c3, c4, go_sem]
      · try simp only [c4, c1, c3, go_sem]
        refine DG_done ⟨rfl, run_sound T_ok 1000 _ _ ?_⟩
        try simp only [c1, c3, c4, go_sem]
        obtain rfl := Option.some.inj h0
        refine AKev_ret rfl ?_
        try simp only [F114.rs, c1, c3, c4, go_sem]
    · try simp only [c3, c1, go_sem]
      refine DG_done ⟨rfl, run_sound T_ok 1000 _ _ ?_⟩
      try simp only [c1, c3, go_sem]
      obtain rfl := Option.some.inj h0
      refine AKev_ret rfl ?_
      try simp only [F114.rs, c1, c3, go_sem]
  · have c1 := bnot_f c1
    try simp only [c1, go_sem]
    refine AKev_bif h0 (fun c5 h0 => ?_) (fun c5 h0 => ?_)
    · have c5 := bnot_t c5
      try simp only [c5, c1, go_sem]
      obtain rfl := Option.some.inj h0
      refine AKev_ret rfl ?_
      try simp only [F114.rs, c1, c5, go_sem]
    · have c5 := bnot_f c5
      try simp only [c5, c1, go_sem]
      obtain ⟨r23, yr23, h0⟩ := bind_some h0
      refine AKev_loopS yr23 (heat_furnace_showsHigh.h0 f0 place1 p2) (heat_furnace_showsHigh.x0) ?_ ?_ ?_
      · refine Weak.go [1, 3, 10, 52, 53, 54] [0] rfl ?_
        try simp only [heat_furnace_showsHigh.h0, c1, c5, go_sem]
      · rintro ⟨i6, i7⟩ x_1 Bk1 Br1 h1 hnext1 hbrk1 hret1
        refine run_sound T_ok 1000 _ _ ?_
        simp only [heat_furnace_showsHigh.b0] at h1
        try simp only [F114.s0, heat_furnace_showsHigh.h0, c1, c5, go_sem]
        refine AKev_bif h1 (fun c9 h1 => ?_) (fun c9 h1 => ?_)
        · try simp only [c9, c1, c5, go_sem]
          obtain ⟨x10, yx10, h1⟩ := bind_some h1
          try simp only [at_in yx10, at_get eI yx10, c1, c5, c9, go_sem]
          refine AKev_bif h1 (fun c11 h1 => ?_) (fun c11 h1 => ?_)
          · have c11 := bnot_t c11
            try simp only [c11, c1, c5, c9, at_in yx10, at_get eI yx10, go_sem]
            obtain ⟨x12, yx12, h1⟩ := bind_some h1
            refine AKev_call0 T_ok 1000 (heat_furnace_told_ok k _ _ _ yx12) ?_ (by first | rfl | simp [AV.refsL, AV.refs, AV.scal, AV.leaf]) ?_
            · try simp only [c1, c5, c9, at_in yx10, at_get eI yx10, c11, go_sem]
            try simp only [c1, c5, c9, at_in yx10, at_get eI yx10, c11, go_sem]
            refine AKev_bif h1 (fun c13 h1 => ?_) (fun c13 h1 => ?_)
            · have c13 := bnot_t c13
              try simp only [c13, c1, c5, c9, at_in yx10, at_get eI yx10, c11, go_sem]
              obtain rfl := hret1 _ (Option.some.inj h1).symm
              simp only at h0
              obtain rfl := Option.some.inj h0
              refine AKev_ret rfl ?_
              try simp only [F114.rs, c1, c5, c9, at_in yx10, at_get eI yx10, c11, c13, go_sem]
            · have c13 := bnot_f c13
              try simp only [c13, c1, c5, c9, at_in yx10, at_get eI yx10, c11, go_sem]
              refine AKev_region T_ok follows_ok 1000 ?_
              try simp only [c1, c5, c9, at_in yx10, at_get eI yx10, c11, c13, go_sem]
              obtain ⟨x14, yx14, h1⟩ := bind_some h1
              try simp only [at_in yx14, at_get (eL 2 Range.c) yx14, c1, c5, c9, at_in yx10, at_get eI yx10, c11, c13, go_sem]
              obtain ⟨x15, yx15, h1⟩ := bind_some h1
              try simp only [at_in yx15, at_get Range.c yx15, c1, c5, c9, at_in yx10, at_get eI yx10, c11, c13, at_in yx14, at_get (eL 2 Range.c) yx14, go_sem]
              refine DG_done ⟨rfl, run_sound T_ok 1000 _ _ ?_⟩
              try simp only [at_in yx14, at_get (eL 2 Range.c) yx14, c1, c5, c9, at_in yx10, at_get eI yx10, c11, c13, at_in yx15, at_get Range.c yx15, go_sem]
              obtain ⟨x16, yx16, h1⟩ := bind_some h1
              try simp only [at_in yx16, at_get Range.c yx16, c1, c5, c9, at_in yx10, at_get eI yx10, c11, c13, at_in yx14, at_get (eL 2 Range.c) yx14, at_in yx15, at_get Range.c yx15, go_sem]
              refine AKev_bif h1 (fun c17 h1 => ?_) (fun c17 h1 => ?_)
              · have c17 := bnot_t c17
                try simp only [c17, c1, c5, c9, at_in yx10, at_get eI yx10, c11, c13, at_in yx14, at_get (eL 2 Range.c) yx14, at_in yx15, at_get Range.c yx15, at_in yx16, at_get Range.c yx16, go_sem]
                refine AKev_bif h1 (fun c18 h1 => ?_) (fun c18 h1 => ?_)
                · try simp only [c18, c1, c5, c9, at_in yx10, at_get eI yx10, c11, c13, at_in yx14, at_get (eL 2 Range.c) yx14, at_in yx15, at_get Range.c yx15, at_in yx16, at_get Range.c yx16, c17, go_sem]
                  refine AKev_backB (hnext1 _ _ (Option.some.inj h1).symm ?_)
                  refine Weak.go [1, 3, 10, 52, 53, 54] [0] rfl ?_
                  try simp only [heat_furnace_showsHigh.h0, c1, c5, c9, at_in yx10, at_get eI yx10, c11, c13, at_in yx14, at_get (eL 2 Range.c) yx14, at_in yx15, at_get Range.c yx15, at_in yx16, at_get Range.c yx16, c17, c18, go_sem]
                · try simp only [c18, c1, c5, c9, at_in yx10, at_get eI yx10, c11, c13, at_in yx14, at_get (eL 2 Range.c) yx14, at_in yx15, at_get Range.c yx15, at_in yx16, at_get Range.c yx16, c17, go_sem]
                  refine AKev_backB (hnext1 _ _ (Option.some.inj h1).symm ?_)
                  refine Weak.go [1, 3, 10, 52, 53, 54] [0] rfl ?_
                  try simp only [heat_furnace_showsHigh.h0, c1, c5, c9, at_in yx10, at_get eI yx10, c11, c13, at_in yx14, at_get (eL 2 Range.c) yx14, at_in yx15, at_get Range.c yx15, at_in yx16, at_get Range.c yx16, c17, c18, go_sem]
              · have c17 := bnot_f c17
                try simp only [c17, c1, c5, c9, at_in yx10, at_get eI yx10, c11, c13, at_in yx14, at_get (eL 2 Range.c) yx14, at_in yx15, at_get Range.c yx15, at_in yx16, at_get Range.c yx16, go_sem]
                refine AKev_backB (hnext1 _ _ (Option.some.inj h1).symm ?_)
                refine Weak.go [1, 3, 10, 52, 53, 54] [0] rfl ?_
                try simp only [heat_furnace_showsHigh.h0, c1, c5, c9, at_in yx10, at_get eI yx10, c11, c13, at_in yx14, at_get (eL 2 Range.c) yx14, at_in yx15, at_get Range.c yx15, at_in yx16, at_get Range.c yx16, c17, go_sem]
          · have c11 := bnot_f c11
            try simp only [c11, c1, c5, c9, at_in yx10, at_get eI yx10, go_sem]
            obtain ⟨x19, yx19, h1⟩ := bind_some h1
            try simp only [at_in yx19, at_get (eL 2 Range.c) yx19, c1, c5, c9, at_in yx10, at_get eI yx10, c11, go_sem]
            obtain ⟨x20, yx20, h1⟩ := bind_some h1
            try simp only [at_in yx20, at_get Range.c yx20, c1, c5, c9, at_in yx10, at_get eI yx10, c11, at_in yx19, at_get (eL 2 Range.c) yx19, go_sem]
            refine AKev_bif h1 (fun c21 h1 => ?_) (fun c21 h1 => ?_)
            · have c21 := bnot_t c21
              try simp only [c21, c1, c5, c9, at_in yx10, at_get eI yx10, c11, at_in yx19, at_get (eL 2 Range.c) yx19, at_in yx20, at_get Range.c yx20, go_sem]
              refine AKev_bif h1 (fun c22 h1 => ?_) (fun c22 h1 => ?_)
              · try simp only [c22, c1, c5, c9, at_in yx10, at_get eI yx10, c11, at_in yx19, at_get (eL 2 Range.c) yx19, at_in yx20, at_get Range.c yx20, c21, go_sem]
                refine AKev_backB (hnext1 _ _ (Option.some.inj h1).symm ?_)
                refine Weak.go [1, 3, 10, 52, 53, 54] [0] rfl ?_
                try simp only [heat_furnace_showsHigh.h0, c1, c5, c9, at_in yx10, at_get eI yx10, c11, at_in yx19, at_get (eL 2 Range.c) yx19, at_in yx20, at_get Range.c yx20, c21, c22, go_sem]
              · try simp only [c22, c1, c5, c9, at_in yx10, at_get eI yx10, c11, at_in yx19, at_get (eL 2 Range.c) yx19, at_in yx20, at_get Range.c yx20, c21, go_sem]
                refine AKev_backB (hnext1 _ _ (Option.some.inj h1).symm ?_)
                refine Weak.go [1, 3, 10, 52, 53, 54] [0] rfl ?_
                try simp only [heat_furnace_showsHigh.h0, c1, c5, c9, at_in yx10, at_get eI yx10, c11, at_in yx19, at_get (eL 2 Range.c) yx19, at_in yx20, at_get Range.c yx20, c21, c22, go_sem]
            · have c21 := bnot_f c21
              try simp only [c21, c1, c5, c9, at_in yx10, at_get eI yx10, c11, at_in yx19, at_get (eL 2 Range.c) yx19, at_in yx20, at_get Range.c yx20, go_sem]
              refine AKev_backB (hnext1 _ _ (Option.some.inj h1).symm ?_)
              refine Weak.go [1, 3, 10, 52, 53, 54] [0] rfl ?_
              try simp only [heat_furnace_showsHigh.h0, c1, c5, c9, at_in yx10, at_get eI yx10, c11, at_in yx19, at_get (eL 2 Range.c) yx19, at_in yx20, at_get Range.c yx20, c21, go_sem]
        · try simp only [c9, c1, c5, go_sem]
          refine AKev_backB (hbrk1 _ _ (Option.some.inj h1).symm ?_)
          refine Weak.go [10] [] rfl ?_
          try simp only [heat_furnace_showsHigh.x0, c1, c5, c9, go_sem]
      · rintro i8 hr_
        subst hr_
        simp only at h0
        refine run_sound T_ok 1000 _ _ ?_
        try simp only [heat_furnace_showsHigh.x0, c1, c5, go_sem]
        obtain rfl := Option.some.inj h0
        refine AKev_ret rfl ?_
        try simp only [F114.rs, c1, c5, go_sem]
end Go.Abs
namespace Go.Abs
open Go.Proofs
set_option maxRecDepth 20000
set_option linter.unusedVariables false
set_option linter.unusedSimpArgs false
set_option maxHeartbeats 8000000
def F134.c : SC :=
 (.seq
  (.reg [⟨some 2, .box 135 (.tmp 0), 0, none, [0]⟩,
    ⟨some 3, .assign (.const (.bool false)), 4, none, [3]⟩])
  (.seq
   (.reg [⟨some 4, .fieldAddr 135 (.tmp 2) 2, 0, none, [2]⟩,
     ⟨some 5, .load 3 (.tmp 4), 3, none, [4]⟩,
     ⟨some 6, .fieldAddr 57 (.tmp 1) 0, 0, none, [1]⟩,
     ⟨some 7, .load 3 (.tmp 6), 3, none, [6]⟩,
     ⟨some 8, .binOp .eql 3 (.tmp 5) (.tmp 7) 3, 4, none, [5, 7]⟩,
     ⟨some 3, .assign (.tmp 8), 4, none, [8]⟩])
   .ret))
theorem F134.rs : Tryz.f134.results.toList = [.tmp 3] := rfl
def heat_furnace_showsLow_1 (k : Nat) (x0 : heat_limit) (c1 : HeatProof) : Option (Bool) :=
  some (decide (x0.by_ = c1.Reading))
theorem heat_furnace_showsLow_1_ok (k : Nat) (x0 : heat_limit) (c1 : HeatProof) (r : Bool) (h0 : heat_furnace_showsLow_1 k x0 c1 = some r) : PCall Tryz.prog 134 [.agg (heat_limit.c x0), .rptr 2 [HeatProof.c c1] 0 0] (fun y => y = .bool r) := by
  refine PCall.nlr (PCall.of_body T_ok (fn := Tryz.f134) (sc := F134.c) (by rfl) (by rfl) (by decide +kernel) (by rfl) (by decide +kernel) (Nat.le_of_ble_eq_true rfl) ?_)
  refine run_sound T_ok 1000 _ _ ?_
  simp only [heat_furnace_showsLow_1] at h0
  try simp only [F134.c, go_sem]
  obtain rfl := Option.some.inj h0
  refine AKev_ret rfl ?_
  try simp only [F134.rs, go_sem]
end Go.Abs
namespace Go.Abs
open Go.Proofs
set_option maxRecDepth 20000
set_option linter.unusedVariables false
set_option linter.unusedSimpArgs false
set_option maxHeartbeats 8000000
def F115.s0 : SC :=
 (.seq
  (.reg [⟨some 87, .binOp .lss 3 (.tmp 86) (.tmp 85) 3, 0, none, []⟩])
  (.seq
   (.cond (.tmp 87)
    .skip
    (.exit 0))
   (.seq
    (.block 1
     (.seq
      (.reg [⟨some 88, .move (.tmp 86), 3, none, []⟩,
        ⟨some 89, .indexAddr 37 (.tmp 84) (.tmp 86), 0, none, []⟩,
        ⟨some 90, .load 3 (.tmp 89), 3, none, [89]⟩,
        ⟨some 11, .assign (.tmp 88), 3, none, [88]⟩,
        ⟨some 12, .assign (.tmp 90), 3, none, [90]⟩])
      (.seq
       (.dreg [⟨some 91, .fieldAddr 135 (.tmp 10) 1, 0, none, []⟩,
         ⟨some 92, .load 3 (.tmp 91), 3, none, []⟩,
         ⟨some 93, .fieldAddr 81 (.tmp 3) 0, 0, none, []⟩,
         ⟨some 94, .fieldAddr 27 (.tmp 93) 0, 0, none, []⟩,
         ⟨some 95, .fieldAddr 24 (.tmp 94) 0, 0, none, []⟩,
         ⟨some 96, .load 22 (.tmp 95), 22, none, []⟩,
         ⟨some 97, .move (.tmp 11), 3, none, []⟩,
         ⟨some 98, .indexAddr 22 (.tmp 96) (.tmp 97), 0, none, []⟩,
         ⟨some 99, .load 89 (.tmp 98), 89, none, []⟩,
         ⟨some 100, .fieldAddr 135 (.tmp 10) 0, 0, none, []⟩,
         ⟨some 101, .load 3 (.tmp 100), 3, none, []⟩,
         ⟨some 102, .indexAddr 89 (.tmp 99) (.tmp 101), 0, none, []⟩,
         ⟨some 103, .fieldAddr 30 (.tmp 102) 0, 0, none, []⟩,
         ⟨some 104, .load 3 (.tmp 103), 3, none, []⟩,
         ⟨some 105, .binOp .add 3 (.tmp 92) (.tmp 104) 3, 3, none, []⟩,
         ⟨some 13, .assign (.tmp 105), 3, none, []⟩] [[], [0], [], [2], [2, 3], [2, 3, 4], [], [2, 3, 4, 5, 6], [2, 3, 4, 5, 6, 7], [], [9], [2, 3, 4, 5, 6, 7, 8, 9, 10], [2, 3, 4, 5, 6, 7, 8, 9, 10, 11], [2, 3, 4, 5, 6, 7, 8, 9, 10, 11, 12], [0, 1, 2, 3, 4, 5, 6, 7, 8, 9, 10, 11, 12, 13], [0, 1, 2, 3, 4, 5, 6, 7, 8, 9, 10, 11, 12, 13, 14]] [91, 92, 93, 94, 95, 96, 97, 98, 99, 100, 101, 102, 103, 104, 105])
       (.seq
        (.reg [⟨some 106, .move (.tmp 12), 3, none, []⟩])
        (.block 2
         (.seq
          (.reg [⟨some 135, .binOp .eql 3 (.tmp 106) (.const (.int .i64 (-1))) 3, 4, none, []⟩,
            ⟨some 134, .assign (.tmp 135), 4, none, [135]⟩])
          (.cond (.tmp 134)
           (.seq
            (.reg [⟨some 136, .move (.tmp 13), 3, none, [13]⟩,
              ⟨some 137, .fieldAddr 81 (.tmp 3) 0, 0, none, []⟩,
              ⟨some 138, .fieldAddr 27 (.tmp 137) 0, 0, none, [137]⟩,
              ⟨some 139, .fieldAddr 24 (.tmp 138) 0, 0, none, [138]⟩,
              ⟨some 140, .load 22 (.tmp 139), 22, none, [139]⟩,
              ⟨some 141, .move (.tmp 11), 3, none, [11]⟩,
              ⟨some 142, .indexAddr 22 (.tmp 140) (.tmp 141), 0, none, [140, 141]⟩,
              ⟨some 143, .load 89 (.tmp 142), 89, none, [142]⟩,
              ⟨some 144, .move (.tmp 1), 3, none, []⟩,
              ⟨some 145, .indexAddr 89 (.tmp 143) (.tmp 144), 0, none, [143, 144]⟩,
              ⟨some 146, .fieldAddr 30 (.tmp 145) 1, 0, none, [145]⟩,
              ⟨some 147, .load 3 (.tmp 146), 3, none, [146]⟩,
              ⟨some 148, .binOp .sub 3 (.tmp 136) (.tmp 147) 3, 3, none, [136, 147]⟩,
              ⟨some 14, .assign (.tmp 148), 3, none, [148]⟩])
            (.seq
             (.reg [⟨some 149, .move (.tmp 7), 4, none, []⟩,
               ⟨some 150, .move (.tmp 149), 4, none, [149]⟩,
               ⟨some 151, .move (.tmp 14), 3, some (150, false), []⟩,
               ⟨some 152, .move (.tmp 6), 3, some (150, false), []⟩,
               ⟨some 153, .binOp .lss 3 (.tmp 151) (.tmp 152) 3, 4, some (150, false), [151, 152]⟩,
               ⟨some 154, .pick (.tmp 150) (.const (.bool true)) (.tmp 153), 4, none, [150, 153]⟩])
             (.cond (.tmp 154)
              (.reg [⟨some 155, .move (.tmp 14), 3, none, [14]⟩,
                ⟨some 6, .assign (.tmp 155), 3, none, [155]⟩,
                ⟨some 7, .assign (.const (.bool false)), 4, none, []⟩])
              .skip)))
           (.seq
            (.reg [⟨some 157, .binOp .eql 3 (.tmp 106) (.const (.int .i64 (-2))) 3, 4, none, [106]⟩,
              ⟨some 156, .assign (.tmp 157), 4, none, [157]⟩])
            (.cond (.tmp 156)
             (.seq
              (.reg [⟨some 158, .move (.tmp 13), 3, none, [13]⟩,
                ⟨some 159, .binOp .leq 3 (.tmp 158) (.const (.int .i64 3000)) 3, 4, none, [158]⟩])
              (.cond (.tmp 159)
               (.seq
                (.reg [⟨some 6, .assign (.const (.int .i64 0)), 3, none, []⟩,
                  ⟨some 7, .assign (.const (.bool false)), 4, none, []⟩,
                  ⟨some 8, .assign (.const (.bool false)), 4, none, []⟩])
                .ret)
               .skip))
             (.seq
              (.reg [⟨some 108, .load 81 (.tmp 3), 81, none, []⟩,
                ⟨some 109, .move (.tmp 12), 3, none, [12]⟩,
                ⟨some 110, .call ⟨.value (.func 132), #[.tmp 108, .tmp 109], #[81, 3]⟩, 136, none, [108, 109]⟩,
                ⟨some 107, .move (.tmp 110), 136, none, [110]⟩,
                ⟨some 111, .extract (.tmp 107) 0, 135, none, []⟩,
                ⟨some 112, .extract (.tmp 107) 1, 4, none, [107]⟩,
                ⟨some 15, .alloc 135, 0, none, []⟩,
                ⟨none, .store 135 (.tmp 15) (.tmp 111), 0, none, [111]⟩,
                ⟨some 16, .assign (.tmp 112), 4, none, [112]⟩])
              (.seq
               (.dreg [⟨some 113, .move (.tmp 16), 4, none, []⟩,
                 ⟨some 114, .unOp .not 4 (.tmp 113), 4, none, []⟩,
                 ⟨some 115, .move (.tmp 114), 4, none, []⟩,
                 ⟨some 116, .move (.tmp 13), 3, some (115, false), []⟩,
                 ⟨some 117, .fieldAddr 135 (.tmp 15) 1, 0, some (115, false), []⟩,
                 ⟨some 118, .load 3 (.tmp 117), 3, some (115, false), []⟩,
                 ⟨some 119, .fieldAddr 81 (.tmp 3) 0, 0, some (115, false), []⟩,
                 ⟨some 120, .fieldAddr 27 (.tmp 119) 0, 0, some (115, false), []⟩,
                 ⟨some 121, .fieldAddr 24 (.tmp 120) 0, 0, some (115, false), []⟩,
                 ⟨some 122, .load 22 (.tmp 121), 22, some (115, false), []⟩,
                 ⟨some 123, .move (.tmp 11), 3, some (115, false), []⟩,
                 ⟨some 124, .indexAddr 22 (.tmp 122) (.tmp 123), 0, some (115, false), []⟩,
                 ⟨some 125, .load 89 (.tmp 124), 89, some (115, false), []⟩,
                 ⟨some 126, .fieldAddr 135 (.tmp 15) 0, 0, some (115, false), []⟩,
                 ⟨some 127, .load 3 (.tmp 126), 3, some (115, false), []⟩,
                 ⟨some 128, .indexAddr 89 (.tmp 125) (.tmp 127), 0, some (115, false), []⟩,
                 ⟨some 129, .fieldAddr 30 (.tmp 128) 1, 0, some (115, false), []⟩,
                 ⟨some 130, .load 3 (.tmp 129), 3, some (115, false), []⟩,
                 ⟨some 131, .binOp .add 3 (.tmp 118) (.tmp 130) 3, 3, some (115, false), []⟩,
                 ⟨some 132, .binOp .leq 3 (.tmp 116) (.tmp 131) 3, 4, some (115, false), []⟩,
                 ⟨some 133, .pick (.tmp 115) (.const (.bool true)) (.tmp 132), 4, none, []⟩] [[], [0], [0, 1], [0, 1, 2], [0, 1, 2], [0, 1, 2, 4], [0, 1, 2], [0, 1, 2, 6], [0, 1, 2, 6, 7], [0, 1, 2, 6, 7, 8], [0, 1, 2], [0, 1, 2, 6, 7, 8, 9, 10], [0, 1, 2, 6, 7, 8, 9, 10, 11], [0, 1, 2], [0, 1, 2, 13], [0, 1, 2, 6, 7, 8, 9, 10, 11, 12, 13, 14], [0, 1, 2, 6, 7, 8, 9, 10, 11, 12, 13, 14, 15], [0, 1, 2, 6, 7, 8, 9, 10, 11, 12, 13, 14, 15, 16], [0, 1, 2, 4, 5, 6, 7, 8, 9, 10, 11, 12, 13, 14, 15, 16, 17], [0, 1, 2, 3, 4, 5, 6, 7, 8, 9, 10, 11, 12, 13, 14, 15, 16, 17, 18], [0, 1, 2, 3, 4, 5, 6, 7, 8, 9, 10, 11, 12, 13, 14, 15, 16, 17, 18, 19]] [11, 13, 15, 16, 113, 114, 115, 116, 117, 118, 119, 120, 121, 122, 123, 124, 125, 126, 127, 128, 129, 130, 131, 132])
               (.cond (.tmp 133)
                (.seq
                 (.reg [⟨some 6, .assign (.const (.int .i64 0)), 3, none, []⟩,
                   ⟨some 7, .assign (.const (.bool false)), 4, none, []⟩,
                   ⟨some 8, .assign (.const (.bool false)), 4, none, []⟩])
                 .ret)
                .skip))))))))))))
    (.reg [⟨some 160, .binOp .add 3 (.tmp 86) (.const (.int .i64 1)) 3, 3, none, [86]⟩,
      ⟨some 86, .move (.tmp 160), 3, none, [160]⟩]))))
def F115.c : SC :=
 (.seq
  (.reg [⟨some 3, .box 81 (.tmp 0), 0, none, [0]⟩,
    ⟨some 5, .box 57 (.tmp 2), 0, none, [2]⟩,
    ⟨some 6, .assign (.const (.int .i64 0)), 3, none, []⟩,
    ⟨some 7, .assign (.const (.bool false)), 4, none, [7]⟩,
    ⟨some 8, .assign (.const (.bool false)), 4, none, [8]⟩])
  (.seq
   (.seq
    (.reg [⟨some 17, .fieldAddr 57 (.tmp 5) 0, 0, none, []⟩,
      ⟨some 18, .load 3 (.tmp 17), 3, none, [17]⟩,
      ⟨some 19, .binOp .eql 3 (.tmp 18) (.const (.int .i64 (-2))) 3, 4, none, [18]⟩])
    (.cond (.tmp 19)
     (.seq
      (.seq
       (.dreg [⟨some 20, .fieldAddr 57 (.tmp 5) 1, 0, none, []⟩,
         ⟨some 21, .load 37 (.tmp 20), 37, none, []⟩,
         ⟨some 22, .call ⟨.builtin .len, #[.tmp 21], #[37]⟩, 3, none, []⟩,
         ⟨some 23, .binOp .neq 3 (.tmp 22) (.const (.int .i64 1)) 3, 4, none, []⟩,
         ⟨some 24, .move (.tmp 23), 4, none, []⟩,
         ⟨some 25, .fieldAddr 57 (.tmp 5) 1, 0, some (24, false), []⟩,
         ⟨some 26, .load 37 (.tmp 25), 37, some (24, false), []⟩,
         ⟨some 27, .indexAddr 37 (.tmp 26) (.const (.int .i64 0)), 0, some (24, false), []⟩,
         ⟨some 28, .load 3 (.tmp 27), 3, some (24, false), []⟩,
         ⟨some 29, .fieldAddr 81 (.tmp 3) 0, 0, some (24, false), []⟩,
         ⟨some 30, .fieldAddr 27 (.tmp 29) 0, 0, some (24, false), []⟩,
         ⟨some 31, .fieldAddr 24 (.tmp 30) 0, 0, some (24, false), []⟩,
         ⟨some 32, .load 22 (.tmp 31), 22, some (24, false), []⟩,
         ⟨some 33, .call ⟨.builtin .len, #[.tmp 32], #[22]⟩, 3, some (24, false), []⟩,
         ⟨some 34, .binOp .sub 3 (.tmp 33) (.const (.int .i64 1)) 3, 3, some (24, false), []⟩,
         ⟨some 35, .call ⟨.value (.func 58), #[.tmp 28, .const (.int .i64 0), .tmp 34], #[3, 3, 3]⟩, 4, some (24, false), []⟩,
         ⟨some 36, .unOp .not 4 (.tmp 35), 4, some (24, false), []⟩,
         ⟨some 37, .pick (.tmp 24) (.const (.bool true)) (.tmp 36), 4, none, []⟩] [[], [0], [0, 1], [0, 1, 2], [0, 1, 2, 3], [0, 1, 2, 3, 4], [0, 1, 2, 3, 4, 5], [0, 1, 2, 3, 4, 5, 6], [0, 1, 2, 3, 4, 5, 6, 7], [0, 1, 2, 3, 4], [0, 1, 2, 3, 4, 9], [0, 1, 2, 3, 4, 9, 10], [0, 1, 2, 3, 4, 9, 10, 11], [0, 1, 2, 3, 4, 9, 10, 11, 12], [0, 1, 2, 3, 4, 9, 10, 11, 12, 13], [0, 1, 2, 3, 4, 5, 6, 7, 8, 9, 10, 11, 12, 13, 14], [0, 1, 2, 3, 4, 5, 6, 7, 8, 9, 10, 11, 12, 13, 14, 15], [0, 1, 2, 3, 4, 5, 6, 7, 8, 9, 10, 11, 12, 13, 14, 15, 16]] [20, 21, 22, 23, 24, 25, 26, 27, 28, 29, 30, 31, 32, 33, 34, 35, 36])
       (.cond (.tmp 37)
        (.seq
         (.reg [⟨some 6, .assign (.const (.int .i64 0)), 3, none, []⟩,
           ⟨some 7, .assign (.const (.bool false)), 4, none, []⟩,
           ⟨some 8, .assign (.const (.bool false)), 4, none, []⟩])
         .ret)
        .skip))
      (.seq
       (.dreg [⟨some 38, .fieldAddr 81 (.tmp 3) 0, 0, none, []⟩,
         ⟨some 39, .fieldAddr 27 (.tmp 38) 0, 0, none, []⟩,
         ⟨some 40, .fieldAddr 24 (.tmp 39) 0, 0, none, []⟩,
         ⟨some 41, .load 22 (.tmp 40), 22, none, []⟩,
         ⟨some 42, .fieldAddr 57 (.tmp 5) 1, 0, none, []⟩,
         ⟨some 43, .load 37 (.tmp 42), 37, none, []⟩,
         ⟨some 44, .indexAddr 37 (.tmp 43) (.const (.int .i64 0)), 0, none, []⟩,
         ⟨some 45, .load 3 (.tmp 44), 3, none, []⟩,
         ⟨some 46, .indexAddr 22 (.tmp 41) (.tmp 45), 0, none, []⟩,
         ⟨some 47, .load 89 (.tmp 46), 89, none, []⟩,
         ⟨some 48, .move (.tmp 1), 3, none, []⟩,
         ⟨some 49, .indexAddr 89 (.tmp 47) (.tmp 48), 0, none, []⟩,
         ⟨some 50, .fieldAddr 30 (.tmp 49) 1, 0, none, []⟩,
         ⟨some 51, .load 3 (.tmp 50), 3, none, []⟩,
         ⟨some 52, .unOp .neg 3 (.tmp 51), 3, none, []⟩,
         ⟨some 6, .assign (.tmp 52), 3, none, []⟩,
         ⟨some 7, .assign (.const (.bool false)), 4, none, []⟩,
         ⟨some 8, .assign (.const (.bool true)), 4, none, []⟩] [[], [0], [0, 1], [0, 1, 2], [], [4], [4, 5], [4, 5, 6], [0, 1, 2, 3, 4, 5, 6, 7], [0, 1, 2, 3, 4, 5, 6, 7, 8], [], [0, 1, 2, 3, 4, 5, 6, 7, 8, 9, 10], [0, 1, 2, 3, 4, 5, 6, 7, 8, 9, 10, 11], [0, 1, 2, 3, 4, 5, 6, 7, 8, 9, 10, 11, 12], [0, 1, 2, 3, 4, 5, 6, 7, 8, 9, 10, 11, 12, 13], [0, 1, 2, 3, 4, 5, 6, 7, 8, 9, 10, 11, 12, 13, 14], [0, 1, 2, 3, 4, 5, 6, 7, 8, 9, 10, 11, 12, 13, 14, 15], [0, 1, 2, 3, 4, 5, 6, 7, 8, 9, 10, 11, 12, 13, 14, 15, 16]] [1, 3, 5, 38, 39, 40, 41, 42, 43, 44, 45, 46, 47, 48, 49, 50, 51, 52])
       .ret))
     .skip))
   (.seq
    (.reg [⟨some 53, .fieldAddr 81 (.tmp 3) 1, 0, none, []⟩,
      ⟨some 54, .load 79 (.tmp 53), 79, none, [53]⟩,
      ⟨some 55, .makeFunc (.func 134) #[] #[.tmp 5], 159, none, []⟩,
      ⟨some 56, .call ⟨.value (.func 133), #[.tmp 54, .tmp 55], #[79, 159]⟩, 3, none, [54, 55]⟩,
      ⟨some 9, .assign (.tmp 56), 3, none, [56]⟩])
    (.seq
     (.seq
      (.reg [⟨some 57, .move (.tmp 9), 3, none, []⟩,
        ⟨some 58, .binOp .lss 3 (.tmp 57) (.const (.int .i64 0)) 3, 4, none, [57]⟩])
      (.cond (.tmp 58)
       (.seq
        (.reg [⟨some 6, .assign (.const (.int .i64 0)), 3, none, []⟩,
          ⟨some 7, .assign (.const (.bool false)), 4, none, []⟩,
          ⟨some 8, .assign (.const (.bool false)), 4, none, []⟩])
        .ret)
       .skip))
     (.seq
      (.reg [⟨some 59, .fieldAddr 81 (.tmp 3) 1, 0, none, []⟩,
        ⟨some 60, .load 79 (.tmp 59), 79, none, [59]⟩,
        ⟨some 61, .move (.tmp 9), 3, none, [9]⟩,
        ⟨some 62, .indexAddr 79 (.tmp 60) (.tmp 61), 0, none, [60, 61]⟩,
        ⟨some 63, .load 135 (.tmp 62), 135, none, [62]⟩,
        ⟨some 10, .alloc 135, 0, none, []⟩,
        ⟨none, .store 135 (.tmp 10) (.tmp 63), 0, none, [63]⟩])
      (.seq
       (.seq
        (.reg [⟨some 64, .fieldAddr 135 (.tmp 10) 0, 0, none, []⟩,
          ⟨some 65, .load 3 (.tmp 64), 3, none, [64]⟩,
          ⟨some 66, .move (.tmp 1), 3, none, []⟩,
          ⟨some 67, .binOp .eql 3 (.tmp 65) (.tmp 66) 3, 4, none, [65, 66]⟩])
        (.cond (.tmp 67)
         (.seq
          (.dreg [⟨some 68, .fieldAddr 135 (.tmp 10) 1, 0, none, []⟩,
            ⟨some 69, .load 3 (.tmp 68), 3, none, []⟩,
            ⟨some 70, .fieldAddr 57 (.tmp 5) 1, 0, none, []⟩,
            ⟨some 71, .load 37 (.tmp 70), 37, none, []⟩,
            ⟨some 72, .call ⟨.builtin .len, #[.tmp 71], #[37]⟩, 3, none, []⟩,
            ⟨some 73, .binOp .eql 3 (.tmp 72) (.const (.int .i64 0)) 3, 4, none, []⟩,
            ⟨some 6, .assign (.tmp 69), 3, none, []⟩,
            ⟨some 7, .assign (.const (.bool false)), 4, none, []⟩,
            ⟨some 8, .assign (.tmp 73), 4, none, []⟩] [[], [0], [], [2], [2, 3], [2, 3, 4], [0, 1], [0, 1, 6], [2, 3, 4, 5, 0, 1, 6, 7]] [5, 10, 68, 69, 70, 71, 72, 73])
          .ret)
         .skip))
       (.seq
        (.seq
         (.reg [⟨some 74, .fieldAddr 57 (.tmp 5) 1, 0, none, []⟩,
           ⟨some 75, .load 37 (.tmp 74), 37, none, [74]⟩,
           ⟨some 76, .call ⟨.builtin .len, #[.tmp 75], #[37]⟩, 3, none, [75]⟩,
           ⟨some 77, .fieldAddr 81 (.tmp 3) 0, 0, none, []⟩,
           ⟨some 78, .fieldAddr 27 (.tmp 77) 0, 0, none, [77]⟩,
           ⟨some 79, .fieldAddr 24 (.tmp 78) 0, 0, none, [78]⟩,
           ⟨some 80, .load 22 (.tmp 79), 22, none, [79]⟩,
           ⟨some 81, .call ⟨.builtin .len, #[.tmp 80], #[22]⟩, 3, none, [80]⟩,
           ⟨some 82, .binOp .neq 3 (.tmp 76) (.tmp 81) 3, 4, none, [76, 81]⟩])
         (.cond (.tmp 82)
          (.seq
           (.reg [⟨some 6, .assign (.const (.int .i64 0)), 3, none, []⟩,
             ⟨some 7, .assign (.const (.bool false)), 4, none, []⟩,
             ⟨some 8, .assign (.const (.bool false)), 4, none, []⟩])
           .ret)
          .skip))
        (.seq
         (.reg [⟨some 7, .assign (.const (.bool true)), 4, none, []⟩])
         (.seq
          (.seq
           (.reg [⟨some 83, .fieldAddr 57 (.tmp 5) 1, 0, none, [5]⟩,
             ⟨some 84, .load 37 (.tmp 83), 37, none, [83]⟩,
             ⟨some 85, .call ⟨.builtin .len, #[.tmp 84], #[37]⟩, 3, none, []⟩,
             ⟨some 86, .move (.const (.int .i64 0)), 3, none, []⟩])
           (.block 0
            (.loop F115.s0)))
          (.seq
           (.reg [⟨some 161, .move (.tmp 6), 3, none, [6]⟩,
             ⟨some 162, .move (.tmp 7), 4, none, [7]⟩,
             ⟨some 6, .assign (.tmp 161), 3, none, [161]⟩,
             ⟨some 7, .assign (.tmp 162), 4, none, [162]⟩,
             ⟨some 8, .assign (.const (.bool true)), 4, none, []⟩])
           .ret))))))))))
theorem F115.rs : Tryz.f115.results.toList = [.tmp 6, .tmp 7, .tmp 8] := rfl
def heat_furnace_showsLow.b0 (k : Nat) (f0 : heat_furnace) (place1 : Int) (p2 : HeatProof) (x10 : heat_limit) : (Int × Bool × Int) → Option (Stp (Int × Bool × Int) (Int × Bool) (Int × Bool × Bool)) := fun (s : Int × Bool × Int) => match s with
  | (i13, b14, i15) => 
      bif decide (i15 < (p2.By.length : Int)) then
        (at? p2.By i15).bind fun x19 =>
        (at? f0.Firing.Kiln.Falls i15).bind fun x20 =>
        (at? x20 x10.place).bind fun x21 =>
        bif decide (x19 = (-1 : Int)) then
          (at? x20 place1).bind fun x23 =>
          bif (!b14) then
            bif decide (w64 ((w64 (x10.heat + x21.Lo)) - x23.Hi) < i13) then
              some (.next (w64 ((w64 (x10.heat + x21.Lo)) - x23.Hi), false, w64 (i15 + 1)))
            else
              some (.next (i13, b14, w64 (i15 + 1)))
          else
            some (.next (w64 ((w64 (x10.heat + x21.Lo)) - x23.Hi), false, w64 (i15 + 1)))
        else
          bif decide (x19 = (-2 : Int)) then
            bif decide (w64 (x10.heat + x21.Lo) ≤ (3000 : Int)) then
              some (.ret (0, false, false))
            else
              some (.next (i13, b14, w64 (i15 + 1)))
          else
            (heat_furnace_told k f0 x19).bind fun x28 =>
            bif x28.2 then
              (at? x20 x28.1.place).bind fun x30 =>
              bif decide (w64 (x10.heat + x21.Lo) ≤ w64 (x28.1.heat + x30.Hi)) then
                some (.ret (0, false, false))
              else
                some (.next (i13, b14, w64 (i15 + 1)))
            else
              some (.ret (0, false, false))
      else
        some (.brk (i13, b14))
noncomputable def heat_furnace_showsLow.h0 (f0 : heat_furnace) (place1 : Int) (p2 : HeatProof) (x10 : heat_limit) : (Int × Bool × Int) → St := fun (s : Int × Bool × Int) => match s with
  | (i13, b14, i15) => ⟨[(1, .int .i64 place1), (3, .ptr 0 0 0), (6, .int .i64 i13), (7, .bool b14), (10, .ptr 0 1 0), (84, .sl 1 (List.map eI p2.By)), (85, .int .i64 (p2.By.length : Int)), (86, .int .i64 i15)], [(0, .box [.sl 1 (List.map (eL 2 Range.c) f0.Firing.Kiln.Falls), .sl 6 (List.map Reading.c f0.Firing.Readings), .sl 3 (List.map heat_limit.c f0.least), .sl 3 (List.map heat_limit.c f0.most)]), (1, .box [.int .i64 x10.place, .int .i64 x10.heat, .int .i64 x10.by_])], [], 2, Tryz.f115.ntmps⟩
noncomputable def heat_furnace_showsLow.x0 : (Int × Bool) → St := fun (s : Int × Bool) => match s with
  | (i16, b17) => ⟨[(6, .int .i64 i16), (7, .bool b17)], [], [], 1, Tryz.f115.ntmps⟩
def heat_furnace_showsLow (k : Nat) (f0 : heat_furnace) (place1 : Int) (p2 : HeatProof) : Option (Int × Bool × Bool) :=
  bif decide (p2.Reading = (-2 : Int)) then
    bif decide ((p2.By.length : Int) = (1 : Int)) then
      (at? p2.By 0).bind fun x3 =>
      (heat_in k x3 0 (w64 ((f0.Firing.Kiln.Falls.length : Int) - 1))).bind fun x4 =>
      bif (!x4) then
        some (0, false, false)
      else
        (at? f0.Firing.Kiln.Falls x3).bind fun x6 =>
        (at? x6 place1).bind fun x7 =>
        some (w64 (0 - x7.Hi), false, true)
    else
      some (0, false, false)
  else
    (slices_IndexFunc_heat_limit k f0.least (fun q0 => heat_furnace_showsLow_1 k q0 p2)).bind fun x8 =>
    bif decide (x8 < (0 : Int)) then
      some (0, false, false)
    else
      (at? f0.least x8).bind fun x10 =>
      bif decide (x10.place = place1) then
        some (x10.heat, false, decide ((p2.By.length : Int) = (0 : Int)))
      else
        bif (!decide ((p2.By.length : Int) = (f0.Firing.Kiln.Falls.length : Int))) then
          some (0, false, false)
        else
          (whl (heat_furnace_showsLow.b0 k f0 place1 p2 x10) k (0, true, 0)).bind fun r32 => match r32 with
          | .next _ => none
          | .ret v_ => some v_
          | .brk (i16, b17) =>
            some (i16, b17, true)
theorem heat_furnace_showsLow_ok (k : Nat) (f0 : heat_furnace) (place1 : Int) (p2 : HeatProof) (r : Int × Bool × Bool) (h0 : heat_furnace_showsLow k f0 place1 p2 = some r) : PCall Tryz.prog 115 [.agg (heat_furnace.c f0), .int .i64 place1, .agg (HeatProof.c p2)] (fun y => y = .tup [.int .i64 r.1, .bool r.2.1, .bool r.2.2]) := by
  refine PCall.nlr (PCall.of_body T_ok (fn := Tryz.f115) (sc := F115.c) (by rfl) (by rfl) (by decide +kernel) (by rfl) (by decide +kernel) (Nat.le_of_ble_eq_true rfl) ?_)
  refine run_sound T_ok 1000 _ _ ?_
  simp only [heat_furnace_showsLow] at h0
  try simp only [F115.c, go_sem]
  refine AKev_bif h0 (fun c1 h0 => ?_) (fun c1 h0 => ?_)
  · try simp only [c1, go_sem]
    refine AKev_region T_ok follows_ok 1000 ?_
    try simp only [c1, go_sem]
    refine DG_bif h0 (fun c2 h0 => ?_) (fun c2 h0 => ?_)
    · try simp only [c2, c1, go_sem]
      obtain ⟨x3, yx3, h0⟩ := bind_some h0
      try simp only [at_in yx3, at_get eI yx3, c1, c2, go_sem]
      obtain ⟨x4, yx4, h0⟩ := bind_some h0
      refine DG_call0 1000 (heat_in_ok k _ _ _ _ yx4) ?_ (by first | rfl | simp [AV.refsL, AV.refs, AV.scal, AV.leaf]) ?_
      · try simp only [c1, c2, at_in yx3, at_get eI yx3, go_sem]
      try simp only [c1, c2, at_in yx3, at_get eI yx3, go_sem]
      refine DG_done ⟨rfl, run_sound T_ok 1000 _ _ ?_⟩
      try simp only [c1, c2, at_in yx3, at_get eI yx3, go_sem]
      refine AKev_bif h0 (fun c5 h0 => ?_) (fun c5 h0 => ?_)
      · have c5 := bnot_t c5
        try simp only [c5, c1, c2, at_in yx3, at_get eI yx3, go_sem]
        obtain rfl := Option.some.inj h0
        refine AKev_ret rfl ?_
        try simp only [F115.rs, c1, c2, at_in yx3, at_get eI yx3, c5, go_sem]
      · have c5 := bnot_f c5
        try simp only [c5, c1, c2, at_in yx3, at_get eI yx3, go_sem]
        refine AKev_region T_ok follows_ok 1000 ?_
        try simp only [at_in yx3, at_get eI yx3, c1, c2, c5, go_sem]
        obtain ⟨x6, yx6, h0⟩ := bind_some h0
        try simp only [at_in yx6, at_get (eL 2 Range.c) yx6, c1, c2, at_in yx3, at_get eI yx3, c5, go_sem]
        obtain ⟨x7, yx7, h0⟩ := bind_some h0
        try simp only [at_in yx7, at_get Range.c yx7, c1, c2, at_in yx3, at_get eI yx3, c5, at_in yx6, at_get (eL 2 Range.c) yx6, go_sem]
        refine DG_done ⟨rfl, run_sound T_ok 1000 _ _ ?_⟩
        try simp only [c1, c2, at_in yx3, at_get eI yx3, c5, at_in yx6, at_get (eL 2 Range.c) yx6, at_in yx7, at_get Range.c yx7, go_sem]
        obtain rfl := Option.some.inj h0
        refine AKev_ret rfl ?_
        try simp only [F115.rs, c1, c2, at_in yx3, at_get eI yx3, c5, at_in yx6, at_get (eL 2 Range.c) yx6, at_in yx7, at_get Range.c yx7, go_sem]
    · try simp only [c2, c1, go_sem]
      refine DG_done ⟨rfl, run_sound T_ok 1000 _ _ ?_⟩
      try simp only [c1, c2, go_sem]
      obtain rfl := Option.some.inj h0
      refine AKev_ret rfl ?_
      try simp only [F115.rs, c1, c2, go_sem]
  · try simp only [c1, go_sem]
    obtain ⟨x8, yx8, h0⟩ := bind_some h0
    refine AKev_callL T_ok 1000 (slices_IndexFunc_heat_limit_ok k _ 134 [.rptr 2 [HeatProof.c p2] 0 0] ⟨fun _ => rfl, fun _ => rfl, fun _ _ => rfl, rfl, fun _ => rfl, fun _ => rfl, fun _ => rfl⟩ (fun q0 => heat_furnace_showsLow_1 k q0 p2) (fun q0 qr qh => heat_furnace_showsLow_1_ok k q0 _ qr qh) _ yx8) ?_ (by first | rfl | simp [AV.refsL, AV.refs, AV.scal, AV.leaf]) ?_
    · try simp only [c1, go_sem]
    try simp only [c1, go_sem]
    refine AKev_bif h0 (fun c9 h0 => ?_) (fun c9 h0 => ?_)
    · try simp only [c9, c1, go_sem]
      obtain rfl := Option.some.inj h0
      refine AKev_ret rfl ?_
      try simp only [F115.rs, c1, c9, go_sem]
    · try simp only [c9, c1, go_sem]
      obtain ⟨x10, yx10, h0⟩ := bind_some h0
      try simp only [at_in yx10, at_get heat_limit.c yx10, c1, c9, go_sem]
      refine AKev_bif h0 (fun c11 h0 => ?_) (fun c11 h0 => ?_)
      · try simp only [c11, c1, c9, at_in yx10, at_get heat_limit.c yx10, go_sem]
        refine AKev_region T_ok follows_ok 1000 ?_
        try simp only [c1, c9, at_in yx10, at_get heat_limit.c yx10, c11, go_sem]
        refine DG_done ⟨rfl, run_sound T_ok 1000 _ _ ?_⟩
        try simp only [c1, c9, at_in yx10, at_get heat_limit.c yx10, c11, go_sem]
        obtain rfl := Option.some.inj h0
        refine AKev_ret rfl ?_
        try simp only [F115.rs, c1, c9, at_in yx10, at_get heat_limit.c yx10, c11, go_sem]
      · try simp only [c11, c1, c9, at_in yx10, at_get heat_limit.c yx10, go_sem]
        refine AKev_bif h0 (fun c12 h0 => ?_) (fun c12 h0 => ?_)
        · have c12 := bnot_t c12
          try simp only [c12, c1, c9, at_in yx10, at_get heat_limit.c yx10, c11, go_sem]
          obtain rfl := Option.some.inj h0
          refine AKev_ret rfl ?_
          try simp only [F115.rs, c1, c9, at_in yx10, at_get heat_limit.c yx10, c11, c12, go_sem]
        · have c12 := bnot_f c12
          try simp only [c12, c1, c9, at_in yx10, at_get heat_limit.c yx10, c11, go_sem]
          obtain ⟨r32, yr32, h0⟩ := bind_some h0
          refine AKev_loopS yr32 (heat_furnace_showsLow.h0 f0 place1 p2 x10) (heat_furnace_showsLow.x0) ?_ ?_ ?_
          · refine Weak.go [1, 3, 6, 7, 10, 84, 85, 86] [0, 320] rfl ?_
            try simp only [heat_furnace_showsLow.h0, c1, c9, at_in yx10, at_get heat_limit.c yx10, c11, c12, go_sem]
          · rintro ⟨i13, b14, i15⟩ x_1 Bk1 Br1 h1 hnext1 hbrk1 hret1
            refine run_sound T_ok 1000 _ _ ?_
            simp only [heat_furnace_showsLow.b0] at h1
            try simp only [F115.s0, heat_furnace_showsLow.h0, c1, c9, at_in yx10, at_get heat_limit.c yx10, c11, c12, go_sem]
            refine AKev_bif h1 (fun c18 h1 => ?_) (fun c18 h1 => ?_)
            · try simp only [c18, c1, c9, at_in yx10, at_get heat_limit.c yx10, c11, c12, go_sem]
              obtain ⟨x19, yx19, h1⟩ := bind_some h1
              try simp only [at_in yx19, at_get eI yx19, c1, c9, at_in yx10, at_get heat_limit.c yx10, c11, c12, c18, go_sem]
              refine AKev_region T_ok follows_ok 1000 ?_
              try simp only [c1, c9, at_in yx10, at_get heat_limit.c yx10, c11, c12, c18, at_in yx19, at_get eI yx19, go_sem]
              obtain ⟨x20, yx20, h1⟩ := bind_some h1
              try simp only [at_in yx20, at_get (eL 2 Range.c) yx20, c1, c9, at_in yx10, at_get heat_limit.c yx10, c11, c12, c18, at_in yx19, at_get eI yx19, go_sem]
              obtain ⟨x21, yx21, h1⟩ := bind_some h1
              try simp only [at_in yx21, at_get Range.c yx21, c1, c9, at_in yx10, at_get heat_limit.c yx10, c11, c12, c18, at_in yx19, at_get eI yx19, at_in yx20, at_get (eL 2 Range.c) yx20, go_sem]
              refine DG_done ⟨rfl, run_sound T_ok 1000 _ _ ?_⟩
              try simp only [c1, c9, at_in yx10, at_get heat_limit.c yx10, c11, c12, c18, at_in yx19, at_get eI yx19, at_in yx20, at_get (eL 2 Range.c) yx20, at_in yx21, at_get Range.c yx21, go_sem]
              refine AKev_bif h1 (fun c22 h1 => ?_) (fun c22 h1 => ?_)
              · try simp only [c22, at_in yx20, at_get (eL 2 Range.c) yx20, c1, c9, at_in yx10, at_get heat_limit.c yx10, c11, c12, c18, at_in yx19, at_get eI yx19, at_in yx21, at_get Range.c yx21, go_sem]
                obtain ⟨x23, yx23, h1⟩ := bind_some h1
                try simp only [at_in yx23, at_get Range.c yx23, c1, c9, at_in yx10, at_get heat_limit.c yx10, c11, c12, c18, at_in yx19, at_get eI yx19, at_in yx20, at_get (eL 2 Range.c) yx20, at_in yx21, at_get Range.c yx21, c22, go_sem]
                refine AKev_bif h1 (fun c24 h1 => ?_) (fun c24 h1 => ?_)
                · have c24 := bnot_t c24
                  try simp only [c24, c1, c9, at_in yx10, at_get heat_limit.c yx10, c11, c12, c18, at_in yx19, at_get eI yx19, at_in yx20, at_get (eL 2 Range.c) yx20, at_in yx21, at_get Range.c yx21, c22, at_in yx23, at_get Range.c yx23, go_sem]
                  refine AKev_bif h1 (fun c25 h1 => ?_) (fun c25 h1 => ?_)
                  · try simp only [c25, c1, c9, at_in yx10, at_get heat_limit.c yx10, c11, c12, c18, at_in yx19, at_get eI yx19, at_in yx20, at_get (eL 2 Range.c) yx20, at_in yx21, at_get Range.c yx21, c22, at_in yx23, at_get Range.c yx23, c24, go_sem]
                    refine AKev_backB (hnext1 _ _ (Option.some.inj h1).symm ?_)
                    refine Weak.go [1, 3, 6, 7, 10, 84, 85, 86] [0, 1] rfl ?_
                    try simp only [heat_furnace_showsLow.h0, c1, c9, at_in yx10, at_get heat_limit.c yx10, c11, c12, c18, at_in yx19, at_get eI yx19, at_in yx20, at_get (eL 2 Range.c) yx20, at_in yx21, at_get Range.c yx21, c22, at_in yx23, at_get Range.c yx23, c24, c25, go_sem]
                  · try simp only [c25, c1, c9, at_in yx10, at_get heat_limit.c yx10, c11, c12, c18, at_in yx19, at_get eI yx19, at_in yx20, at_get (eL 2 Range.c) yx20, at_in yx21, at_get Range.c yx21, c22, at_in yx23, at_get Range.c yx23, c24, go_sem]
                    refine AKev_backB (hnext1 _ _ (Option.some.inj h1).symm ?_)
                    refine Weak.go [1, 3, 6, 7, 10, 84, 85, 86] [0, 1] rfl ?_
                    try simp only [heat_furnace_showsLow.h0, c1, c9, at_in yx10, at_get heat_limit.c yx10, c11, c12, c18, at_in yx19, at_get eI yx19, at_in yx20, at_get (eL 2 Range.c) yx20, at_in yx21, at_get Range.c yx21, c22, at_in yx23, at_get Range.c yx23, c24, c25, go_sem]
                · have c24 := bnot_f c24
                  try simp only [c24, c1, c9, at_in yx10, at_get heat_limit.c yx10, c11, c12, c18, at_in yx19, at_get eI yx19, at_in yx20, at_get (eL 2 Range.c) yx20, at_in yx21, at_get Range.c yx21, c22, at_in yx23, at_get Range.c yx23, go_sem]
                  refine AKev_backB (hnext1 _ _ (Option.some.inj h1).symm ?_)
                  refine Weak.go [1, 3, 6, 7, 10, 84, 85, 86] [0, 1] rfl ?_
                  try simp only [heat_furnace_showsLow.h0, c1, c9, at_in yx10, at_get heat_limit.c yx10, c11, c12, c18, at_in yx19, at_get eI yx19, at_in yx20, at_get (eL 2 Range.c) yx20, at_in yx21, at_get Range.c yx21, c22, at_in yx23, at_get Range.c yx23, c24, go_sem]
              · try simp only [c22, c1, c9, at_in yx10, at_get heat_limit.c yx10, c11, c12, c18, at_in yx19, at_get eI yx19, at_in yx20, at_get (eL 2 Range.c) yx20, at_in yx21, at_get Range.c yx21, go_sem]
                refine AKev_bif h1 (fun c26 h1 => ?_) (fun c26 h1 => ?_)
                · try simp only [c26, c1, c9, at_in yx10, at_get heat_limit.c yx10, c11, c12, c18, at_in yx19, at_get eI yx19, at_in yx20, at_get (eL 2 Range.c) yx20, at_in yx21, at_get Range.c yx21, c22, go_sem]
                  refine AKev_bif h1 (fun c27 h1 => ?_) (fun c27 h1 => ?_)
                  · try simp only [c27, c1, c9, at_in yx10, at_get heat_limit.c yx10, c11, c12, c18, at_in yx19, at_get eI yx19, at_in yx20, at_get (eL 2 Range.c) yx20, at_in yx21, at_get Range.c yx21, c22, c26, go_sem]
                    obtain rfl := hret1 _ (Option.some.inj h1).symm
                    simp only at h0
                    obtain rfl := Option.some.inj h0
                    refine AKev_ret rfl ?_
                    try simp only [F115.rs, c1, c9, at_in yx10, at_get heat_limit.c yx10, c11, c12, c18, at_in yx19, at_get eI yx19, at_in yx20, at_get (eL 2 Range.c) yx20, at_in yx21, at_get Range.c yx21, c22, c26, c27, go_sem]
                  · try simp only [c27, c1, c9, at_in yx10, at_get heat_limit.c yx10, c11, c12, c18, at_in yx19, at_get eI yx19, at_in yx20, at_get (eL 2 Range.c) yx20, at_in yx21, at_get Range.c yx21, c22, c26, go_sem]
                    refine AKev_backB (hnext1 _ _ (Option.some.inj h1).symm ?_)
                    refine Weak.go [1, 3, 6, 7, 10, 84, 85, 86] [0, 1] rfl ?_
                    try simp only [heat_furnace_showsLow.h0, c1, c9, at_in yx10, at_get heat_limit.c yx10, c11, c12, c18, at_in yx19, at_get eI yx19, at_in yx20, at_get (eL 2 Range.c) yx20, at_in yx21, at_get Range.c yx21, c22, c26, c27, go_sem]
                · try simp only [c26, c1, c9, at_in yx10, at_get heat_limit.c yx10, c11, c12, c18, at_in yx19, at_get eI yx19, at_in yx20, at_get (eL 2 Range.c) yx20, at_in yx21, at_get Range.c yx21, c22, go_sem]
                  obtain ⟨x28, yx28, h1⟩ := bind_some h1
                  refine AKev_call0 T_ok 1000 (heat_furnace_told_ok k _ _ _ yx28) ?_ (by first | rfl | simp [AV.refsL, AV.refs, AV.scal, AV.leaf]) ?_
                  · try simp only [c1, c9, at_in yx10, at_get heat_limit.c yx10, c11, c12, c18, at_in yx19, at_get eI yx19, at_in yx20, at_get (eL 2 Range.c) yx20, at_in yx21, at_get Range.c yx21, c22, c26, go_sem]
                  try simp only [c1, c9, at_in yx10, at_get heat_limit.c yx10, c11, c12, c18, at_in yx19, at_get eI yx19, at_in yx20, at_get (eL 2 Range.c) yx20, at_in yx21, at_get Range.c yx21, c22, c26, go_sem]
                  refine AKev_region T_ok follows_ok 1000 ?_
                  try simp only [c1, c9, at_in yx10, at_get heat_limit.c yx10, c11, c12, c18, at_in yx19, at_get eI yx19, at_in yx20, at_get (eL 2 Range.c) yx20, at_in yx21, at_get Range.c yx21, c22, c26, go_sem]
                  refine DG_bif h1 (fun c29 h1 => ?_) (fun c29 h1 => ?_)
                  · try simp only [c29, at_in yx20, at_get (eL 2 Range.c) yx20, c1, c9, at_in yx10, at_get heat_limit.c yx10, c11, c12, c18, at_in yx19, at_get eI yx19, at_in yx21, at_get Range.c yx21, c22, c26, go_sem]
                    obtain ⟨x30, yx30, h1⟩ := bind_some h1
                    try simp only [at_in yx30, at_get Range.c yx30, c1, c9, at_in yx10, at_get heat_limit.c yx10, c11, c12, c18, at_in yx19, at_get eI yx19, at_in yx20, at_get (eL 2 Range.c) yx20, at_in yx21, at_get Range.c yx21, c22, c26, c29, go_sem]
                    refine DG_done ⟨rfl, run_sound T_ok 1000 _ _ ?_⟩
                    try simp only [c1, c9, at_in yx10, at_get heat_limit.c yx10, c11, c12, c18, at_in yx19, at_get eI yx19, at_in yx20, at_get (eL 2 Range.c) yx20, at_in yx21, at_get Range.c yx21, c22, c26, c29, at_in yx30, at_get Range.c yx30, go_sem]
                    refine AKev_bif h1 (fun c31 h1 => ?_) (fun c31 h1 => ?_)
                    · try simp only [c31, c1, c9, at_in yx10, at_get heat_limit.c yx10, c11, c12, c18, at_in yx19, at_get eI yx19, at_in yx20, at_get (eL 2 Range.c) yx20, at_in yx21, at_get Range.c yx21, c22, c26, c29, at_in yx30, at_get Range.c yx30, go_sem]
                      obtain rfl := hret1 _ (Option.some.inj h1).symm
                      simp only at h0
                      obtain rfl := Option.some.inj h0
                      refine AKev_ret rfl ?_
                      try simp only [F115.rs, c1, c9, at_in yx10, at_get heat_limit.c yx10, c11, c12, c18, at_in yx19, at_get eI yx19, at_in yx20, at_get (eL 2 Range.c) yx20, at_in yx21, at_get Range.c yx21, c22, c26, c29, at_in yx30, at_get Range.c yx30, c31, go_sem]
                    · try simp only [c31, c1, c9, at_in yx10, at_get heat_limit.c yx10, c11, c12, c18, at_in yx19, at_get eI yx19, at_in yx20, at_get (eL 2 Range.c) yx20, at_in yx21, at_get Range.c yx21, c22, c26, c29, at_in yx30, at_get Range.c yx30, go_sem]
                      refine AKev_backB (hnext1 _ _ (Option.some.inj h1).symm ?_)
                      refine Weak.go [1, 3, 6, 7, 10, 84, 85, 86] [0, 1] rfl ?_
                      try simp only [heat_furnace_showsLow.h0, c1, c9, at_in yx10, at_get heat_limit.c yx10, c11, c12, c18, at_in yx19, at_get eI yx19, at_in yx20, at_get (eL 2 Range.c) yx20, at_in yx21, at_get Range.c yx21, c22, c26, c29, at_in yx30, at_get Range.c yx30, c31, go_sem]
                  · try simp only [c29, c1, c9, at_in yx10, at_get heat_limit.c yx10, c11, c12, c18, at_in yx19, at_get eI yx19, at_in yx20, at_get (eL 2 Range.c) yx20, at_in yx21, at_get Range.c yx21, c22, c26, go_sem]
                    refine DG_done ⟨rfl, run_sound T_ok 1000 _ _ ?_⟩
                    try simp only [c1, c9, at_in yx10, at_get heat_limit.c yx10, c11, c12, c18, at_in yx19, at_get eI yx19, at_in yx20, at_get (eL 2 Range.c) yx20, at_in yx21, at_get Range.c yx21, c22, c26, c29, go_sem]
                    obtain rfl := hret1 _ (Option.some.inj h1).symm
                    simp only at h0
                    obtain rfl := Option.some.inj h0
                    refine AKev_ret rfl ?_
                    try simp only [F115.rs, c1, c9, at_in yx10, at_get heat_limit.c yx10, c11, c12, c18, at_in yx19, at_get eI yx19, at_in yx20, at_get (eL 2 Range.c) yx20, at_in yx21, at_get Range.c yx21, c22, c26, c29, go_sem]
            · try simp only [c18, c1, c9, at_in yx10, at_get heat_limit.c yx10, c11, c12, go_sem]
              refine AKev_backB (hbrk1 _ _ (Option.some.inj h1).symm ?_)
              refine Weak.go [6, 7] [] rfl ?_
              try simp only [heat_furnace_showsLow.x0, c1, c9, at_in yx10, at_get heat_limit.c yx10, c11, c12, c18, go_sem]
          · rintro ⟨i16, b17⟩ hr_
            subst hr_
            simp only at h0
            refine run_sound T_ok 1000 _ _ ?_
            try simp only [heat_furnace_showsLow.x0, c1, c9, at_in yx10, at_get heat_limit.c yx10, c11, c12, go_sem]
            obtain rfl := Option.some.inj h0
            refine AKev_ret rfl ?_
            try simp only [F115.rs, c1, c9, at_in yx10, at_get heat_limit.c yx10, c11, c12, go_sem]
end Go.Abs
namespace Go.Abs
open Go.Proofs
set_option maxRecDepth 20000
set_option linter.unusedVariables false
set_option linter.unusedSimpArgs false
set_option maxHeartbeats 8000000
def F65.c : SC :=
 (.seq
  (.reg [⟨some 5, .box 27 (.tmp 0), 0, none, [0]⟩,
    ⟨some 9, .box 57 (.tmp 4), 0, none, [4]⟩,
    ⟨some 10, .assign (.const (.int .i64 0)), 33, none, [10]⟩])
  (.seq
   (.block 0
    (.seq
     (.reg [⟨some 17, .load 27 (.tmp 5), 27, none, []⟩,
       ⟨some 18, .call ⟨.value (.func 42), #[.tmp 17], #[27]⟩, 33, none, [17]⟩,
       ⟨some 19, .binOp .neq 33 (.tmp 18) (.const (.int .i64 0)) 33, 4, none, [18]⟩,
       ⟨some 16, .assign (.tmp 19), 4, none, [19]⟩])
     (.cond (.tmp 16)
      (.seq
       (.reg [⟨some 10, .assign (.const (.int .i64 42)), 33, none, []⟩])
       .ret)
      (.seq
       (.reg [⟨some 21, .move (.tmp 1), 3, none, []⟩,
         ⟨some 22, .fieldAddr 27 (.tmp 5) 0, 0, none, []⟩,
         ⟨some 23, .fieldAddr 24 (.tmp 22) 0, 0, none, [22]⟩,
         ⟨some 24, .load 22 (.tmp 23), 22, none, [23]⟩,
         ⟨some 25, .indexAddr 22 (.tmp 24) (.const (.int .i64 0)), 0, none, [24]⟩,
         ⟨some 26, .load 89 (.tmp 25), 89, none, [25]⟩,
         ⟨some 27, .call ⟨.builtin .len, #[.tmp 26], #[89]⟩, 3, none, [26]⟩,
         ⟨some 28, .binOp .sub 3 (.tmp 27) (.const (.int .i64 1)) 3, 3, none, [27]⟩,
         ⟨some 29, .call ⟨.value (.func 58), #[.tmp 21, .const (.int .i64 0), .tmp 28], #[3, 3, 3]⟩, 4, none, [21, 28]⟩,
         ⟨some 30, .unOp .not 4 (.tmp 29), 4, none, [29]⟩,
         ⟨some 20, .assign (.tmp 30), 4, none, [30]⟩])
       (.cond (.tmp 20)
        (.seq
         (.reg [⟨some 10, .assign (.const (.int .i64 43)), 33, none, []⟩])
         .ret)
        .skip)))))
   (.seq
    (.reg [⟨some 31, .load 27 (.tmp 5), 27, none, [5]⟩,
      ⟨some 32, .call ⟨.value (.func 66), #[.tmp 31], #[27]⟩, 81, none, [31]⟩,
      ⟨some 11, .alloc 81, 0, none, []⟩,
      ⟨none, .store 81 (.tmp 11) (.tmp 32), 0, none, [32]⟩])
    (.seq
     (.reg [⟨some 34, .load 81 (.tmp 11), 81, none, []⟩,
       ⟨some 35, .move (.tmp 1), 3, none, []⟩,
       ⟨some 36, .load 57 (.tmp 9), 57, none, []⟩,
       ⟨some 37, .call ⟨.value (.func 114), #[.tmp 34, .tmp 35, .tmp 36], #[81, 3, 57]⟩, 126, none, [34, 35, 36]⟩,
       ⟨some 33, .move (.tmp 37), 126, none, [37]⟩,
       ⟨some 38, .extract (.tmp 33) 0, 3, none, []⟩,
       ⟨some 39, .extract (.tmp 33) 1, 4, none, [33]⟩,
       ⟨some 12, .assign (.tmp 38), 3, none, [38]⟩,
       ⟨some 13, .assign (.tmp 39), 4, none, [39]⟩])
     (.seq
      (.reg [⟨some 40, .move (.tmp 12), 3, none, [12]⟩,
        ⟨some 41, .move (.tmp 3), 3, none, []⟩,
        ⟨some 42, .binOp .leq 3 (.tmp 40) (.tmp 41) 3, 4, none, [40, 41]⟩,
        ⟨some 14, .assign (.tmp 42), 4, none, [42]⟩])
      (.seq
       (.seq
        (.reg [⟨some 43, .move (.tmp 2), 4, none, [2]⟩,
          ⟨some 44, .unOp .not 4 (.tmp 43), 4, none, [43]⟩])
        (.cond (.tmp 44)
         (.seq
          (.reg [⟨some 15, .assign (.const (.bool false)), 4, none, [15]⟩])
          (.seq
           (.reg [⟨some 46, .load 81 (.tmp 11), 81, none, [11]⟩,
             ⟨some 47, .move (.tmp 1), 3, none, [1]⟩,
             ⟨some 48, .load 57 (.tmp 9), 57, none, [9]⟩,
             ⟨some 49, .call ⟨.value (.func 115), #[.tmp 46, .tmp 47, .tmp 48], #[81, 3, 57]⟩, 143, none, [46, 47, 48]⟩,
             ⟨some 45, .move (.tmp 49), 143, none, [49]⟩,
             ⟨some 50, .extract (.tmp 45) 0, 3, none, []⟩,
             ⟨some 51, .extract (.tmp 45) 1, 4, none, []⟩,
             ⟨some 52, .extract (.tmp 45) 2, 4, none, [45]⟩,
             ⟨some 12, .assign (.tmp 50), 3, none, [50]⟩,
             ⟨some 15, .assign (.tmp 51), 4, none, [51]⟩,
             ⟨some 13, .assign (.tmp 52), 4, none, [52]⟩])
           (.reg [⟨some 53, .move (.tmp 15), 4, none, [15]⟩,
             ⟨some 54, .move (.tmp 53), 4, none, [53]⟩,
             ⟨some 55, .move (.tmp 12), 3, some (54, false), [12]⟩,
             ⟨some 56, .move (.tmp 3), 3, some (54, false), [3]⟩,
             ⟨some 57, .binOp .geq 3 (.tmp 55) (.tmp 56) 3, 4, some (54, false), [55, 56]⟩,
             ⟨some 58, .pick (.tmp 54) (.const (.bool true)) (.tmp 57), 4, none, [54, 57]⟩,
             ⟨some 14, .assign (.tmp 58), 4, none, [58]⟩])))
         .skip))
       (.seq
        (.block 1
         (.seq
          (.reg [⟨some 60, .move (.tmp 13), 4, none, [13]⟩,
            ⟨some 61, .unOp .not 4 (.tmp 60), 4, none, [60]⟩,
            ⟨some 59, .assign (.tmp 61), 4, none, [61]⟩])
          (.cond (.tmp 59)
           (.seq
            (.reg [⟨some 10, .assign (.const (.int .i64 46)), 33, none, []⟩])
            .ret)
           (.seq
            (.reg [⟨some 63, .move (.tmp 14), 4, none, [14]⟩,
              ⟨some 64, .unOp .not 4 (.tmp 63), 4, none, [63]⟩,
              ⟨some 62, .assign (.tmp 64), 4, none, [64]⟩])
            (.cond (.tmp 62)
             (.seq
              (.reg [⟨some 10, .assign (.const (.int .i64 47)), 33, none, []⟩])
              .ret)
             .skip)))))
        (.seq
         (.reg [⟨some 10, .assign (.const (.int .i64 0)), 33, none, []⟩])
         .ret))))))))
theorem F65.rs : Tryz.f65.results.toList = [.tmp 10] := rfl
def heat_CheckProof (k : Nat) (f0 : Firing) (place1 : Int) (high2 : Bool) (n3 : Int) (p4 : HeatProof) : Option (Int) :=
  (heat_Check k f0).bind fun x1 =>
  bif (!decide (x1 = (0 : Int))) then
    some 42
  else
    (at? f0.Kiln.Falls 0).bind fun x3 =>
    (heat_in k place1 0 (w64 ((x3.length : Int) - 1))).bind fun x4 =>
    bif (!x4) then
      some 43
    else
      (heat_newFurnace k f0).bind fun x6 =>
      (heat_furnace_showsHigh k x6 place1 p4).bind fun x7 =>
      bif (!high2) then
        (heat_furnace_showsLow k x6 place1 p4).bind fun x9 =>
        bif (!x9.2.1) then
          bif (!x9.2.2) then
            some 46
          else
            bif (!decide (n3 ≤ x9.1)) then
              some 47
            else
              some 0
        else
          bif (!x9.2.2) then
            some 46
          else
            some 0
      else
        bif (!x7.2) then
          some 46
        else
          bif (!decide (x7.1 ≤ n3)) then
            some 47
          else
            some 0
theorem heat_CheckProof_ok (k : Nat) (f0 : Firing) (place1 : Int) (high2 : Bool) (n3 : Int) (p4 : HeatProof) (r : Int) (h0 : heat_CheckProof k f0 place1 high2 n3 p4 = some r) : PCall Tryz.prog 65 [.agg (Firing.c f0), .int .i64 place1, .bool high2, .int .i64 n3, .agg (HeatProof.c p4)] (fun y => y = .int .i64 r) := by
  refine PCall.nlr (PCall.of_body T_ok (fn := Tryz.f65) (sc := F65.c) (by rfl) (by rfl) (by decide +kernel) (by rfl) (by decide +kernel) (Nat.le_of_ble_eq_true rfl) ?_)
  refine run_sound T_ok 1000 _ _ ?_
  simp only [heat_CheckProof] at h0
  try simp only [F65.c, go_sem]
  obtain ⟨x1, yx1, h0⟩ := bind_some h0
  refine AKev_call0 T_ok 1000 (heat_Check_ok k _ _ yx1) ?_ (by first | rfl | simp [AV.refsL, AV.refs, AV.scal, AV.leaf]) ?_
  · try simp only [go_sem]
  try simp only [go_sem]
  refine AKev_bif h0 (fun c2 h0 => ?_) (fun c2 h0 => ?_)
  · have c2 := bnot_t c2
    try simp only [c2, go_sem]
    obtain rfl := Option.some.inj h0
    refine AKev_ret rfl ?_
    try simp only [F65.rs, c2, go_sem]
  · have c2 := bnot_f c2
    try simp only [c2, go_sem]
    obtain ⟨x3, yx3, h0⟩ := bind_some h0
    try simp only [at_in yx3, at_get (eL 2 Range.c) yx3, c2, go_sem]
    obtain ⟨x4, yx4, h0⟩ := bind_some h0
    refine AKev_call0 T_ok 1000 (heat_in_ok k _ _ _ _ yx4) ?_ (by first | rfl | simp [AV.refsL, AV.refs, AV.scal, AV.leaf]) ?_
    · try simp only [c2, at_in yx3, at_get (eL 2 Range.c) yx3, go_sem]
    try simp only [c2, at_in yx3, at_get (eL 2 Range.c) yx3, go_sem]
    refine AKev_bif h0 (fun c5 h0 => ?_) (fun c5 h0 => ?_)
    · have c5 := bnot_t c5
      try simp only [c5, c2, at_in yx3, at_get (eL 2 Range.c) yx3, go_sem]
      obtain rfl := Option.some.inj h0
      refine AKev_ret rfl ?_
      try simp only [F65.rs, c2, at_in yx3, at_get (eL 2 Range.c) yx3, c5, go_sem]
    · have c5 := bnot_f c5
      try simp only [c5, c2, at_in yx3, at_get (eL 2 Range.c) yx3, go_sem]
      obtain ⟨x6, yx6, h0⟩ := bind_some h0
      refine AKev_call0 T_ok 1000 (heat_newFurnace_ok k _ _ yx6) ?_ (by first | rfl | simp [AV.refsL, AV.refs, AV.scal, AV.leaf]) ?_
      · try simp only [c2, at_in yx3, at_get (eL 2 Range.c) yx3, c5, go_sem]
      try simp only [c2, at_in yx3, at_get (eL 2 Range.c) yx3, c5, go_sem]
      obtain ⟨x7, yx7, h0⟩ := bind_some h0
      refine AKev_call0 T_ok 1000 (heat_furnace_showsHigh_ok k _ _ _ _ yx7) ?_ (by first | rfl | simp [AV.refsL, AV.refs, AV.scal, AV.leaf]) ?_
      · try simp only [c2, at_in yx3, at_get (eL 2 Range.c) yx3, c5, go_sem]
      try simp only [c2, at_in yx3, at_get (eL 2 Range.c) yx3, c5, go_sem]
      refine AKev_bif h0 (fun c8 h0 => ?_) (fun c8 h0 => ?_)
      · have c8 := bnot_t c8
        try simp only [c8, c2, at_in yx3, at_get (eL 2 Range.c) yx3, c5, go_sem]
        obtain ⟨x9, yx9, h0⟩ := bind_some h0
        refine AKev_call0 T_ok 1000 (heat_furnace_showsLow_ok k _ _ _ _ yx9) ?_ (by first | rfl | simp [AV.refsL, AV.refs, AV.scal, AV.leaf]) ?_
        · try simp only [c2, at_in yx3, at_get (eL 2 Range.c) yx3, c5, c8, go_sem]
        try simp only [c2, at_in yx3, at_get (eL 2 Range.c) yx3, c5, c8, go_sem]
        refine AKev_bif h0 (fun c10 h0 => ?_) (fun c10 h0 => ?_)
        · have c10 := bnot_t c10
          try simp only [c10, c2, at_in yx3, at_get (eL 2 Range.c) yx3, c5, c8, go_sem]
          refine AKev_bif h0 (fun c11 h0 => ?_) (fun c11 h0 => ?_)
          · have c11 := bnot_t c11
            try simp only [c11, c2, at_in yx3, at_get (eL 2 Range.c) yx3, c5, c8, c10, go_sem]
            obtain rfl := Option.some.inj h0
            refine AKev_ret rfl ?_
            try simp only [F65.rs, c2, at_in yx3, at_get (eL 2 Range.c) yx3, c5, c8, c10, c11, go_sem]
          · have c11 := bnot_f c11
            try simp only [c11, c2, at_in yx3, at_get (eL 2 Range.c) yx3, c5, c8, c10, go_sem]
            refine AKev_bif h0 (fun c12 h0 => ?_) (fun c12 h0 => ?_)
            · have c12 := bnot_t c12
              try simp only [c12, c2, at_in yx3, at_get (eL 2 Range.c) yx3, c5, c8, c10, c11, go_sem]
              obtain rfl := Option.some.inj h0
              refine AKev_ret rfl ?_
              try simp only [F65.rs, c2, at_in yx3, at_get (eL 2 Range.c) yx3, c5, c8, c10, c11, c12, go_sem]
            · have c12 := bnot_f c12
              try simp only [c12, c2, at_in yx3, at_get (eL 2 Range.c) yx3, c5, c8, c10, c11, go_sem]
              obtain rfl := Option.some.inj h0
              refine AKev_ret rfl ?_
              try simp only [F65.rs, c2, at_in yx3, at_get (eL 2 Range.c) yx3, c5, c8, c10, c11, c12, go_sem]
        · have c10 := bnot_f c10
          try simp only [c10, c2, at_in yx3, at_get (eL 2 Range.c) yx3, c5, c8, go_sem]
          refine AKev_bif h0 (fun c13 h0 => ?_) (fun c13 h0 => ?_)
          · have c13 := bnot_t c13
            try simp only [c13, c2, at_in yx3, at_get (eL 2 Range.c) yx3, c5, c8, c10, go_sem]
            obtain rfl := Option.some.inj h0
            refine AKev_ret rfl ?_
            try simp only [F65.rs, c2, at_in yx3, at_get (eL 2 Range.c) yx3, c5, c8, c10, c13, go_sem]
          · have c13 := bnot_f c13
            try simp only [c13, c2, at_in yx3, at_get (eL 2 Range.c) yx3, c5, c8, c10, go_sem]
            obtain rfl := Option.some.inj h0
            refine AKev_ret rfl ?_
            try simp only [F65.rs, c2, at_in yx3, at_get (eL 2 Range.c) yx3, c5, c8, c10, c13, go_sem]
      · have c8 := bnot_f c8
        try simp only [c8, c2, at_in yx3, at_get (eL 2 Range.c) yx3, c5, go_sem]
        refine AKev_bif h0 (fun c14 h0 => ?_) (fun c14 h0 => ?_)
        · have c14 := bnot_t c14
          try simp only [c14, c2, at_in yx3, at_get (eL 2 Range.c) yx3, c5, c8, go_sem]
          obtain rfl := Option.some.inj h0
          refine AKev_ret rfl ?_
          try simp only [F65.rs, c2, at_in yx3, at_get (eL 2 Range.c) yx3, c5, c8, c14, go_sem]
        · have c14 := bnot_f c14
          try simp only [c14, c2, at_in yx3, at_get (eL 2 Range.c) yx3, c5, c8, go_sem]
          refine AKev_bif h0 (fun c15 h0 => ?_) (fun c15 h0 => ?_)
          · have c15 := bnot_t c15
            try simp only [c15, c2, at_in yx3, at_get (eL 2 Range.c) yx3, c5, c8, c14, go_sem]
            obtain rfl := Option.some.inj h0
            refine AKev_ret rfl ?_
            try simp only [F65.rs, c2, at_in yx3, at_get (eL 2 Range.c) yx3, c5, c8, c14, c15, go_sem]
          · have c15 := bnot_f c15
            try simp only [c15, c2, at_in yx3, at_get (eL 2 Range.c) yx3, c5, c8, c14, go_sem]
            obtain rfl := Option.some.inj h0
            refine AKev_ret rfl ?_
            try simp only [F65.rs, c2, at_in yx3, at_get (eL 2 Range.c) yx3, c5, c8, c14, c15, go_sem]
end Go.Abs
namespace Go.Abs
open Go.Proofs
set_option maxRecDepth 20000
set_option linter.unusedVariables false
set_option linter.unusedSimpArgs false
set_option maxHeartbeats 8000000
def F15.c : SC :=
 (.seq
  (.reg [⟨some 0, .assign (.const (.bool false)), 4, none, [0]⟩])
  (.seq
   (.reg [⟨some 12, .call ⟨.value (.func 63), #[], #[]⟩, 27, none, []⟩,
     ⟨some 13, .call ⟨.value (.func 48), #[.tmp 12], #[27]⟩, 47, none, [12]⟩,
     ⟨some 11, .move (.tmp 13), 47, none, [13]⟩,
     ⟨some 14, .extract (.tmp 11) 0, 37, none, []⟩,
     ⟨some 15, .extract (.tmp 11) 1, 33, none, [11]⟩,
     ⟨some 1, .assign (.tmp 14), 37, none, [14]⟩,
     ⟨some 2, .assign (.tmp 15), 33, none, [15]⟩])
   (.seq
    (.reg [⟨some 17, .call ⟨.value (.func 63), #[], #[]⟩, 27, none, []⟩,
      ⟨some 18, .call ⟨.value (.func 21), #[.tmp 17, .const (.int .i64 1)], #[27, 3]⟩, 52, none, [17]⟩,
      ⟨some 16, .move (.tmp 18), 52, none, [18]⟩,
      ⟨some 19, .extract (.tmp 16) 0, 30, none, []⟩,
      ⟨some 20, .extract (.tmp 16) 1, 33, none, [16]⟩,
      ⟨some 3, .alloc 30, 0, none, []⟩,
      ⟨none, .store 30 (.tmp 3) (.tmp 19), 0, none, [19]⟩,
      ⟨some 4, .assign (.tmp 20), 33, none, [20]⟩])
    (.seq
     (.reg [⟨some 22, .call ⟨.value (.func 63), #[], #[]⟩, 27, none, []⟩,
       ⟨some 23, .build 30 #[(0, .const (.int .i64 900)), (1, .const (.int .i64 950))], 30, none, []⟩,
       ⟨some 24, .call ⟨.value (.func 10), #[.tmp 22, .const (.int .i64 1), .tmp 23], #[27, 3, 30]⟩, 34, none, [22, 23]⟩,
       ⟨some 21, .move (.tmp 24), 34, none, [24]⟩,
       ⟨some 25, .extract (.tmp 21) 0, 3, none, []⟩,
       ⟨some 26, .extract (.tmp 21) 1, 33, none, [21]⟩,
       ⟨some 5, .assign (.tmp 25), 3, none, [25]⟩,
       ⟨some 6, .assign (.tmp 26), 33, none, [26]⟩])
     (.seq
      (.reg [⟨some 28, .call ⟨.value (.func 64), #[], #[]⟩, 24, none, []⟩,
        ⟨some 29, .call ⟨.value (.func 63), #[], #[]⟩, 27, none, []⟩,
        ⟨some 30, .field 27 (.tmp 29) 1, 25, none, [29]⟩,
        ⟨some 31, .build 64 #[(0, .const (.int .i64 4)), (1, .const (.int .i64 1)), (2, .const (.int .i64 2)), (3, .const (.int .i64 600))], 64, none, []⟩,
        ⟨some 32, .buildSlice 25 1 #[(0, .tmp 31)], 25, none, [31]⟩,
        ⟨some 33, .call ⟨.builtin .append, #[.tmp 30, .tmp 32], #[25, 25]⟩, 25, none, [30, 32]⟩,
        ⟨some 34, .build 27 #[(0, .tmp 28), (1, .tmp 33)], 27, none, [28, 33]⟩,
        ⟨some 35, .call ⟨.value (.func 16), #[.tmp 34], #[27]⟩, 47, none, [34]⟩,
        ⟨some 27, .move (.tmp 35), 47, none, [35]⟩,
        ⟨some 36, .extract (.tmp 27) 0, 37, none, []⟩,
        ⟨some 37, .extract (.tmp 27) 1, 33, none, [27]⟩,
        ⟨some 7, .assign (.tmp 36), 37, none, [36]⟩,
        ⟨some 8, .assign (.tmp 37), 33, none, [37]⟩])
      (.seq
       (.reg [⟨some 38, .call ⟨.value (.func 63), #[], #[]⟩, 27, none, []⟩,
         ⟨some 39, .buildSlice 37 2 #[(0, .const (.int .i64 (-1))), (1, .const (.int .i64 2))], 37, none, []⟩,
         ⟨some 40, .build 57 #[(0, .const (.int .i64 0)), (1, .tmp 39)], 57, none, [39]⟩,
         ⟨some 41, .call ⟨.value (.func 65), #[.tmp 38, .const (.int .i64 1), .const (.bool false), .const (.int .i64 700), .tmp 40], #[27, 3, 4, 3, 57]⟩, 33, none, [38, 40]⟩,
         ⟨some 9, .assign (.tmp 41), 33, none, [41]⟩])
       (.seq
        (.reg [⟨some 42, .move (.tmp 2), 33, none, [2]⟩,
          ⟨some 43, .binOp .eql 33 (.tmp 42) (.const (.int .i64 0)) 33, 4, none, [42]⟩,
          ⟨some 44, .move (.tmp 43), 4, none, [43]⟩,
          ⟨some 45, .move (.tmp 4), 33, some (44, true), [4]⟩,
          ⟨some 46, .binOp .eql 33 (.tmp 45) (.const (.int .i64 0)) 33, 4, some (44, true), [45]⟩,
          ⟨some 47, .pick (.tmp 44) (.tmp 46) (.const (.bool false)), 4, none, [44, 46]⟩,
          ⟨some 48, .move (.tmp 47), 4, none, [47]⟩,
          ⟨some 49, .move (.tmp 6), 33, some (48, true), [6]⟩,
          ⟨some 50, .binOp .eql 33 (.tmp 49) (.const (.int .i64 0)) 33, 4, some (48, true), [49]⟩,
          ⟨some 51, .pick (.tmp 48) (.tmp 50) (.const (.bool false)), 4, none, [48, 50]⟩,
          ⟨some 52, .move (.tmp 51), 4, none, [51]⟩,
          ⟨some 53, .move (.tmp 8), 33, some (52, true), [8]⟩,
          ⟨some 54, .binOp .eql 33 (.tmp 53) (.const (.int .i64 0)) 33, 4, some (52, true), [53]⟩,
          ⟨some 55, .pick (.tmp 52) (.tmp 54) (.const (.bool false)), 4, none, [52, 54]⟩,
          ⟨some 56, .move (.tmp 55), 4, none, [55]⟩,
          ⟨some 57, .move (.tmp 9), 33, some (56, true), [9]⟩,
          ⟨some 58, .binOp .eql 33 (.tmp 57) (.const (.int .i64 0)) 33, 4, some (56, true), [57]⟩,
          ⟨some 59, .pick (.tmp 56) (.tmp 58) (.const (.bool false)), 4, none, [56, 58]⟩,
          ⟨some 10, .assign (.tmp 59), 4, none, [59]⟩])
        (.seq
         (.reg [⟨some 60, .move (.tmp 10), 4, none, [10]⟩,
           ⟨some 61, .move (.tmp 60), 4, none, [60]⟩,
           ⟨some 62, .move (.tmp 1), 37, some (61, true), [1]⟩,
           ⟨some 63, .buildSlice 37 2 #[(0, .const (.int .i64 1300)), (1, .const (.int .i64 1100))], 37, some (61, true), []⟩,
           ⟨some 64, .call ⟨.value (.func 18), #[.tmp 62, .tmp 63], #[37, 37]⟩, 4, some (61, true), [62, 63]⟩,
           ⟨some 65, .pick (.tmp 61) (.tmp 64) (.const (.bool false)), 4, none, [61, 64]⟩,
           ⟨some 66, .move (.tmp 65), 4, none, [65]⟩,
           ⟨some 67, .load 30 (.tmp 3), 30, some (66, true), [3]⟩,
           ⟨some 68, .build 30 #[(0, .const (.int .i64 700)), (1, .const (.int .i64 1000))], 30, some (66, true), []⟩,
           ⟨some 69, .binOp .eql 30 (.tmp 67) (.tmp 68) 30, 4, some (66, true), [67, 68]⟩,
           ⟨some 70, .pick (.tmp 66) (.tmp 69) (.const (.bool false)), 4, none, [66, 69]⟩,
           ⟨some 71, .move (.tmp 70), 4, none, [70]⟩,
           ⟨some 72, .move (.tmp 5), 3, some (71, true), [5]⟩,
           ⟨some 73, .binOp .eql 3 (.tmp 72) (.const (.int .i64 2)) 3, 4, some (71, true), [72]⟩,
           ⟨some 74, .pick (.tmp 71) (.tmp 73) (.const (.bool false)), 4, none, [71, 73]⟩,
           ⟨some 75, .move (.tmp 74), 4, none, [74]⟩,
           ⟨some 76, .move (.tmp 7), 37, some (75, true), [7]⟩,
           ⟨some 77, .buildSlice 37 2 #[(0, .const (.int .i64 1)), (1, .const (.int .i64 4))], 37, some (75, true), []⟩,
           ⟨some 78, .call ⟨.value (.func 18), #[.tmp 76, .tmp 77], #[37, 37]⟩, 4, some (75, true), [76, 77]⟩,
           ⟨some 79, .pick (.tmp 75) (.tmp 78) (.const (.bool false)), 4, none, [75, 78]⟩,
           ⟨some 0, .assign (.tmp 79), 4, none, [79]⟩])
         .ret))))))))
theorem F15.rs : Tryz.f15.results.toList = [.tmp 0] := rfl
def L04_sane (k : Nat) : Option (Bool) :=
  (L04_firing_o k).bind fun x2 =>
  (heat_Hottest k x2).bind fun x3 =>
  (L04_firing_o k).bind fun x5 =>
  (heat_Bound k x5 1).bind fun x6 =>
  (L04_firing_o k).bind fun x8 =>
  (heat_Verdict k x8 1 (⟨900, 950⟩ : Range)).bind fun x9 =>
  (L04_kiln k).bind fun x10 =>
  (L04_firing_o k).bind fun x12 =>
  (push? 48 x12.Readings (⟨4, 1, 2, 600, (⟨0, 0⟩ : Range)⟩ : Reading)).bind fun l13 =>
  (heat_Conflict k (⟨x10, l13⟩ : Firing)).bind fun x14 =>
  (L04_firing_o k).bind fun x16 =>
  (heat_CheckProof k x16 1 false 700 (⟨0, [-1, 2]⟩ : HeatProof)).bind fun x17 =>
  bif decide (x3.2 = (0 : Int)) then
    bif decide (x6.2 = (0 : Int)) then
      bif decide (x9.2 = (0 : Int)) then
        bif decide (x14.2 = (0 : Int)) then
          bif decide (x17 = (0 : Int)) then
            (R01_Same k x3.1 [1300, 1100]).bind fun x23 =>
            bif x23 then
              bif (decide (x6.1.Lo = (700 : Int)) && decide (x6.1.Hi = (1000 : Int))) then
                bif decide (x9.1 = (2 : Int)) then
                  (R01_Same k x14.1 [1, 4]).bind fun x27 =>
                  some x27
                else
                  some false
              else
                some false
            else
              some false
          else
            some false
        else
          some false
      else
        some false
    else
      some false
  else
    some false
theorem L04_sane_ok (k : Nat) (r : Bool) (h0 : L04_sane k = some r) : PCall Tryz.prog 15 [] (fun y => y = .bool r) := by
  refine PCall.nlr (PCall.of_body T_ok (fn := Tryz.f15) (sc := F15.c) (by rfl) (by rfl) (by decide +kernel) (by rfl) (by decide +kernel) (Nat.le_of_ble_eq_true rfl) ?_)
  refine run_sound T_ok 1000 _ _ ?_
  simp only [L04_sane] at h0
  try simp only [F15.c, go_sem]
  obtain ⟨x2, yx2, h0⟩ := bind_some h0
  refine AKev_giveF [] [] (L04_firing_o_ok k _ yx2) ?_ rfl ?_
  · try simp only [gOK, go_sem]
  try simp only [go_sem]
  refine run_sound T_ok 1000 _ _ ?_
  try simp only [go_sem]
  obtain ⟨x3, yx3, h0⟩ := bind_some h0
  refine AKev_take T_ok 1000 [16] (heat_Hottest_ok k _ _ yx3) ?_ ?_
  · try simp only [go_sem]
  try simp only [go_sem]
  obtain ⟨x5, yx5, h0⟩ := bind_some h0
  refine AKev_giveF [] [] (L04_firing_o_ok k _ yx5) ?_ rfl ?_
  · try simp only [gOK, go_sem]
  try simp only [go_sem]
  refine run_sound T_ok 1000 _ _ ?_
  try simp only [go_sem]
  obtain ⟨x6, yx6, h0⟩ := bind_some h0
  refine AKev_take T_ok 1000 [128] (heat_Bound_ok k _ _ _ yx6) ?_ ?_
  · try simp only [go_sem]
  try simp only [go_sem]
  obtain ⟨x8, yx8, h0⟩ := bind_some h0
  refine AKev_giveF [] [] (L04_firing_o_ok k _ yx8) ?_ rfl ?_
  · try simp only [gOK, go_sem]
  try simp only [go_sem]
  refine run_sound T_ok 1000 _ _ ?_
  try simp only [go_sem]
  obtain ⟨x9, yx9, h0⟩ := bind_some h0
  refine AKev_call0 T_ok 1000 (heat_Verdict_ok k _ _ _ _ yx9) ?_ (by first | rfl | simp [AV.refsL, AV.refs, AV.scal, AV.leaf]) ?_
  · try simp only [go_sem]
  try simp only [go_sem]
  obtain ⟨x10, yx10, h0⟩ := bind_some h0
  refine AKev_call0 T_ok 1000 (L04_kiln_ok k _ yx10) ?_ (by first | rfl | simp [AV.refsL, AV.refs, AV.scal, AV.leaf]) ?_
  · try simp only [go_sem]
  try simp only [go_sem]
  obtain ⟨x12, yx12, h0⟩ := bind_some h0
  refine AKev_giveF [] [] (L04_firing_o_ok k _ yx12) ?_ rfl ?_
  · try simp only [gOK, go_sem]
  try simp only [go_sem]
  refine run_sound T_ok 1000 _ _ ?_
  try simp only [go_sem]
  obtain ⟨l13, yl13, h0⟩ := bind_some h0
  have eyl13 := push_map Reading.c yl13
  have tyl13 := push_take Reading.c yl13
  have nyl13 := push_len yl13
  have myl13 := push_room yl13
  try simp only [go_sem] at eyl13 tyl13 nyl13 myl13
  try simp only [myl13, eyl13, nyl13, tyl13, go_sem]
  obtain ⟨x14, yx14, h0⟩ := bind_some h0
  refine AKev_take T_ok 1000 [400] (heat_Conflict_ok k _ _ yx14) ?_ ?_
  · try simp only [eyl13, nyl13, tyl13, go_sem]
  try simp only [eyl13, nyl13, tyl13, go_sem]
  obtain ⟨x16, yx16, h0⟩ := bind_some h0
  refine AKev_giveF [] [] (L04_firing_o_ok k _ yx16) ?_ rfl ?_
  · try simp only [gOK, eyl13, nyl13, tyl13, go_sem]
  try simp only [eyl13, nyl13, tyl13, go_sem]
  refine run_sound T_ok 1000 _ _ ?_
  try simp only [eyl13, nyl13, tyl13, go_sem]
  obtain ⟨x17, yx17, h0⟩ := bind_some h0
  refine AKev_call0 T_ok 1000 (heat_CheckProof_ok k _ _ _ _ _ _ yx17) ?_ (by first | rfl | simp [AV.refsL, AV.refs, AV.scal, AV.leaf]) ?_
  · try simp only [eyl13, nyl13, tyl13, go_sem]
  try simp only [eyl13, nyl13, tyl13, go_sem]
  refine AKev_bif h0 (fun c18 h0 => ?_) (fun c18 h0 => ?_)
  · try simp only [c18, eyl13, nyl13, tyl13, go_sem]
    refine AKev_bif h0 (fun c19 h0 => ?_) (fun c19 h0 => ?_)
    · try simp only [c19, eyl13, nyl13, tyl13, c18, go_sem]
      refine AKev_bif h0 (fun c20 h0 => ?_) (fun c20 h0 => ?_)
      · try simp only [c20, eyl13, nyl13, tyl13, c18, c19, go_sem]
        refine AKev_bif h0 (fun c21 h0 => ?_) (fun c21 h0 => ?_)
        · try simp only [c21, eyl13, nyl13, tyl13, c18, c19, c20, go_sem]
          refine AKev_bif h0 (fun c22 h0 => ?_) (fun c22 h0 => ?_)
          · try simp only [c22, eyl13, nyl13, tyl13, c18, c19, c20, c21, go_sem]
            obtain ⟨x23, yx23, h0⟩ := bind_some h0
            refine AKev_call0 T_ok 1000 (R01_Same_ok k _ _ _ yx23) ?_ (by first | rfl | simp [AV.refsL, AV.refs, AV.scal, AV.leaf]) ?_
            · try simp only [eyl13, nyl13, tyl13, c18, c19, c20, c21, c22, go_sem]
            try simp only [eyl13, nyl13, tyl13, c18, c19, c20, c21, c22, go_sem]
            refine AKev_bif h0 (fun c24 h0 => ?_) (fun c24 h0 => ?_)
            · try simp only [c24, eyl13, nyl13, tyl13, c18, c19, c20, c21, c22, go_sem]
              refine AKev_bif h0 (fun c25 h0 => ?_) (fun c25 h0 => ?_)
              · try simp only [c25, eyl13, nyl13, tyl13, c18, c19, c20, c21, c22, c24, go_sem]
                refine AKev_bif h0 (fun c26 h0 => ?_) (fun c26 h0 => ?_)
                · try simp only [c26, eyl13, nyl13, tyl13, c18, c19, c20, c21, c22, c24, c25, go_sem]
                  obtain ⟨x27, yx27, h0⟩ := bind_some h0
                  refine AKev_call0 T_ok 1000 (R01_Same_ok k _ _ _ yx27) ?_ (by first | rfl | simp [AV.refsL, AV.refs, AV.scal, AV.leaf]) ?_
                  · try simp only [eyl13, nyl13, tyl13, c18, c19, c20, c21, c22, c24, c25, c26, go_sem]
                  try simp only [eyl13, nyl13, tyl13, c18, c19, c20, c21, c22, c24, c25, c26, go_sem]
                  obtain rfl := Option.some.inj h0
                  refine AKev_ret rfl ?_
                  try simp only [F15.rs, eyl13, nyl13, tyl13, c18, c19, c20, c21, c22, c24, c25, c26, go_sem]
                · try simp only [c26, eyl13, nyl13, tyl13, c18, c19, c20, c21, c22, c24, c25, go_sem]
                  obtain rfl := Option.some.inj h0
                  refine AKev_ret rfl ?_
                  try simp only [F15.rs, eyl13, nyl13, tyl13, c18, c19, c20, c21, c22, c24, c25, c26, go_sem]
              · try simp only [c25, eyl13, nyl13, tyl13, c18, c19, c20, c21, c22, c24, go_sem]
                obtain rfl := Option.some.inj h0
                refine AKev_ret rfl ?_
                try simp only [F15.rs, eyl13, nyl13, tyl13, c18, c19, c20, c21, c22, c24, c25, go_sem]
            · try simp only [c24, eyl13, nyl13, tyl13, c18, c19, c20, c21, c22, go_sem]
              obtain rfl := Option.some.inj h0
              refine AKev_ret rfl ?_
              try simp only [F15.rs, eyl13, nyl13, tyl13, c18, c19, c20, c21, c22, c24, go_sem]
          · try simp only [c22, eyl13, nyl13, tyl13, c18, c19, c20, c21, go_sem]
            obtain rfl := Option.some.inj h0
            refine AKev_ret rfl ?_
            try simp only [F15.rs, eyl13, nyl13, tyl13, c18, c19, c20, c21, c22, go_sem]
        · try simp only [c21, eyl13, nyl13, tyl13, c18, c19, c20, go_sem]
          obtain rfl := Option.some.inj h0
          refine AKev_ret rfl ?_
          try simp only [F15.rs, eyl13, nyl13, tyl13, c18, c19, c20, c21, go_sem]
      · try simp only [c20, eyl13, nyl13, tyl13, c18, c19, go_sem]
        obtain rfl := Option.some.inj h0
        refine AKev_ret rfl ?_
        try simp only [F15.rs, eyl13, nyl13, tyl13, c18, c19, c20, go_sem]
    · try simp only [c19, eyl13, nyl13, tyl13, c18, go_sem]
      obtain rfl := Option.some.inj h0
      refine AKev_ret rfl ?_
      try simp only [F15.rs, eyl13, nyl13, tyl13, c18, c19, go_sem]
  · try simp only [c18, eyl13, nyl13, tyl13, go_sem]
    obtain rfl := Option.some.inj h0
    refine AKev_ret rfl ?_
    try simp only [F15.rs, eyl13, nyl13, tyl13, c18, go_sem]
end Go.Abs
namespace Go.Abs
open Go.Proofs
set_option maxRecDepth 20000
set_option linter.unusedVariables false
set_option linter.unusedSimpArgs false
set_option maxHeartbeats 8000000
def F29.c : SC :=
 (.seq
  (.reg [⟨some 2, .box 27 (.tmp 0), 0, none, [0]⟩,
    ⟨some 3, .box 64 (.tmp 1), 0, none, [1]⟩,
    ⟨some 4, .alloc 27, 0, none, []⟩,
    ⟨some 5, .assign (.const (.int .i64 0)), 33, none, [5]⟩])
  (.seq
   (.block 0
    (.seq
     (.reg [⟨some 7, .load 27 (.tmp 2), 27, none, []⟩,
       ⟨some 8, .call ⟨.value (.func 42), #[.tmp 7], #[27]⟩, 33, none, [7]⟩,
       ⟨some 9, .binOp .neq 33 (.tmp 8) (.const (.int .i64 0)) 33, 4, none, [8]⟩,
       ⟨some 6, .assign (.tmp 9), 4, none, [9]⟩])
     (.cond (.tmp 6)
      (.seq
       (.reg [⟨some 10, .build 27 #[], 27, none, []⟩,
         ⟨none, .store 27 (.tmp 4) (.tmp 10), 0, none, [10]⟩,
         ⟨some 5, .assign (.const (.int .i64 42)), 33, none, []⟩])
       .ret)
      (.seq
       (.dreg [⟨some 12, .fieldAddr 27 (.tmp 2) 0, 0, none, []⟩,
         ⟨some 13, .fieldAddr 24 (.tmp 12) 0, 0, none, []⟩,
         ⟨some 14, .load 22 (.tmp 13), 22, none, []⟩,
         ⟨some 15, .indexAddr 22 (.tmp 14) (.const (.int .i64 0)), 0, none, []⟩,
         ⟨some 16, .load 89 (.tmp 15), 89, none, []⟩,
         ⟨some 17, .call ⟨.builtin .len, #[.tmp 16], #[89]⟩, 3, none, []⟩,
         ⟨some 18, .load 64 (.tmp 3), 64, none, []⟩,
         ⟨some 19, .call ⟨.value (.func 87), #[.tmp 17, .tmp 18], #[3, 64]⟩, 4, none, []⟩,
         ⟨some 20, .unOp .not 4 (.tmp 19), 4, none, []⟩,
         ⟨some 11, .assign (.tmp 20), 4, none, []⟩] [[], [0], [0, 1], [0, 1, 2], [0, 1, 2, 3], [0, 1, 2, 3, 4], [], [0, 1, 2, 3, 4, 5, 6], [0, 1, 2, 3, 4, 5, 6, 7], [0, 1, 2, 3, 4, 5, 6, 7, 8]] [12, 13, 14, 15, 16, 17, 18, 19, 20])
       (.cond (.tmp 11)
        (.seq
         (.reg [⟨some 21, .build 27 #[], 27, none, []⟩,
           ⟨none, .store 27 (.tmp 4) (.tmp 21), 0, none, [21]⟩,
           ⟨some 5, .assign (.const (.int .i64 41)), 33, none, []⟩])
         .ret)
        (.seq
         (.reg [⟨some 23, .fieldAddr 27 (.tmp 2) 1, 0, none, []⟩,
           ⟨some 24, .load 25 (.tmp 23), 25, none, [23]⟩,
           ⟨some 25, .call ⟨.builtin .len, #[.tmp 24], #[25]⟩, 3, none, [24]⟩,
           ⟨some 26, .binOp .eql 3 (.tmp 25) (.const (.int .i64 60)) 3, 4, none, [25]⟩,
           ⟨some 22, .assign (.tmp 26), 4, none, [26]⟩])
         (.cond (.tmp 22)
          (.seq
           (.reg [⟨some 27, .build 27 #[], 27, none, []⟩,
             ⟨none, .store 27 (.tmp 4) (.tmp 27), 0, none, [27]⟩,
             ⟨some 5, .assign (.const (.int .i64 2)), 33, none, []⟩])
           .ret)
          .skip)))))))
   (.seq
    (.dreg [⟨some 28, .fieldAddr 27 (.tmp 2) 0, 0, none, []⟩,
      ⟨some 29, .load 24 (.tmp 28), 24, none, []⟩,
      ⟨some 30, .call ⟨.value (.func 88), #[.tmp 29], #[24]⟩, 24, none, []⟩,
      ⟨some 31, .fieldAddr 27 (.tmp 2) 1, 0, none, []⟩,
      ⟨some 32, .load 25 (.tmp 31), 25, none, []⟩,
      ⟨some 33, .call ⟨.value (.func 89), #[.tmp 32], #[25]⟩, 25, none, []⟩,
      ⟨some 34, .load 64 (.tmp 3), 64, none, []⟩,
      ⟨some 35, .buildSlice 25 1 #[(0, .tmp 34)], 25, none, []⟩,
      ⟨some 36, .call ⟨.builtin .append, #[.tmp 33, .tmp 35], #[25, 25]⟩, 25, none, []⟩,
      ⟨some 37, .build 27 #[(0, .tmp 30), (1, .tmp 36)], 27, none, []⟩,
      ⟨none, .store 27 (.tmp 4) (.tmp 37), 0, none, []⟩,
      ⟨some 5, .assign (.const (.int .i64 0)), 33, none, []⟩] [[], [0], [0, 1], [], [3], [3, 4, 0, 1, 2], [], [6], [3, 4, 0, 1, 2, 5, 6, 7], [0, 1, 2, 3, 4, 5, 6, 7, 8], [0, 1, 2, 3, 4, 5, 6, 7, 8, 9], [0, 1, 2, 3, 4, 5, 6, 7, 8, 9, 10]] [2, 3, 28, 29, 30, 31, 32, 33, 34, 35, 36, 37])
    .ret)))
theorem F29.rs : Tryz.f29.results.toList = [.cell 4 27, .tmp 5] := rfl
def heat_With (k : Nat) (f0 : Firing) (r1 : Reading) : Option (Firing × Int) :=
  (heat_Check k f0).bind fun x1 =>
  bif (!decide (x1 = (0 : Int))) then
    some ((⟨(⟨[]⟩ : Kiln), []⟩ : Firing), 42)
  else
    (at? f0.Kiln.Falls 0).bind fun x3 =>
    (heat_isReading k (x3.length : Int) r1).bind fun x4 =>
    bif (!x4) then
      some ((⟨(⟨[]⟩ : Kiln), []⟩ : Firing), 41)
    else
      bif decide ((f0.Readings.length : Int) = (60 : Int)) then
        some ((⟨(⟨[]⟩ : Kiln), []⟩ : Firing), 2)
      else
        (heat_kilnCopy k f0.Kiln).bind fun x7 =>
        (slices_Clone_api_Reading k f0.Readings).bind fun x9 =>
        (push? 48 x9 r1).bind fun l10 =>
        some ((⟨x7, l10⟩ : Firing), 0)
theorem heat_With_ok (k : Nat) (f0 : Firing) (r1 : Reading) (r : Firing × Int) (h0 : heat_With k f0 r1 = some r) : PCall Tryz.prog 29 [.agg (Firing.c f0), .agg (Reading.c r1)] (fun y => y = .tup [.agg (Firing.c r.1), .int .i64 r.2]) := by
  refine PCall.nlr (PCall.of_body T_ok (fn := Tryz.f29) (sc := F29.c) (by rfl) (by rfl) (by decide +kernel) (by rfl) (by decide +kernel) (Nat.le_of_ble_eq_true rfl) ?_)
  refine run_sound T_ok 1000 _ _ ?_
  simp only [heat_With] at h0
  try simp only [F29.c, go_sem]
  obtain ⟨x1, yx1, h0⟩ := bind_some h0
  refine AKev_call0 T_ok 1000 (heat_Check_ok k _ _ yx1) ?_ (by first | rfl | simp [AV.refsL, AV.refs, AV.scal, AV.leaf]) ?_
  · try simp only [go_sem]
  try simp only [go_sem]
  refine AKev_bif h0 (fun c2 h0 => ?_) (fun c2 h0 => ?_)
  · have c2 := bnot_t c2
    try simp only [c2, go_sem]
    obtain rfl := Option.some.inj h0
    refine AKev_ret rfl ?_
    try simp only [F29.rs, c2, go_sem]
  · have c2 := bnot_f c2
    try simp only [c2, go_sem]
    refine AKev_region T_ok follows_ok 1000 ?_
    try simp only [c2, go_sem]
    obtain ⟨x3, yx3, h0⟩ := bind_some h0
    try simp only [at_in yx3, at_get (eL 2 Range.c) yx3, c2, go_sem]
    obtain ⟨x4, yx4, h0⟩ := bind_some h0
    refine DG_call0 1000 (heat_isReading_ok k _ _ _ yx4) ?_ (by first | rfl | simp [AV.refsL, AV.refs, AV.scal, AV.leaf]) ?_
    · try simp only [c2, at_in yx3, at_get (eL 2 Range.c) yx3, go_sem]
    try simp only [c2, at_in yx3, at_get (eL 2 Range.c) yx3, go_sem]
    refine DG_done ⟨rfl, run_sound T_ok 1000 _ _ ?_⟩
    try simp only [c2, at_in yx3, at_get (eL 2 Range.c) yx3, go_sem]
    refine AKev_bif h0 (fun c5 h0 => ?_) (fun c5 h0 => ?_)
    · have c5 := bnot_t c5
      try simp only [c5, c2, at_in yx3, at_get (eL 2 Range.c) yx3, go_sem]
      obtain rfl := Option.some.inj h0
      refine AKev_ret rfl ?_
      try simp only [F29.rs, c2, at_in yx3, at_get (eL 2 Range.c) yx3, c5, go_sem]
    · have c5 := bnot_f c5
      try simp only [c5, c2, at_in yx3, at_get (eL 2 Range.c) yx3, go_sem]
      refine AKev_bif h0 (fun c6 h0 => ?_) (fun c6 h0 => ?_)
      · try simp only [c6, c2, at_in yx3, at_get (eL 2 Range.c) yx3, c5, go_sem]
        obtain rfl := Option.some.inj h0
        refine AKev_ret rfl ?_
        try simp only [F29.rs, c2, at_in yx3, at_get (eL 2 Range.c) yx3, c5, c6, go_sem]
      · try simp only [c6, c2, at_in yx3, at_get (eL 2 Range.c) yx3, c5, go_sem]
        refine AKev_region T_ok follows_ok 1000 ?_
        try simp only [c2, at_in yx3, at_get (eL 2 Range.c) yx3, c5, c6, go_sem]
        obtain ⟨x7, yx7, h0⟩ := bind_some h0
        refine DG_call0 1000 (heat_kilnCopy_ok k _ _ yx7) ?_ (by first | rfl | simp [AV.refsL, AV.refs, AV.scal, AV.leaf]) ?_
        · try simp only [c2, at_in yx3, at_get (eL 2 Range.c) yx3, c5, c6, go_sem]
        try simp only [c2, at_in yx3, at_get (eL 2 Range.c) yx3, c5, c6, go_sem]
        obtain ⟨x9, yx9, h0⟩ := bind_some h0
        refine DG_give 1000 [] [] (slices_Clone_api_Reading_ok k _ _ yx9) ?_ rfl ?_
        · try simp only [gOK, List.length_map, c2, at_in yx3, at_get (eL 2 Range.c) yx3, c5, c6, go_sem]
        try simp only [c2, at_in yx3, at_get (eL 2 Range.c) yx3, c5, c6, go_sem]
        obtain ⟨l10, yl10, h0⟩ := bind_some h0
        have eyl10 := push_map Reading.c yl10
        have tyl10 := push_take Reading.c yl10
        have nyl10 := push_len yl10
        have myl10 := push_room yl10
        try simp only [c2, at_in yx3, at_get (eL 2 Range.c) yx3, c5, c6, go_sem] at eyl10 tyl10 nyl10 myl10
        try simp only [myl10, eyl10, c2, at_in yx3, at_get (eL 2 Range.c) yx3, c5, c6, nyl10, tyl10, go_sem]
        refine DG_done ⟨rfl, run_sound T_ok 1000 _ _ ?_⟩
        try simp only [c2, at_in yx3, at_get (eL 2 Range.c) yx3, c5, c6, eyl10, nyl10, tyl10, go_sem]
        obtain rfl := Option.some.inj h0
        refine AKev_ret rfl ?_
        try simp only [F29.rs, c2, at_in yx3, at_get (eL 2 Range.c) yx3, c5, c6, eyl10, nyl10, tyl10, go_sem]
end Go.Abs
namespace Go.Abs
open Go.Proofs
set_option maxRecDepth 20000
set_option linter.unusedVariables false
set_option linter.unusedSimpArgs false
set_option maxHeartbeats 8000000
def F96.c : SC :=
 (.seq
  (.reg [⟨some 6, .assign (.const (.bool false)), 4, none, [6]⟩])
  (.seq
   (.reg [⟨some 7, .move (.tmp 1), 3, none, [1]⟩,
     ⟨some 8, .move (.tmp 0), 3, none, []⟩,
     ⟨some 9, .binOp .leq 3 (.tmp 7) (.tmp 8) 3, 4, none, [7, 8]⟩,
     ⟨some 10, .move (.tmp 9), 4, none, [9]⟩,
     ⟨some 11, .move (.tmp 0), 3, some (10, true), [0]⟩,
     ⟨some 12, .move (.tmp 2), 3, some (10, true), [2]⟩,
     ⟨some 13, .binOp .leq 3 (.tmp 11) (.tmp 12) 3, 4, some (10, true), [11, 12]⟩,
     ⟨some 14, .pick (.tmp 10) (.tmp 13) (.const (.bool false)), 4, none, [10, 13]⟩,
     ⟨some 6, .assign (.tmp 14), 4, none, [14]⟩])
   .ret))
theorem F96.rs : Tryz.f96.results.toList = [.tmp 6] := rfl
def R01_In (k : Nat) (n0 : Int) (lo1 : Int) (hi2 : Int) : Option (Bool) :=
  bif decide (lo1 ≤ n0) then
    some (decide (n0 ≤ hi2))
  else
    some false
theorem R01_In_ok (k : Nat) (n0 : Int) (lo1 : Int) (hi2 : Int) (r : Bool) (h0 : R01_In k n0 lo1 hi2 = some r) : PCall Tryz.prog 96 [.int .i64 n0, .int .i64 lo1, .int .i64 hi2] (fun y => y = .bool r) := by
  refine PCall.nlr (PCall.of_body T_ok (fn := Tryz.f96) (sc := F96.c) (by rfl) (by rfl) (by decide +kernel) (by rfl) (by decide +kernel) (Nat.le_of_ble_eq_true rfl) ?_)
  refine run_sound T_ok 1000 _ _ ?_
  simp only [R01_In] at h0
  try simp only [F96.c, go_sem]
  refine AKev_bif h0 (fun c1 h0 => ?_) (fun c1 h0 => ?_)
  · try simp only [c1, go_sem]
    obtain rfl := Option.some.inj h0
    refine AKev_ret rfl ?_
    try simp only [F96.rs, c1, go_sem]
  · try simp only [c1, go_sem]
    obtain rfl := Option.some.inj h0
    refine AKev_ret rfl ?_
    try simp only [F96.rs, c1, go_sem]
end Go.Abs
namespace Go.Abs
open Go.Proofs
set_option maxRecDepth 20000
set_option linter.unusedVariables false
set_option linter.unusedSimpArgs false
set_option maxHeartbeats 8000000
def F97.c : SC :=
 (.seq
  (.reg [⟨some 3, .box 30 (.tmp 0), 0, none, [0]⟩,
    ⟨some 6, .assign (.const (.bool false)), 4, none, [6]⟩])
  (.seq
   (.reg [⟨some 7, .move (.tmp 1), 3, none, [1]⟩,
     ⟨some 8, .fieldAddr 30 (.tmp 3) 0, 0, none, []⟩,
     ⟨some 9, .load 3 (.tmp 8), 3, none, [8]⟩,
     ⟨some 10, .binOp .leq 3 (.tmp 7) (.tmp 9) 3, 4, none, [7, 9]⟩,
     ⟨some 11, .move (.tmp 10), 4, none, [10]⟩,
     ⟨some 12, .fieldAddr 30 (.tmp 3) 0, 0, some (11, true), []⟩,
     ⟨some 13, .load 3 (.tmp 12), 3, some (11, true), [12]⟩,
     ⟨some 14, .fieldAddr 30 (.tmp 3) 1, 0, some (11, true), []⟩,
     ⟨some 15, .load 3 (.tmp 14), 3, some (11, true), [14]⟩,
     ⟨some 16, .binOp .leq 3 (.tmp 13) (.tmp 15) 3, 4, some (11, true), [13, 15]⟩,
     ⟨some 17, .pick (.tmp 11) (.tmp 16) (.const (.bool false)), 4, none, [11, 16]⟩,
     ⟨some 18, .move (.tmp 17), 4, none, [17]⟩,
     ⟨some 19, .fieldAddr 30 (.tmp 3) 1, 0, some (18, true), [3]⟩,
     ⟨some 20, .load 3 (.tmp 19), 3, some (18, true), [19]⟩,
     ⟨some 21, .move (.tmp 2), 3, some (18, true), [2]⟩,
     ⟨some 22, .binOp .leq 3 (.tmp 20) (.tmp 21) 3, 4, some (18, true), [20, 21]⟩,
     ⟨some 23, .pick (.tmp 18) (.tmp 22) (.const (.bool false)), 4, none, [18, 22]⟩,
     ⟨some 6, .assign (.tmp 23), 4, none, [23]⟩])
   .ret))
theorem F97.rs : Tryz.f97.results.toList = [.tmp 6] := rfl
def R01_Part (k : Nat) (r0 : Range) (lo1 : Int) (hi2 : Int) : Option (Bool) :=
  bif decide (lo1 ≤ r0.Lo) then
    bif decide (r0.Lo ≤ r0.Hi) then
      some (decide (r0.Hi ≤ hi2))
    else
      some false
  else
    some false
theorem R01_Part_ok (k : Nat) (r0 : Range) (lo1 : Int) (hi2 : Int) (r : Bool) (h0 : R01_Part k r0 lo1 hi2 = some r) : PCall Tryz.prog 97 [.agg (Range.c r0), .int .i64 lo1, .int .i64 hi2] (fun y => y = .bool r) := by
  refine PCall.nlr (PCall.of_body T_ok (fn := Tryz.f97) (sc := F97.c) (by rfl) (by rfl) (by decide +kernel) (by rfl) (by decide +kernel) (Nat.le_of_ble_eq_true rfl) ?_)
  refine run_sound T_ok 1000 _ _ ?_
  simp only [R01_Part] at h0
  try simp only [F97.c, go_sem]
  refine AKev_bif h0 (fun c1 h0 => ?_) (fun c1 h0 => ?_)
  · try simp only [c1, go_sem]
    refine AKev_bif h0 (fun c2 h0 => ?_) (fun c2 h0 => ?_)
    · try simp only [c2, c1, go_sem]
      obtain rfl := Option.some.inj h0
      refine AKev_ret rfl ?_
      try simp only [F97.rs, c1, c2, go_sem]
    · try simp only [c2, c1, go_sem]
      obtain rfl := Option.some.inj h0
      refine AKev_ret rfl ?_
      try simp only [F97.rs, c1, c2, go_sem]
  · try simp only [c1, go_sem]
    obtain rfl := Option.some.inj h0
    refine AKev_ret rfl ?_
    try simp only [F97.rs, c1, go_sem]
end Go.Abs
namespace Go.Abs
open Go.Proofs
set_option maxRecDepth 20000
set_option linter.unusedVariables false
set_option linter.unusedSimpArgs false
set_option maxHeartbeats 8000000
def F37.s1 : SC :=
 (.seq
  (.seq
   (.reg [⟨some 36, .move (.tmp 5), 3, none, []⟩,
     ⟨some 37, .move (.tmp 3), 3, none, []⟩,
     ⟨some 38, .binOp .lss 3 (.tmp 36) (.tmp 37) 3, 4, none, [36, 37]⟩])
   (.cond (.tmp 38)
    .skip
    (.exit 2)))
  (.seq
   (.block 3
    (.seq
     (.reg [⟨some 41, .fieldAddr 24 (.tmp 1) 0, 0, none, []⟩,
       ⟨some 42, .load 22 (.tmp 41), 22, none, [41]⟩,
       ⟨some 43, .move (.tmp 4), 3, none, []⟩,
       ⟨some 44, .indexAddr 22 (.tmp 42) (.tmp 43), 0, none, [42, 43]⟩,
       ⟨some 45, .load 89 (.tmp 44), 89, none, [44]⟩,
       ⟨some 46, .move (.tmp 5), 3, none, []⟩,
       ⟨some 47, .indexAddr 89 (.tmp 45) (.tmp 46), 0, none, [45, 46]⟩,
       ⟨some 48, .load 30 (.tmp 47), 30, none, [47]⟩,
       ⟨some 49, .call ⟨.value (.func 97), #[.tmp 48, .const (.int .i64 0), .const (.int .i64 3000)], #[30, 3, 3]⟩, 4, none, [48]⟩,
       ⟨some 50, .unOp .not 4 (.tmp 49), 4, none, [49]⟩])
     (.cond (.tmp 50)
      (.seq
       (.reg [⟨some 2, .assign (.const (.int .i64 40)), 33, none, []⟩])
       .ret)
      .skip)))
   (.reg [⟨some 39, .move (.tmp 5), 3, none, [5]⟩,
     ⟨some 40, .binOp .add 3 (.tmp 39) (.const (.int .i64 1)) 3, 3, none, [39]⟩,
     ⟨some 5, .assign (.tmp 40), 3, none, [40]⟩])))
def F37.s0 : SC :=
 (.seq
  (.seq
   (.reg [⟨some 16, .move (.tmp 4), 3, none, []⟩,
     ⟨some 17, .fieldAddr 24 (.tmp 1) 0, 0, none, []⟩,
     ⟨some 18, .load 22 (.tmp 17), 22, none, [17]⟩,
     ⟨some 19, .call ⟨.builtin .len, #[.tmp 18], #[22]⟩, 3, none, [18]⟩,
     ⟨some 20, .binOp .lss 3 (.tmp 16) (.tmp 19) 3, 4, none, [16, 19]⟩])
   (.cond (.tmp 20)
    .skip
    (.exit 0)))
  (.seq
   (.block 1
    (.seq
     (.seq
      (.reg [⟨some 23, .fieldAddr 24 (.tmp 1) 0, 0, none, []⟩,
        ⟨some 24, .load 22 (.tmp 23), 22, none, [23]⟩,
        ⟨some 25, .move (.tmp 4), 3, none, []⟩,
        ⟨some 26, .indexAddr 22 (.tmp 24) (.tmp 25), 0, none, [24, 25]⟩,
        ⟨some 27, .load 89 (.tmp 26), 89, none, [26]⟩,
        ⟨some 28, .call ⟨.builtin .len, #[.tmp 27], #[89]⟩, 3, none, [27]⟩,
        ⟨some 29, .move (.tmp 3), 3, none, []⟩,
        ⟨some 30, .binOp .neq 3 (.tmp 28) (.tmp 29) 3, 4, none, [28, 29]⟩,
        ⟨some 31, .move (.tmp 30), 4, none, [30]⟩,
        ⟨some 32, .move (.tmp 3), 3, some (31, false), []⟩,
        ⟨some 33, .call ⟨.value (.func 96), #[.tmp 32, .const (.int .i64 1), .const (.int .i64 24)], #[3, 3, 3]⟩, 4, some (31, false), [32]⟩,
        ⟨some 34, .unOp .not 4 (.tmp 33), 4, some (31, false), [33]⟩,
        ⟨some 35, .pick (.tmp 31) (.const (.bool true)) (.tmp 34), 4, none, [31, 34]⟩])
      (.cond (.tmp 35)
       (.seq
        (.reg [⟨some 2, .assign (.const (.int .i64 40)), 33, none, []⟩])
        .ret)
       .skip))
     (.seq
      (.reg [⟨some 5, .assign (.const (.int .i64 0)), 3, none, []⟩])
      (.block 2
       (.loop F37.s1)))))
   (.reg [⟨some 21, .move (.tmp 4), 3, none, [4]⟩,
     ⟨some 22, .binOp .add 3 (.tmp 21) (.const (.int .i64 1)) 3, 3, none, [21]⟩,
     ⟨some 4, .assign (.tmp 22), 3, none, [22]⟩])))
def F37.c : SC :=
 (.seq
  (.reg [⟨some 1, .box 24 (.tmp 0), 0, none, [0]⟩,
    ⟨some 2, .assign (.const (.int .i64 0)), 33, none, [2]⟩])
  (.seq
   (.seq
    (.reg [⟨some 6, .fieldAddr 24 (.tmp 1) 0, 0, none, []⟩,
      ⟨some 7, .load 22 (.tmp 6), 22, none, [6]⟩,
      ⟨some 8, .call ⟨.builtin .len, #[.tmp 7], #[22]⟩, 3, none, [7]⟩,
      ⟨some 9, .call ⟨.value (.func 96), #[.tmp 8, .const (.int .i64 1), .const (.int .i64 6)], #[3, 3, 3]⟩, 4, none, [8]⟩,
      ⟨some 10, .unOp .not 4 (.tmp 9), 4, none, [9]⟩])
    (.cond (.tmp 10)
     (.seq
      (.reg [⟨some 2, .assign (.const (.int .i64 40)), 33, none, []⟩])
      .ret)
     .skip))
   (.seq
    (.reg [⟨some 11, .fieldAddr 24 (.tmp 1) 0, 0, none, []⟩,
      ⟨some 12, .load 22 (.tmp 11), 22, none, [11]⟩,
      ⟨some 13, .indexAddr 22 (.tmp 12) (.const (.int .i64 0)), 0, none, [12]⟩,
      ⟨some 14, .load 89 (.tmp 13), 89, none, [13]⟩,
      ⟨some 15, .call ⟨.builtin .len, #[.tmp 14], #[89]⟩, 3, none, [14]⟩,
      ⟨some 3, .assign (.tmp 15), 3, none, [15]⟩])
    (.seq
     (.seq
      (.reg [⟨some 4, .assign (.const (.int .i64 0)), 3, none, []⟩])
      (.block 0
       (.loop F37.s0)))
     (.seq
      (.reg [⟨some 2, .assign (.const (.int .i64 0)), 33, none, []⟩])
      .ret)))))
theorem F37.rs : Tryz.f37.results.toList = [.tmp 2] := rfl
def R04_CheckKiln.b1 (k : Nat) (x3 : (List Range)) (x6 : (List Range)) : Int → Option (Stp (Int) (Unit) (Int)) := fun (i10 : Int) => 
  bif decide (i10 < (x3.length : Int)) then
    (at? x6 i10).bind fun x12 =>
    (R01_Part k x12 0 3000).bind fun x13 =>
    bif (!x13) then
      some (.ret 40)
    else
      some (.next (w64 (i10 + 1)))
  else
    some (.brk ())
def R04_CheckKiln.b0 (k : Nat) (k0 : Kiln) (x3 : (List Range)) : Int → Option (Stp (Int) (Unit) (Int)) := fun (i4 : Int) => 
  bif decide (i4 < (k0.Falls.length : Int)) then
    (at? k0.Falls i4).bind fun x6 =>
    bif decide ((x6.length : Int) = (x3.length : Int)) then
      (R01_In k (x3.length : Int) 1 24).bind fun x8 =>
      bif (!x8) then
        some (.ret 40)
      else
        (whl (R04_CheckKiln.b1 k x3 x6) k 0).bind fun r15 => match r15 with
        | .next _ => none
        | .ret v_ => some (.ret v_)
        | .brk _ =>
          some (.next (w64 (i4 + 1)))
    else
      some (.ret 40)
  else
    some (.brk ())
noncomputable def R04_CheckKiln.h1 (k0 : Kiln) (x3 : (List Range)) (i4 : Int) : Int → St := fun (i10 : Int) => ⟨[(1, .ptr 0 0 0), (3, .int .i64 (x3.length : Int)), (4, .int .i64 i4), (5, .int .i64 i10)], [(0, .box [.sl 1 (List.map (eL 2 Range.c) k0.Falls)])], [], 1, Tryz.f37.ntmps⟩
noncomputable def R04_CheckKiln.x1 (k0 : Kiln) (x3 : (List Range)) (i4 : Int) : Unit → St := fun (_ : Unit) => ⟨[(1, .ptr 0 0 0), (3, .int .i64 (x3.length : Int)), (4, .int .i64 i4)], [(0, .box [.sl 1 (List.map (eL 2 Range.c) k0.Falls)])], [], 1, Tryz.f37.ntmps⟩
noncomputable def R04_CheckKiln.h0 (k0 : Kiln) (x3 : (List Range)) : Int → St := fun (i4 : Int) => ⟨[(1, .ptr 0 0 0), (3, .int .i64 (x3.length : Int)), (4, .int .i64 i4)], [(0, .box [.sl 1 (List.map (eL 2 Range.c) k0.Falls)])], [], 1, Tryz.f37.ntmps⟩
noncomputable def R04_CheckKiln.x0 : Unit → St := fun (_ : Unit) => ⟨[], [], [], 1, Tryz.f37.ntmps⟩
def R04_CheckKiln (k : Nat) (k0 : Kiln) : Option (Int) :=
  (R01_In k (k0.Falls.length : Int) 1 6).bind fun x1 =>
  bif (!x1) then
    some 40
  else
    (at? k0.Falls 0).bind fun x3 =>
    (whl (R04_CheckKiln.b0 k k0 x3) k 0).bind fun r16 => match r16 with
    | .next _ => none
    | .ret v_ => some v_
    | .brk _ =>
      some 0
theorem R04_CheckKiln_ok (k : Nat) (k0 : Kiln) (r : Int) (h0 : R04_CheckKiln k k0 = some r) : PCall Tryz.prog 37 [.agg (Kiln.c k0)] (fun y => y = .int .i64 r) := by
  refine PCall.nlr (PCall.of_body T_ok (fn := Tryz.f37) (sc := F37.c) (by rfl) (by rfl) (by decide +kernel) (by rfl) (by decide +kernel) (Nat.le_of_ble_eq_true rfl) ?_)
  refine run_sound T_ok 1000 _ _ ?_
  simp only [R04_CheckKiln] at h0
  try simp only [F37.c, go_sem]
  obtain ⟨x1, yx1, h0⟩ := bind_some h0
  refine AKev_call0 T_ok 1000 (R01_In_ok k _ _ _ _ yx1) ?_ (by first | rfl | simp [AV.refsL, AV.refs, AV.scal, AV.leaf]) ?_
  · try simp only [go_sem]
  try simp only [go_sem]
  refine AKev_bif h0 (fun c2 h0 => ?_) (fun c2 h0 => ?_)
  · have c2 := bnot_t c2
    try simp only [c2, go_sem]
    obtain rfl := Option.some.inj h0
    refine AKev_ret rfl ?_
    try simp only [F37.rs, c2, go_sem]
  · have c2 := bnot_f c2
    try simp only [c2, go_sem]
    obtain ⟨x3, yx3, h0⟩ := bind_some h0
    try simp only [at_in yx3, at_get (eL 2 Range.c) yx3, c2, go_sem]
    obtain ⟨r16, yr16, h0⟩ := bind_some h0
    refine AKev_loopS yr16 (R04_CheckKiln.h0 k0 x3) (R04_CheckKiln.x0) ?_ ?_ ?_
    · refine Weak.go [1, 3, 4] [0] rfl ?_
      try simp only [R04_CheckKiln.h0, c2, at_in yx3, at_get (eL 2 Range.c) yx3, go_sem]
    · rintro i4 x_1 Bk1 Br1 h1 hnext1 hbrk1 hret1
      refine run_sound T_ok 1000 _ _ ?_
      simp only [R04_CheckKiln.b0] at h1
      try simp only [F37.s0, R04_CheckKiln.h0, c2, at_in yx3, at_get (eL 2 Range.c) yx3, go_sem]
      refine AKev_bif h1 (fun c5 h1 => ?_) (fun c5 h1 => ?_)
      · try simp only [c5, c2, at_in yx3, at_get (eL 2 Range.c) yx3, go_sem]
        obtain ⟨x6, yx6, h1⟩ := bind_some h1
        try simp only [at_in yx6, at_get (eL 2 Range.c) yx6, c2, at_in yx3, at_get (eL 2 Range.c) yx3, c5, go_sem]
        refine AKev_bif h1 (fun c7 h1 => ?_) (fun c7 h1 => ?_)
        · try simp only [c7, c2, at_in yx3, at_get (eL 2 Range.c) yx3, c5, at_in yx6, at_get (eL 2 Range.c) yx6, go_sem]
          obtain ⟨x8, yx8, h1⟩ := bind_some h1
          refine AKev_call0 T_ok 1000 (R01_In_ok k _ _ _ _ yx8) ?_ (by first | rfl | simp [AV.refsL, AV.refs, AV.scal, AV.leaf]) ?_
          · try simp only [c2, at_in yx3, at_get (eL 2 Range.c) yx3, c5, at_in yx6, at_get (eL 2 Range.c) yx6, c7, go_sem]
          try simp only [c2, at_in yx3, at_get (eL 2 Range.c) yx3, c5, at_in yx6, at_get (eL 2 Range.c) yx6, c7, go_sem]
          refine AKev_bif h1 (fun c9 h1 => ?_) (fun c9 h1 => ?_)
          · have c9 := bnot_t c9
            try simp only [c9, c2, at_in yx3, at_get (eL 2 Range.c) yx3, c5, at_in yx6, at_get (eL 2 Range.c) yx6, c7, go_sem]
            obtain rfl := hret1 _ (Option.some.inj h1).symm
            simp only at h0
            obtain rfl := Option.some.inj h0
            refine AKev_ret rfl ?_
            try simp only [F37.rs, c2, at_in yx3, at_get (eL 2 Range.c) yx3, c5, at_in yx6, at_get (eL 2 Range.c) yx6, c7, c9, go_sem]
          · have c9 := bnot_f c9
            try simp only [c9, c2, at_in yx3, at_get (eL 2 Range.c) yx3, c5, at_in yx6, at_get (eL 2 Range.c) yx6, c7, go_sem]
            obtain ⟨r15, yr15, h1⟩ := bind_some h1
            refine AKev_loopS yr15 (R04_CheckKiln.h1 k0 x3 i4) (R04_CheckKiln.x1 k0 x3 i4) ?_ ?_ ?_
            · refine Weak.go [1, 3, 4, 5] [0] rfl ?_
              try simp only [R04_CheckKiln.h1, c2, at_in yx3, at_get (eL 2 Range.c) yx3, c5, at_in yx6, at_get (eL 2 Range.c) yx6, c7, c9, go_sem]
            · rintro i10 x_2 Bk2 Br2 h2 hnext2 hbrk2 hret2
              refine run_sound T_ok 1000 _ _ ?_
              simp only [R04_CheckKiln.b1] at h2
              try simp only [F37.s1, R04_CheckKiln.h1, c2, at_in yx3, at_get (eL 2 Range.c) yx3, c5, at_in yx6, at_get (eL 2 Range.c) yx6, c7, c9, go_sem]
              refine AKev_bif h2 (fun c11 h2 => ?_) (fun c11 h2 => ?_)
              · try simp only [c11, at_in yx6, at_get (eL 2 Range.c) yx6, c2, at_in yx3, at_get (eL 2 Range.c) yx3, c5, c7, c9, go_sem]
                obtain ⟨x12, yx12, h2⟩ := bind_some h2
                try simp only [at_in yx12, at_get Range.c yx12, c2, at_in yx3, at_get (eL 2 Range.c) yx3, c5, at_in yx6, at_get (eL 2 Range.c) yx6, c7, c9, c11, go_sem]
                obtain ⟨x13, yx13, h2⟩ := bind_some h2
                refine AKev_call0 T_ok 1000 (R01_Part_ok k _ _ _ _ yx13) ?_ (by first | rfl | simp [AV.refsL, AV.refs, AV.scal, AV.leaf]) ?_
                · try simp only [c2, at_in yx3, at_get (eL 2 Range.c) yx3, c5, at_in yx6, at_get (eL 2 Range.c) yx6, c7, c9, c11, at_in yx12, at_get Range.c yx12, go_sem]
                try simp only [c2, at_in yx3, at_get (eL 2 Range.c) yx3, c5, at_in yx6, at_get (eL 2 Range.c) yx6, c7, c9, c11, at_in yx12, at_get Range.c yx12, go_sem]
                refine AKev_bif h2 (fun c14 h2 => ?_) (fun c14 h2 => ?_)
                · have c14 := bnot_t c14
                  try simp only [c14, c2, at_in yx3, at_get (eL 2 Range.c) yx3, c5, at_in yx6, at_get (eL 2 Range.c) yx6, c7, c9, c11, at_in yx12, at_get Range.c yx12, go_sem]
                  obtain rfl := hret2 _ (Option.some.inj h2).symm
                  simp only at h1
                  obtain rfl := hret1 _ (Option.some.inj h1).symm
                  simp only at h0
                  obtain rfl := Option.some.inj h0
                  refine AKev_ret rfl ?_
                  try simp only [F37.rs, c2, at_in yx3, at_get (eL 2 Range.c) yx3, c5, at_in yx6, at_get (eL 2 Range.c) yx6, c7, c9, c11, at_in yx12, at_get Range.c yx12, c14, go_sem]
                · have c14 := bnot_f c14
                  try simp only [c14, c2, at_in yx3, at_get (eL 2 Range.c) yx3, c5, at_in yx6, at_get (eL 2 Range.c) yx6, c7, c9, c11, at_in yx12, at_get Range.c yx12, go_sem]
                  refine AKev_backB (hnext2 _ _ (Option.some.inj h2).symm ?_)
                  refine Weak.go [1, 3, 4, 5] [0] rfl ?_
                  try simp only [R04_CheckKiln.h1, c2, at_in yx3, at_get (eL 2 Range.c) yx3, c5, at_in yx6, at_get (eL 2 Range.c) yx6, c7, c9, c11, at_in yx12, at_get Range.c yx12, c14, go_sem]
              · try simp only [c11, c2, at_in yx3, at_get (eL 2 Range.c) yx3, c5, at_in yx6, at_get (eL 2 Range.c) yx6, c7, c9, go_sem]
                refine AKev_backB (hbrk2 _ _ (Option.some.inj h2).symm ?_)
                refine Weak.go [1, 3, 4] [0] rfl ?_
                try simp only [R04_CheckKiln.x1, c2, at_in yx3, at_get (eL 2 Range.c) yx3, c5, at_in yx6, at_get (eL 2 Range.c) yx6, c7, c9, c11, go_sem]
            · rintro _ hr_
              subst hr_
              simp only at h1
              refine run_sound T_ok 1000 _ _ ?_
              try simp only [R04_CheckKiln.x1, c2, at_in yx3, at_get (eL 2 Range.c) yx3, c5, at_in yx6, at_get (eL 2 Range.c) yx6, c7, c9, go_sem]
              refine AKev_backB (hnext1 _ _ (Option.some.inj h1).symm ?_)
              refine Weak.go [1, 3, 4] [0] rfl ?_
              try simp only [R04_CheckKiln.h0, c2, at_in yx3, at_get (eL 2 Range.c) yx3, c5, at_in yx6, at_get (eL 2 Range.c) yx6, c7, c9, go_sem]
        · try simp only [c7, c2, at_in yx3, at_get (eL 2 Range.c) yx3, c5, at_in yx6, at_get (eL 2 Range.c) yx6, go_sem]
          obtain rfl := hret1 _ (Option.some.inj h1).symm
          simp only at h0
          obtain rfl := Option.some.inj h0
          refine AKev_ret rfl ?_
          try simp only [F37.rs, c2, at_in yx3, at_get (eL 2 Range.c) yx3, c5, at_in yx6, at_get (eL 2 Range.c) yx6, c7, go_sem]
      · try simp only [c5, c2, at_in yx3, at_get (eL 2 Range.c) yx3, go_sem]
        refine AKev_backB (hbrk1 _ _ (Option.some.inj h1).symm ?_)
        refine Weak.go [] [] rfl ?_
        try simp only [R04_CheckKiln.x0, c2, at_in yx3, at_get (eL 2 Range.c) yx3, c5, go_sem]
    · rintro _ hr_
      subst hr_
      simp only at h0
      refine run_sound T_ok 1000 _ _ ?_
      try simp only [R04_CheckKiln.x0, c2, at_in yx3, at_get (eL 2 Range.c) yx3, go_sem]
      obtain rfl := Option.some.inj h0
      refine AKev_ret rfl ?_
      try simp only [F37.rs, c2, at_in yx3, at_get (eL 2 Range.c) yx3, go_sem]
end Go.Abs
namespace Go.Abs
open Go.Proofs
set_option maxRecDepth 20000
set_option linter.unusedVariables false
set_option linter.unusedSimpArgs false
set_option maxHeartbeats 8000000
def F90.c : SC :=
 (.seq
  (.reg [⟨some 2, .box 24 (.tmp 0), 0, none, [0]⟩,
    ⟨some 3, .box 64 (.tmp 1), 0, none, [1]⟩,
    ⟨some 4, .assign (.const (.bool false)), 4, none, [4]⟩])
  (.seq
   (.seq
    (.dreg [⟨some 5, .fieldAddr 64 (.tmp 3) 0, 0, none, []⟩,
      ⟨some 6, .load 3 (.tmp 5), 3, none, []⟩,
      ⟨some 7, .call ⟨.value (.func 96), #[.tmp 6, .const (.int .i64 1), .const (.int .i64 99999)], #[3, 3, 3]⟩, 4, none, []⟩,
      ⟨some 8, .unOp .not 4 (.tmp 7), 4, none, []⟩,
      ⟨some 9, .move (.tmp 8), 4, none, []⟩,
      ⟨some 10, .fieldAddr 64 (.tmp 3) 1, 0, some (9, false), []⟩,
      ⟨some 11, .load 3 (.tmp 10), 3, some (9, false), []⟩,
      ⟨some 12, .fieldAddr 24 (.tmp 2) 0, 0, some (9, false), []⟩,
      ⟨some 13, .load 22 (.tmp 12), 22, some (9, false), []⟩,
      ⟨some 14, .indexAddr 22 (.tmp 13) (.const (.int .i64 0)), 0, some (9, false), []⟩,
      ⟨some 15, .load 89 (.tmp 14), 89, some (9, false), []⟩,
      ⟨some 16, .call ⟨.builtin .len, #[.tmp 15], #[89]⟩, 3, some (9, false), []⟩,
      ⟨some 17, .binOp .sub 3 (.tmp 16) (.const (.int .i64 1)) 3, 3, some (9, false), []⟩,
      ⟨some 18, .call ⟨.value (.func 96), #[.tmp 11, .const (.int .i64 0), .tmp 17], #[3, 3, 3]⟩, 4, some (9, false), []⟩,
      ⟨some 19, .unOp .not 4 (.tmp 18), 4, some (9, false), []⟩,
      ⟨some 20, .pick (.tmp 9) (.const (.bool true)) (.tmp 19), 4, none, []⟩] [[], [0], [0, 1], [0, 1, 2], [0, 1, 2, 3], [0, 1, 2, 3, 4], [0, 1, 2, 3, 4, 5], [0, 1, 2, 3, 4], [0, 1, 2, 3, 4, 7], [0, 1, 2, 3, 4, 7, 8], [0, 1, 2, 3, 4, 7, 8, 9], [0, 1, 2, 3, 4, 7, 8, 9, 10], [0, 1, 2, 3, 4, 7, 8, 9, 10, 11], [0, 1, 2, 3, 4, 5, 6, 7, 8, 9, 10, 11, 12], [0, 1, 2, 3, 4, 5, 6, 7, 8, 9, 10, 11, 12, 13], [0, 1, 2, 3, 4, 5, 6, 7, 8, 9, 10, 11, 12, 13, 14]] [2, 5, 6, 7, 8, 9, 10, 11, 12, 13, 14, 15, 16, 17, 18, 19])
    (.cond (.tmp 20)
     (.seq
      (.reg [⟨some 4, .assign (.const (.bool false)), 4, none, []⟩])
      .ret)
     .skip))
   (.seq
    (.seq
     (.reg [⟨some 21, .fieldAddr 64 (.tmp 3) 2, 0, none, []⟩,
       ⟨some 22, .load 3 (.tmp 21), 3, none, [21]⟩])
     (.block 0
      (.seq
       (.seq
        (.reg [⟨some 24, .binOp .eql 3 (.tmp 22) (.const (.int .i64 1)) 3, 4, none, []⟩,
          ⟨some 23, .assign (.tmp 24), 4, none, [24]⟩])
        (.cond (.tmp 23)
         .skip
         (.reg [⟨some 25, .binOp .eql 3 (.tmp 22) (.const (.int .i64 2)) 3, 4, none, []⟩,
           ⟨some 23, .assign (.tmp 25), 4, none, [25]⟩])))
       (.cond (.tmp 23)
        (.seq
         (.reg [⟨some 26, .fieldAddr 64 (.tmp 3) 3, 0, none, []⟩,
           ⟨some 27, .load 3 (.tmp 26), 3, none, [26]⟩,
           ⟨some 28, .call ⟨.value (.func 96), #[.tmp 27, .const (.int .i64 1), .const (.int .i64 2000)], #[3, 3, 3]⟩, 4, none, [27]⟩,
           ⟨some 29, .move (.tmp 28), 4, none, [28]⟩,
           ⟨some 30, .fieldAddr 64 (.tmp 3) 4, 0, some (29, true), [3]⟩,
           ⟨some 31, .load 30 (.tmp 30), 30, some (29, true), [30]⟩,
           ⟨some 32, .build 30 #[], 30, some (29, true), []⟩,
           ⟨some 33, .binOp .eql 30 (.tmp 31) (.tmp 32) 30, 4, some (29, true), [31, 32]⟩,
           ⟨some 34, .pick (.tmp 29) (.tmp 33) (.const (.bool false)), 4, none, [29, 33]⟩,
           ⟨some 4, .assign (.tmp 34), 4, none, [34]⟩])
         .ret)
        (.seq
         (.reg [⟨some 36, .binOp .eql 3 (.tmp 22) (.const (.int .i64 3)) 3, 4, none, [22]⟩,
           ⟨some 35, .assign (.tmp 36), 4, none, [36]⟩])
         (.cond (.tmp 35)
          (.seq
           (.reg [⟨some 37, .fieldAddr 64 (.tmp 3) 3, 0, none, []⟩,
             ⟨some 38, .load 3 (.tmp 37), 3, none, [37]⟩,
             ⟨some 39, .binOp .eql 3 (.tmp 38) (.const (.int .i64 0)) 3, 4, none, [38]⟩,
             ⟨some 40, .move (.tmp 39), 4, none, [39]⟩,
             ⟨some 41, .fieldAddr 64 (.tmp 3) 4, 0, some (40, true), [3]⟩,
             ⟨some 42, .load 30 (.tmp 41), 30, some (40, true), [41]⟩,
             ⟨some 43, .call ⟨.value (.func 97), #[.tmp 42, .const (.int .i64 1), .const (.int .i64 2000)], #[30, 3, 3]⟩, 4, some (40, true), [42]⟩,
             ⟨some 44, .pick (.tmp 40) (.tmp 43) (.const (.bool false)), 4, none, [40, 43]⟩,
             ⟨some 4, .assign (.tmp 44), 4, none, [44]⟩])
           .ret)
          .skip))))))
    (.seq
     (.reg [⟨some 4, .assign (.const (.bool false)), 4, none, []⟩])
     .ret))))
theorem F90.rs : Tryz.f90.results.toList = [.tmp 4] := rfl
def R04_isReading (k : Nat) (k0 : Kiln) (r1 : Reading) : Option (Bool) :=
  (R01_In k r1.Source 1 99999).bind fun x1 =>
  bif x1 then
    (at? k0.Falls 0).bind fun x3 =>
    (R01_In k r1.Place 0 (w64 ((x3.length : Int) - 1))).bind fun x4 =>
    bif (!x4) then
      some false
    else
      bif decide (r1.Kind = (1 : Int)) then
        (R01_In k r1.Mark 1 2000).bind fun x7 =>
        bif x7 then
          some (decide (r1.Heat.Lo = (0 : Int)) && decide (r1.Heat.Hi = (0 : Int)))
        else
          some false
      else
        bif decide (r1.Kind = (2 : Int)) then
          (R01_In k r1.Mark 1 2000).bind fun x10 =>
          bif x10 then
            some (decide (r1.Heat.Lo = (0 : Int)) && decide (r1.Heat.Hi = (0 : Int)))
          else
            some false
        else
          bif decide (r1.Kind = (3 : Int)) then
            bif decide (r1.Mark = (0 : Int)) then
              (R01_Part k r1.Heat 1 2000).bind fun x14 =>
              some x14
            else
              some false
          else
            some false
  else
    some false
theorem R04_isReading_ok (k : Nat) (k0 : Kiln) (r1 : Reading) (r : Bool) (h0 : R04_isReading k k0 r1 = some r) : PCall Tryz.prog 90 [.agg (Kiln.c k0), .agg (Reading.c r1)] (fun y => y = .bool r) := by
  refine PCall.nlr (PCall.of_body T_ok (fn := Tryz.f90) (sc := F90.c) (by rfl) (by rfl) (by decide +kernel) (by rfl) (by decide +kernel) (Nat.le_of_ble_eq_true rfl) ?_)
  refine run_sound T_ok 1000 _ _ ?_
  simp only [R04_isReading] at h0
  try simp only [F90.c, go_sem]
  refine AKev_region T_ok follows_ok 1000 ?_
  try simp only [go_sem]
  obtain ⟨x1, yx1, h0⟩ := bind_some h0
  refine DG_call0 1000 (R01_In_ok k _ _ _ _ yx1) ?_ (by first | rfl | simp [AV.refsL, AV.refs, AV.scal, AV.leaf]) ?_
  · try simp only [go_sem]
  try simp only [go_sem]
  refine DG_bif h0 (fun c2 h0 => ?_) (fun c2 h0 => ?_)
  · try simp only [c2, go_sem]
    obtain ⟨x3, yx3, h0⟩ := bind_some h0
    try simp only [at_in yx3, at_get (eL 2 Range.c) yx3, c2, go_sem]
    obtain ⟨x4, yx4, h0⟩ := bind_some h0
    refine DG_call0 1000 (R01_In_ok k _ _ _ _ yx4) ?_ (by first | rfl | simp [AV.refsL, AV.refs, AV.scal, AV.leaf]) ?_
    · try simp only [c2, at_in yx3, at_get (eL 2 Range.c) yx3, go_sem]
    try simp only [c2, at_in yx3, at_get (eL 2 Range.c) yx3, go_sem]
    refine DG_done ⟨rfl, run_sound T_ok 1000 _ _ ?_⟩
    try simp only [c2, at_in yx3, at_get (eL 2 Range.c) yx3, go_sem]
    refine AKev_bif h0 (fun c5 h0 => ?_) (fun c5 h0 => ?_)
    · have c5 := bnot_t c5
      try simp only [c5, c2, at_in yx3, at_get (eL 2 Range.c) yx3, go_sem]
      obtain rfl := Option.some.inj h0
      refine AKev_ret rfl ?_
      try simp only [F90.rs, c2, at_in yx3, at_get (eL 2 Range.c) yx3, c5, go_sem]
    · have c5 := bnot_f c5
      try simp only [c5, c2, at_in yx3, at_get (eL 2 Range.c) yx3, go_sem]
      refine AKev_bif h0 (fun c6 h0 => ?_) (fun c6 h0 => ?_)
      · try simp only [c6, c2, at_in yx3, at_get (eL 2 Range.c) yx3, c5, go_sem]
        obtain ⟨x7, yx7, h0⟩ := bind_some h0
        refine AKev_call0 T_ok 1000 (R01_In_ok k _ _ _ _ yx7) ?_ (by first | rfl | simp [AV.refsL, AV.refs, AV.scal, AV.leaf]) ?_
        · try simp only [c2, at_in yx3, at_get (eL 2 Range.c) yx3, c5, c6, go_sem]
        try simp only [c2, at_in yx3, at_get (eL 2 Range.c) yx3, c5, c6, go_sem]
        refine AKev_bif h0 (fun c8 h0 => ?_) (fun c8 h0 => ?_)
        · try simp only [c8, c2, at_in yx3, at_get (eL 2 Range.c) yx3, c5, c6, go_sem]
          obtain rfl := Option.some.inj h0
          refine AKev_ret rfl ?_
          try simp only [F90.rs, c2, at_in yx3, at_get (eL 2 Range.c) yx3, c5, c6, c8, go_sem]
        · try simp only [c8, c2, at_in yx3, at_get (eL 2 Range.c) yx3, c5, c6, go_sem]
          obtain rfl := Option.some.inj h0
          refine AKev_ret rfl ?_
          try simp only [F90.rs, c2, at_in yx3, at_get (eL 2 Range.c) yx3, c5, c6, c8, go_sem]
      · try simp only [c6, c2, at_in yx3, at_get (eL 2 Range.c) yx3, c5, go_sem]
        refine AKev_bif h0 (fun c9 h0 => ?_) (fun c9 h0 => ?_)
        · try simp only [c9, c2, at_in yx3, at_get (eL 2 Range.c) yx3, c5, c6, go_sem]
          obtain ⟨x10, yx10, h0⟩ := bind_some h0
          refine AKev_call0 T_ok 1000 (R01_In_ok k _ _ _ _ yx10) ?_ (by first | rfl | simp [AV.refsL, AV.refs, AV.scal, AV.leaf]) ?_
          · try simp only [c2, at_in yx3, at_get (eL 2 Range.c) yx3, c5, c6, c9, go_sem]
          try simp only [c2, at_in yx3, at_get (eL 2 Range.c) yx3, c5, c6, c9, go_sem]
          refine AKev_bif h0 (fun c11 h0 => ?_) (fun c11 h0 => ?_)
          · try simp only [c11, c2, at_in yx3, at_get (eL 2 Range.c) yx3, c5, c6, c9, go_sem]
            obtain rfl := Option.some.inj h0
            refine AKev_ret rfl ?_
            try simp only [F90.rs, c2, at_in yx3, at_get (eL 2 Range.c) yx3, c5, c6, c9, c11, go_sem]
          · try simp only [c11, c2, at_in yx3, at_get (eL 2 Range.c) yx3, c5, c6, c9, go_sem]
            obtain rfl := Option.some.inj h0
            refine AKev_ret rfl ?_
            try simp only [F90.rs, c2, at_in yx3, at_get (eL 2 Range.c) yx3, c5, c6, c9, c11, go_sem]
        · try simp only [c9, c2, at_in yx3, at_get (eL 2 Range.c) yx3, c5, c6, go_sem]
          refine AKev_bif h0 (fun c12 h0 => ?_) (fun c12 h0 => ?_)
          · try simp only [c12, c2, at_in yx3, at_get (eL 2 Range.c) yx3, c5, c6, c9, go_sem]
            refine AKev_bif h0 (fun c13 h0 => ?_) (fun c13 h0 => ?_)
            · try simp only [c13, c2, at_in yx3, at_get (eL 2 Range.c) yx3, c5, c6, c9, c12, go_sem]
              obtain ⟨x14, yx14, h0⟩ := bind_some h0
              refine AKev_call0 T_ok 1000 (R01_Part_ok k _ _ _ _ yx14) ?_ (by first | rfl | simp [AV.refsL, AV.refs, AV.scal, AV.leaf]) ?_
              · try simp only [c2, at_in yx3, at_get (eL 2 Range.c) yx3, c5, c6, c9, c12, c13, go_sem]
              try simp only [c2, at_in yx3, at_get (eL 2 Range.c) yx3, c5, c6, c9, c12, c13, go_sem]
              obtain rfl := Option.some.inj h0
              refine AKev_ret rfl ?_
              try simp only [F90.rs, c2, at_in yx3, at_get (eL 2 Range.c) yx3, c5, c6, c9, c12, c13, go_sem]
            · try simp only [c13, c2, at_in yx3, at_get (eL 2 Range.c) yx3, c5, c6, c9, c12, go_sem]
              obtain rfl := Option.some.inj h0
              refine AKev_ret rfl ?_
              try simp only [F90.rs, c2, at_in yx3, at_get (eL 2 Range.c) yx3, c5, c6, c9, c12, c13, go_sem]
          · try simp only [c12, c2, at_in yx3, at_get (eL 2 Range.c) yx3, c5, c6, c9, go_sem]
            obtain rfl := Option.some.inj h0
            refine AKev_ret rfl ?_
            try simp only [F90.rs, c2, at_in yx3, at_get (eL 2 Range.c) yx3, c5, c6, c9, c12, go_sem]
  · try simp only [c2, go_sem]
    refine DG_done ⟨rfl, run_sound T_ok 1000 _ _ ?_⟩
    try simp only [c2, go_sem]
    obtain rfl := Option.some.inj h0
    refine AKev_ret rfl ?_
    try simp only [F90.rs, c2, go_sem]
end Go.Abs
namespace Go.Abs
open Go.Proofs
set_option maxRecDepth 20000
set_option linter.unusedVariables false
set_option linter.unusedSimpArgs false
set_option maxHeartbeats 8000000
def F43.s0 : SC :=
 (.seq
  (.seq
   (.reg [⟨some 12, .move (.tmp 3), 3, none, []⟩,
     ⟨some 13, .fieldAddr 27 (.tmp 1) 1, 0, none, []⟩,
     ⟨some 14, .load 25 (.tmp 13), 25, none, [13]⟩,
     ⟨some 15, .call ⟨.builtin .len, #[.tmp 14], #[25]⟩, 3, none, [14]⟩,
     ⟨some 16, .binOp .lss 3 (.tmp 12) (.tmp 15) 3, 4, none, [12, 15]⟩])
   (.cond (.tmp 16)
    .skip
    (.exit 0)))
  (.seq
   (.block 1
    (.seq
     (.dreg [⟨some 19, .fieldAddr 27 (.tmp 1) 0, 0, none, []⟩,
       ⟨some 20, .load 24 (.tmp 19), 24, none, []⟩,
       ⟨some 21, .fieldAddr 27 (.tmp 1) 1, 0, none, []⟩,
       ⟨some 22, .load 25 (.tmp 21), 25, none, []⟩,
       ⟨some 23, .move (.tmp 3), 3, none, []⟩,
       ⟨some 24, .indexAddr 25 (.tmp 22) (.tmp 23), 0, none, []⟩,
       ⟨some 25, .load 64 (.tmp 24), 64, none, []⟩,
       ⟨some 26, .call ⟨.value (.func 90), #[.tmp 20, .tmp 25], #[24, 64]⟩, 4, none, []⟩,
       ⟨some 27, .unOp .not 4 (.tmp 26), 4, none, []⟩] [[], [0], [], [2], [], [2, 3, 4], [2, 3, 4, 5], [0, 1, 2, 3, 4, 5, 6], [0, 1, 2, 3, 4, 5, 6, 7]] [19, 20, 21, 22, 23, 24, 25, 26])
     (.cond (.tmp 27)
      (.seq
       (.reg [⟨some 2, .assign (.const (.int .i64 41)), 33, none, []⟩])
       .ret)
      .skip)))
   (.reg [⟨some 17, .move (.tmp 3), 3, none, [3]⟩,
     ⟨some 18, .binOp .add 3 (.tmp 17) (.const (.int .i64 1)) 3, 3, none, [17]⟩,
     ⟨some 3, .assign (.tmp 18), 3, none, [18]⟩])))
def F43.c : SC :=
 (.seq
  (.reg [⟨some 1, .box 27 (.tmp 0), 0, none, [0]⟩,
    ⟨some 2, .assign (.const (.int .i64 0)), 33, none, [2]⟩])
  (.seq
   (.seq
    (.reg [⟨some 4, .fieldAddr 27 (.tmp 1) 0, 0, none, []⟩,
      ⟨some 5, .load 24 (.tmp 4), 24, none, [4]⟩,
      ⟨some 6, .call ⟨.value (.func 37), #[.tmp 5], #[24]⟩, 33, none, [5]⟩,
      ⟨some 7, .binOp .neq 33 (.tmp 6) (.const (.int .i64 0)) 33, 4, none, [6]⟩])
    (.cond (.tmp 7)
     (.seq
      (.reg [⟨some 2, .assign (.const (.int .i64 40)), 33, none, []⟩])
      .ret)
     .skip))
   (.seq
    (.seq
     (.reg [⟨some 8, .fieldAddr 27 (.tmp 1) 1, 0, none, []⟩,
       ⟨some 9, .load 25 (.tmp 8), 25, none, [8]⟩,
       ⟨some 10, .call ⟨.builtin .len, #[.tmp 9], #[25]⟩, 3, none, [9]⟩,
       ⟨some 11, .binOp .gtr 3 (.tmp 10) (.const (.int .i64 60)) 3, 4, none, [10]⟩])
     (.cond (.tmp 11)
      (.seq
       (.reg [⟨some 2, .assign (.const (.int .i64 2)), 33, none, []⟩])
       .ret)
      .skip))
    (.seq
     (.seq
      (.reg [⟨some 3, .assign (.const (.int .i64 0)), 3, none, []⟩])
      (.block 0
       (.loop F43.s0)))
     (.seq
      (.reg [⟨some 2, .assign (.const (.int .i64 0)), 33, none, []⟩])
      .ret)))))
theorem F43.rs : Tryz.f43.results.toList = [.tmp 2] := rfl
def R04_Check.b0 (k : Nat) (f0 : Firing) : Int → Option (Stp (Int) (Unit) (Int)) := fun (i4 : Int) => 
  bif decide (i4 < (f0.Readings.length : Int)) then
    (at? f0.Readings i4).bind fun x6 =>
    (R04_isReading k f0.Kiln x6).bind fun x7 =>
    bif (!x7) then
      some (.ret 41)
    else
      some (.next (w64 (i4 + 1)))
  else
    some (.brk ())
noncomputable def R04_Check.h0 (f0 : Firing) : Int → St := fun (i4 : Int) => ⟨[(1, .ptr 0 0 0), (3, .int .i64 i4)], [(0, .box [.sl 1 (List.map (eL 2 Range.c) f0.Kiln.Falls), .sl 6 (List.map Reading.c f0.Readings)])], [], 1, Tryz.f43.ntmps⟩
noncomputable def R04_Check.x0 : Unit → St := fun (_ : Unit) => ⟨[], [], [], 1, Tryz.f43.ntmps⟩
def R04_Check (k : Nat) (f0 : Firing) : Option (Int) :=
  (R04_CheckKiln k f0.Kiln).bind fun x1 =>
  bif (!decide (x1 = (0 : Int))) then
    some 40
  else
    bif decide ((60 : Int) < (f0.Readings.length : Int)) then
      some 2
    else
      (whl (R04_Check.b0 k f0) k 0).bind fun r9 => match r9 with
      | .next _ => none
      | .ret v_ => some v_
      | .brk _ =>
        some 0
theorem R04_Check_ok (k : Nat) (f0 : Firing) (r : Int) (h0 : R04_Check k f0 = some r) : PCall Tryz.prog 43 [.agg (Firing.c f0)] (fun y => y = .int .i64 r) := by
  refine PCall.nlr (PCall.of_body T_ok (fn := Tryz.f43) (sc := F43.c) (by rfl) (by rfl) (by decide +kernel) (by rfl) (by decide +kernel) (Nat.le_of_ble_eq_true rfl) ?_)
  refine run_sound T_ok 1000 _ _ ?_
  simp only [R04_Check] at h0
  try simp only [F43.c, go_sem]
  obtain ⟨x1, yx1, h0⟩ := bind_some h0
  refine AKev_call0 T_ok 1000 (R04_CheckKiln_ok k _ _ yx1) ?_ (by first | rfl | simp [AV.refsL, AV.refs, AV.scal, AV.leaf]) ?_
  · try simp only [go_sem]
  try simp only [go_sem]
  refine AKev_bif h0 (fun c2 h0 => ?_) (fun c2 h0 => ?_)
  · have c2 := bnot_t c2
    try simp only [c2, go_sem]
    obtain rfl := Option.some.inj h0
    refine AKev_ret rfl ?_
    try simp only [F43.rs, c2, go_sem]
  · have c2 := bnot_f c2
    try simp only [c2, go_sem]
    refine AKev_bif h0 (fun c3 h0 => ?_) (fun c3 h0 => ?_)
    · try simp only [c3, c2, go_sem]
      obtain rfl := Option.some.inj h0
      refine AKev_ret rfl ?_
      try simp only [F43.rs, c2, c3, go_sem]
    · try simp only [c3, c2, go_sem]
      obtain ⟨r9, yr9, h0⟩ := bind_some h0
      refine AKev_loopS yr9 (R04_Check.h0 f0) (R04_Check.x0) ?_ ?_ ?_
      · refine Weak.go [1, 3] [0] rfl ?_
        try simp only [R04_Check.h0, c2, c3, go_sem]
      · rintro i4 x_1 Bk1 Br1 h1 hnext1 hbrk1 hret1
        refine run_sound T_ok 1000 _ _ ?_
        simp only [R04_Check.b0] at h1
        try simp only [F43.s0, R04_Check.h0, c2, c3, go_sem]
        refine AKev_bif h1 (fun c5 h1 => ?_) (fun c5 h1 => ?_)
        · try simp only [c5, c2, c3, go_sem]
          refine AKev_region T_ok follows_ok 1000 ?_
          try simp only [c2, c3, c5, go_sem]
          obtain ⟨x6, yx6, h1⟩ := bind_some h1
          try simp only [at_in yx6, at_get Reading.c yx6, c2, c3, c5, go_sem]
          obtain ⟨x7, yx7, h1⟩ := bind_some h1
          refine DG_call0 1000 (R04_isReading_ok k _ _ _ yx7) ?_ (by first | rfl | simp [AV.refsL, AV.refs, AV.scal, AV.leaf]) ?_
          · try simp only [c2, c3, c5, at_in yx6, at_get Reading.c yx6, go_sem]
          try simp only [c2, c3, c5, at_in yx6, at_get Reading.c yx6, go_sem]
          refine DG_done ⟨rfl, run_sound T_ok 1000 _ _ ?_⟩
          try simp only [c2, c3, c5, at_in yx6, at_get Reading.c yx6, go_sem]
          refine AKev_bif h1 (fun c8 h1 => ?_) (fun c8 h1 => ?_)
          · have c8 := bnot_t c8
            try simp only [c8, c2, c3, c5, at_in yx6, at_get Reading.c yx6, go_sem]
            obtain rfl := hret1 _ (Option.some.inj h1).symm
            simp only at h0
            obtain rfl := Option.some.inj h0
            refine AKev_ret rfl ?_
            try simp only [F43.rs, c2, c3, c5, at_in yx6, at_get Reading.c yx6, c8, go_sem]
          · have c8 := bnot_f c8
            try simp only [c8, c2, c3, c5, at_in yx6, at_get Reading.c yx6, go_sem]
            refine AKev_backB (hnext1 _ _ (Option.some.inj h1).symm ?_)
            refine Weak.go [1, 3] [0] rfl ?_
            try simp only [R04_Check.h0, c2, c3, c5, at_in yx6, at_get Reading.c yx6, c8, go_sem]
        · try simp only [c5, c2, c3, go_sem]
          refine AKev_backB (hbrk1 _ _ (Option.some.inj h1).symm ?_)
          refine Weak.go [] [] rfl ?_
          try simp only [R04_Check.x0, c2, c3, c5, go_sem]
      · rintro _ hr_
        subst hr_
        simp only at h0
        refine run_sound T_ok 1000 _ _ ?_
        try simp only [R04_Check.x0, c2, c3, go_sem]
        obtain rfl := Option.some.inj h0
        refine AKev_ret rfl ?_
        try simp only [F43.rs, c2, c3, go_sem]
end Go.Abs
