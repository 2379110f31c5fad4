/-
  Part 4 of the proof: a machine over named blocks, what each function computes, and what follows. No condition.
-/
import Derived.Test.YtafmgcbfmifaeaaGreatProg
import Derived.Ground.Names2Prog
import Derived.Shelf.Lays
import Derived.Test.YtafmgcbfmifaeaaGreatTC
set_option linter.unusedVariables false
set_option linter.unusedSimpArgs false
set_option linter.all false
namespace Go.Abs
open Go.Proofs
set_option maxRecDepth 20000
section
open Go.Shelf
def Tryz_lays189_ren : Ren :=
  {
    f := fun x =>
      match x with
      | 189 => 116
      | 125 => 136
      | 257 => 135
      | 128 => 151
      | 129 => 152
      | 294 => 142
      | 295 => 143
      | 296 => 144
      | 297 => 145
      | 298 => 146
      | 299 => 147
      | 216 => 148
      | 300 => 149
      | 301 => 150
      | 328 => 153
      | 329 => 154
      | 330 => 155
      | 331 => 156
      | 332 => 157
      | 215 => 158
      | 343 => 159
      | n => n,
    t := fun x =>
      match x with
      | 28 => 37
      | 3 => 3
      | 46 => 162
      | 0 => 0
      | 51 => 174
      | 53 => 176
      | 4 => 4
      | 183 => 168
      | 182 => 167
      | 131 => 126
      | 5 => 5
      | 9 => 9
      | 218 => 177
      | 222 => 181
      | 228 => 183
      | 229 => 132
      | n => n,
    g := fun x => x }
theorem Tryz_lays189 : Lays.n189 Tryz.prog Tryz_lays189_ren :=
  { mixed := Eq.refl true, f125 := Eq.trans Tryz.func136 (congrArg some (Eq.refl (Body.n125 Tryz_lays189_ren))),
    f128 := Eq.trans Tryz.func151 (congrArg some (Eq.refl (Body.n128 Tryz_lays189_ren))),
    f129 := Eq.trans Tryz.func152 (congrArg some (Eq.refl (Body.n129 Tryz_lays189_ren))),
    f189 := Eq.trans Tryz.func116 (congrArg some (Eq.refl (Body.n189 Tryz_lays189_ren))),
    f215 := Eq.trans Tryz.func158 (congrArg some (Eq.refl (Body.n215 Tryz_lays189_ren))),
    f216 := Eq.trans Tryz.func148 (congrArg some (Eq.refl (Body.n216 Tryz_lays189_ren))),
    f257 := Eq.trans Tryz.func135 (congrArg some (Eq.refl (Body.n257 Tryz_lays189_ren))),
    f294 := Eq.trans Tryz.func142 (congrArg some (Eq.refl (Body.n294 Tryz_lays189_ren))),
    f295 := Eq.trans Tryz.func143 (congrArg some (Eq.refl (Body.n295 Tryz_lays189_ren))),
    f296 := Eq.trans Tryz.func144 (congrArg some (Eq.refl (Body.n296 Tryz_lays189_ren))),
    f297 := Eq.trans Tryz.func145 (congrArg some (Eq.refl (Body.n297 Tryz_lays189_ren))),
    f298 := Eq.trans Tryz.func146 (congrArg some (Eq.refl (Body.n298 Tryz_lays189_ren))),
    f299 := Eq.trans Tryz.func147 (congrArg some (Eq.refl (Body.n299 Tryz_lays189_ren))),
    f300 := Eq.trans Tryz.func149 (congrArg some (Eq.refl (Body.n300 Tryz_lays189_ren))),
    f301 := Eq.trans Tryz.func150 (congrArg some (Eq.refl (Body.n301 Tryz_lays189_ren))),
    f328 := Eq.trans Tryz.func153 (congrArg some (Eq.refl (Body.n328 Tryz_lays189_ren))),
    f329 := Eq.trans Tryz.func154 (congrArg some (Eq.refl (Body.n329 Tryz_lays189_ren))),
    f330 := Eq.trans Tryz.func155 (congrArg some (Eq.refl (Body.n330 Tryz_lays189_ren))),
    f331 := Eq.trans Tryz.func156 (congrArg some (Eq.refl (Body.n331 Tryz_lays189_ren))),
    f332 := Eq.trans Tryz.func157 (congrArg some (Eq.refl (Body.n332 Tryz_lays189_ren))),
    f343 := Eq.trans Tryz.func159 (congrArg some (Eq.refl (Body.n343 Tryz_lays189_ren))), t0 := Tryz.underlying0,
    a0 := Tryz.isAgg0, z0 := Tryz.sizeOf0, v0 := Tryz.zeroValue0, t3 := Tryz.underlying3, a3 := Tryz.isAgg3,
    z3 := Tryz.sizeOf3, v3 := Tryz.zeroValue3, t4 := Tryz.underlying4, a4 := Tryz.isAgg4, z4 := Tryz.sizeOf4,
    v4 := Tryz.zeroValue4, t5 := Tryz.underlying5, a5 := Tryz.isAgg5, z5 := Tryz.sizeOf5, v5 := Tryz.zeroValue5,
    t9 := Tryz.underlying9, a9 := Tryz.isAgg9, z9 := Tryz.sizeOf9, v9 := Tryz.zeroValue9, t28 := Tryz.underlying37,
    a28 := Tryz.isAgg37, z28 := Tryz.sizeOf37, v28 := Tryz.zeroValue37, t46 := Tryz.underlying162, a46 := Tryz.isAgg162,
    z46 := Tryz.sizeOf162, v46 := Tryz.zeroValue162, t51 := Tryz.underlying174, a51 := Tryz.isAgg174,
    z51 := Tryz.sizeOf174, v51 := Tryz.zeroValue174, t53 := Tryz.underlying176, a53 := Tryz.isAgg176,
    z53 := Tryz.sizeOf176, v53 := Tryz.zeroValue176, t131 := Tryz.underlying126, a131 := Tryz.isAgg126,
    z131 := Tryz.sizeOf126, v131 := Tryz.zeroValue126, t182 := Tryz.underlying167, a182 := Tryz.isAgg167,
    z182 := Tryz.sizeOf167, v182 := Tryz.zeroValue167, t183 := Tryz.underlying168, a183 := Tryz.isAgg168,
    z183 := Tryz.sizeOf168, v183 := Tryz.zeroValue168, t218 := Tryz.underlying177, a218 := Tryz.isAgg177,
    z218 := Tryz.sizeOf177, v218 := Tryz.zeroValue177, t222 := Tryz.underlying181, a222 := Tryz.isAgg181,
    z222 := Tryz.sizeOf181, v222 := Tryz.zeroValue181, t228 := Tryz.underlying183, a228 := Tryz.isAgg183,
    z228 := Tryz.sizeOf183, v228 := Tryz.zeroValue183, t229 := Tryz.underlying132, a229 := Tryz.isAgg132,
    z229 := Tryz.sizeOf132, v229 := Tryz.zeroValue132 }
theorem sort_ok : SortC Tryz.prog 116 := SortC.of ⟨_, rfl, by decide +kernel, by rfl⟩ (Any.slices_Sort_int_none Tryz_lays189) (Any.slices_Sort_int Tryz_lays189)
end
def TL : List (Nat × TI) := [
  (3, ⟨1, 8, [.int .i64 0], .int .i64, 0, 0, false, [], [], true, []⟩),
  (4, ⟨1, 1, [.bool false], .bool, 0, 0, false, [], [], true, []⟩),
  (22, ⟨1, 24, [.nil], .slice 89, 1, 24, false, [.nil], [], false, [(0, 89, 1)]⟩),
  (24, ⟨1, 24, [.nil], .struct, 0, 0, false, [], [(0, 1, false)], false, [(0, 89, 1)]⟩),
  (25, ⟨1, 24, [.nil], .slice 64, 6, 48, true, [.int .i64 0, .int .i64 0, .int .i64 0, .int .i64 0, .int .i64 0, .int .i64 0], [], false, [(0, 64, 6)]⟩),
  (27, ⟨2, 48, [.nil, .nil], .struct, 0, 0, false, [], [(0, 1, true), (1, 1, false)], false, [(0, 89, 1), (1, 64, 6)]⟩),
  (28, ⟨1, 24, [.nil], .slice 32, 3, 24, true, [.int .i64 0, .int .i64 0, .int .i64 0], [], false, [(0, 32, 3)]⟩),
  (30, ⟨2, 16, [.int .i64 0, .int .i64 0], .struct, 0, 0, false, [], [(0, 1, false), (1, 1, false)], true, []⟩),
  (32, ⟨3, 24, [.int .i64 0, .int .i64 0, .int .i64 0], .struct, 0, 0, false, [], [(0, 1, false), (1, 2, true)], true, []⟩),
  (33, ⟨1, 8, [.int .i64 0], .int .i64, 0, 0, false, [], [], true, []⟩),
  (37, ⟨1, 24, [.nil], .slice 3, 1, 8, false, [.int .i64 0], [], false, [(0, 3, 1)]⟩),
  (38, ⟨1, 24, [.nil], .slice 37, 1, 24, false, [.nil], [], false, [(0, 37, 1)]⟩),
  (40, ⟨2, 48, [.nil, .nil], .struct, 0, 0, false, [], [(0, 1, false), (1, 1, false)], false, [(0, 3, 1), (1, 37, 1)]⟩),
  (57, ⟨2, 32, [.int .i64 0, .nil], .struct, 0, 0, false, [], [(0, 1, false), (1, 1, false)], false, [(1, 3, 1)]⟩),
  (64, ⟨6, 48, [.int .i64 0, .int .i64 0, .int .i64 0, .int .i64 0, .int .i64 0, .int .i64 0], .struct, 0, 0, false, [], [(0, 1, false), (1, 1, false), (2, 1, false), (3, 1, false), (4, 2, true)], true, []⟩),
  (79, ⟨1, 24, [.nil], .slice 135, 3, 24, true, [.int .i64 0, .int .i64 0, .int .i64 0], [], false, [(0, 135, 3)]⟩),
  (81, ⟨4, 96, [.nil, .nil, .nil, .nil], .struct, 0, 0, false, [], [(0, 2, true), (2, 1, false), (3, 1, false)], false, [(0, 89, 1), (1, 64, 6), (2, 135, 3), (3, 135, 3)]⟩),
  (89, ⟨1, 24, [.nil], .slice 30, 2, 16, true, [.int .i64 0, .int .i64 0], [], false, [(0, 30, 2)]⟩),
  (109, ⟨1, 8, [.fnil], .func, 0, 0, false, [], [], false, []⟩),
  (111, ⟨1, 8, [.fnil], .func, 0, 0, false, [], [], false, []⟩),
  (114, ⟨2, 16, [.int .i64 0, .int .i64 0], .array 2 3, 1, 8, false, [.int .i64 0], [], true, []⟩),
  (128, ⟨6, 48, [.int .i64 0, .int .i64 0, .int .i64 0, .int .i64 0, .int .i64 0, .int .i64 0], .struct, 0, 0, false, [], [(0, 6, true)], true, []⟩),
  (130, ⟨1, 8, [.fnil], .func, 0, 0, false, [], [], false, []⟩),
  (135, ⟨3, 24, [.int .i64 0, .int .i64 0, .int .i64 0], .struct, 0, 0, false, [], [(0, 1, false), (1, 1, false), (2, 1, false)], true, []⟩)]
def T : Tys := look TL
theorem T_ok : TysOK Tryz.prog T := tysOK_of _ _ (by decide +kernel)
theorem follows_ok : Tryz.prog.follows .mixedOrders = true := by rfl
theorem T_3 : T 3 = some ⟨1, 8, [.int .i64 0], .int .i64, 0, 0, false, [], [], true, []⟩ := rfl
theorem T_4 : T 4 = some ⟨1, 1, [.bool false], .bool, 0, 0, false, [], [], true, []⟩ := rfl
theorem T_22 : T 22 = some ⟨1, 24, [.nil], .slice 89, 1, 24, false, [.nil], [], false, [(0, 89, 1)]⟩ := rfl
theorem T_24 : T 24 = some ⟨1, 24, [.nil], .struct, 0, 0, false, [], [(0, 1, false)], false, [(0, 89, 1)]⟩ := rfl
theorem T_25 : T 25 = some ⟨1, 24, [.nil], .slice 64, 6, 48, true, [.int .i64 0, .int .i64 0, .int .i64 0, .int .i64 0, .int .i64 0, .int .i64 0], [], false, [(0, 64, 6)]⟩ := rfl
theorem T_27 : T 27 = some ⟨2, 48, [.nil, .nil], .struct, 0, 0, false, [], [(0, 1, true), (1, 1, false)], false, [(0, 89, 1), (1, 64, 6)]⟩ := rfl
theorem T_28 : T 28 = some ⟨1, 24, [.nil], .slice 32, 3, 24, true, [.int .i64 0, .int .i64 0, .int .i64 0], [], false, [(0, 32, 3)]⟩ := rfl
theorem T_30 : T 30 = some ⟨2, 16, [.int .i64 0, .int .i64 0], .struct, 0, 0, false, [], [(0, 1, false), (1, 1, false)], true, []⟩ := rfl
theorem T_32 : T 32 = some ⟨3, 24, [.int .i64 0, .int .i64 0, .int .i64 0], .struct, 0, 0, false, [], [(0, 1, false), (1, 2, true)], true, []⟩ := rfl
theorem T_33 : T 33 = some ⟨1, 8, [.int .i64 0], .int .i64, 0, 0, false, [], [], true, []⟩ := rfl
theorem T_37 : T 37 = some ⟨1, 24, [.nil], .slice 3, 1, 8, false, [.int .i64 0], [], false, [(0, 3, 1)]⟩ := rfl
theorem T_38 : T 38 = some ⟨1, 24, [.nil], .slice 37, 1, 24, false, [.nil], [], false, [(0, 37, 1)]⟩ := rfl
theorem T_40 : T 40 = some ⟨2, 48, [.nil, .nil], .struct, 0, 0, false, [], [(0, 1, false), (1, 1, false)], false, [(0, 3, 1), (1, 37, 1)]⟩ := rfl
theorem T_57 : T 57 = some ⟨2, 32, [.int .i64 0, .nil], .struct, 0, 0, false, [], [(0, 1, false), (1, 1, false)], false, [(1, 3, 1)]⟩ := rfl
theorem T_64 : T 64 = some ⟨6, 48, [.int .i64 0, .int .i64 0, .int .i64 0, .int .i64 0, .int .i64 0, .int .i64 0], .struct, 0, 0, false, [], [(0, 1, false), (1, 1, false), (2, 1, false), (3, 1, false), (4, 2, true)], true, []⟩ := rfl
theorem T_79 : T 79 = some ⟨1, 24, [.nil], .slice 135, 3, 24, true, [.int .i64 0, .int .i64 0, .int .i64 0], [], false, [(0, 135, 3)]⟩ := rfl
theorem T_81 : T 81 = some ⟨4, 96, [.nil, .nil, .nil, .nil], .struct, 0, 0, false, [], [(0, 2, true), (2, 1, false), (3, 1, false)], false, [(0, 89, 1), (1, 64, 6), (2, 135, 3), (3, 135, 3)]⟩ := rfl
theorem T_89 : T 89 = some ⟨1, 24, [.nil], .slice 30, 2, 16, true, [.int .i64 0, .int .i64 0], [], false, [(0, 30, 2)]⟩ := rfl
theorem T_109 : T 109 = some ⟨1, 8, [.fnil], .func, 0, 0, false, [], [], false, []⟩ := rfl
theorem T_111 : T 111 = some ⟨1, 8, [.fnil], .func, 0, 0, false, [], [], false, []⟩ := rfl
theorem T_114 : T 114 = some ⟨2, 16, [.int .i64 0, .int .i64 0], .array 2 3, 1, 8, false, [.int .i64 0], [], true, []⟩ := rfl
theorem T_128 : T 128 = some ⟨6, 48, [.int .i64 0, .int .i64 0, .int .i64 0, .int .i64 0, .int .i64 0, .int .i64 0], .struct, 0, 0, false, [], [(0, 6, true)], true, []⟩ := rfl
theorem T_130 : T 130 = some ⟨1, 8, [.fnil], .func, 0, 0, false, [], [], false, []⟩ := rfl
theorem T_135 : T 135 = some ⟨3, 24, [.int .i64 0, .int .i64 0, .int .i64 0], .struct, 0, 0, false, [], [(0, 1, false), (1, 1, false), (2, 1, false)], true, []⟩ := rfl
attribute [go_sem] T_3 T_4 T_22 T_24 T_25 T_27 T_28 T_30 T_32 T_33 T_37 T_38 T_40 T_57 T_64 T_79 T_81 T_89 T_109 T_111 T_114 T_128 T_130 T_135
structure Range where
  Lo : Int
  Hi : Int
def Range.c (x : Range) : List AV := [.int .i64 x.Lo, .int .i64 x.Hi]
structure Kiln where
  Falls : (List (List Range))
def Kiln.c (x : Kiln) : List AV := [.sl 1 (List.map (eL 2 Range.c) x.Falls)]
structure Reading where
  Source : Int
  Place : Int
  Kind : Int
  Mark : Int
  Heat : Range
def Reading.c (x : Reading) : List AV := [.int .i64 x.Source, .int .i64 x.Place, .int .i64 x.Kind, .int .i64 x.Mark, .int .i64 x.Heat.Lo, .int .i64 x.Heat.Hi]
structure Firing where
  Kiln : Kiln
  Readings : (List Reading)
def Firing.c (x : Firing) : List AV := [.sl 1 (List.map (eL 2 Range.c) x.Kiln.Falls), .sl 6 (List.map Reading.c x.Readings)]
structure Want where
  Place : Int
  Heat : Range
def Want.c (x : Want) : List AV := [.int .i64 x.Place, .int .i64 x.Heat.Lo, .int .i64 x.Heat.Hi]
structure Field where
  Mouths : (List Int)
  Falls : (List (List Int))
def Field.c (x : Field) : List AV := [.sl 1 (List.map eI x.Mouths), .sl 1 (List.map (eL 1 eI) x.Falls)]
structure heat_limit where
  place : Int
  heat : Int
  by_ : Int
def heat_limit.c (x : heat_limit) : List AV := [.int .i64 x.place, .int .i64 x.heat, .int .i64 x.by_]
structure heat_furnace where
  Firing : Firing
  least : (List heat_limit)
  most : (List heat_limit)
def heat_furnace.c (x : heat_furnace) : List AV := [.sl 1 (List.map (eL 2 Range.c) x.Firing.Kiln.Falls), .sl 6 (List.map Reading.c x.Firing.Readings), .sl 3 (List.map heat_limit.c x.least), .sl 3 (List.map heat_limit.c x.most)]
structure heat_reading where
  Reading : Reading
def heat_reading.c (x : heat_reading) : List AV := [.int .i64 x.Reading.Source, .int .i64 x.Reading.Place, .int .i64 x.Reading.Kind, .int .i64 x.Reading.Mark, .int .i64 x.Reading.Heat.Lo, .int .i64 x.Reading.Heat.Hi]
structure HeatProof where
  Reading : Int
  By : (List Int)
def HeatProof.c (x : HeatProof) : List AV := [.int .i64 x.Reading, .sl 1 (List.map eI x.By)]
attribute [go_sem] Range.c Kiln.c Reading.c Firing.c Want.c Field.c heat_limit.c heat_furnace.c heat_reading.c HeatProof.c
theorem bnot_t {b : Bool} (h : (!b) = true) : b = false := by simpa using h
theorem bnot_f {b : Bool} (h : (!b) = false) : b = true := by simpa using h
end Go.Abs
namespace Go.Abs
open Go.Proofs
set_option maxRecDepth 20000
set_option linter.unusedVariables false
set_option linter.unusedSimpArgs false
set_option maxHeartbeats 8000000
def F58.c : SC :=
 (.seq
  (.reg [⟨some 6, .assign (.const (.bool false)), 4, none, [6]⟩])
  (.seq
   (.reg [⟨some 7, .move (.tmp 0), 3, none, []⟩,
     ⟨some 8, .move (.tmp 1), 3, none, [1]⟩,
     ⟨some 9, .binOp .geq 3 (.tmp 7) (.tmp 8) 3, 4, none, [7, 8]⟩,
     ⟨some 10, .move (.tmp 9), 4, none, [9]⟩,
     ⟨some 11, .move (.tmp 0), 3, some (10, true), [0]⟩,
     ⟨some 12, .move (.tmp 2), 3, some (10, true), [2]⟩,
     ⟨some 13, .binOp .leq 3 (.tmp 11) (.tmp 12) 3, 4, some (10, true), [11, 12]⟩,
     ⟨some 14, .pick (.tmp 10) (.tmp 13) (.const (.bool false)), 4, none, [10, 13]⟩,
     ⟨some 6, .assign (.tmp 14), 4, none, [14]⟩])
   .ret))
theorem F58.rs : Tryz.f58.results.toList = [.tmp 6] := rfl
def heat_in (k : Nat) (n0 : Int) (low1 : Int) (high2 : Int) : Option (Bool) :=
  bif decide (low1 ≤ n0) then
    some (decide (n0 ≤ high2))
  else
    some false
theorem heat_in_ok (k : Nat) (n0 : Int) (low1 : Int) (high2 : Int) (r : Bool) (h0 : heat_in k n0 low1 high2 = some r) : PCall Tryz.prog 58 [.int .i64 n0, .int .i64 low1, .int .i64 high2] (fun y => y = .bool r) := by
  refine PCall.nlr (PCall.of_body T_ok (fn := Tryz.f58) (sc := F58.c) (by rfl) (by rfl) (by decide +kernel) (by rfl) (by decide +kernel) (Nat.le_of_ble_eq_true rfl) ?_)
  refine run_sound T_ok 1000 _ _ ?_
  simp only [heat_in] at h0
  try simp only [F58.c, go_sem]
  refine AKev_bif h0 (fun c1 h0 => ?_) (fun c1 h0 => ?_)
  · try simp only [c1, go_sem]
    obtain rfl := Option.some.inj h0
    refine AKev_ret rfl ?_
    try simp only [F58.rs, c1, go_sem]
  · try simp only [c1, go_sem]
    obtain rfl := Option.some.inj h0
    refine AKev_ret rfl ?_
    try simp only [F58.rs, c1, go_sem]
end Go.Abs
namespace Go.Abs
open Go.Proofs
set_option maxRecDepth 20000
set_option linter.unusedVariables false
set_option linter.unusedSimpArgs false
set_option maxHeartbeats 8000000
def F130.s0 : SC :=
 (.seq
  (.reg [⟨some 9, .binOp .lss 3 (.tmp 8) (.tmp 7) 3, 0, none, []⟩])
  (.seq
   (.cond (.tmp 9)
    .skip
    (.exit 0))
   (.seq
    (.block 1
     (.seq
      (.reg [⟨some 10, .move (.tmp 8), 3, none, []⟩,
        ⟨some 5, .assign (.tmp 10), 3, none, [10]⟩])
      (.seq
       (.reg [⟨some 11, .move (.tmp 1), 121, none, []⟩,
         ⟨some 12, .move (.tmp 0), 89, none, []⟩,
         ⟨some 13, .move (.tmp 5), 3, none, []⟩,
         ⟨some 14, .indexAddr 89 (.tmp 12) (.tmp 13), 0, none, [12, 13]⟩,
         ⟨some 15, .load 30 (.tmp 14), 30, none, [14]⟩,
         ⟨some 16, .call ⟨.value (.tmp 11), #[.tmp 15], #[30]⟩, 4, none, [11, 15]⟩])
       (.cond (.tmp 16)
        (.seq
         (.reg [⟨some 17, .move (.tmp 5), 3, none, [5]⟩,
           ⟨some 4, .assign (.tmp 17), 3, none, [17]⟩])
         .ret)
        .skip))))
    (.reg [⟨some 18, .binOp .add 3 (.tmp 8) (.const (.int .i64 1)) 3, 3, none, [8]⟩,
      ⟨some 8, .move (.tmp 18), 3, none, [18]⟩]))))
def F130.c : SC :=
 (.seq
  (.reg [⟨some 4, .assign (.const (.int .i64 0)), 3, none, [4]⟩])
  (.seq
   (.seq
    (.reg [⟨some 6, .move (.tmp 0), 89, none, []⟩,
      ⟨some 7, .call ⟨.builtin .len, #[.tmp 6], #[89]⟩, 3, none, [6]⟩,
      ⟨some 8, .move (.const (.int .i64 0)), 3, none, []⟩])
    (.block 0
     (.loop F130.s0)))
   (.seq
    (.reg [⟨some 4, .assign (.const (.int .i64 (-1))), 3, none, []⟩])
    .ret)))
theorem F130.rs : Tryz.f130.results.toList = [.tmp 4] := rfl
def slices_IndexFunc_api_Range.b0 (k : Nat) (f1 : Range → Option (Bool)) (s0 : (List Range)) : Int → Option (Stp (Int) (Unit) (Int)) := fun (i1 : Int) => 
  bif decide (i1 < (s0.length : Int)) then
    (at? s0 i1).bind fun x3 =>
    (f1 x3).bind fun x4 =>
    bif x4 then
      some (.ret i1)
    else
      some (.next (w64 (i1 + 1)))
  else
    some (.brk ())
noncomputable def slices_IndexFunc_api_Range.h0 (f1_f : Nat) (f1_c : List AV) (s0 : (List Range)) : Int → St := fun (i1 : Int) => ⟨[(0, .sl 2 (List.map Range.c s0)), (1, .fn (.func f1_f) [] f1_c), (7, .int .i64 (s0.length : Int)), (8, .int .i64 i1)], [], [], 1, Tryz.f130.ntmps⟩
noncomputable def slices_IndexFunc_api_Range.x0 : Unit → St := fun (_ : Unit) => ⟨[], [], [], 1, Tryz.f130.ntmps⟩
def slices_IndexFunc_api_Range (k : Nat) (s0 : (List Range)) (f1 : Range → Option (Bool)) : Option (Int) :=
  (whl (slices_IndexFunc_api_Range.b0 k f1 s0) k 0).bind fun r6 => match r6 with
  | .next _ => none
  | .ret v_ => some v_
  | .brk _ =>
    some (-1)
theorem slices_IndexFunc_api_Range_ok (k : Nat) (s0 : (List Range)) (f1_f : Nat) (f1_c : List AV) (f1_i : Ice f1_c) (f1 : Range → Option (Bool)) (f1_h : ∀ q0 qr, f1 q0 = some qr → PCall Tryz.prog f1_f (.agg (Range.c q0) :: f1_c) (fun y => y = .bool qr)) (r : Int) (h0 : slices_IndexFunc_api_Range k s0 f1 = some r) : PCall Tryz.prog 130 [.sl 2 (List.map Range.c s0), .fn (.func f1_f) [] f1_c] (fun y => y = .int .i64 r) := by
  refine PCall.nlr (PCall.of_body T_ok (fn := Tryz.f130) (sc := F130.c) (by rfl) (by rfl) (by decide +kernel) (by rfl) (by decide +kernel) (Nat.le_of_ble_eq_true rfl) ?_)
  refine run_sound T_ok 1000 _ _ ?_
  simp only [slices_IndexFunc_api_Range] at h0
  try simp only [F130.c, f1_i.sh, f1_i.frz, f1_i.br, f1_i.refs, f1_i.imp, f1_i.ren, f1_i.un, go_sem]
  obtain ⟨r6, yr6, h0⟩ := bind_some h0
  refine AKev_loopS yr6 (slices_IndexFunc_api_Range.h0 f1_f f1_c s0) (slices_IndexFunc_api_Range.x0) ?_ ?_ ?_
  · refine Weak.go [0, 1, 7, 8] [] rfl ?_
    try simp only [slices_IndexFunc_api_Range.h0, f1_i.sh, f1_i.frz, f1_i.br, f1_i.refs, f1_i.imp, f1_i.ren, f1_i.un, go_sem]
  · rintro i1 x_1 Bk1 Br1 h1 hnext1 hbrk1 hret1
    refine run_sound T_ok 1000 _ _ ?_
    simp only [slices_IndexFunc_api_Range.b0] at h1
    try simp only [F130.s0, slices_IndexFunc_api_Range.h0, f1_i.sh, f1_i.frz, f1_i.br, f1_i.refs, f1_i.imp, f1_i.ren, f1_i.un, go_sem]
    refine AKev_bif h1 (fun c2 h1 => ?_) (fun c2 h1 => ?_)
    · try simp only [c2, f1_i.sh, f1_i.frz, f1_i.br, f1_i.refs, f1_i.imp, f1_i.ren, f1_i.un, go_sem]
      obtain ⟨x3, yx3, h1⟩ := bind_some h1
      try simp only [at_in yx3, at_get Range.c yx3, f1_i.sh, f1_i.frz, f1_i.br, f1_i.refs, f1_i.imp, f1_i.ren, f1_i.un, c2, go_sem]
      obtain ⟨x4, yx4, h1⟩ := bind_some h1
      refine AKev_call0 T_ok 1000 (f1_h _ _ yx4) ?_ (by first | rfl | simp [AV.refsL, AV.refs, AV.scal, AV.leaf, f1_i.refs]) ?_
      · try simp only [f1_i.sh, f1_i.frz, f1_i.br, f1_i.refs, f1_i.imp, f1_i.ren, f1_i.un, c2, at_in yx3, at_get Range.c yx3, go_sem]
      try simp only [f1_i.sh, f1_i.frz, f1_i.br, f1_i.refs, f1_i.imp, f1_i.ren, f1_i.un, c2, at_in yx3, at_get Range.c yx3, go_sem]
      refine AKev_bif h1 (fun c5 h1 => ?_) (fun c5 h1 => ?_)
      · try simp only [c5, f1_i.sh, f1_i.frz, f1_i.br, f1_i.refs, f1_i.imp, f1_i.ren, f1_i.un, c2, at_in yx3, at_get Range.c yx3, go_sem]
        obtain rfl := hret1 _ (Option.some.inj h1).symm
        simp only at h0
        obtain rfl := Option.some.inj h0
        refine AKev_ret rfl ?_
        try simp only [F130.rs, f1_i.sh, f1_i.frz, f1_i.br, f1_i.refs, f1_i.imp, f1_i.ren, f1_i.un, c2, at_in yx3, at_get Range.c yx3, c5, go_sem]
      · try simp only [c5, f1_i.sh, f1_i.frz, f1_i.br, f1_i.refs, f1_i.imp, f1_i.ren, f1_i.un, c2, at_in yx3, at_get Range.c yx3, go_sem]
        refine AKev_backB (hnext1 _ _ (Option.some.inj h1).symm ?_)
        refine Weak.go [0, 1, 7, 8] [] rfl ?_
        try simp only [slices_IndexFunc_api_Range.h0, f1_i.sh, f1_i.frz, f1_i.br, f1_i.refs, f1_i.imp, f1_i.ren, f1_i.un, c2, at_in yx3, at_get Range.c yx3, c5, go_sem]
    · try simp only [c2, f1_i.sh, f1_i.frz, f1_i.br, f1_i.refs, f1_i.imp, f1_i.ren, f1_i.un, go_sem]
      refine AKev_backB (hbrk1 _ _ (Option.some.inj h1).symm ?_)
      refine Weak.go [] [] rfl ?_
      try simp only [slices_IndexFunc_api_Range.x0, f1_i.sh, f1_i.frz, f1_i.br, f1_i.refs, f1_i.imp, f1_i.ren, f1_i.un, c2, go_sem]
  · rintro _ hr_
    subst hr_
    simp only at h0
    refine run_sound T_ok 1000 _ _ ?_
    try simp only [slices_IndexFunc_api_Range.x0, f1_i.sh, f1_i.frz, f1_i.br, f1_i.refs, f1_i.imp, f1_i.ren, f1_i.un, go_sem]
    obtain rfl := Option.some.inj h0
    refine AKev_ret rfl ?_
    try simp only [F130.rs, f1_i.sh, f1_i.frz, f1_i.br, f1_i.refs, f1_i.imp, f1_i.ren, f1_i.un, go_sem]
end Go.Abs
namespace Go.Abs
open Go.Proofs
set_option maxRecDepth 20000
set_option linter.unusedVariables false
set_option linter.unusedSimpArgs false
set_option maxHeartbeats 8000000
def F94.c : SC :=
 (.seq
  (.reg [⟨some 4, .assign (.const (.bool false)), 4, none, [4]⟩])
  (.seq
   (.reg [⟨some 5, .move (.tmp 0), 89, none, [0]⟩,
     ⟨some 6, .move (.tmp 1), 121, none, [1]⟩,
     ⟨some 7, .call ⟨.value (.func 130), #[.tmp 5, .tmp 6], #[89, 121]⟩, 3, none, [5, 6]⟩,
     ⟨some 8, .binOp .geq 3 (.tmp 7) (.const (.int .i64 0)) 3, 4, none, [7]⟩,
     ⟨some 4, .assign (.tmp 8), 4, none, [8]⟩])
   .ret))
theorem F94.rs : Tryz.f94.results.toList = [.tmp 4] := rfl
def slices_ContainsFunc_api_Range (k : Nat) (s0 : (List Range)) (f1 : Range → Option (Bool)) : Option (Bool) :=
  (slices_IndexFunc_api_Range k s0 f1).bind fun x1 =>
  some (decide ((0 : Int) ≤ x1))
theorem slices_ContainsFunc_api_Range_ok (k : Nat) (s0 : (List Range)) (f1_f : Nat) (f1_c : List AV) (f1_i : Ice f1_c) (f1 : Range → Option (Bool)) (f1_h : ∀ q0 qr, f1 q0 = some qr → PCall Tryz.prog f1_f (.agg (Range.c q0) :: f1_c) (fun y => y = .bool qr)) (r : Bool) (h0 : slices_ContainsFunc_api_Range k s0 f1 = some r) : PCall Tryz.prog 94 [.sl 2 (List.map Range.c s0), .fn (.func f1_f) [] f1_c] (fun y => y = .bool r) := by
  refine PCall.nlr (PCall.of_body T_ok (fn := Tryz.f94) (sc := F94.c) (by rfl) (by rfl) (by decide +kernel) (by rfl) (by decide +kernel) (Nat.le_of_ble_eq_true rfl) ?_)
  refine run_sound T_ok 1000 _ _ ?_
  simp only [slices_ContainsFunc_api_Range] at h0
  try simp only [F94.c, f1_i.sh, f1_i.frz, f1_i.br, f1_i.refs, f1_i.imp, f1_i.ren, f1_i.un, go_sem]
  obtain ⟨x1, yx1, h0⟩ := bind_some h0
  refine AKev_call0 T_ok 1000 (slices_IndexFunc_api_Range_ok k _ f1_f f1_c f1_i f1 f1_h _ yx1) ?_ (by first | rfl | simp [AV.refsL, AV.refs, AV.scal, AV.leaf, f1_i.refs]) ?_
  · try simp only [f1_i.sh, f1_i.frz, f1_i.br, f1_i.refs, f1_i.imp, f1_i.ren, f1_i.un, go_sem]
  try simp only [f1_i.sh, f1_i.frz, f1_i.br, f1_i.refs, f1_i.imp, f1_i.ren, f1_i.un, go_sem]
  obtain rfl := Option.some.inj h0
  refine AKev_ret rfl ?_
  try simp only [F94.rs, f1_i.sh, f1_i.frz, f1_i.br, f1_i.refs, f1_i.imp, f1_i.ren, f1_i.un, go_sem]
end Go.Abs
namespace Go.Abs
open Go.Proofs
set_option maxRecDepth 20000
set_option linter.unusedVariables false
set_option linter.unusedSimpArgs false
set_option maxHeartbeats 8000000
def F95.c : SC :=
 (.seq
  (.reg [⟨some 1, .box 30 (.tmp 0), 0, none, [0]⟩,
    ⟨some 2, .assign (.const (.bool false)), 4, none, [2]⟩])
  (.seq
   (.reg [⟨some 3, .fieldAddr 30 (.tmp 1) 0, 0, none, []⟩,
     ⟨some 4, .load 3 (.tmp 3), 3, none, [3]⟩,
     ⟨some 5, .binOp .lss 3 (.tmp 4) (.const (.int .i64 0)) 3, 4, none, [4]⟩,
     ⟨some 6, .move (.tmp 5), 4, none, [5]⟩,
     ⟨some 7, .fieldAddr 30 (.tmp 1) 0, 0, some (6, false), []⟩,
     ⟨some 8, .load 3 (.tmp 7), 3, some (6, false), [7]⟩,
     ⟨some 9, .fieldAddr 30 (.tmp 1) 1, 0, some (6, false), []⟩,
     ⟨some 10, .load 3 (.tmp 9), 3, some (6, false), [9]⟩,
     ⟨some 11, .binOp .gtr 3 (.tmp 8) (.tmp 10) 3, 4, some (6, false), [8, 10]⟩,
     ⟨some 12, .pick (.tmp 6) (.const (.bool true)) (.tmp 11), 4, none, [6, 11]⟩,
     ⟨some 13, .move (.tmp 12), 4, none, [12]⟩,
     ⟨some 14, .fieldAddr 30 (.tmp 1) 1, 0, some (13, false), [1]⟩,
     ⟨some 15, .load 3 (.tmp 14), 3, some (13, false), [14]⟩,
     ⟨some 16, .binOp .gtr 3 (.tmp 15) (.const (.int .i64 3000)) 3, 4, some (13, false), [15]⟩,
     ⟨some 17, .pick (.tmp 13) (.const (.bool true)) (.tmp 16), 4, none, [13, 16]⟩,
     ⟨some 2, .assign (.tmp 17), 4, none, [17]⟩])
   .ret))
theorem F95.rs : Tryz.f95.results.toList = [.tmp 2] := rfl
def heat_CheckKiln_1 (k : Nat) (r0 : Range) : Option (Bool) :=
  bif (!decide (r0.Lo < (0 : Int))) then
    bif (!decide (r0.Hi < r0.Lo)) then
      some (decide ((3000 : Int) < r0.Hi))
    else
      some true
  else
    some true
theorem heat_CheckKiln_1_ok (k : Nat) (r0 : Range) (r : Bool) (h0 : heat_CheckKiln_1 k r0 = some r) : PCall Tryz.prog 95 [.agg (Range.c r0)] (fun y => y = .bool r) := by
  refine PCall.nlr (PCall.of_body T_ok (fn := Tryz.f95) (sc := F95.c) (by rfl) (by rfl) (by decide +kernel) (by rfl) (by decide +kernel) (Nat.le_of_ble_eq_true rfl) ?_)
  refine run_sound T_ok 1000 _ _ ?_
  simp only [heat_CheckKiln_1] at h0
  try simp only [F95.c, go_sem]
  refine AKev_bif h0 (fun c1 h0 => ?_) (fun c1 h0 => ?_)
  · have c1 := bnot_t c1
    try simp only [c1, go_sem]
    refine AKev_bif h0 (fun c2 h0 => ?_) (fun c2 h0 => ?_)
    · have c2 := bnot_t c2
      try simp only [c2, c1, go_sem]
      obtain rfl := Option.some.inj h0
      refine AKev_ret rfl ?_
      try simp only [F95.rs, c1, c2, go_sem]
    · have c2 := bnot_f c2
      try simp only [c2, c1, go_sem]
      obtain rfl := Option.some.inj h0
      refine AKev_ret rfl ?_
      try simp only [F95.rs, c1, c2, go_sem]
  · have c1 := bnot_f c1
    try simp only [c1, go_sem]
    obtain rfl := Option.some.inj h0
    refine AKev_ret rfl ?_
    try simp only [F95.rs, c1, go_sem]
end Go.Abs
namespace Go.Abs
open Go.Proofs
set_option maxRecDepth 20000
set_option linter.unusedVariables false
set_option linter.unusedSimpArgs false
set_option maxHeartbeats 8000000
def F36.s0 : SC :=
 (.seq
  (.reg [⟨some 23, .binOp .lss 3 (.tmp 22) (.tmp 21) 3, 0, none, []⟩])
  (.seq
   (.cond (.tmp 23)
    .skip
    (.exit 0))
   (.seq
    (.block 1
     (.seq
      (.reg [⟨some 24, .indexAddr 22 (.tmp 20) (.tmp 22), 0, none, []⟩,
        ⟨some 25, .load 89 (.tmp 24), 89, none, [24]⟩,
        ⟨some 4, .assign (.tmp 25), 89, none, [25]⟩])
      (.seq
       (.reg [⟨some 26, .move (.tmp 4), 89, none, []⟩,
         ⟨some 27, .call ⟨.builtin .len, #[.tmp 26], #[89]⟩, 3, none, [26]⟩,
         ⟨some 28, .fieldAddr 24 (.tmp 1) 0, 0, none, []⟩,
         ⟨some 29, .load 22 (.tmp 28), 22, none, [28]⟩,
         ⟨some 30, .indexAddr 22 (.tmp 29) (.const (.int .i64 0)), 0, none, [29]⟩,
         ⟨some 31, .load 89 (.tmp 30), 89, none, [30]⟩,
         ⟨some 32, .call ⟨.builtin .len, #[.tmp 31], #[89]⟩, 3, none, [31]⟩,
         ⟨some 33, .binOp .neq 3 (.tmp 27) (.tmp 32) 3, 4, none, [27, 32]⟩,
         ⟨some 34, .move (.tmp 33), 4, none, [33]⟩,
         ⟨some 35, .move (.tmp 4), 89, some (34, false), [4]⟩,
         ⟨some 36, .call ⟨.value (.func 94), #[.tmp 35, .func 95], #[89, 121]⟩, 4, some (34, false), [35]⟩,
         ⟨some 37, .pick (.tmp 34) (.const (.bool true)) (.tmp 36), 4, none, [34, 36]⟩])
       (.cond (.tmp 37)
        (.seq
         (.reg [⟨some 2, .assign (.const (.int .i64 40)), 33, none, []⟩])
         .ret)
        .skip))))
    (.reg [⟨some 38, .binOp .add 3 (.tmp 22) (.const (.int .i64 1)) 3, 3, none, [22]⟩,
      ⟨some 22, .move (.tmp 38), 3, none, [38]⟩]))))
def F36.c : SC :=
 (.seq
  (.reg [⟨some 1, .box 24 (.tmp 0), 0, none, [0]⟩,
    ⟨some 2, .assign (.const (.int .i64 0)), 33, none, [2]⟩])
  (.seq
   (.seq
    (.reg [⟨some 5, .fieldAddr 24 (.tmp 1) 0, 0, none, []⟩,
      ⟨some 6, .load 22 (.tmp 5), 22, none, [5]⟩,
      ⟨some 7, .call ⟨.builtin .len, #[.tmp 6], #[22]⟩, 3, none, [6]⟩,
      ⟨some 8, .call ⟨.value (.func 58), #[.tmp 7, .const (.int .i64 1), .const (.int .i64 6)], #[3, 3, 3]⟩, 4, none, [7]⟩,
      ⟨some 9, .unOp .not 4 (.tmp 8), 4, none, [8]⟩,
      ⟨some 10, .move (.tmp 9), 4, none, [9]⟩,
      ⟨some 11, .fieldAddr 24 (.tmp 1) 0, 0, some (10, false), []⟩,
      ⟨some 12, .load 22 (.tmp 11), 22, some (10, false), [11]⟩,
      ⟨some 13, .indexAddr 22 (.tmp 12) (.const (.int .i64 0)), 0, some (10, false), [12]⟩,
      ⟨some 14, .load 89 (.tmp 13), 89, some (10, false), [13]⟩,
      ⟨some 15, .call ⟨.builtin .len, #[.tmp 14], #[89]⟩, 3, some (10, false), [14]⟩,
      ⟨some 16, .call ⟨.value (.func 58), #[.tmp 15, .const (.int .i64 1), .const (.int .i64 24)], #[3, 3, 3]⟩, 4, some (10, false), [15]⟩,
      ⟨some 17, .unOp .not 4 (.tmp 16), 4, some (10, false), [16]⟩,
      ⟨some 18, .pick (.tmp 10) (.const (.bool true)) (.tmp 17), 4, none, [10, 17]⟩])
    (.cond (.tmp 18)
     (.seq
      (.reg [⟨some 2, .assign (.const (.int .i64 40)), 33, none, []⟩])
      .ret)
     .skip))
   (.seq
    (.seq
     (.reg [⟨some 19, .fieldAddr 24 (.tmp 1) 0, 0, none, []⟩,
       ⟨some 20, .load 22 (.tmp 19), 22, none, [19]⟩,
       ⟨some 21, .call ⟨.builtin .len, #[.tmp 20], #[22]⟩, 3, none, []⟩,
       ⟨some 22, .move (.const (.int .i64 0)), 3, none, []⟩])
     (.block 0
      (.loop F36.s0)))
    (.seq
     (.reg [⟨some 2, .assign (.const (.int .i64 0)), 33, none, []⟩])
     .ret))))
theorem F36.rs : Tryz.f36.results.toList = [.tmp 2] := rfl
def heat_CheckKiln.b0 (k : Nat) (k0 : Kiln) (x3 : (List Range)) : Int → Option (Stp (Int) (Unit) (Int)) := fun (i6 : Int) => 
  bif decide (i6 < (k0.Falls.length : Int)) then
    (at? k0.Falls i6).bind fun x8 =>
    bif decide ((x8.length : Int) = (x3.length : Int)) then
      (slices_ContainsFunc_api_Range k x8 (fun q0 => heat_CheckKiln_1 k q0)).bind fun x10 =>
      bif x10 then
        some (.ret 40)
      else
        some (.next (w64 (i6 + 1)))
    else
      some (.ret 40)
  else
    some (.brk ())
noncomputable def heat_CheckKiln.h0 (k0 : Kiln) : Int → St := fun (i6 : Int) => ⟨[(1, .ptr 0 0 0), (20, .sl 1 (List.map (eL 2 Range.c) k0.Falls)), (21, .int .i64 (k0.Falls.length : Int)), (22, .int .i64 i6)], [(0, .box [.sl 1 (List.map (eL 2 Range.c) k0.Falls)])], [], 1, Tryz.f36.ntmps⟩
noncomputable def heat_CheckKiln.x0 : Unit → St := fun (_ : Unit) => ⟨[], [], [], 1, Tryz.f36.ntmps⟩
def heat_CheckKiln (k : Nat) (k0 : Kiln) : Option (Int) :=
  (heat_in k (k0.Falls.length : Int) 1 6).bind fun x1 =>
  bif x1 then
    (at? k0.Falls 0).bind fun x3 =>
    (heat_in k (x3.length : Int) 1 24).bind fun x4 =>
    bif (!x4) then
      some 40
    else
      (whl (heat_CheckKiln.b0 k k0 x3) k 0).bind fun r12 => match r12 with
      | .next _ => none
      | .ret v_ => some v_
      | .brk _ =>
        some 0
  else
    some 40
theorem heat_CheckKiln_ok (k : Nat) (k0 : Kiln) (r : Int) (h0 : heat_CheckKiln k k0 = some r) : PCall Tryz.prog 36 [.agg (Kiln.c k0)] (fun y => y = .int .i64 r) := by
  refine PCall.nlr (PCall.of_body T_ok (fn := Tryz.f36) (sc := F36.c) (by rfl) (by rfl) (by decide +kernel) (by rfl) (by decide +kernel) (Nat.le_of_ble_eq_true rfl) ?_)
  refine run_sound T_ok 1000 _ _ ?_
  simp only [heat_CheckKiln] at h0
  try simp only [F36.c, go_sem]
  obtain ⟨x1, yx1, h0⟩ := bind_some h0
  refine AKev_call0 T_ok 1000 (heat_in_ok k _ _ _ _ yx1) ?_ (by first | rfl | simp [AV.refsL, AV.refs, AV.scal, AV.leaf]) ?_
  · try simp only [go_sem]
  try simp only [go_sem]
  refine AKev_bif h0 (fun c2 h0 => ?_) (fun c2 h0 => ?_)
  · try simp only [c2, go_sem]
    obtain ⟨x3, yx3, h0⟩ := bind_some h0
    try simp only [at_in yx3, at_get (eL 2 Range.c) yx3, c2, go_sem]
    obtain ⟨x4, yx4, h0⟩ := bind_some h0
    refine AKev_call0 T_ok 1000 (heat_in_ok k _ _ _ _ yx4) ?_ (by first | rfl | simp [AV.refsL, AV.refs, AV.scal, AV.leaf]) ?_
    · try simp only [c2, at_in yx3, at_get (eL 2 Range.c) yx3, go_sem]
    try simp only [c2, at_in yx3, at_get (eL 2 Range.c) yx3, go_sem]
    refine AKev_bif h0 (fun c5 h0 => ?_) (fun c5 h0 => ?_)
    · have c5 := bnot_t c5
      try simp only [c5, c2, at_in yx3, at_get (eL 2 Range.c) yx3, go_sem]
      obtain rfl := Option.some.inj h0
      refine AKev_ret rfl ?_
      try simp only [F36.rs, c2, at_in yx3, at_get (eL 2 Range.c) yx3, c5, go_sem]
    · have c5 := bnot_f c5
      try simp only [c5, c2, at_in yx3, at_get (eL 2 Range.c) yx3, go_sem]
      obtain ⟨r12, yr12, h0⟩ := bind_some h0
      refine AKev_loopS yr12 (heat_CheckKiln.h0 k0) (heat_CheckKiln.x0) ?_ ?_ ?_
      · refine Weak.go [1, 20, 21, 22] [0] rfl ?_
        try simp only [heat_CheckKiln.h0, c2, at_in yx3, at_get (eL 2 Range.c) yx3, c5, go_sem]
      · rintro i6 x_1 Bk1 Br1 h1 hnext1 hbrk1 hret1
        refine run_sound T_ok 1000 _ _ ?_
        simp only [heat_CheckKiln.b0] at h1
        try simp only [F36.s0, heat_CheckKiln.h0, c2, at_in yx3, at_get (eL 2 Range.c) yx3, c5, go_sem]
        refine AKev_bif h1 (fun c7 h1 => ?_) (fun c7 h1 => ?_)
        · try simp only [c7, c2, at_in yx3, at_get (eL 2 Range.c) yx3, c5, go_sem]
          obtain ⟨x8, yx8, h1⟩ := bind_some h1
          try simp only [at_in yx8, at_get (eL 2 Range.c) yx8, at_in yx3, at_get (eL 2 Range.c) yx3, c2, c5, c7, go_sem]
          refine AKev_bif h1 (fun c9 h1 => ?_) (fun c9 h1 => ?_)
          · try simp only [c9, c2, at_in yx3, at_get (eL 2 Range.c) yx3, c5, c7, at_in yx8, at_get (eL 2 Range.c) yx8, go_sem]
            obtain ⟨x10, yx10, h1⟩ := bind_some h1
            refine AKev_call0 T_ok 1000 (slices_ContainsFunc_api_Range_ok k _ 95 [] ⟨fun _ => rfl, fun _ => rfl, fun _ _ => rfl, rfl, fun _ => rfl, fun _ => rfl, fun _ => rfl⟩ (fun q0 => heat_CheckKiln_1 k q0) (fun q0 qr qh => heat_CheckKiln_1_ok k q0 qr qh) _ yx10) ?_ (by first | rfl | simp [AV.refsL, AV.refs, AV.scal, AV.leaf]) ?_
            · try simp only [c2, at_in yx3, at_get (eL 2 Range.c) yx3, c5, c7, at_in yx8, at_get (eL 2 Range.c) yx8, c9, go_sem]
            try simp only [c2, at_in yx3, at_get (eL 2 Range.c) yx3, c5, c7, at_in yx8, at_get (eL 2 Range.c) yx8, c9, go_sem]
            refine AKev_bif h1 (fun c11 h1 => ?_) (fun c11 h1 => ?_)
            · try simp only [c11, c2, at_in yx3, at_get (eL 2 Range.c) yx3, c5, c7, at_in yx8, at_get (eL 2 Range.c) yx8, c9, go_sem]
              obtain rfl := hret1 _ (Option.some.inj h1).symm
              simp only at h0
              obtain rfl := Option.some.inj h0
              refine AKev_ret rfl ?_
              try simp only [F36.rs, c2, at_in yx3, at_get (eL 2 Range.c) yx3, c5, c7, at_in yx8, at_get (eL 2 Range.c) yx8, c9, c11, go_sem]
            · try simp only [c11, c2, at_in yx3, at_get (eL 2 Range.c) yx3, c5, c7, at_in yx8, at_get (eL 2 Range.c) yx8, c9, go_sem]
              refine AKev_backB (hnext1 _ _ (Option.some.inj h1).symm ?_)
              refine Weak.go [1, 20, 21, 22] [0] rfl ?_
              try simp only [heat_CheckKiln.h0, c2, at_in yx3, at_get (eL 2 Range.c) yx3, c5, c7, at_in yx8, at_get (eL 2 Range.c) yx8, c9, c11, go_sem]
          · try simp only [c9, c2, at_in yx3, at_get (eL 2 Range.c) yx3, c5, c7, at_in yx8, at_get (eL 2 Range.c) yx8, go_sem]
            obtain rfl := hret1 _ (Option.some.inj h1).symm
            simp only at h0
            obtain rfl := Option.some.inj h0
            refine AKev_ret rfl ?_
            try simp only [F36.rs, c2, at_in yx3, at_get (eL 2 Range.c) yx3, c5, c7, at_in yx8, at_get (eL 2 Range.c) yx8, c9, go_sem]
        · try simp only [c7, c2, at_in yx3, at_get (eL 2 Range.c) yx3, c5, go_sem]
          refine AKev_backB (hbrk1 _ _ (Option.some.inj h1).symm ?_)
          refine Weak.go [] [] rfl ?_
          try simp only [heat_CheckKiln.x0, c2, at_in yx3, at_get (eL 2 Range.c) yx3, c5, c7, go_sem]
      · rintro _ hr_
        subst hr_
        simp only at h0
        refine run_sound T_ok 1000 _ _ ?_
        try simp only [heat_CheckKiln.x0, c2, at_in yx3, at_get (eL 2 Range.c) yx3, c5, go_sem]
        obtain rfl := Option.some.inj h0
        refine AKev_ret rfl ?_
        try simp only [F36.rs, c2, at_in yx3, at_get (eL 2 Range.c) yx3, c5, go_sem]
  · try simp only [c2, go_sem]
    obtain rfl := Option.some.inj h0
    refine AKev_ret rfl ?_
    try simp only [F36.rs, c2, go_sem]
end Go.Abs
namespace Go.Abs
open Go.Proofs
set_option maxRecDepth 20000
set_option linter.unusedVariables false
set_option linter.unusedSimpArgs false
set_option maxHeartbeats 8000000
def F87.c : SC :=
 (.seq
  (.reg [⟨some 3, .box 64 (.tmp 1), 0, none, [1]⟩,
    ⟨some 4, .assign (.const (.bool false)), 4, none, [4]⟩])
  (.seq
   (.seq
    (.reg [⟨some 5, .fieldAddr 64 (.tmp 3) 0, 0, none, []⟩,
      ⟨some 6, .load 3 (.tmp 5), 3, none, [5]⟩,
      ⟨some 7, .call ⟨.value (.func 58), #[.tmp 6, .const (.int .i64 1), .const (.int .i64 99999)], #[3, 3, 3]⟩, 4, none, [6]⟩,
      ⟨some 8, .unOp .not 4 (.tmp 7), 4, none, [7]⟩,
      ⟨some 9, .move (.tmp 8), 4, none, [8]⟩,
      ⟨some 10, .fieldAddr 64 (.tmp 3) 1, 0, some (9, false), []⟩,
      ⟨some 11, .load 3 (.tmp 10), 3, some (9, false), [10]⟩,
      ⟨some 12, .move (.tmp 0), 3, some (9, false), [0]⟩,
      ⟨some 13, .binOp .sub 3 (.tmp 12) (.const (.int .i64 1)) 3, 3, some (9, false), [12]⟩,
      ⟨some 14, .call ⟨.value (.func 58), #[.tmp 11, .const (.int .i64 0), .tmp 13], #[3, 3, 3]⟩, 4, some (9, false), [11, 13]⟩,
      ⟨some 15, .unOp .not 4 (.tmp 14), 4, some (9, false), [14]⟩,
      ⟨some 16, .pick (.tmp 9) (.const (.bool true)) (.tmp 15), 4, none, [9, 15]⟩])
    (.cond (.tmp 16)
     (.seq
      (.reg [⟨some 4, .assign (.const (.bool false)), 4, none, []⟩])
      .ret)
     .skip))
   (.seq
    (.seq
     (.reg [⟨some 17, .fieldAddr 64 (.tmp 3) 2, 0, none, []⟩,
       ⟨some 18, .load 3 (.tmp 17), 3, none, [17]⟩])
     (.block 0
      (.seq
       (.seq
        (.reg [⟨some 20, .binOp .eql 3 (.tmp 18) (.const (.int .i64 1)) 3, 4, none, []⟩,
          ⟨some 19, .assign (.tmp 20), 4, none, [20]⟩])
        (.cond (.tmp 19)
         .skip
         (.reg [⟨some 21, .binOp .eql 3 (.tmp 18) (.const (.int .i64 2)) 3, 4, none, []⟩,
           ⟨some 19, .assign (.tmp 21), 4, none, [21]⟩])))
       (.cond (.tmp 19)
        (.seq
         (.reg [⟨some 22, .fieldAddr 64 (.tmp 3) 3, 0, none, []⟩,
           ⟨some 23, .load 3 (.tmp 22), 3, none, [22]⟩,
           ⟨some 24, .call ⟨.value (.func 58), #[.tmp 23, .const (.int .i64 1), .const (.int .i64 2000)], #[3, 3, 3]⟩, 4, none, [23]⟩,
           ⟨some 25, .move (.tmp 24), 4, none, [24]⟩,
           ⟨some 26, .fieldAddr 64 (.tmp 3) 4, 0, some (25, true), [3]⟩,
           ⟨some 27, .load 30 (.tmp 26), 30, some (25, true), [26]⟩,
           ⟨some 28, .build 30 #[], 30, some (25, true), []⟩,
           ⟨some 29, .binOp .eql 30 (.tmp 27) (.tmp 28) 30, 4, some (25, true), [27, 28]⟩,
           ⟨some 30, .pick (.tmp 25) (.tmp 29) (.const (.bool false)), 4, none, [25, 29]⟩,
           ⟨some 4, .assign (.tmp 30), 4, none, [30]⟩])
         .ret)
        (.seq
         (.reg [⟨some 32, .binOp .eql 3 (.tmp 18) (.const (.int .i64 3)) 3, 4, none, [18]⟩,
           ⟨some 31, .assign (.tmp 32), 4, none, [32]⟩])
         (.cond (.tmp 31)
          (.seq
           (.reg [⟨some 33, .fieldAddr 64 (.tmp 3) 3, 0, none, []⟩,
             ⟨some 34, .load 3 (.tmp 33), 3, none, [33]⟩,
             ⟨some 35, .binOp .eql 3 (.tmp 34) (.const (.int .i64 0)) 3, 4, none, [34]⟩,
             ⟨some 36, .move (.tmp 35), 4, none, [35]⟩,
             ⟨some 37, .fieldAddr 64 (.tmp 3) 4, 0, some (36, true), []⟩,
             ⟨some 38, .fieldAddr 30 (.tmp 37) 0, 0, some (36, true), [37]⟩,
             ⟨some 39, .load 3 (.tmp 38), 3, some (36, true), [38]⟩,
             ⟨some 40, .binOp .geq 3 (.tmp 39) (.const (.int .i64 1)) 3, 4, some (36, true), [39]⟩,
             ⟨some 41, .pick (.tmp 36) (.tmp 40) (.const (.bool false)), 4, none, [36, 40]⟩,
             ⟨some 42, .move (.tmp 41), 4, none, [41]⟩,
             ⟨some 43, .fieldAddr 64 (.tmp 3) 4, 0, some (42, true), []⟩,
             ⟨some 44, .fieldAddr 30 (.tmp 43) 0, 0, some (42, true), [43]⟩,
             ⟨some 45, .load 3 (.tmp 44), 3, some (42, true), [44]⟩,
             ⟨some 46, .fieldAddr 64 (.tmp 3) 4, 0, some (42, true), []⟩,
             ⟨some 47, .fieldAddr 30 (.tmp 46) 1, 0, some (42, true), [46]⟩,
             ⟨some 48, .load 3 (.tmp 47), 3, some (42, true), [47]⟩,
             ⟨some 49, .binOp .leq 3 (.tmp 45) (.tmp 48) 3, 4, some (42, true), [45, 48]⟩,
             ⟨some 50, .pick (.tmp 42) (.tmp 49) (.const (.bool false)), 4, none, [42, 49]⟩,
             ⟨some 51, .move (.tmp 50), 4, none, [50]⟩,
             ⟨some 52, .fieldAddr 64 (.tmp 3) 4, 0, some (51, true), [3]⟩,
             ⟨some 53, .fieldAddr 30 (.tmp 52) 1, 0, some (51, true), [52]⟩,
             ⟨some 54, .load 3 (.tmp 53), 3, some (51, true), [53]⟩,
             ⟨some 55, .binOp .leq 3 (.tmp 54) (.const (.int .i64 2000)) 3, 4, some (51, true), [54]⟩,
             ⟨some 56, .pick (.tmp 51) (.tmp 55) (.const (.bool false)), 4, none, [51, 55]⟩,
             ⟨some 4, .assign (.tmp 56), 4, none, [56]⟩])
           .ret)
          .skip))))))
    (.seq
     (.reg [⟨some 4, .assign (.const (.bool false)), 4, none, []⟩])
     .ret))))
theorem F87.rs : Tryz.f87.results.toList = [.tmp 4] := rfl
def heat_isReading (k : Nat) (places0 : Int) (r1 : Reading) : Option (Bool) :=
  (heat_in k r1.Source 1 99999).bind fun x1 =>
  bif x1 then
    (heat_in k r1.Place 0 (w64 (places0 - 1))).bind fun x3 =>
    bif (!x3) then
      some false
    else
      bif decide (r1.Kind = (1 : Int)) then
        (heat_in k r1.Mark 1 2000).bind fun x6 =>
        bif x6 then
          some (decide (r1.Heat.Lo = (0 : Int)) && decide (r1.Heat.Hi = (0 : Int)))
        else
          some false
      else
        bif decide (r1.Kind = (2 : Int)) then
          (heat_in k r1.Mark 1 2000).bind fun x9 =>
          bif x9 then
            some (decide (r1.Heat.Lo = (0 : Int)) && decide (r1.Heat.Hi = (0 : Int)))
          else
            some false
        else
          bif decide (r1.Kind = (3 : Int)) then
            bif decide (r1.Mark = (0 : Int)) then
              bif decide ((1 : Int) ≤ r1.Heat.Lo) then
                bif decide (r1.Heat.Lo ≤ r1.Heat.Hi) then
                  some (decide (r1.Heat.Hi ≤ (2000 : Int)))
                else
                  some false
              else
                some false
            else
              some false
          else
            some false
  else
    some false
theorem heat_isReading_ok (k : Nat) (places0 : Int) (r1 : Reading) (r : Bool) (h0 : heat_isReading k places0 r1 = some r) : PCall Tryz.prog 87 [.int .i64 places0, .agg (Reading.c r1)] (fun y => y = .bool r) := by
  refine PCall.nlr (PCall.of_body T_ok (fn := Tryz.f87) (sc := F87.c) (by rfl) (by rfl) (by decide +kernel) (by rfl) (by decide +kernel) (Nat.le_of_ble_eq_true rfl) ?_)
  refine run_sound T_ok 1000 _ _ ?_
  simp only [heat_isReading] at h0
  try simp only [F87.c, go_sem]
  obtain ⟨x1, yx1, h0⟩ := bind_some h0
  refine AKev_call0 T_ok 1000 (heat_in_ok k _ _ _ _ yx1) ?_ (by first | rfl | simp [AV.refsL, AV.refs, AV.scal, AV.leaf]) ?_
  · try simp only [go_sem]
  try simp only [go_sem]
  refine AKev_bif h0 (fun c2 h0 => ?_) (fun c2 h0 => ?_)
  · try simp only [c2, go_sem]
    obtain ⟨x3, yx3, h0⟩ := bind_some h0
    refine AKev_call0 T_ok 1000 (heat_in_ok k _ _ _ _ yx3) ?_ (by first | rfl | simp [AV.refsL, AV.refs, AV.scal, AV.leaf]) ?_
    · try simp only [c2, go_sem]
    try simp only [c2, go_sem]
    refine AKev_bif h0 (fun c4 h0 => ?_) (fun c4 h0 => ?_)
    · have c4 := bnot_t c4
      try simp only [c4, c2, go_sem]
      obtain rfl := Option.some.inj h0
      refine AKev_ret rfl ?_
      try simp only [F87.rs, c2, c4, go_sem]
    · have c4 := bnot_f c4
      try simp only [c4, c2, go_sem]
      refine AKev_bif h0 (fun c5 h0 => ?_) (fun c5 h0 => ?_)
      · try simp only [c5, c2, c4, go_sem]
        obtain ⟨x6, yx6, h0⟩ := bind_some h0
        refine AKev_call0 T_ok 1000 (heat_in_ok k _ _ _ _ yx6) ?_ (by first | rfl | simp [AV.refsL, AV.refs, AV.scal, AV.leaf]) ?_
        · try simp only [c2, c4, c5, go_sem]
        try simp only [c2, c4, c5, go_sem]
        refine AKev_bif h0 (fun c7 h0 => ?_) (fun c7 h0 => ?_)
        · try simp only [c7, c2, c4, c5, go_sem]
          obtain rfl := Option.some.inj h0
          refine AKev_ret rfl ?_
          try simp only [F87.rs, c2, c4, c5, c7, go_sem]
        · try simp only [c7, c2, c4, c5, go_sem]
          obtain rfl := Option.some.inj h0
          refine AKev_ret rfl ?_
          try simp only [F87.rs, c2, c4, c5, c7, go_sem]
      · try simp only [c5, c2, c4, go_sem]
        refine AKev_bif h0 (fun c8 h0 => ?_) (fun c8 h0 => ?_)
        · try simp only [c8, c2, c4, c5, go_sem]
          obtain ⟨x9, yx9, h0⟩ := bind_some h0
          refine AKev_call0 T_ok 1000 (heat_in_ok k _ _ _ _ yx9) ?_ (by first | rfl | simp [AV.refsL, AV.refs, AV.scal, AV.leaf]) ?_
          · try simp only [c2, c4, c5, c8, go_sem]
          try simp only [c2, c4, c5, c8, go_sem]
          refine AKev_bif h0 (fun c10 h0 => ?_) (fun c10 h0 => ?_)
          · try simp only [c10, c2, c4, c5, c8, go_sem]
            obtain rfl := Option.some.inj h0
            refine AKev_ret rfl ?_
            try simp only [F87.rs, c2, c4, c5, c8, c10, go_sem]
          · try simp only [c10, c2, c4, c5, c8, go_sem]
            obtain rfl := Option.some.inj h0
            refine AKev_ret rfl ?_
            try simp only [F87.rs, c2, c4, c5, c8, c10, go_sem]
        · try simp only [c8, c2, c4, c5, go_sem]
          refine AKev_bif h0 (fun c11 h0 => ?_) (fun c11 h0 => ?_)
          · try simp only [c11, c2, c4, c5, c8, go_sem]
            refine AKev_bif h0 (fun c12 h0 => ?_) (fun c12 h0 => ?_)
            · try simp only [c12, c2, c4, c5, c8, c11, go_sem]
              refine AKev_bif h0 (fun c13 h0 => ?_) (fun c13 h0 => ?_)
              · try simp only [c13, c2, c4, c5, c8, c11, c12, go_sem]
                refine AKev_bif h0 (fun c14 h0 => ?_) (fun c14 h0 => ?_)
                · try simp only [c14, c2, c4, c5, c8, c11, c12, c13, go_sem]
                  obtain rfl := Option.some.inj h0
                  refine AKev_ret rfl ?_
                  try simp only [F87.rs, c2, c4, c5, c8, c11, c12, c13, c14, go_sem]
                · try simp only [c14, c2, c4, c5, c8, c11, c12, c13, go_sem]
                  obtain rfl := Option.some.inj h0
                  refine AKev_ret rfl ?_
                  try simp only [F87.rs, c2, c4, c5, c8, c11, c12, c13, c14, go_sem]
              · try simp only [c13, c2, c4, c5, c8, c11, c12, go_sem]
                obtain rfl := Option.some.inj h0
                refine AKev_ret rfl ?_
                try simp only [F87.rs, c2, c4, c5, c8, c11, c12, c13, go_sem]
            · try simp only [c12, c2, c4, c5, c8, c11, go_sem]
              obtain rfl := Option.some.inj h0
              refine AKev_ret rfl ?_
              try simp only [F87.rs, c2, c4, c5, c8, c11, c12, go_sem]
          · try simp only [c11, c2, c4, c5, c8, go_sem]
            obtain rfl := Option.some.inj h0
            refine AKev_ret rfl ?_
            try simp only [F87.rs, c2, c4, c5, c8, c11, go_sem]
  · try simp only [c2, go_sem]
    obtain rfl := Option.some.inj h0
    refine AKev_ret rfl ?_
    try simp only [F87.rs, c2, go_sem]
end Go.Abs
namespace Go.Abs
open Go.Proofs
set_option maxRecDepth 20000
set_option linter.unusedVariables false
set_option linter.unusedSimpArgs false
set_option maxHeartbeats 8000000
def F42.s0 : SC :=
 (.seq
  (.reg [⟨some 20, .binOp .lss 3 (.tmp 19) (.tmp 18) 3, 0, none, []⟩])
  (.seq
   (.cond (.tmp 20)
    .skip
    (.exit 0))
   (.seq
    (.block 1
     (.seq
      (.reg [⟨some 21, .indexAddr 25 (.tmp 17) (.tmp 19), 0, none, []⟩,
        ⟨some 22, .load 64 (.tmp 21), 64, none, [21]⟩,
        ⟨some 5, .alloc 64, 0, none, []⟩,
        ⟨none, .store 64 (.tmp 5) (.tmp 22), 0, none, [22]⟩])
      (.seq
       (.dreg [⟨some 23, .fieldAddr 27 (.tmp 1) 0, 0, none, []⟩,
         ⟨some 24, .fieldAddr 24 (.tmp 23) 0, 0, none, []⟩,
         ⟨some 25, .load 22 (.tmp 24), 22, none, []⟩,
         ⟨some 26, .indexAddr 22 (.tmp 25) (.const (.int .i64 0)), 0, none, []⟩,
         ⟨some 27, .load 89 (.tmp 26), 89, none, []⟩,
         ⟨some 28, .call ⟨.builtin .len, #[.tmp 27], #[89]⟩, 3, none, []⟩,
         ⟨some 29, .load 64 (.tmp 5), 64, none, []⟩,
         ⟨some 30, .call ⟨.value (.func 87), #[.tmp 28, .tmp 29], #[3, 64]⟩, 4, none, []⟩,
         ⟨some 31, .unOp .not 4 (.tmp 30), 4, none, []⟩] [[], [0], [0, 1], [0, 1, 2], [0, 1, 2, 3], [0, 1, 2, 3, 4], [], [0, 1, 2, 3, 4, 5, 6], [0, 1, 2, 3, 4, 5, 6, 7]] [5, 23, 24, 25, 26, 27, 28, 29, 30])
       (.cond (.tmp 31)
        (.seq
         (.reg [⟨some 2, .assign (.const (.int .i64 41)), 33, none, []⟩])
         .ret)
        .skip))))
    (.reg [⟨some 32, .binOp .add 3 (.tmp 19) (.const (.int .i64 1)) 3, 3, none, [19]⟩,
      ⟨some 19, .move (.tmp 32), 3, none, [32]⟩]))))
def F42.c : SC :=
 (.seq
  (.reg [⟨some 1, .box 27 (.tmp 0), 0, none, [0]⟩,
    ⟨some 2, .assign (.const (.int .i64 0)), 33, none, [2]⟩])
  (.seq
   (.seq
    (.reg [⟨some 6, .fieldAddr 27 (.tmp 1) 0, 0, none, []⟩,
      ⟨some 7, .load 24 (.tmp 6), 24, none, [6]⟩,
      ⟨some 8, .call ⟨.value (.func 36), #[.tmp 7], #[24]⟩, 33, none, [7]⟩,
      ⟨some 3, .assign (.tmp 8), 33, none, [8]⟩])
    (.seq
     (.reg [⟨some 9, .move (.tmp 3), 33, none, []⟩,
       ⟨some 10, .binOp .neq 33 (.tmp 9) (.const (.int .i64 0)) 33, 4, none, [9]⟩])
     (.cond (.tmp 10)
      (.seq
       (.reg [⟨some 11, .move (.tmp 3), 33, none, [3]⟩,
         ⟨some 2, .assign (.tmp 11), 33, none, [11]⟩])
       .ret)
      .skip)))
   (.seq
    (.seq
     (.reg [⟨some 12, .fieldAddr 27 (.tmp 1) 1, 0, none, []⟩,
       ⟨some 13, .load 25 (.tmp 12), 25, none, [12]⟩,
       ⟨some 14, .call ⟨.builtin .len, #[.tmp 13], #[25]⟩, 3, none, [13]⟩,
       ⟨some 15, .binOp .gtr 3 (.tmp 14) (.const (.int .i64 60)) 3, 4, none, [14]⟩])
     (.cond (.tmp 15)
      (.seq
       (.reg [⟨some 2, .assign (.const (.int .i64 2)), 33, none, []⟩])
       .ret)
      .skip))
    (.seq
     (.seq
      (.reg [⟨some 16, .fieldAddr 27 (.tmp 1) 1, 0, none, []⟩,
        ⟨some 17, .load 25 (.tmp 16), 25, none, [16]⟩,
        ⟨some 18, .call ⟨.builtin .len, #[.tmp 17], #[25]⟩, 3, none, []⟩,
        ⟨some 19, .move (.const (.int .i64 0)), 3, none, []⟩])
      (.block 0
       (.loop F42.s0)))
     (.seq
      (.reg [⟨some 2, .assign (.const (.int .i64 0)), 33, none, []⟩])
      .ret)))))
theorem F42.rs : Tryz.f42.results.toList = [.tmp 2] := rfl
def heat_Check.b0 (k : Nat) (f0 : Firing) : Int → Option (Stp (Int) (Unit) (Int)) := fun (i4 : Int) => 
  bif decide (i4 < (f0.Readings.length : Int)) then
    (at? f0.Readings i4).bind fun x6 =>
    (at? f0.Kiln.Falls 0).bind fun x7 =>
    (heat_isReading k (x7.length : Int) x6).bind fun x8 =>
    bif (!x8) then
      some (.ret 41)
    else
      some (.next (w64 (i4 + 1)))
  else
    some (.brk ())
noncomputable def heat_Check.h0 (f0 : Firing) : Int → St := fun (i4 : Int) => ⟨[(1, .ptr 0 0 0), (17, .sl 6 (List.map Reading.c f0.Readings)), (18, .int .i64 (f0.Readings.length : Int)), (19, .int .i64 i4)], [(0, .box [.sl 1 (List.map (eL 2 Range.c) f0.Kiln.Falls), .sl 6 (List.map Reading.c f0.Readings)])], [], 1, Tryz.f42.ntmps⟩
noncomputable def heat_Check.x0 : Unit → St := fun (_ : Unit) => ⟨[], [], [], 1, Tryz.f42.ntmps⟩
def heat_Check (k : Nat) (f0 : Firing) : Option (Int) :=
  (heat_CheckKiln k f0.Kiln).bind fun x1 =>
  bif (!decide (x1 = (0 : Int))) then
    some x1
  else
    bif decide ((60 : Int) < (f0.Readings.length : Int)) then
      some 2
    else
      (whl (heat_Check.b0 k f0) k 0).bind fun r10 => match r10 with
      | .next _ => none
      | .ret v_ => some v_
      | .brk _ =>
        some 0
theorem heat_Check_ok (k : Nat) (f0 : Firing) (r : Int) (h0 : heat_Check k f0 = some r) : PCall Tryz.prog 42 [.agg (Firing.c f0)] (fun y => y = .int .i64 r) := by
  refine PCall.nlr (PCall.of_body T_ok (fn := Tryz.f42) (sc := F42.c) (by rfl) (by rfl) (by decide +kernel) (by rfl) (by decide +kernel) (Nat.le_of_ble_eq_true rfl) ?_)
  refine run_sound T_ok 1000 _ _ ?_
  simp only [heat_Check] at h0
  try simp only [F42.c, go_sem]
  obtain ⟨x1, yx1, h0⟩ := bind_some h0
  refine AKev_call0 T_ok 1000 (heat_CheckKiln_ok k _ _ yx1) ?_ (by first | rfl | simp [AV.refsL, AV.refs, AV.scal, AV.leaf]) ?_
  · try simp only [go_sem]
  try simp only [go_sem]
  refine AKev_bif h0 (fun c2 h0 => ?_) (fun c2 h0 => ?_)
  · have c2 := bnot_t c2
    try simp only [c2, go_sem]
    obtain rfl := Option.some.inj h0
    refine AKev_ret rfl ?_
    try simp only [F42.rs, c2, go_sem]
  · have c2 := bnot_f c2
    try simp only [c2, go_sem]
    refine AKev_bif h0 (fun c3 h0 => ?_) (fun c3 h0 => ?_)
    · try simp only [c3, c2, go_sem]
      obtain rfl := Option.some.inj h0
      refine AKev_ret rfl ?_
      try simp only [F42.rs, c2, c3, go_sem]
    · try simp only [c3, c2, go_sem]
      obtain ⟨r10, yr10, h0⟩ := bind_some h0
      refine AKev_loopS yr10 (heat_Check.h0 f0) (heat_Check.x0) ?_ ?_ ?_
      · refine Weak.go [1, 17, 18, 19] [0] rfl ?_
        try simp only [heat_Check.h0, c2, c3, go_sem]
      · rintro i4 x_1 Bk1 Br1 h1 hnext1 hbrk1 hret1
        refine run_sound T_ok 1000 _ _ ?_
        simp only [heat_Check.b0] at h1
        try simp only [F42.s0, heat_Check.h0, c2, c3, go_sem]
        refine AKev_bif h1 (fun c5 h1 => ?_) (fun c5 h1 => ?_)
        · try simp only [c5, c2, c3, go_sem]
          obtain ⟨x6, yx6, h1⟩ := bind_some h1
          try simp only [at_in yx6, at_get Reading.c yx6, c2, c3, c5, go_sem]
          refine AKev_region T_ok follows_ok 1000 ?_
          try simp only [c2, c3, c5, at_in yx6, at_get Reading.c yx6, go_sem]
          obtain ⟨x7, yx7, h1⟩ := bind_some h1
          try simp only [at_in yx7, at_get (eL 2 Range.c) yx7, c2, c3, c5, at_in yx6, at_get Reading.c yx6, go_sem]
          obtain ⟨x8, yx8, h1⟩ := bind_some h1
          refine DG_call0 1000 (heat_isReading_ok k _ _ _ yx8) ?_ (by first | rfl | simp [AV.refsL, AV.refs, AV.scal, AV.leaf]) ?_
          · try simp only [c2, c3, c5, at_in yx6, at_get Reading.c yx6, at_in yx7, at_get (eL 2 Range.c) yx7, go_sem]
          try simp only [c2, c3, c5, at_in yx6, at_get Reading.c yx6, at_in yx7, at_get (eL 2 Range.c) yx7, go_sem]
          refine DG_done ⟨rfl, run_sound T_ok 1000 _ _ ?_⟩
          try simp only [c2, c3, c5, at_in yx6, at_get Reading.c yx6, at_in yx7, at_get (eL 2 Range.c) yx7, go_sem]
          refine AKev_bif h1 (fun c9 h1 => ?_) (fun c9 h1 => ?_)
          · have c9 := bnot_t c9
            try simp only [c9, c2, c3, c5, at_in yx6, at_get Reading.c yx6, at_in yx7, at_get (eL 2 Range.c) yx7, go_sem]
            obtain rfl := hret1 _ (Option.some.inj h1).symm
            simp only at h0
            obtain rfl := Option.some.inj h0
            refine AKev_ret rfl ?_
            try simp only [F42.rs, c2, c3, c5, at_in yx6, at_get Reading.c yx6, at_in yx7, at_get (eL 2 Range.c) yx7, c9, go_sem]
          · have c9 := bnot_f c9
            try simp only [c9, c2, c3, c5, at_in yx6, at_get Reading.c yx6, at_in yx7, at_get (eL 2 Range.c) yx7, go_sem]
            refine AKev_backB (hnext1 _ _ (Option.some.inj h1).symm ?_)
            refine Weak.go [1, 17, 18, 19] [0] rfl ?_
            try simp only [heat_Check.h0, c2, c3, c5, at_in yx6, at_get Reading.c yx6, at_in yx7, at_get (eL 2 Range.c) yx7, c9, go_sem]
        · try simp only [c5, c2, c3, go_sem]
          refine AKev_backB (hbrk1 _ _ (Option.some.inj h1).symm ?_)
          refine Weak.go [] [] rfl ?_
          try simp only [heat_Check.x0, c2, c3, c5, go_sem]
      · rintro _ hr_
        subst hr_
        simp only at h0
        refine run_sound T_ok 1000 _ _ ?_
        try simp only [heat_Check.x0, c2, c3, go_sem]
        obtain rfl := Option.some.inj h0
        refine AKev_ret rfl ?_
        try simp only [F42.rs, c2, c3, go_sem]
end Go.Abs
namespace Go.Abs
open Go.Proofs
set_option maxRecDepth 20000
set_option linter.unusedVariables false
set_option linter.unusedSimpArgs false
set_option maxHeartbeats 8000000
def F107.s0 : SC :=
 (.seq
  (.reg [⟨some 15, .binOp .lss 3 (.tmp 14) (.tmp 13) 3, 0, none, []⟩])
  (.seq
   (.cond (.tmp 15)
    .skip
    (.exit 0))
   (.seq
    (.block 1
     (.seq
      (.reg [⟨some 16, .indexAddr 79 (.tmp 12) (.tmp 14), 0, none, []⟩,
        ⟨some 17, .load 135 (.tmp 16), 135, none, [16]⟩,
        ⟨some 9, .alloc 135, 0, none, []⟩,
        ⟨none, .store 135 (.tmp 9) (.tmp 17), 0, none, [17]⟩])
      (.seq
       (.dreg [⟨some 18, .fieldAddr 135 (.tmp 9) 1, 0, none, []⟩,
         ⟨some 19, .load 3 (.tmp 18), 3, none, []⟩,
         ⟨some 20, .fieldAddr 81 (.tmp 2) 0, 0, none, []⟩,
         ⟨some 21, .fieldAddr 27 (.tmp 20) 0, 0, none, []⟩,
         ⟨some 22, .fieldAddr 24 (.tmp 21) 0, 0, none, []⟩,
         ⟨some 23, .load 22 (.tmp 22), 22, none, []⟩,
         ⟨some 24, .move (.tmp 1), 3, none, []⟩,
         ⟨some 25, .indexAddr 22 (.tmp 23) (.tmp 24), 0, none, []⟩,
         ⟨some 26, .load 89 (.tmp 25), 89, none, []⟩,
         ⟨some 27, .fieldAddr 135 (.tmp 9) 0, 0, none, []⟩,
         ⟨some 28, .load 3 (.tmp 27), 3, none, []⟩,
         ⟨some 29, .indexAddr 89 (.tmp 26) (.tmp 28), 0, none, []⟩,
         ⟨some 30, .fieldAddr 30 (.tmp 29) 1, 0, none, []⟩,
         ⟨some 31, .load 3 (.tmp 30), 3, none, []⟩,
         ⟨some 32, .binOp .add 3 (.tmp 19) (.tmp 31) 3, 3, none, []⟩,
         ⟨some 10, .assign (.tmp 32), 3, none, []⟩] [[], [0], [], [2], [2, 3], [2, 3, 4], [], [2, 3, 4, 5, 6], [2, 3, 4, 5, 6, 7], [], [9], [2, 3, 4, 5, 6, 7, 8, 9, 10], [2, 3, 4, 5, 6, 7, 8, 9, 10, 11], [2, 3, 4, 5, 6, 7, 8, 9, 10, 11, 12], [0, 1, 2, 3, 4, 5, 6, 7, 8, 9, 10, 11, 12, 13], [0, 1, 2, 3, 4, 5, 6, 7, 8, 9, 10, 11, 12, 13, 14]] [18, 19, 20, 21, 22, 23, 24, 25, 26, 27, 28, 29, 30, 31, 32])
       (.seq
        (.reg [⟨some 33, .move (.tmp 10), 3, none, []⟩,
          ⟨some 34, .move (.tmp 6), 3, none, []⟩,
          ⟨some 35, .binOp .lss 3 (.tmp 33) (.tmp 34) 3, 4, none, [33, 34]⟩])
        (.cond (.tmp 35)
         (.dreg [⟨some 36, .move (.tmp 10), 3, none, []⟩,
           ⟨some 37, .fieldAddr 135 (.tmp 9) 2, 0, none, []⟩,
           ⟨some 38, .load 3 (.tmp 37), 3, none, []⟩,
           ⟨some 6, .assign (.tmp 36), 3, none, []⟩,
           ⟨some 7, .assign (.tmp 38), 3, none, []⟩] [[], [], [1], [0], [1, 2, 0, 3]] [9, 10, 36, 37, 38])
         .skip)))))
    (.reg [⟨some 39, .binOp .add 3 (.tmp 14) (.const (.int .i64 1)) 3, 3, none, [14]⟩,
      ⟨some 14, .move (.tmp 39), 3, none, [39]⟩]))))
def F107.c : SC :=
 (.seq
  (.reg [⟨some 2, .box 81 (.tmp 0), 0, none, [0]⟩,
    ⟨some 4, .assign (.const (.int .i64 0)), 3, none, [4]⟩,
    ⟨some 5, .assign (.const (.int .i64 0)), 3, none, [5]⟩])
  (.seq
   (.reg [⟨some 6, .assign (.const (.int .i64 3000)), 3, none, []⟩,
     ⟨some 7, .assign (.const (.int .i64 (-1))), 3, none, []⟩])
   (.seq
    (.seq
     (.reg [⟨some 11, .fieldAddr 81 (.tmp 2) 2, 0, none, []⟩,
       ⟨some 12, .load 79 (.tmp 11), 79, none, [11]⟩,
       ⟨some 13, .call ⟨.builtin .len, #[.tmp 12], #[79]⟩, 3, none, []⟩,
       ⟨some 14, .move (.const (.int .i64 0)), 3, none, []⟩])
     (.block 0
      (.loop F107.s0)))
    (.seq
     (.reg [⟨some 40, .move (.tmp 6), 3, none, [6]⟩,
       ⟨some 41, .move (.tmp 7), 3, none, [7]⟩,
       ⟨some 4, .assign (.tmp 40), 3, none, [40]⟩,
       ⟨some 5, .assign (.tmp 41), 3, none, [41]⟩])
     .ret))))
theorem F107.rs : Tryz.f107.results.toList = [.tmp 4, .tmp 5] := rfl
def heat_furnace_hottest.b0 (k : Nat) (f0 : heat_furnace) (mouth1 : Int) : (Int × Int × Int) → Option (Stp (Int × Int × Int) (Int × Int) (Int × Int)) := fun (s : Int × Int × Int) => match s with
  | (i1, i2, i3) => 
      bif decide (i3 < (f0.most.length : Int)) then
        (at? f0.most i3).bind fun x7 =>
        (at? f0.Firing.Kiln.Falls mouth1).bind fun x8 =>
        (at? x8 x7.place).bind fun x9 =>
        bif decide (w64 (x7.heat + x9.Hi) < i1) then
          some (.next (w64 (x7.heat + x9.Hi), x7.by_, w64 (i3 + 1)))
        else
          some (.next (i1, i2, w64 (i3 + 1)))
      else
        some (.brk (i1, i2))
noncomputable def heat_furnace_hottest.h0 (f0 : heat_furnace) (mouth1 : Int) : (Int × Int × Int) → St := fun (s : Int × Int × Int) => match s with
  | (i1, i2, i3) => ⟨[(1, .int .i64 mouth1), (2, .ptr 0 0 0), (6, .int .i64 i1), (7, .int .i64 i2), (12, .sl 3 (List.map heat_limit.c f0.most)), (13, .int .i64 (f0.most.length : Int)), (14, .int .i64 i3)], [(0, .box [.sl 1 (List.map (eL 2 Range.c) f0.Firing.Kiln.Falls), .sl 6 (List.map Reading.c f0.Firing.Readings), .sl 3 (List.map heat_limit.c f0.least), .sl 3 (List.map heat_limit.c f0.most)])], [], 1, Tryz.f107.ntmps⟩
noncomputable def heat_furnace_hottest.x0 : (Int × Int) → St := fun (s : Int × Int) => match s with
  | (i4, i5) => ⟨[(6, .int .i64 i4), (7, .int .i64 i5)], [], [], 1, Tryz.f107.ntmps⟩
def heat_furnace_hottest (k : Nat) (f0 : heat_furnace) (mouth1 : Int) : Option (Int × Int) :=
  (whl (heat_furnace_hottest.b0 k f0 mouth1) k (3000, -1, 0)).bind fun r11 => match r11 with
  | .next _ => none
  | .ret v_ => some v_
  | .brk (i4, i5) =>
    some (i4, i5)
theorem heat_furnace_hottest_ok (k : Nat) (f0 : heat_furnace) (mouth1 : Int) (r : Int × Int) (h0 : heat_furnace_hottest k f0 mouth1 = some r) : PCall Tryz.prog 107 [.agg (heat_furnace.c f0), .int .i64 mouth1] (fun y => y = .tup [.int .i64 r.1, .int .i64 r.2]) := by
  refine PCall.nlr (PCall.of_body T_ok (fn := Tryz.f107) (sc := F107.c) (by rfl) (by rfl) (by decide +kernel) (by rfl) (by decide +kernel) (Nat.le_of_ble_eq_true rfl) ?_)
  refine run_sound T_ok 1000 _ _ ?_
  simp only [heat_furnace_hottest] at h0
  try simp only [F107.c, go_sem]
  obtain ⟨r11, yr11, h0⟩ := bind_some h0
  refine AKev_loopS yr11 (heat_furnace_hottest.h0 f0 mouth1) (heat_furnace_hottest.x0) ?_ ?_ ?_
  · refine Weak.go [1, 2, 6, 7, 12, 13, 14] [0] rfl ?_
    try simp only [heat_furnace_hottest.h0, go_sem]
  · rintro ⟨i1, i2, i3⟩ x_1 Bk1 Br1 h1 hnext1 hbrk1 hret1
    refine run_sound T_ok 1000 _ _ ?_
    simp only [heat_furnace_hottest.b0] at h1
    try simp only [F107.s0, heat_furnace_hottest.h0, go_sem]
    refine AKev_bif h1 (fun c6 h1 => ?_) (fun c6 h1 => ?_)
    · try simp only [c6, go_sem]
      obtain ⟨x7, yx7, h1⟩ := bind_some h1
      try simp only [at_in yx7, at_get heat_limit.c yx7, c6, go_sem]
      refine AKev_region T_ok follows_ok 1000 ?_
      try simp only [c6, at_in yx7, at_get heat_limit.c yx7, go_sem]
      obtain ⟨x8, yx8, h1⟩ := bind_some h1
      try simp only [at_in yx8, at_get (eL 2 Range.c) yx8, c6, at_in yx7, at_get heat_limit.c yx7, go_sem]
      obtain ⟨x9, yx9, h1⟩ := bind_some h1
      try simp only [at_in yx9, at_get Range.c yx9, c6, at_in yx7, at_get heat_limit.c yx7, at_in yx8, at_get (eL 2 Range.c) yx8, go_sem]
      refine DG_done ⟨rfl, run_sound T_ok 1000 _ _ ?_⟩
      try simp only [c6, at_in yx7, at_get heat_limit.c yx7, at_in yx8, at_get (eL 2 Range.c) yx8, at_in yx9, at_get Range.c yx9, go_sem]
      refine AKev_bif h1 (fun c10 h1 => ?_) (fun c10 h1 => ?_)
      · try simp only [c10, c6, at_in yx7, at_get heat_limit.c yx7, at_in yx8, at_get (eL 2 Range.c) yx8, at_in yx9, at_get Range.c yx9, go_sem]
        refine AKev_region T_ok follows_ok 1000 ?_
        try simp only [c6, at_in yx7, at_get heat_limit.c yx7, at_in yx8, at_get (eL 2 Range.c) yx8, at_in yx9, at_get Range.c yx9, c10, go_sem]
        refine DG_done ⟨rfl, run_sound T_ok 1000 _ _ ?_⟩
        try simp only [c6, at_in yx7, at_get heat_limit.c yx7, at_in yx8, at_get (eL 2 Range.c) yx8, at_in yx9, at_get Range.c yx9, c10, go_sem]
        refine AKev_backB (hnext1 _ _ (Option.some.inj h1).symm ?_)
        refine Weak.go [1, 2, 6, 7, 12, 13, 14] [0] rfl ?_
        try simp only [heat_furnace_hottest.h0, c6, at_in yx7, at_get heat_limit.c yx7, at_in yx8, at_get (eL 2 Range.c) yx8, at_in yx9, at_get Range.c yx9, c10, go_sem]
      · try simp only [c10, c6, at_in yx7, at_get heat_limit.c yx7, at_in yx8, at_get (eL 2 Range.c) yx8, at_in yx9, at_get Range.c yx9, go_sem]
        refine AKev_backB (hnext1 _ _ (Option.some.inj h1).symm ?_)
        refine Weak.go [1, 2, 6, 7, 12, 13, 14] [0] rfl ?_
        try simp only [heat_furnace_hottest.h0, c6, at_in yx7, at_get heat_limit.c yx7, at_in yx8, at_get (eL 2 Range.c) yx8, at_in yx9, at_get Range.c yx9, c10, go_sem]
    · try simp only [c6, go_sem]
      refine AKev_backB (hbrk1 _ _ (Option.some.inj h1).symm ?_)
      refine Weak.go [6, 7] [] rfl ?_
      try simp only [heat_furnace_hottest.x0, c6, go_sem]
  · rintro ⟨i4, i5⟩ hr_
    subst hr_
    simp only at h0
    refine run_sound T_ok 1000 _ _ ?_
    try simp only [heat_furnace_hottest.x0, go_sem]
    obtain rfl := Option.some.inj h0
    refine AKev_ret rfl ?_
    try simp only [F107.rs, go_sem]
end Go.Abs
namespace Go.Abs
open Go.Proofs
set_option maxRecDepth 20000
set_option linter.unusedVariables false
set_option linter.unusedSimpArgs false
set_option maxHeartbeats 8000000
def F108.s0 : SC :=
 (.seq
  (.reg [⟨some 15, .binOp .lss 3 (.tmp 14) (.tmp 13) 3, 0, none, []⟩])
  (.seq
   (.cond (.tmp 15)
    .skip
    (.exit 0))
   (.seq
    (.block 1
     (.seq
      (.reg [⟨some 16, .indexAddr 79 (.tmp 12) (.tmp 14), 0, none, []⟩,
        ⟨some 17, .load 135 (.tmp 16), 135, none, [16]⟩,
        ⟨some 11, .alloc 135, 0, none, []⟩,
        ⟨none, .store 135 (.tmp 11) (.tmp 17), 0, none, [17]⟩])
      (.seq
       (.reg [⟨some 18, .fieldAddr 135 (.tmp 11) 0, 0, none, []⟩,
         ⟨some 19, .load 3 (.tmp 18), 3, none, [18]⟩,
         ⟨some 20, .move (.tmp 1), 3, none, []⟩,
         ⟨some 21, .binOp .eql 3 (.tmp 19) (.tmp 20) 3, 4, none, [19, 20]⟩,
         ⟨some 22, .move (.tmp 21), 4, none, [21]⟩,
         ⟨some 23, .move (.tmp 9), 4, some (22, true), []⟩,
         ⟨some 24, .unOp .not 4 (.tmp 23), 4, some (22, true), [23]⟩,
         ⟨some 25, .move (.tmp 24), 4, some (22, true), [24]⟩,
         ⟨some 26, .move (.tmp 2), 138, some (25, false), []⟩,
         ⟨some 27, .fieldAddr 135 (.tmp 11) 1, 0, some (25, false), []⟩,
         ⟨some 28, .load 3 (.tmp 27), 3, some (25, false), [27]⟩,
         ⟨some 29, .fieldAddr 135 (.tmp 8) 1, 0, some (25, false), []⟩,
         ⟨some 30, .load 3 (.tmp 29), 3, some (25, false), [29]⟩,
         ⟨some 31, .call ⟨.value (.tmp 26), #[.tmp 28, .tmp 30], #[3, 3]⟩, 4, some (25, false), [26, 28, 30]⟩,
         ⟨some 32, .pick (.tmp 25) (.const (.bool true)) (.tmp 31), 4, some (22, true), [25, 31]⟩,
         ⟨some 33, .pick (.tmp 22) (.tmp 32) (.const (.bool false)), 4, none, [22, 32]⟩])
       (.cond (.tmp 33)
        (.reg [⟨some 34, .load 135 (.tmp 11), 135, none, [11]⟩,
          ⟨none, .store 135 (.tmp 8) (.tmp 34), 0, none, [34]⟩,
          ⟨some 9, .assign (.const (.bool true)), 4, none, []⟩])
        .skip))))
    (.reg [⟨some 35, .binOp .add 3 (.tmp 14) (.const (.int .i64 1)) 3, 3, none, [14]⟩,
      ⟨some 14, .move (.tmp 35), 3, none, [35]⟩]))))
def F108.c : SC :=
 (.seq
  (.reg [⟨some 6, .alloc 135, 0, none, []⟩,
    ⟨some 7, .assign (.const (.bool false)), 4, none, [7]⟩])
  (.seq
   (.reg [⟨some 8, .alloc 135, 0, none, []⟩])
   (.seq
    (.reg [⟨some 9, .assign (.const (.bool false)), 4, none, []⟩])
    (.seq
     (.seq
      (.reg [⟨some 12, .move (.tmp 0), 79, none, [0]⟩,
        ⟨some 13, .call ⟨.builtin .len, #[.tmp 12], #[79]⟩, 3, none, []⟩,
        ⟨some 14, .move (.const (.int .i64 0)), 3, none, []⟩])
      (.block 0
       (.loop F108.s0)))
     (.seq
      (.reg [⟨some 36, .load 135 (.tmp 8), 135, none, [8]⟩,
        ⟨some 37, .move (.tmp 9), 4, none, [9]⟩,
        ⟨none, .store 135 (.tmp 6) (.tmp 36), 0, none, [36]⟩,
        ⟨some 7, .assign (.tmp 37), 4, none, [37]⟩])
      .ret)))))
theorem F108.rs : Tryz.f108.results.toList = [.cell 6 135, .tmp 7] := rfl
def heat_best.b0 (k : Nat) (better2 : Int → Int → Option (Bool)) (l0 : (List heat_limit)) (place1 : Int) : (heat_limit × Bool × Int) → Option (Stp (heat_limit × Bool × Int) (heat_limit × Bool) (heat_limit × Bool)) := fun (s : heat_limit × Bool × Int) => match s with
  | (s1, b2, i3) => 
      bif decide (i3 < (l0.length : Int)) then
        (at? l0 i3).bind fun x7 =>
        bif decide (x7.place = place1) then
          bif b2 then
            (better2 x7.heat s1.heat).bind fun x10 =>
            bif x10 then
              some (.next (x7, true, w64 (i3 + 1)))
            else
              some (.next (s1, b2, w64 (i3 + 1)))
          else
            some (.next (x7, true, w64 (i3 + 1)))
        else
          some (.next (s1, b2, w64 (i3 + 1)))
      else
        some (.brk (s1, b2))
noncomputable def heat_best.h0 (better2_f : Nat) (better2_c : List AV) (l0 : (List heat_limit)) (place1 : Int) : (heat_limit × Bool × Int) → St := fun (s : heat_limit × Bool × Int) => match s with
  | (s1, b2, i3) => ⟨[(1, .int .i64 place1), (2, .fn (.func better2_f) [] better2_c), (6, .ptr 0 0 0), (8, .ptr 0 1 0), (9, .bool b2), (12, .sl 3 (List.map heat_limit.c l0)), (13, .int .i64 (l0.length : Int)), (14, .int .i64 i3)], [(0, .box [.int .i64 0, .int .i64 0, .int .i64 0]), (1, .box [.int .i64 s1.place, .int .i64 s1.heat, .int .i64 s1.by_])], [], 2, Tryz.f108.ntmps⟩
noncomputable def heat_best.x0 : (heat_limit × Bool) → St := fun (s : heat_limit × Bool) => match s with
  | (s4, b5) => ⟨[(6, .ptr 0 0 0), (8, .ptr 0 1 0), (9, .bool b5)], [(0, .box [.int .i64 0, .int .i64 0, .int .i64 0]), (1, .box [.int .i64 s4.place, .int .i64 s4.heat, .int .i64 s4.by_])], [], 2, Tryz.f108.ntmps⟩
def heat_best (k : Nat) (l0 : (List heat_limit)) (place1 : Int) (better2 : Int → Int → Option (Bool)) : Option (heat_limit × Bool) :=
  (whl (heat_best.b0 k better2 l0 place1) k ((⟨0, 0, 0⟩ : heat_limit), false, 0)).bind fun r12 => match r12 with
  | .next _ => none
  | .ret v_ => some v_
  | .brk (s4, b5) =>
    some (s4, b5)
theorem heat_best_ok (k : Nat) (l0 : (List heat_limit)) (place1 : Int) (better2_f : Nat) (better2_c : List AV) (better2_i : Ice better2_c) (better2 : Int → Int → Option (Bool)) (better2_h : ∀ q0 q1 qr, better2 q0 q1 = some qr → PCall Tryz.prog better2_f (.int .i64 q0 :: .int .i64 q1 :: better2_c) (fun y => y = .bool qr)) (r : heat_limit × Bool) (h0 : heat_best k l0 place1 better2 = some r) : PCall Tryz.prog 108 [.sl 3 (List.map heat_limit.c l0), .int .i64 place1, .fn (.func better2_f) [] better2_c] (fun y => y = .tup [.agg (heat_limit.c r.1), .bool r.2]) := by
  refine PCall.nlr (PCall.of_body T_ok (fn := Tryz.f108) (sc := F108.c) (by rfl) (by rfl) (by decide +kernel) (by rfl) (by decide +kernel) (Nat.le_of_ble_eq_true rfl) ?_)
  refine run_sound T_ok 1000 _ _ ?_
  simp only [heat_best] at h0
  try simp only [F108.c, better2_i.sh, better2_i.frz, better2_i.br, better2_i.refs, better2_i.imp, better2_i.ren, better2_i.un, go_sem]
  obtain ⟨r12, yr12, h0⟩ := bind_some h0
  refine AKev_loopS yr12 (heat_best.h0 better2_f better2_c l0 place1) (heat_best.x0) ?_ ?_ ?_
  · refine Weak.go [1, 2, 6, 8, 9, 12, 13, 14] [0, 32] rfl ?_
    try simp only [heat_best.h0, better2_i.sh, better2_i.frz, better2_i.br, better2_i.refs, better2_i.imp, better2_i.ren, better2_i.un, go_sem]
  · rintro ⟨s1, b2, i3⟩ x_1 Bk1 Br1 h1 hnext1 hbrk1 hret1
    refine run_sound T_ok 1000 _ _ ?_
    simp only [heat_best.b0] at h1
    try simp only [F108.s0, heat_best.h0, better2_i.sh, better2_i.frz, better2_i.br, better2_i.refs, better2_i.imp, better2_i.ren, better2_i.un, go_sem]
    refine AKev_bif h1 (fun c6 h1 => ?_) (fun c6 h1 => ?_)
    · try simp only [c6, better2_i.sh, better2_i.frz, better2_i.br, better2_i.refs, better2_i.imp, better2_i.ren, better2_i.un, go_sem]
      obtain ⟨x7, yx7, h1⟩ := bind_some h1
      try simp only [at_in yx7, at_get heat_limit.c yx7, better2_i.sh, better2_i.frz, better2_i.br, better2_i.refs, better2_i.imp, better2_i.ren, better2_i.un, c6, go_sem]
      refine AKev_bif h1 (fun c8 h1 => ?_) (fun c8 h1 => ?_)
      · try simp only [c8, better2_i.sh, better2_i.frz, better2_i.br, better2_i.refs, better2_i.imp, better2_i.ren, better2_i.un, c6, at_in yx7, at_get heat_limit.c yx7, go_sem]
        refine AKev_bif h1 (fun c9 h1 => ?_) (fun c9 h1 => ?_)
        · try simp only [c9, better2_i.sh, better2_i.frz, better2_i.br, better2_i.refs, better2_i.imp, better2_i.ren, better2_i.un, c6, at_in yx7, at_get heat_limit.c yx7, c8, go_sem]
          obtain ⟨x10, yx10, h1⟩ := bind_some h1
          refine AKev_call0 T_ok 1000 (better2_h _ _ _ yx10) ?_ (by first | rfl | simp [AV.refsL, AV.refs, AV.scal, AV.leaf, better2_i.refs]) ?_
          · try simp only [better2_i.sh, better2_i.frz, better2_i.br, better2_i.refs, better2_i.imp, better2_i.ren, better2_i.un, c6, at_in yx7, at_get heat_limit.c yx7, c8, c9, go_sem]
          try simp only [better2_i.sh, better2_i.frz, better2_i.br, better2_i.refs, better2_i.imp, better2_i.ren, better2_i.un, c6, at_in yx7, at_get heat_limit.c yx7, c8, c9, go_sem]
          refine AKev_bif h1 (fun c11 h1 => ?_) (fun c11 h1 => ?_)
          · try simp only [c11, better2_i.sh, better2_i.frz, better2_i.br, better2_i.refs, better2_i.imp, better2_i.ren, better2_i.un, c6, at_in yx7, at_get heat_limit.c yx7, c8, c9, go_sem]
            refine AKev_backB (hnext1 _ _ (Option.some.inj h1).symm ?_)
            refine Weak.go [1, 2, 6, 8, 9, 12, 13, 14] [0, 1] rfl ?_
            try simp only [heat_best.h0, better2_i.sh, better2_i.frz, better2_i.br, better2_i.refs, better2_i.imp, better2_i.ren, better2_i.un, c6, at_in yx7, at_get heat_limit.c yx7, c8, c9, c11, go_sem]
          · try simp only [c11, better2_i.sh, better2_i.frz, better2_i.br, better2_i.refs, better2_i.imp, better2_i.ren, better2_i.un, c6, at_in yx7, at_get heat_limit.c yx7, c8, c9, go_sem]
            refine AKev_backB (hnext1 _ _ (Option.some.inj h1).symm ?_)
            refine Weak.go [1, 2, 6, 8, 9, 12, 13, 14] [0, 1] rfl ?_
            try simp only [heat_best.h0, better2_i.sh, better2_i.frz, better2_i.br, better2_i.refs, better2_i.imp, better2_i.ren, better2_i.un, c6, at_in yx7, at_get heat_limit.c yx7, c8, c9, c11, go_sem]
        · try simp only [c9, better2_i.sh, better2_i.frz, better2_i.br, better2_i.refs, better2_i.imp, better2_i.ren, better2_i.un, c6, at_in yx7, at_get heat_limit.c yx7, c8, go_sem]
          refine AKev_backB (hnext1 _ _ (Option.some.inj h1).symm ?_)
          refine Weak.go [1, 2, 6, 8, 9, 12, 13, 14] [0, 1] rfl ?_
          try simp only [heat_best.h0, better2_i.sh, better2_i.frz, better2_i.br, better2_i.refs, better2_i.imp, better2_i.ren, better2_i.un, c6, at_in yx7, at_get heat_limit.c yx7, c8, c9, go_sem]
      · try simp only [c8, better2_i.sh, better2_i.frz, better2_i.br, better2_i.refs, better2_i.imp, better2_i.ren, better2_i.un, c6, at_in yx7, at_get heat_limit.c yx7, go_sem]
        refine AKev_backB (hnext1 _ _ (Option.some.inj h1).symm ?_)
        refine Weak.go [1, 2, 6, 8, 9, 12, 13, 14] [0, 1] rfl ?_
        try simp only [heat_best.h0, better2_i.sh, better2_i.frz, better2_i.br, better2_i.refs, better2_i.imp, better2_i.ren, better2_i.un, c6, at_in yx7, at_get heat_limit.c yx7, c8, go_sem]
    · try simp only [c6, better2_i.sh, better2_i.frz, better2_i.br, better2_i.refs, better2_i.imp, better2_i.ren, better2_i.un, go_sem]
      refine AKev_backB (hbrk1 _ _ (Option.some.inj h1).symm ?_)
      refine Weak.go [6, 8, 9] [0, 1] rfl ?_
      try simp only [heat_best.x0, better2_i.sh, better2_i.frz, better2_i.br, better2_i.refs, better2_i.imp, better2_i.ren, better2_i.un, c6, go_sem]
  · rintro ⟨s4, b5⟩ hr_
    subst hr_
    simp only at h0
    refine run_sound T_ok 1000 _ _ ?_
    try simp only [heat_best.x0, better2_i.sh, better2_i.frz, better2_i.br, better2_i.refs, better2_i.imp, better2_i.ren, better2_i.un, go_sem]
    obtain rfl := Option.some.inj h0
    refine AKev_ret rfl ?_
    try simp only [F108.rs, better2_i.sh, better2_i.frz, better2_i.br, better2_i.refs, better2_i.imp, better2_i.ren, better2_i.un, go_sem]
end Go.Abs
namespace Go.Abs
open Go.Proofs
set_option maxRecDepth 20000
set_option linter.unusedVariables false
set_option linter.unusedSimpArgs false
set_option maxHeartbeats 8000000
def F109.c : SC :=
 (.seq
  (.reg [⟨some 4, .assign (.const (.bool false)), 4, none, [4]⟩])
  (.seq
   (.reg [⟨some 5, .move (.tmp 0), 3, none, [0]⟩,
     ⟨some 6, .move (.tmp 1), 3, none, [1]⟩,
     ⟨some 7, .binOp .lss 3 (.tmp 5) (.tmp 6) 3, 4, none, [5, 6]⟩,
     ⟨some 4, .assign (.tmp 7), 4, none, [7]⟩])
   .ret))
theorem F109.rs : Tryz.f109.results.toList = [.tmp 4] := rfl
def heat_less (k : Nat) (a0 : Int) (b1 : Int) : Option (Bool) :=
  some (decide (a0 < b1))
theorem heat_less_ok (k : Nat) (a0 : Int) (b1 : Int) (r : Bool) (h0 : heat_less k a0 b1 = some r) : PCall Tryz.prog 109 [.int .i64 a0, .int .i64 b1] (fun y => y = .bool r) := by
  refine PCall.nlr (PCall.of_body T_ok (fn := Tryz.f109) (sc := F109.c) (by rfl) (by rfl) (by decide +kernel) (by rfl) (by decide +kernel) (Nat.le_of_ble_eq_true rfl) ?_)
  refine run_sound T_ok 1000 _ _ ?_
  simp only [heat_less] at h0
  try simp only [F109.c, go_sem]
  obtain rfl := Option.some.inj h0
  refine AKev_ret rfl ?_
  try simp only [F109.rs, go_sem]
end Go.Abs
namespace Go.Abs
open Go.Proofs
set_option maxRecDepth 20000
set_option linter.unusedVariables false
set_option linter.unusedSimpArgs false
set_option maxHeartbeats 8000000
def F110.s0 : SC :=
 (.seq
  (.reg [⟨some 16, .binOp .lss 3 (.tmp 15) (.tmp 14) 3, 4, none, []⟩])
  (.seq
   (.cond (.tmp 16)
    .skip
    (.exit 0))
   (.seq
    (.block 1
     (.seq
      (.reg [⟨some 17, .move (.tmp 15), 3, none, []⟩,
        ⟨some 7, .assign (.tmp 17), 3, none, [17]⟩])
      (.seq
       (.seq
        (.reg [⟨some 19, .load 81 (.tmp 3), 81, none, []⟩,
          ⟨some 20, .move (.tmp 7), 3, none, []⟩,
          ⟨some 21, .call ⟨.value (.func 107), #[.tmp 19, .tmp 20], #[81, 3]⟩, 132, none, [19, 20]⟩,
          ⟨some 18, .move (.tmp 21), 132, none, [21]⟩,
          ⟨some 22, .extract (.tmp 18) 0, 3, none, []⟩,
          ⟨some 23, .extract (.tmp 18) 1, 3, none, [18]⟩,
          ⟨some 8, .assign (.tmp 22), 3, none, [22]⟩,
          ⟨some 9, .assign (.tmp 23), 3, none, [9, 23]⟩])
        (.seq
         (.reg [⟨some 24, .move (.tmp 8), 3, none, []⟩,
           ⟨some 25, .binOp .lss 3 (.tmp 24) (.const (.int .i64 0)) 3, 4, none, [24]⟩,
           ⟨some 26, .move (.tmp 25), 4, none, [25]⟩,
           ⟨some 27, .move (.tmp 8), 3, some (26, false), [8]⟩,
           ⟨some 28, .fieldAddr 81 (.tmp 3) 0, 0, some (26, false), []⟩,
           ⟨some 29, .fieldAddr 27 (.tmp 28) 0, 0, some (26, false), [28]⟩,
           ⟨some 30, .fieldAddr 24 (.tmp 29) 0, 0, some (26, false), [29]⟩,
           ⟨some 31, .load 22 (.tmp 30), 22, some (26, false), [30]⟩,
           ⟨some 32, .move (.tmp 7), 3, some (26, false), [7]⟩,
           ⟨some 33, .indexAddr 22 (.tmp 31) (.tmp 32), 0, some (26, false), [31, 32]⟩,
           ⟨some 34, .load 89 (.tmp 33), 89, some (26, false), [33]⟩,
           ⟨some 35, .move (.tmp 1), 3, some (26, false), []⟩,
           ⟨some 36, .indexAddr 89 (.tmp 34) (.tmp 35), 0, some (26, false), [34, 35]⟩,
           ⟨some 37, .fieldAddr 30 (.tmp 36) 0, 0, some (26, false), [36]⟩,
           ⟨some 38, .load 3 (.tmp 37), 3, some (26, false), [37]⟩,
           ⟨some 39, .binOp .sub 3 (.tmp 27) (.tmp 38) 3, 3, some (26, false), [27, 38]⟩,
           ⟨some 40, .move (.tmp 2), 3, some (26, false), []⟩,
           ⟨some 41, .binOp .lss 3 (.tmp 39) (.tmp 40) 3, 4, some (26, false), [39, 40]⟩,
           ⟨some 42, .pick (.tmp 26) (.const (.bool true)) (.tmp 41), 4, none, [26, 41]⟩])
         (.cond (.tmp 42)
          (.exit 1)
          .skip)))
       (.seq
        (.reg [⟨some 6, .assign (.const (.bool true)), 4, none, []⟩])
        .ret))))
    (.reg [⟨some 43, .binOp .add 3 (.tmp 15) (.const (.int .i64 1)) 3, 3, none, [15]⟩,
      ⟨some 15, .move (.tmp 43), 3, none, [43]⟩]))))
def F110.c : SC :=
 (.seq
  (.reg [⟨some 3, .box 81 (.tmp 0), 0, none, [0]⟩,
    ⟨some 6, .assign (.const (.bool false)), 4, none, [6]⟩])
  (.seq
   .skip
   (.seq
    (.seq
     (.reg [⟨some 10, .fieldAddr 81 (.tmp 3) 0, 0, none, []⟩,
       ⟨some 11, .fieldAddr 27 (.tmp 10) 0, 0, none, [10]⟩,
       ⟨some 12, .fieldAddr 24 (.tmp 11) 0, 0, none, [11]⟩,
       ⟨some 13, .load 22 (.tmp 12), 22, none, [12]⟩,
       ⟨some 14, .call ⟨.builtin .len, #[.tmp 13], #[22]⟩, 3, none, [13]⟩,
       ⟨some 15, .move (.const (.int .i64 0)), 3, none, []⟩])
     (.block 0
      (.loop F110.s0)))
    (.seq
     (.reg [⟨some 6, .assign (.const (.bool false)), 4, none, []⟩])
     .ret))))
theorem F110.rs : Tryz.f110.results.toList = [.tmp 6] := rfl
def heat_furnace_reaches.b0 (k : Nat) (f0 : heat_furnace) (place1 : Int) (heat2 : Int) : Int → Option (Stp (Int) (Unit) (Bool)) := fun (i1 : Int) => 
  bif decide (i1 < (f0.Firing.Kiln.Falls.length : Int)) then
    (heat_furnace_hottest k f0 i1).bind fun x3 =>
    bif (!decide (x3.1 < (0 : Int))) then
      (at? f0.Firing.Kiln.Falls i1).bind fun x5 =>
      (at? x5 place1).bind fun x6 =>
      bif decide (w64 (x3.1 - x6.Lo) < heat2) then
        some (.next (w64 (i1 + 1)))
      else
        some (.ret true)
    else
      some (.next (w64 (i1 + 1)))
  else
    some (.brk ())
noncomputable def heat_furnace_reaches.h0 (f0 : heat_furnace) (place1 : Int) (heat2 : Int) : Int → St := fun (i1 : Int) => ⟨[(1, .int .i64 place1), (2, .int .i64 heat2), (3, .ptr 0 0 0), (14, .int .i64 (f0.Firing.Kiln.Falls.length : Int)), (15, .int .i64 i1)], [(0, .box [.sl 1 (List.map (eL 2 Range.c) f0.Firing.Kiln.Falls), .sl 6 (List.map Reading.c f0.Firing.Readings), .sl 3 (List.map heat_limit.c f0.least), .sl 3 (List.map heat_limit.c f0.most)])], [], 1, Tryz.f110.ntmps⟩
noncomputable def heat_furnace_reaches.x0 : Unit → St := fun (_ : Unit) => ⟨[], [], [], 1, Tryz.f110.ntmps⟩
def heat_furnace_reaches (k : Nat) (f0 : heat_furnace) (place1 : Int) (heat2 : Int) : Option (Bool) :=
  (whl (heat_furnace_reaches.b0 k f0 place1 heat2) k 0).bind fun r8 => match r8 with
  | .next _ => none
  | .ret v_ => some v_
  | .brk _ =>
    some false
theorem heat_furnace_reaches_ok (k : Nat) (f0 : heat_furnace) (place1 : Int) (heat2 : Int) (r : Bool) (h0 : heat_furnace_reaches k f0 place1 heat2 = some r) : PCall Tryz.prog 110 [.agg (heat_furnace.c f0), .int .i64 place1, .int .i64 heat2] (fun y => y = .bool r) := by
  refine PCall.nlr (PCall.of_body T_ok (fn := Tryz.f110) (sc := F110.c) (by rfl) (by rfl) (by decide +kernel) (by rfl) (by decide +kernel) (Nat.le_of_ble_eq_true rfl) ?_)
  refine run_sound T_ok 1000 _ _ ?_
  simp only [heat_furnace_reaches] at h0
  try simp only [F110.c, go_sem]
  obtain ⟨r8, yr8, h0⟩ := bind_some h0
  refine AKev_loopS yr8 (heat_furnace_reaches.h0 f0 place1 heat2) (heat_furnace_reaches.x0) ?_ ?_ ?_
  · refine Weak.go [1, 2, 3, 14, 15] [0] rfl ?_
    try simp only [heat_furnace_reaches.h0, go_sem]
  · rintro i1 x_1 Bk1 Br1 h1 hnext1 hbrk1 hret1
    refine run_sound T_ok 1000 _ _ ?_
    simp only [heat_furnace_reaches.b0] at h1
    try simp only [F110.s0, heat_furnace_reaches.h0, go_sem]
    refine AKev_bif h1 (fun c2 h1 => ?_) (fun c2 h1 => ?_)
    · try simp only [c2, go_sem]
      obtain ⟨x3, yx3, h1⟩ := bind_some h1
      refine AKev_call0 T_ok 1000 (heat_furnace_hottest_ok k _ _ _ yx3) ?_ (by first | rfl | simp [AV.refsL, AV.refs, AV.scal, AV.leaf]) ?_
      · try simp only [c2, go_sem]
      try simp only [c2, go_sem]
      refine AKev_bif h1 (fun c4 h1 => ?_) (fun c4 h1 => ?_)
      · have c4 := bnot_t c4
        try simp only [c4, c2, go_sem]
        obtain ⟨x5, yx5, h1⟩ := bind_some h1
        try simp only [at_in yx5, at_get (eL 2 Range.c) yx5, c2, c4, go_sem]
        obtain ⟨x6, yx6, h1⟩ := bind_some h1
        try simp only [at_in yx6, at_get Range.c yx6, c2, c4, at_in yx5, at_get (eL 2 Range.c) yx5, go_sem]
        refine AKev_bif h1 (fun c7 h1 => ?_) (fun c7 h1 => ?_)
        · try simp only [c7, c2, c4, at_in yx5, at_get (eL 2 Range.c) yx5, at_in yx6, at_get Range.c yx6, go_sem]
          refine AKev_backB (hnext1 _ _ (Option.some.inj h1).symm ?_)
          refine Weak.go [1, 2, 3, 14, 15] [0] rfl ?_
          try simp only [heat_furnace_reaches.h0, c2, c4, at_in yx5, at_get (eL 2 Range.c) yx5, at_in yx6, at_get Range.c yx6, c7, go_sem]
        · try simp only [c7, c2, c4, at_in yx5, at_get (eL 2 Range.c) yx5, at_in yx6, at_get Range.c yx6, go_sem]
          obtain rfl := hret1 _ (Option.some.inj h1).symm
          simp only at h0
          obtain rfl := Option.some.inj h0
          refine AKev_ret rfl ?_
          try simp only [F110.rs, c2, c4, at_in yx5, at_get (eL 2 Range.c) yx5, at_in yx6, at_get Range.c yx6, c7, go_sem]
      · have c4 := bnot_f c4
        try simp only [c4, c2, go_sem]
        refine AKev_backB (hnext1 _ _ (Option.some.inj h1).symm ?_)
        refine Weak.go [1, 2, 3, 14, 15] [0] rfl ?_
        try simp only [heat_furnace_reaches.h0, c2, c4, go_sem]
    · try simp only [c2, go_sem]
      refine AKev_backB (hbrk1 _ _ (Option.some.inj h1).symm ?_)
      refine Weak.go [] [] rfl ?_
      try simp only [heat_furnace_reaches.x0, c2, go_sem]
  · rintro _ hr_
    subst hr_
    simp only at h0
    refine run_sound T_ok 1000 _ _ ?_
    try simp only [heat_furnace_reaches.x0, go_sem]
    obtain rfl := Option.some.inj h0
    refine AKev_ret rfl ?_
    try simp only [F110.rs, go_sem]
end Go.Abs
namespace Go.Abs
open Go.Proofs
set_option maxRecDepth 20000
set_option linter.unusedVariables false
set_option linter.unusedSimpArgs false
set_option maxHeartbeats 8000000
def F53.s1 : SC :=
 (.seq
  (.reg [⟨some 31, .binOp .lss 3 (.tmp 30) (.tmp 29) 3, 0, none, []⟩])
  (.seq
   (.cond (.tmp 31)
    .skip
    (.exit 2))
   (.seq
    (.block 3
     (.seq
      (.reg [⟨some 32, .indexAddr 79 (.tmp 28) (.tmp 30), 0, none, []⟩,
        ⟨some 33, .load 135 (.tmp 32), 135, none, [32]⟩,
        ⟨some 7, .alloc 135, 0, none, []⟩,
        ⟨none, .store 135 (.tmp 7) (.tmp 33), 0, none, [33]⟩])
      (.seq
       (.reg [⟨some 35, .fieldAddr 81 (.tmp 1) 2, 0, none, []⟩,
         ⟨some 36, .load 79 (.tmp 35), 79, none, [35]⟩,
         ⟨some 37, .fieldAddr 135 (.tmp 7) 0, 0, none, []⟩,
         ⟨some 38, .load 3 (.tmp 37), 3, none, [37]⟩,
         ⟨some 39, .call ⟨.value (.func 108), #[.tmp 36, .tmp 38, .func 109], #[79, 3, 138]⟩, 136, none, [36, 38]⟩,
         ⟨some 34, .move (.tmp 39), 136, none, [39]⟩,
         ⟨some 40, .extract (.tmp 34) 0, 135, none, []⟩,
         ⟨some 41, .extract (.tmp 34) 1, 4, none, [34]⟩,
         ⟨some 8, .alloc 135, 0, none, []⟩,
         ⟨none, .store 135 (.tmp 8) (.tmp 40), 0, none, [40]⟩,
         ⟨some 9, .assign (.tmp 41), 4, none, [41]⟩])
       (.seq
        (.reg [⟨some 42, .move (.tmp 9), 4, none, [9]⟩,
          ⟨some 43, .move (.tmp 42), 4, none, [42]⟩,
          ⟨some 44, .fieldAddr 135 (.tmp 8) 1, 0, some (43, true), [8]⟩,
          ⟨some 45, .load 3 (.tmp 44), 3, some (43, true), [44]⟩,
          ⟨some 46, .fieldAddr 135 (.tmp 7) 1, 0, some (43, true), []⟩,
          ⟨some 47, .load 3 (.tmp 46), 3, some (43, true), [46]⟩,
          ⟨some 48, .binOp .lss 3 (.tmp 45) (.tmp 47) 3, 4, some (43, true), [45, 47]⟩,
          ⟨some 49, .pick (.tmp 43) (.tmp 48) (.const (.bool false)), 4, none, [43, 48]⟩,
          ⟨some 50, .move (.tmp 49), 4, none, [49]⟩,
          ⟨some 51, .load 81 (.tmp 1), 81, some (50, false), []⟩,
          ⟨some 52, .fieldAddr 135 (.tmp 7) 0, 0, some (50, false), []⟩,
          ⟨some 53, .load 3 (.tmp 52), 3, some (50, false), [52]⟩,
          ⟨some 54, .fieldAddr 135 (.tmp 7) 1, 0, some (50, false), [7]⟩,
          ⟨some 55, .load 3 (.tmp 54), 3, some (50, false), [54]⟩,
          ⟨some 56, .call ⟨.value (.func 110), #[.tmp 51, .tmp 53, .tmp 55], #[81, 3, 3]⟩, 4, some (50, false), [51, 53, 55]⟩,
          ⟨some 57, .unOp .not 4 (.tmp 56), 4, some (50, false), [56]⟩,
          ⟨some 58, .pick (.tmp 50) (.const (.bool true)) (.tmp 57), 4, none, [50, 57]⟩])
        (.cond (.tmp 58)
         (.seq
          (.reg [⟨some 2, .assign (.const (.bool false)), 4, none, []⟩])
          .ret)
         .skip)))))
    (.reg [⟨some 59, .binOp .add 3 (.tmp 30) (.const (.int .i64 1)) 3, 3, none, [30]⟩,
      ⟨some 30, .move (.tmp 59), 3, none, [59]⟩]))))
def F53.s0 : SC :=
 (.seq
  (.reg [⟨some 16, .binOp .lss 3 (.tmp 15) (.tmp 14) 3, 4, none, []⟩])
  (.seq
   (.cond (.tmp 16)
    .skip
    (.exit 0))
   (.seq
    (.block 1
     (.seq
      (.reg [⟨some 17, .move (.tmp 15), 3, none, []⟩,
        ⟨some 3, .assign (.tmp 17), 3, none, [17]⟩])
      (.seq
       (.reg [⟨some 19, .load 81 (.tmp 1), 81, none, []⟩,
         ⟨some 20, .move (.tmp 3), 3, none, [3]⟩,
         ⟨some 21, .call ⟨.value (.func 107), #[.tmp 19, .tmp 20], #[81, 3]⟩, 132, none, [19, 20]⟩,
         ⟨some 18, .move (.tmp 21), 132, none, [21]⟩,
         ⟨some 22, .extract (.tmp 18) 0, 3, none, []⟩,
         ⟨some 23, .extract (.tmp 18) 1, 3, none, [18]⟩,
         ⟨some 4, .assign (.tmp 22), 3, none, [22]⟩,
         ⟨some 5, .assign (.tmp 23), 3, none, [5, 23]⟩])
       (.seq
        (.reg [⟨some 24, .move (.tmp 4), 3, none, [4]⟩,
          ⟨some 25, .binOp .lss 3 (.tmp 24) (.const (.int .i64 0)) 3, 4, none, [24]⟩])
        (.cond (.tmp 25)
         (.seq
          (.reg [⟨some 2, .assign (.const (.bool false)), 4, none, []⟩])
          .ret)
         .skip)))))
    (.reg [⟨some 26, .binOp .add 3 (.tmp 15) (.const (.int .i64 1)) 3, 3, none, [15]⟩,
      ⟨some 15, .move (.tmp 26), 3, none, [26]⟩]))))
def F53.c : SC :=
 (.seq
  (.reg [⟨some 1, .box 81 (.tmp 0), 0, none, [0]⟩,
    ⟨some 2, .assign (.const (.bool false)), 4, none, [2]⟩])
  (.seq
   (.seq
    (.reg [⟨some 10, .fieldAddr 81 (.tmp 1) 0, 0, none, []⟩,
      ⟨some 11, .fieldAddr 27 (.tmp 10) 0, 0, none, [10]⟩,
      ⟨some 12, .fieldAddr 24 (.tmp 11) 0, 0, none, [11]⟩,
      ⟨some 13, .load 22 (.tmp 12), 22, none, [12]⟩,
      ⟨some 14, .call ⟨.builtin .len, #[.tmp 13], #[22]⟩, 3, none, [13]⟩,
      ⟨some 15, .move (.const (.int .i64 0)), 3, none, []⟩])
    (.block 0
     (.loop F53.s0)))
   (.seq
    (.seq
     (.reg [⟨some 27, .fieldAddr 81 (.tmp 1) 1, 0, none, []⟩,
       ⟨some 28, .load 79 (.tmp 27), 79, none, [27]⟩,
       ⟨some 29, .call ⟨.builtin .len, #[.tmp 28], #[79]⟩, 3, none, []⟩,
       ⟨some 30, .move (.const (.int .i64 0)), 3, none, []⟩])
     (.block 2
      (.loop F53.s1)))
    (.seq
     (.reg [⟨some 2, .assign (.const (.bool true)), 4, none, []⟩])
     .ret))))
theorem F53.rs : Tryz.f53.results.toList = [.tmp 2] := rfl
def heat_furnace_sound.b0 (k : Nat) (f0 : heat_furnace) : Int → Option (Stp (Int) (Unit) (Bool)) := fun (i1 : Int) => 
  bif decide (i1 < (f0.Firing.Kiln.Falls.length : Int)) then
    (heat_furnace_hottest k f0 i1).bind fun x3 =>
    bif decide (x3.1 < (0 : Int)) then
      some (.ret false)
    else
      some (.next (w64 (i1 + 1)))
  else
    some (.brk ())
def heat_furnace_sound.b1 (k : Nat) (f0 : heat_furnace) : Int → Option (Stp (Int) (Unit) (Bool)) := fun (i6 : Int) => 
  bif decide (i6 < (f0.least.length : Int)) then
    (at? f0.least i6).bind fun x8 =>
    (heat_best k f0.most x8.place (fun q0 q1 => heat_less k q0 q1)).bind fun x9 =>
    bif x9.2 then
      bif (!decide (x9.1.heat < x8.heat)) then
        (heat_furnace_reaches k f0 x8.place x8.heat).bind fun x12 =>
        bif (!x12) then
          some (.ret false)
        else
          some (.next (w64 (i6 + 1)))
      else
        some (.ret false)
    else
      (heat_furnace_reaches k f0 x8.place x8.heat).bind fun x14 =>
      bif (!x14) then
        some (.ret false)
      else
        some (.next (w64 (i6 + 1)))
  else
    some (.brk ())
noncomputable def heat_furnace_sound.h0 (f0 : heat_furnace) : Int → St := fun (i1 : Int) => ⟨[(1, .ptr 0 0 0), (14, .int .i64 (f0.Firing.Kiln.Falls.length : Int)), (15, .int .i64 i1)], [(0, .box [.sl 1 (List.map (eL 2 Range.c) f0.Firing.Kiln.Falls), .sl 6 (List.map Reading.c f0.Firing.Readings), .sl 3 (List.map heat_limit.c f0.least), .sl 3 (List.map heat_limit.c f0.most)])], [], 1, Tryz.f53.ntmps⟩
noncomputable def heat_furnace_sound.x0 (f0 : heat_furnace) : Unit → St := fun (_ : Unit) => ⟨[(1, .ptr 0 0 0)], [(0, .box [.sl 1 (List.map (eL 2 Range.c) f0.Firing.Kiln.Falls), .sl 6 (List.map Reading.c f0.Firing.Readings), .sl 3 (List.map heat_limit.c f0.least), .sl 3 (List.map heat_limit.c f0.most)])], [], 1, Tryz.f53.ntmps⟩
noncomputable def heat_furnace_sound.h1 (f0 : heat_furnace) : Int → St := fun (i6 : Int) => ⟨[(1, .ptr 0 0 0), (28, .sl 3 (List.map heat_limit.c f0.least)), (29, .int .i64 (f0.least.length : Int)), (30, .int .i64 i6)], [(0, .box [.sl 1 (List.map (eL 2 Range.c) f0.Firing.Kiln.Falls), .sl 6 (List.map Reading.c f0.Firing.Readings), .sl 3 (List.map heat_limit.c f0.least), .sl 3 (List.map heat_limit.c f0.most)])], [], 1, Tryz.f53.ntmps⟩
noncomputable def heat_furnace_sound.x1 : Unit → St := fun (_ : Unit) => ⟨[], [], [], 1, Tryz.f53.ntmps⟩
def heat_furnace_sound (k : Nat) (f0 : heat_furnace) : Option (Bool) :=
  (whl (heat_furnace_sound.b0 k f0) k 0).bind fun r5 => match r5 with
  | .next _ => none
  | .ret v_ => some v_
  | .brk _ =>
    (whl (heat_furnace_sound.b1 k f0) k 0).bind fun r16 => match r16 with
    | .next _ => none
    | .ret v_ => some v_
    | .brk _ =>
      some true
theorem heat_furnace_sound_ok (k : Nat) (f0 : heat_furnace) (r : Bool) (h0 : heat_furnace_sound k f0 = some r) : PCall Tryz.prog 53 [.agg (heat_furnace.c f0)] (fun y => y = .bool r) := by
  refine PCall.nlr (PCall.of_body T_ok (fn := Tryz.f53) (sc := F53.c) (by rfl) (by rfl) (by decide +kernel) (by rfl) (by decide +kernel) (Nat.le_of_ble_eq_true rfl) ?_)
  refine run_sound T_ok 1000 _ _ ?_
  simp only [heat_furnace_sound] at h0
  try simp only [F53.c, go_sem]
  obtain ⟨r5, yr5, h0⟩ := bind_some h0
  refine AKev_loopS yr5 (heat_furnace_sound.h0 f0) (heat_furnace_sound.x0 f0) ?_ ?_ ?_
  · refine Weak.go [1, 14, 15] [0] rfl ?_
    try simp only [heat_furnace_sound.h0, go_sem]
  · rintro i1 x_1 Bk1 Br1 h1 hnext1 hbrk1 hret1
    refine run_sound T_ok 1000 _ _ ?_
    simp only [heat_furnace_sound.b0] at h1
    try simp only [F53.s0, heat_furnace_sound.h0, go_sem]
    refine AKev_bif h1 (fun c2 h1 => ?_) (fun c2 h1 => ?_)
    · try simp only [c2, go_sem]
      obtain ⟨x3, yx3, h1⟩ := bind_some h1
      refine AKev_call0 T_ok 1000 (heat_furnace_hottest_ok k _ _ _ yx3) ?_ (by first | rfl | simp [AV.refsL, AV.refs, AV.scal, AV.leaf]) ?_
      · try simp only [c2, go_sem]
      try simp only [c2, go_sem]
      refine AKev_bif h1 (fun c4 h1 => ?_) (fun c4 h1 => ?_)
      · try simp only [c4, c2, go_sem]
        obtain rfl := hret1 _ (Option.some.inj h1).symm
        simp only at h0
        obtain rfl := Option.some.inj h0
        refine AKev_ret rfl ?_
        try simp only [F53.rs, c2, c4, go_sem]
      · try simp only [c4, c2, go_sem]
        refine AKev_backB (hnext1 _ _ (Option.some.inj h1).symm ?_)
        refine Weak.go [1, 14, 15] [0] rfl ?_
        try simp only [heat_furnace_sound.h0, c2, c4, go_sem]
    · try simp only [c2, go_sem]
      refine AKev_backB (hbrk1 _ _ (Option.some.inj h1).symm ?_)
      refine Weak.go [1] [0] rfl ?_
      try simp only [heat_furnace_sound.x0, c2, go_sem]
  · rintro _ hr_
    subst hr_
    simp only at h0
    refine run_sound T_ok 1000 _ _ ?_
    try simp only [heat_furnace_sound.x0, go_sem]
    obtain ⟨r16, yr16, h0⟩ := bind_some h0
    refine AKev_loopS yr16 (heat_furnace_sound.h1 f0) (heat_furnace_sound.x1) ?_ ?_ ?_
    · refine Weak.go [1, 28, 29, 30] [0] rfl ?_
      try simp only [heat_furnace_sound.h1, go_sem]
    · rintro i6 x_1 Bk1 Br1 h1 hnext1 hbrk1 hret1
      refine run_sound T_ok 1000 _ _ ?_
      simp only [heat_furnace_sound.b1] at h1
      try simp only [F53.s1, heat_furnace_sound.h1, go_sem]
      refine AKev_bif h1 (fun c7 h1 => ?_) (fun c7 h1 => ?_)
      · try simp only [c7, go_sem]
        obtain ⟨x8, yx8, h1⟩ := bind_some h1
        try simp only [at_in yx8, at_get heat_limit.c yx8, c7, go_sem]
        obtain ⟨x9, yx9, h1⟩ := bind_some h1
        refine AKev_call0 T_ok 1000 (heat_best_ok k _ _ 109 [] ⟨fun _ => rfl, fun _ => rfl, fun _ _ => rfl, rfl, fun _ => rfl, fun _ => rfl, fun _ => rfl⟩ (fun q0 q1 => heat_less k q0 q1) (fun q0 q1 qr qh => heat_less_ok k q0 q1 qr qh) _ yx9) ?_ (by first | rfl | simp [AV.refsL, AV.refs, AV.scal, AV.leaf]) ?_
        · try simp only [c7, at_in yx8, at_get heat_limit.c yx8, go_sem]
        try simp only [c7, at_in yx8, at_get heat_limit.c yx8, go_sem]
        refine AKev_bif h1 (fun c10 h1 => ?_) (fun c10 h1 => ?_)
        · try simp only [c10, c7, at_in yx8, at_get heat_limit.c yx8, go_sem]
          refine AKev_bif h1 (fun c11 h1 => ?_) (fun c11 h1 => ?_)
          · have c11 := bnot_t c11
            try simp only [c11, c7, at_in yx8, at_get heat_limit.c yx8, c10, go_sem]
            obtain ⟨x12, yx12, h1⟩ := bind_some h1
            refine AKev_call0 T_ok 1000 (heat_furnace_reaches_ok k _ _ _ _ yx12) ?_ (by first | rfl | simp [AV.refsL, AV.refs, AV.scal, AV.leaf]) ?_
            · try simp only [c7, at_in yx8, at_get heat_limit.c yx8, c10, c11, go_sem]
            try simp only [c7, at_in yx8, at_get heat_limit.c yx8, c10, c11, go_sem]
            refine AKev_bif h1 (fun c13 h1 => ?_) (fun c13 h1 => ?_)
            · have c13 := bnot_t c13
              try simp only [c13, c7, at_in yx8, at_get heat_limit.c yx8, c10, c11, go_sem]
              obtain rfl := hret1 _ (Option.some.inj h1).symm
              simp only at h0
              obtain rfl := Option.some.inj h0
              refine AKev_ret rfl ?_
              try simp only [F53.rs, c7, at_in yx8, at_get heat_limit.c yx8, c10, c11, c13, go_sem]
            · have c13 := bnot_f c13
              try simp only [c13, c7, at_in yx8, at_get heat_limit.c yx8, c10, c11, go_sem]
              refine AKev_backB (hnext1 _ _ (Option.some.inj h1).symm ?_)
              refine Weak.go [1, 28, 29, 30] [0] rfl ?_
              try simp only [heat_furnace_sound.h1, c7, at_in yx8, at_get heat_limit.c yx8, c10, c11, c13, go_sem]
          · have c11 := bnot_f c11
            try simp only [c11, c7, at_in yx8, at_get heat_limit.c yx8, c10, go_sem]
            obtain rfl := hret1 _ (Option.some.inj h1).symm
            simp only at h0
            obtain rfl := Option.some.inj h0
            refine AKev_ret rfl ?_
            try simp only [F53.rs, c7, at_in yx8, at_get heat_limit.c yx8, c10, c11, go_sem]
        · try simp only [c10, c7, at_in yx8, at_get heat_limit.c yx8, go_sem]
          obtain ⟨x14, yx14, h1⟩ := bind_some h1
          refine AKev_call0 T_ok 1000 (heat_furnace_reaches_ok k _ _ _ _ yx14) ?_ (by first | rfl | simp [AV.refsL, AV.refs, AV.scal, AV.leaf]) ?_
          · try simp only [c7, at_in yx8, at_get heat_limit.c yx8, c10, go_sem]
          try simp only [c7, at_in yx8, at_get heat_limit.c yx8, c10, go_sem]
          refine AKev_bif h1 (fun c15 h1 => ?_) (fun c15 h1 => ?_)
          · have c15 := bnot_t c15
            try simp only [c15, c7, at_in yx8, at_get heat_limit.c yx8, c10, go_sem]
            obtain rfl := hret1 _ (Option.some.inj h1).symm
            simp only at h0
            obtain rfl := Option.some.inj h0
            refine AKev_ret rfl ?_
            try simp only [F53.rs, c7, at_in yx8, at_get heat_limit.c yx8, c10, c15, go_sem]
          · have c15 := bnot_f c15
            try simp only [c15, c7, at_in yx8, at_get heat_limit.c yx8, c10, go_sem]
            refine AKev_backB (hnext1 _ _ (Option.some.inj h1).symm ?_)
            refine Weak.go [1, 28, 29, 30] [0] rfl ?_
            try simp only [heat_furnace_sound.h1, c7, at_in yx8, at_get heat_limit.c yx8, c10, c15, go_sem]
      · try simp only [c7, go_sem]
        refine AKev_backB (hbrk1 _ _ (Option.some.inj h1).symm ?_)
        refine Weak.go [] [] rfl ?_
        try simp only [heat_furnace_sound.x1, c7, go_sem]
    · rintro _ hr_
      subst hr_
      simp only at h0
      refine run_sound T_ok 1000 _ _ ?_
      try simp only [heat_furnace_sound.x1, go_sem]
      obtain rfl := Option.some.inj h0
      refine AKev_ret rfl ?_
      try simp only [F53.rs, go_sem]
end Go.Abs
namespace Go.Abs
open Go.Proofs
set_option maxRecDepth 20000
set_option linter.unusedVariables false
set_option linter.unusedSimpArgs false
set_option maxHeartbeats 8000000
def F102.c : SC :=
 (.seq
  (.reg [⟨some 1, .box 128 (.tmp 0), 0, none, [0]⟩,
    ⟨some 2, .assign (.const (.int .i64 0)), 3, none, [2]⟩,
    ⟨some 3, .assign (.const (.bool false)), 4, none, [3]⟩])
  (.seq
   (.seq
    (.reg [⟨some 4, .fieldAddr 128 (.tmp 1) 0, 0, none, []⟩,
      ⟨some 5, .fieldAddr 64 (.tmp 4) 2, 0, none, [4]⟩,
      ⟨some 6, .load 3 (.tmp 5), 3, none, [5]⟩])
    (.block 0
     (.seq
      (.reg [⟨some 8, .binOp .eql 3 (.tmp 6) (.const (.int .i64 1)) 3, 4, none, []⟩,
        ⟨some 7, .assign (.tmp 8), 4, none, [8]⟩])
      (.cond (.tmp 7)
       (.seq
        (.reg [⟨some 9, .fieldAddr 128 (.tmp 1) 0, 0, none, [1]⟩,
          ⟨some 10, .fieldAddr 64 (.tmp 9) 3, 0, none, [9]⟩,
          ⟨some 11, .load 3 (.tmp 10), 3, none, [10]⟩,
          ⟨some 2, .assign (.tmp 11), 3, none, [11]⟩,
          ⟨some 3, .assign (.const (.bool true)), 4, none, []⟩])
        .ret)
       (.seq
        (.reg [⟨some 13, .binOp .eql 3 (.tmp 6) (.const (.int .i64 3)) 3, 4, none, [6]⟩,
          ⟨some 12, .assign (.tmp 13), 4, none, [13]⟩])
        (.cond (.tmp 12)
         (.seq
          (.reg [⟨some 14, .fieldAddr 128 (.tmp 1) 0, 0, none, [1]⟩,
            ⟨some 15, .fieldAddr 64 (.tmp 14) 4, 0, none, [14]⟩,
            ⟨some 16, .fieldAddr 30 (.tmp 15) 0, 0, none, [15]⟩,
            ⟨some 17, .load 3 (.tmp 16), 3, none, [16]⟩,
            ⟨some 2, .assign (.tmp 17), 3, none, [17]⟩,
            ⟨some 3, .assign (.const (.bool true)), 4, none, []⟩])
          .ret)
         .skip))))))
   (.seq
    (.reg [⟨some 2, .assign (.const (.int .i64 0)), 3, none, []⟩,
      ⟨some 3, .assign (.const (.bool false)), 4, none, []⟩])
    .ret)))
theorem F102.rs : Tryz.f102.results.toList = [.tmp 2, .tmp 3] := rfl
def heat_reading_least (k : Nat) (r0 : heat_reading) : Option (Int × Bool) :=
  bif decide (r0.Reading.Kind = (1 : Int)) then
    some (r0.Reading.Mark, true)
  else
    bif decide (r0.Reading.Kind = (3 : Int)) then
      some (r0.Reading.Heat.Lo, true)
    else
      some (0, false)
theorem heat_reading_least_ok (k : Nat) (r0 : heat_reading) (r : Int × Bool) (h0 : heat_reading_least k r0 = some r) : PCall Tryz.prog 102 [.agg (heat_reading.c r0)] (fun y => y = .tup [.int .i64 r.1, .bool r.2]) := by
  refine PCall.nlr (PCall.of_body T_ok (fn := Tryz.f102) (sc := F102.c) (by rfl) (by rfl) (by decide +kernel) (by rfl) (by decide +kernel) (Nat.le_of_ble_eq_true rfl) ?_)
  refine run_sound T_ok 1000 _ _ ?_
  simp only [heat_reading_least] at h0
  try simp only [F102.c, go_sem]
  refine AKev_bif h0 (fun c1 h0 => ?_) (fun c1 h0 => ?_)
  · try simp only [c1, go_sem]
    obtain rfl := Option.some.inj h0
    refine AKev_ret rfl ?_
    try simp only [F102.rs, c1, go_sem]
  · try simp only [c1, go_sem]
    refine AKev_bif h0 (fun c2 h0 => ?_) (fun c2 h0 => ?_)
    · try simp only [c2, c1, go_sem]
      obtain rfl := Option.some.inj h0
      refine AKev_ret rfl ?_
      try simp only [F102.rs, c1, c2, go_sem]
    · try simp only [c2, c1, go_sem]
      obtain rfl := Option.some.inj h0
      refine AKev_ret rfl ?_
      try simp only [F102.rs, c1, c2, go_sem]
end Go.Abs
namespace Go.Abs
open Go.Proofs
set_option maxRecDepth 20000
set_option linter.unusedVariables false
set_option linter.unusedSimpArgs false
set_option maxHeartbeats 8000000
def F103.c : SC :=
 (.seq
  (.reg [⟨some 1, .box 128 (.tmp 0), 0, none, [0]⟩,
    ⟨some 2, .assign (.const (.int .i64 0)), 3, none, [2]⟩,
    ⟨some 3, .assign (.const (.bool false)), 4, none, [3]⟩])
  (.seq
   (.seq
    (.reg [⟨some 4, .fieldAddr 128 (.tmp 1) 0, 0, none, []⟩,
      ⟨some 5, .fieldAddr 64 (.tmp 4) 2, 0, none, [4]⟩,
      ⟨some 6, .load 3 (.tmp 5), 3, none, [5]⟩])
    (.block 0
     (.seq
      (.reg [⟨some 8, .binOp .eql 3 (.tmp 6) (.const (.int .i64 2)) 3, 4, none, []⟩,
        ⟨some 7, .assign (.tmp 8), 4, none, [8]⟩])
      (.cond (.tmp 7)
       (.seq
        (.reg [⟨some 9, .fieldAddr 128 (.tmp 1) 0, 0, none, [1]⟩,
          ⟨some 10, .fieldAddr 64 (.tmp 9) 3, 0, none, [9]⟩,
          ⟨some 11, .load 3 (.tmp 10), 3, none, [10]⟩,
          ⟨some 12, .binOp .sub 3 (.tmp 11) (.const (.int .i64 1)) 3, 3, none, [11]⟩,
          ⟨some 2, .assign (.tmp 12), 3, none, [12]⟩,
          ⟨some 3, .assign (.const (.bool true)), 4, none, []⟩])
        .ret)
       (.seq
        (.reg [⟨some 14, .binOp .eql 3 (.tmp 6) (.const (.int .i64 3)) 3, 4, none, [6]⟩,
          ⟨some 13, .assign (.tmp 14), 4, none, [14]⟩])
        (.cond (.tmp 13)
         (.seq
          (.reg [⟨some 15, .fieldAddr 128 (.tmp 1) 0, 0, none, [1]⟩,
            ⟨some 16, .fieldAddr 64 (.tmp 15) 4, 0, none, [15]⟩,
            ⟨some 17, .fieldAddr 30 (.tmp 16) 1, 0, none, [16]⟩,
            ⟨some 18, .load 3 (.tmp 17), 3, none, [17]⟩,
            ⟨some 2, .assign (.tmp 18), 3, none, [18]⟩,
            ⟨some 3, .assign (.const (.bool true)), 4, none, []⟩])
          .ret)
         .skip))))))
   (.seq
    (.reg [⟨some 2, .assign (.const (.int .i64 0)), 3, none, []⟩,
      ⟨some 3, .assign (.const (.bool false)), 4, none, []⟩])
    .ret)))
theorem F103.rs : Tryz.f103.results.toList = [.tmp 2, .tmp 3] := rfl
def heat_reading_most (k : Nat) (r0 : heat_reading) : Option (Int × Bool) :=
  bif decide (r0.Reading.Kind = (2 : Int)) then
    some (w64 (r0.Reading.Mark - 1), true)
  else
    bif decide (r0.Reading.Kind = (3 : Int)) then
      some (r0.Reading.Heat.Hi, true)
    else
      some (0, false)
theorem heat_reading_most_ok (k : Nat) (r0 : heat_reading) (r : Int × Bool) (h0 : heat_reading_most k r0 = some r) : PCall Tryz.prog 103 [.agg (heat_reading.c r0)] (fun y => y = .tup [.int .i64 r.1, .bool r.2]) := by
  refine PCall.nlr (PCall.of_body T_ok (fn := Tryz.f103) (sc := F103.c) (by rfl) (by rfl) (by decide +kernel) (by rfl) (by decide +kernel) (Nat.le_of_ble_eq_true rfl) ?_)
  refine run_sound T_ok 1000 _ _ ?_
  simp only [heat_reading_most] at h0
  try simp only [F103.c, go_sem]
  refine AKev_bif h0 (fun c1 h0 => ?_) (fun c1 h0 => ?_)
  · try simp only [c1, go_sem]
    obtain rfl := Option.some.inj h0
    refine AKev_ret rfl ?_
    try simp only [F103.rs, c1, go_sem]
  · try simp only [c1, go_sem]
    refine AKev_bif h0 (fun c2 h0 => ?_) (fun c2 h0 => ?_)
    · try simp only [c2, c1, go_sem]
      obtain rfl := Option.some.inj h0
      refine AKev_ret rfl ?_
      try simp only [F103.rs, c1, c2, go_sem]
    · try simp only [c2, c1, go_sem]
      obtain rfl := Option.some.inj h0
      refine AKev_ret rfl ?_
      try simp only [F103.rs, c1, c2, go_sem]
end Go.Abs
namespace Go.Abs
open Go.Proofs
set_option maxRecDepth 20000
set_option linter.unusedVariables false
set_option linter.unusedSimpArgs false
set_option maxHeartbeats 8000000
def F66.s0 : SC :=
 (.seq
  (.reg [⟨some 16, .binOp .lss 3 (.tmp 15) (.tmp 14) 3, 0, none, []⟩])
  (.seq
   (.cond (.tmp 16)
    .skip
    (.exit 0))
   (.seq
    (.block 1
     (.seq
      (.reg [⟨some 17, .move (.tmp 15), 3, none, []⟩,
        ⟨some 18, .indexAddr 25 (.tmp 13) (.tmp 15), 0, none, []⟩,
        ⟨some 19, .load 64 (.tmp 18), 64, none, [18]⟩,
        ⟨some 5, .alloc 64, 0, none, []⟩,
        ⟨some 4, .assign (.tmp 17), 3, none, [17]⟩,
        ⟨none, .store 64 (.tmp 5) (.tmp 19), 0, none, [19]⟩])
      (.seq
       (.seq
        (.reg [⟨some 21, .load 64 (.tmp 5), 64, none, []⟩,
          ⟨some 22, .build 128 #[(0, .tmp 21)], 128, none, [21]⟩,
          ⟨some 23, .call ⟨.value (.func 102), #[.tmp 22], #[128]⟩, 126, none, [22]⟩,
          ⟨some 20, .move (.tmp 23), 126, none, [23]⟩,
          ⟨some 24, .extract (.tmp 20) 0, 3, none, []⟩,
          ⟨some 25, .extract (.tmp 20) 1, 4, none, [20]⟩,
          ⟨some 6, .assign (.tmp 24), 3, none, [24]⟩,
          ⟨some 7, .assign (.tmp 25), 4, none, [25]⟩])
        (.seq
         (.reg [⟨some 26, .move (.tmp 7), 4, none, [7]⟩])
         (.cond (.tmp 26)
          (.reg [⟨some 27, .fieldAddr 81 (.tmp 3) 1, 0, none, []⟩,
            ⟨some 28, .load 79 (.tmp 27), 79, none, [27]⟩,
            ⟨some 29, .fieldAddr 64 (.tmp 5) 1, 0, none, []⟩,
            ⟨some 30, .load 3 (.tmp 29), 3, none, [29]⟩,
            ⟨some 31, .move (.tmp 6), 3, none, [6]⟩,
            ⟨some 32, .move (.tmp 4), 3, none, []⟩,
            ⟨some 33, .build 135 #[(0, .tmp 30), (1, .tmp 31), (2, .tmp 32)], 135, none, [30, 31, 32]⟩,
            ⟨some 34, .buildSlice 79 1 #[(0, .tmp 33)], 79, none, [33]⟩,
            ⟨some 35, .call ⟨.builtin .append, #[.tmp 28, .tmp 34], #[79, 79]⟩, 79, none, [28, 34]⟩,
            ⟨some 36, .fieldAddr 81 (.tmp 3) 1, 0, none, []⟩,
            ⟨none, .store 79 (.tmp 36) (.tmp 35), 0, none, [35, 36]⟩])
          .skip)))
       (.seq
        (.reg [⟨some 38, .load 64 (.tmp 5), 64, none, []⟩,
          ⟨some 39, .build 128 #[(0, .tmp 38)], 128, none, [38]⟩,
          ⟨some 40, .call ⟨.value (.func 103), #[.tmp 39], #[128]⟩, 126, none, [39]⟩,
          ⟨some 37, .move (.tmp 40), 126, none, [40]⟩,
          ⟨some 41, .extract (.tmp 37) 0, 3, none, []⟩,
          ⟨some 42, .extract (.tmp 37) 1, 4, none, [37]⟩,
          ⟨some 8, .assign (.tmp 41), 3, none, [41]⟩,
          ⟨some 9, .assign (.tmp 42), 4, none, [42]⟩])
        (.seq
         (.reg [⟨some 43, .move (.tmp 9), 4, none, [9]⟩])
         (.cond (.tmp 43)
          (.reg [⟨some 44, .fieldAddr 81 (.tmp 3) 2, 0, none, []⟩,
            ⟨some 45, .load 79 (.tmp 44), 79, none, [44]⟩,
            ⟨some 46, .fieldAddr 64 (.tmp 5) 1, 0, none, [5]⟩,
            ⟨some 47, .load 3 (.tmp 46), 3, none, [46]⟩,
            ⟨some 48, .move (.tmp 8), 3, none, [8]⟩,
            ⟨some 49, .move (.tmp 4), 3, none, [4]⟩,
            ⟨some 50, .build 135 #[(0, .tmp 47), (1, .tmp 48), (2, .tmp 49)], 135, none, [47, 48, 49]⟩,
            ⟨some 51, .buildSlice 79 1 #[(0, .tmp 50)], 79, none, [50]⟩,
            ⟨some 52, .call ⟨.builtin .append, #[.tmp 45, .tmp 51], #[79, 79]⟩, 79, none, [45, 51]⟩,
            ⟨some 53, .fieldAddr 81 (.tmp 3) 2, 0, none, []⟩,
            ⟨none, .store 79 (.tmp 53) (.tmp 52), 0, none, [52, 53]⟩])
          .skip))))))
    (.reg [⟨some 54, .binOp .add 3 (.tmp 15) (.const (.int .i64 1)) 3, 3, none, [15]⟩,
      ⟨some 15, .move (.tmp 54), 3, none, [54]⟩]))))
def F66.c : SC :=
 (.seq
  (.reg [⟨some 1, .box 27 (.tmp 0), 0, none, [0]⟩,
    ⟨some 2, .alloc 81, 0, none, []⟩])
  (.seq
   (.reg [⟨some 10, .load 27 (.tmp 1), 27, none, []⟩,
     ⟨some 11, .build 81 #[(0, .tmp 10)], 81, none, [10]⟩,
     ⟨some 3, .alloc 81, 0, none, []⟩,
     ⟨none, .store 81 (.tmp 3) (.tmp 11), 0, none, [11]⟩])
   (.seq
    (.seq
     (.reg [⟨some 12, .fieldAddr 27 (.tmp 1) 1, 0, none, [1]⟩,
       ⟨some 13, .load 25 (.tmp 12), 25, none, [12]⟩,
       ⟨some 14, .call ⟨.builtin .len, #[.tmp 13], #[25]⟩, 3, none, []⟩,
       ⟨some 15, .move (.const (.int .i64 0)), 3, none, []⟩])
     (.block 0
      (.loop F66.s0)))
    (.seq
     (.reg [⟨some 55, .load 81 (.tmp 3), 81, none, [3]⟩,
       ⟨none, .store 81 (.tmp 2) (.tmp 55), 0, none, [55]⟩])
     .ret))))
theorem F66.rs : Tryz.f66.results.toList = [.cell 2 81] := rfl
def heat_newFurnace.b0 (k : Nat) (f0 : Firing) : (Int × (List heat_limit) × (List heat_limit)) → Option (Stp (Int × (List heat_limit) × (List heat_limit)) ((List heat_limit) × (List heat_limit)) (heat_furnace)) := fun (s : Int × (List heat_limit) × (List heat_limit)) => match s with
  | (i1, l2, l3) => 
      bif decide (i1 < (f0.Readings.length : Int)) then
        (at? f0.Readings i1).bind fun x7 =>
        (heat_reading_least k (⟨x7⟩ : heat_reading)).bind fun x8 =>
        bif x8.2 then
          (push? 24 l2 (⟨x7.Place, x8.1, i1⟩ : heat_limit)).bind fun l10 =>
          (heat_reading_most k (⟨x7⟩ : heat_reading)).bind fun x11 =>
          bif x11.2 then
            (push? 24 l3 (⟨x7.Place, x11.1, i1⟩ : heat_limit)).bind fun l13 =>
            some (.next (w64 (i1 + 1), l10, l13))
          else
            some (.next (w64 (i1 + 1), l10, l3))
        else
          (heat_reading_most k (⟨x7⟩ : heat_reading)).bind fun x14 =>
          bif x14.2 then
            (push? 24 l3 (⟨x7.Place, x14.1, i1⟩ : heat_limit)).bind fun l16 =>
            some (.next (w64 (i1 + 1), l2, l16))
          else
            some (.next (w64 (i1 + 1), l2, l3))
      else
        some (.brk (l2, l3))
noncomputable def heat_newFurnace.h0 (f0 : Firing) : (Int × (List heat_limit) × (List heat_limit)) → St := fun (s : Int × (List heat_limit) × (List heat_limit)) => match s with
  | (i1, l2, l3) => ⟨[(2, .ptr 0 0 0), (3, .ptr 0 5 0), (13, .sl 6 (List.map Reading.c f0.Readings)), (14, .int .i64 (f0.Readings.length : Int)), (15, .int .i64 i1)], [(0, .box [.loc 0 1 1 0 0 0, .loc 0 2 6 0 0 0, .loc 0 3 3 0 0 0, .loc 0 4 3 0 0 0]), (1, .arr 89 1 (List.map (eL 2 Range.c) [])), (2, .arr 64 6 (List.map Reading.c [])), (3, .arr 135 3 (List.map heat_limit.c [])), (4, .arr 135 3 (List.map heat_limit.c [])), (5, .box [.sl 1 (List.map (eL 2 Range.c) f0.Kiln.Falls), .sl 6 (List.map Reading.c f0.Readings), .loc 0 6 3 0 l2.length l2.length, .loc 0 7 3 0 l3.length l3.length]), (6, .arr 135 3 (List.map heat_limit.c l2)), (7, .arr 135 3 (List.map heat_limit.c l3))], [], 8, Tryz.f66.ntmps⟩
noncomputable def heat_newFurnace.x0 (f0 : Firing) : ((List heat_limit) × (List heat_limit)) → St := fun (s : (List heat_limit) × (List heat_limit)) => match s with
  | (l4, l5) => ⟨[(2, .ptr 0 0 0), (3, .ptr 0 5 0)], [(0, .box [.loc 0 1 1 0 0 0, .loc 0 2 6 0 0 0, .loc 0 3 3 0 0 0, .loc 0 4 3 0 0 0]), (1, .arr 89 1 (List.map (eL 2 Range.c) [])), (2, .arr 64 6 (List.map Reading.c [])), (3, .arr 135 3 (List.map heat_limit.c [])), (4, .arr 135 3 (List.map heat_limit.c [])), (5, .box [.sl 1 (List.map (eL 2 Range.c) f0.Kiln.Falls), .sl 6 (List.map Reading.c f0.Readings), .loc 0 6 3 0 l4.length l4.length, .loc 0 7 3 0 l5.length l5.length]), (6, .arr 135 3 (List.map heat_limit.c l4)), (7, .arr 135 3 (List.map heat_limit.c l5))], [], 8, Tryz.f66.ntmps⟩
def heat_newFurnace (k : Nat) (f0 : Firing) : Option (heat_furnace) :=
  (whl (heat_newFurnace.b0 k f0) k (0, [], [])).bind fun r17 => match r17 with
  | .next _ => none
  | .ret v_ => some v_
  | .brk (l4, l5) =>
    some (⟨f0, l4, l5⟩ : heat_furnace)
theorem heat_newFurnace_ok (k : Nat) (f0 : Firing) (r : heat_furnace) (h0 : heat_newFurnace k f0 = some r) : PCall Tryz.prog 66 [.agg (Firing.c f0)] (fun y => y = .agg (heat_furnace.c r)) := by
  refine PCall.nlr (PCall.of_body T_ok (fn := Tryz.f66) (sc := F66.c) (by rfl) (by rfl) (by decide +kernel) (by rfl) (by decide +kernel) (Nat.le_of_ble_eq_true rfl) ?_)
  refine run_sound T_ok 1000 _ _ ?_
  simp only [heat_newFurnace] at h0
  try simp only [F66.c, go_sem]
  obtain ⟨r17, yr17, h0⟩ := bind_some h0
  refine AKev_loopS yr17 (heat_newFurnace.h0 f0) (heat_newFurnace.x0 f0) ?_ ?_ ?_
  · refine Weak.go [2, 3, 13, 14, 15] [16, 17, 18, 19, 20, 64, 80, 81] rfl ?_
    try simp only [heat_newFurnace.h0, go_sem]
  · rintro ⟨i1, l2, l3⟩ x_1 Bk1 Br1 h1 hnext1 hbrk1 hret1
    refine run_sound T_ok 1000 _ _ ?_
    simp only [heat_newFurnace.b0] at h1
    try simp only [F66.s0, heat_newFurnace.h0, go_sem]
    refine AKev_bif h1 (fun c6 h1 => ?_) (fun c6 h1 => ?_)
    · try simp only [c6, go_sem]
      obtain ⟨x7, yx7, h1⟩ := bind_some h1
      try simp only [at_in yx7, at_get Reading.c yx7, c6, go_sem]
      obtain ⟨x8, yx8, h1⟩ := bind_some h1
      refine AKev_call0 T_ok 1000 (heat_reading_least_ok k _ _ yx8) ?_ (by first | rfl | simp [AV.refsL, AV.refs, AV.scal, AV.leaf]) ?_
      · try simp only [c6, at_in yx7, at_get Reading.c yx7, go_sem]
      try simp only [c6, at_in yx7, at_get Reading.c yx7, go_sem]
      refine AKev_bif h1 (fun c9 h1 => ?_) (fun c9 h1 => ?_)
      · try simp only [c9, c6, at_in yx7, at_get Reading.c yx7, go_sem]
        obtain ⟨l10, yl10, h1⟩ := bind_some h1
        have eyl10 := push_map heat_limit.c yl10
        have tyl10 := push_take heat_limit.c yl10
        have nyl10 := push_len yl10
        have myl10 := push_room yl10
        try simp only [c6, at_in yx7, at_get Reading.c yx7, c9, go_sem] at eyl10 tyl10 nyl10 myl10
        try simp only [myl10, eyl10, c6, at_in yx7, at_get Reading.c yx7, c9, nyl10, tyl10, go_sem]
        obtain ⟨x11, yx11, h1⟩ := bind_some h1
        refine AKev_call0 T_ok 1000 (heat_reading_most_ok k _ _ yx11) ?_ (by first | rfl | simp [AV.refsL, AV.refs, AV.scal, AV.leaf]) ?_
        · try simp only [c6, at_in yx7, at_get Reading.c yx7, c9, eyl10, nyl10, tyl10, go_sem]
        try simp only [c6, at_in yx7, at_get Reading.c yx7, c9, eyl10, nyl10, tyl10, go_sem]
        refine AKev_bif h1 (fun c12 h1 => ?_) (fun c12 h1 => ?_)
        · try simp only [c12, c6, at_in yx7, at_get Reading.c yx7, c9, eyl10, nyl10, tyl10, go_sem]
          obtain ⟨l13, yl13, h1⟩ := bind_some h1
          have eyl13 := push_map heat_limit.c yl13
          have tyl13 := push_take heat_limit.c yl13
          have nyl13 := push_len yl13
          have myl13 := push_room yl13
          try simp only [c6, at_in yx7, at_get Reading.c yx7, c9, eyl10, nyl10, tyl10, c12, go_sem] at eyl13 tyl13 nyl13 myl13
          try simp only [myl13, eyl13, c6, at_in yx7, at_get Reading.c yx7, c9, eyl10, nyl10, tyl10, c12, nyl13, tyl13, go_sem]
          refine AKev_backB (hnext1 _ _ (Option.some.inj h1).symm ?_)
          refine Weak.go [2, 3, 13, 14, 15] [0, 1, 2, 3, 4, 5, 6, 7] rfl ?_
          try simp only [heat_newFurnace.h0, c6, at_in yx7, at_get Reading.c yx7, c9, eyl10, nyl10, tyl10, c12, eyl13, nyl13, tyl13, go_sem]
        · try simp only [c12, c6, at_in yx7, at_get Reading.c yx7, c9, eyl10, nyl10, tyl10, go_sem]
          refine AKev_backB (hnext1 _ _ (Option.some.inj h1).symm ?_)
          refine Weak.go [2, 3, 13, 14, 15] [0, 1, 2, 3, 4, 5, 6, 7] rfl ?_
          try simp only [heat_newFurnace.h0, c6, at_in yx7, at_get Reading.c yx7, c9, eyl10, nyl10, tyl10, c12, go_sem]
      · try simp only [c9, c6, at_in yx7, at_get Reading.c yx7, go_sem]
        obtain ⟨x14, yx14, h1⟩ := bind_some h1
        refine AKev_call0 T_ok 1000 (heat_reading_most_ok k _ _ yx14) ?_ (by first | rfl | simp [AV.refsL, AV.refs, AV.scal, AV.leaf]) ?_
        · try simp only [c6, at_in yx7, at_get Reading.c yx7, c9, go_sem]
        try simp only [c6, at_in yx7, at_get Reading.c yx7, c9, go_sem]
        refine AKev_bif h1 (fun c15 h1 => ?_) (fun c15 h1 => ?_)
        · try simp only [c15, c6, at_in yx7, at_get Reading.c yx7, c9, go_sem]
          obtain ⟨l16, yl16, h1⟩ := bind_some h1
          have eyl16 := push_map heat_limit.c yl16
          have tyl16 := push_take heat_limit.c yl16
          have nyl16 := push_len yl16
          have myl16 := push_room yl16
          try simp only [c6, at_in yx7, at_get Reading.c yx7, c9, c15, go_sem] at eyl16 tyl16 nyl16 myl16
          try simp only [myl16, eyl16, c6, at_in yx7, at_get Reading.c yx7, c9, c15, nyl16, tyl16, go_sem]
          refine AKev_backB (hnext1 _ _ (Option.some.inj h1).symm ?_)
          refine Weak.go [2, 3, 13, 14, 15] [0, 1, 2, 3, 4, 5, 6, 7] rfl ?_
          try simp only [heat_newFurnace.h0, c6, at_in yx7, at_get Reading.c yx7, c9, c15, eyl16, nyl16, tyl16, go_sem]
        · try simp only [c15, c6, at_in yx7, at_get Reading.c yx7, c9, go_sem]
          refine AKev_backB (hnext1 _ _ (Option.some.inj h1).symm ?_)
          refine Weak.go [2, 3, 13, 14, 15] [0, 1, 2, 3, 4, 5, 6, 7] rfl ?_
          try simp only [heat_newFurnace.h0, c6, at_in yx7, at_get Reading.c yx7, c9, c15, go_sem]
    · try simp only [c6, go_sem]
      refine AKev_backB (hbrk1 _ _ (Option.some.inj h1).symm ?_)
      refine Weak.go [2, 3] [0, 1, 2, 3, 4, 5, 6, 7] rfl ?_
      try simp only [heat_newFurnace.x0, c6, go_sem]
  · rintro ⟨l4, l5⟩ hr_
    subst hr_
    simp only at h0
    refine run_sound T_ok 1000 _ _ ?_
    try simp only [heat_newFurnace.x0, go_sem]
    obtain rfl := Option.some.inj h0
    refine AKev_ret rfl ?_
    try simp only [F66.rs, go_sem]
end Go.Abs
namespace Go.Abs
open Go.Proofs
set_option maxRecDepth 20000
set_option linter.unusedVariables false
set_option linter.unusedSimpArgs false
set_option maxHeartbeats 8000000
def F76.c : SC :=
 (.seq
  (.reg [⟨some 2, .box 27 (.tmp 0), 0, none, [0]⟩,
    ⟨some 4, .alloc 81, 0, none, []⟩,
    ⟨some 5, .assign (.const (.int .i64 0)), 33, none, [5]⟩])
  (.seq
   (.reg [⟨some 7, .load 27 (.tmp 2), 27, none, []⟩,
     ⟨some 8, .call ⟨.value (.func 66), #[.tmp 7], #[27]⟩, 81, none, [7]⟩,
     ⟨some 6, .alloc 81, 0, none, []⟩,
     ⟨none, .store 81 (.tmp 6) (.tmp 8), 0, none, [8]⟩])
   (.seq
    (.block 0
     (.seq
      (.reg [⟨some 10, .load 27 (.tmp 2), 27, none, []⟩,
        ⟨some 11, .call ⟨.value (.func 42), #[.tmp 10], #[27]⟩, 33, none, [10]⟩,
        ⟨some 12, .binOp .neq 33 (.tmp 11) (.const (.int .i64 0)) 33, 4, none, [11]⟩,
        ⟨some 9, .assign (.tmp 12), 4, none, [12]⟩])
      (.cond (.tmp 9)
       (.seq
        (.reg [⟨some 13, .build 81 #[], 81, none, []⟩,
          ⟨none, .store 81 (.tmp 4) (.tmp 13), 0, none, [13]⟩,
          ⟨some 5, .assign (.const (.int .i64 42)), 33, none, []⟩])
        .ret)
       (.seq
        (.reg [⟨some 15, .move (.tmp 1), 3, none, [1]⟩,
          ⟨some 16, .fieldAddr 27 (.tmp 2) 0, 0, none, [2]⟩,
          ⟨some 17, .fieldAddr 24 (.tmp 16) 0, 0, none, [16]⟩,
          ⟨some 18, .load 22 (.tmp 17), 22, none, [17]⟩,
          ⟨some 19, .indexAddr 22 (.tmp 18) (.const (.int .i64 0)), 0, none, [18]⟩,
          ⟨some 20, .load 89 (.tmp 19), 89, none, [19]⟩,
          ⟨some 21, .call ⟨.builtin .len, #[.tmp 20], #[89]⟩, 3, none, [20]⟩,
          ⟨some 22, .binOp .sub 3 (.tmp 21) (.const (.int .i64 1)) 3, 3, none, [21]⟩,
          ⟨some 23, .call ⟨.value (.func 58), #[.tmp 15, .const (.int .i64 0), .tmp 22], #[3, 3, 3]⟩, 4, none, [15, 22]⟩,
          ⟨some 24, .unOp .not 4 (.tmp 23), 4, none, [23]⟩,
          ⟨some 14, .assign (.tmp 24), 4, none, [24]⟩])
        (.cond (.tmp 14)
         (.seq
          (.reg [⟨some 25, .build 81 #[], 81, none, []⟩,
            ⟨none, .store 81 (.tmp 4) (.tmp 25), 0, none, [25]⟩,
            ⟨some 5, .assign (.const (.int .i64 43)), 33, none, []⟩])
          .ret)
         (.seq
          (.reg [⟨some 27, .load 81 (.tmp 6), 81, none, []⟩,
            ⟨some 28, .call ⟨.value (.func 53), #[.tmp 27], #[81]⟩, 4, none, [27]⟩,
            ⟨some 29, .unOp .not 4 (.tmp 28), 4, none, [28]⟩,
            ⟨some 26, .assign (.tmp 29), 4, none, [29]⟩])
          (.cond (.tmp 26)
           (.seq
            (.reg [⟨some 30, .build 81 #[], 81, none, []⟩,
              ⟨none, .store 81 (.tmp 4) (.tmp 30), 0, none, [30]⟩,
              ⟨some 5, .assign (.const (.int .i64 44)), 33, none, []⟩])
            .ret)
           .skip)))))))
    (.seq
     (.reg [⟨some 31, .load 81 (.tmp 6), 81, none, [6]⟩,
       ⟨none, .store 81 (.tmp 4) (.tmp 31), 0, none, [31]⟩,
       ⟨some 5, .assign (.const (.int .i64 0)), 33, none, []⟩])
     .ret))))
theorem F76.rs : Tryz.f76.results.toList = [.cell 4 81, .tmp 5] := rfl
def heat_asks (k : Nat) (f0 : Firing) (place1 : Int) : Option (heat_furnace × Int) :=
  (heat_newFurnace k f0).bind fun x1 =>
  (heat_Check k f0).bind fun x2 =>
  bif (!decide (x2 = (0 : Int))) then
    some ((⟨(⟨(⟨[]⟩ : Kiln), []⟩ : Firing), [], []⟩ : heat_furnace), 42)
  else
    (at? f0.Kiln.Falls 0).bind fun x4 =>
    (heat_in k place1 0 (w64 ((x4.length : Int) - 1))).bind fun x5 =>
    bif (!x5) then
      some ((⟨(⟨(⟨[]⟩ : Kiln), []⟩ : Firing), [], []⟩ : heat_furnace), 43)
    else
      (heat_furnace_sound k x1).bind fun x7 =>
      bif (!x7) then
        some ((⟨(⟨(⟨[]⟩ : Kiln), []⟩ : Firing), [], []⟩ : heat_furnace), 44)
      else
        some (x1, 0)
theorem heat_asks_ok (k : Nat) (f0 : Firing) (place1 : Int) (r : heat_furnace × Int) (h0 : heat_asks k f0 place1 = some r) : PCall Tryz.prog 76 [.agg (Firing.c f0), .int .i64 place1] (fun y => y = .tup [.agg (heat_furnace.c r.1), .int .i64 r.2]) := by
  refine PCall.nlr (PCall.of_body T_ok (fn := Tryz.f76) (sc := F76.c) (by rfl) (by rfl) (by decide +kernel) (by rfl) (by decide +kernel) (Nat.le_of_ble_eq_true rfl) ?_)
  refine run_sound T_ok 1000 _ _ ?_
  simp only [heat_asks] at h0
  try simp only [F76.c, go_sem]
  obtain ⟨x1, yx1, h0⟩ := bind_some h0
  refine AKev_call0 T_ok 1000 (heat_newFurnace_ok k _ _ yx1) ?_ (by first | rfl | simp [AV.refsL, AV.refs, AV.scal, AV.leaf]) ?_
  · try simp only [go_sem]
  try simp only [go_sem]
  obtain ⟨x2, yx2, h0⟩ := bind_some h0
  refine AKev_call0 T_ok 1000 (heat_Check_ok k _ _ yx2) ?_ (by first | rfl | simp [AV.refsL, AV.refs, AV.scal, AV.leaf]) ?_
  · try simp only [go_sem]
  try simp only [go_sem]
  refine AKev_bif h0 (fun c3 h0 => ?_) (fun c3 h0 => ?_)
  · have c3 := bnot_t c3
    try simp only [c3, go_sem]
    obtain rfl := Option.some.inj h0
    refine AKev_ret rfl ?_
    try simp only [F76.rs, c3, go_sem]
  · have c3 := bnot_f c3
    try simp only [c3, go_sem]
    obtain ⟨x4, yx4, h0⟩ := bind_some h0
    try simp only [at_in yx4, at_get (eL 2 Range.c) yx4, c3, go_sem]
    obtain ⟨x5, yx5, h0⟩ := bind_some h0
    refine AKev_call0 T_ok 1000 (heat_in_ok k _ _ _ _ yx5) ?_ (by first | rfl | simp [AV.refsL, AV.refs, AV.scal, AV.leaf]) ?_
    · try simp only [c3, at_in yx4, at_get (eL 2 Range.c) yx4, go_sem]
    try simp only [c3, at_in yx4, at_get (eL 2 Range.c) yx4, go_sem]
    refine AKev_bif h0 (fun c6 h0 => ?_) (fun c6 h0 => ?_)
    · have c6 := bnot_t c6
      try simp only [c6, c3, at_in yx4, at_get (eL 2 Range.c) yx4, go_sem]
      obtain rfl := Option.some.inj h0
      refine AKev_ret rfl ?_
      try simp only [F76.rs, c3, at_in yx4, at_get (eL 2 Range.c) yx4, c6, go_sem]
    · have c6 := bnot_f c6
      try simp only [c6, c3, at_in yx4, at_get (eL 2 Range.c) yx4, go_sem]
      obtain ⟨x7, yx7, h0⟩ := bind_some h0
      refine AKev_call0 T_ok 1000 (heat_furnace_sound_ok k _ _ yx7) ?_ (by first | rfl | simp [AV.refsL, AV.refs, AV.scal, AV.leaf]) ?_
      · try simp only [c3, at_in yx4, at_get (eL 2 Range.c) yx4, c6, go_sem]
      try simp only [c3, at_in yx4, at_get (eL 2 Range.c) yx4, c6, go_sem]
      refine AKev_bif h0 (fun c8 h0 => ?_) (fun c8 h0 => ?_)
      · have c8 := bnot_t c8
        try simp only [c8, c3, at_in yx4, at_get (eL 2 Range.c) yx4, c6, go_sem]
        obtain rfl := Option.some.inj h0
        refine AKev_ret rfl ?_
        try simp only [F76.rs, c3, at_in yx4, at_get (eL 2 Range.c) yx4, c6, c8, go_sem]
      · have c8 := bnot_f c8
        try simp only [c8, c3, at_in yx4, at_get (eL 2 Range.c) yx4, c6, go_sem]
        obtain rfl := Option.some.inj h0
        refine AKev_ret rfl ?_
        try simp only [F76.rs, c3, at_in yx4, at_get (eL 2 Range.c) yx4, c6, c8, go_sem]
end Go.Abs
namespace Go.Abs
open Go.Proofs
set_option maxRecDepth 20000
set_option linter.unusedVariables false
set_option linter.unusedSimpArgs false
set_option maxHeartbeats 8000000
def F126.c : SC :=
 (.seq
  (.reg [⟨some 2, .assign (.const (.slice none 0 0)), 79, none, [2]⟩])
  (.seq
   (.seq
    (.reg [⟨some 3, .move (.tmp 0), 79, none, []⟩,
      ⟨some 4, .binOp .eql 79 (.tmp 3) (.const (.slice none 0 0)) 79, 4, none, [3]⟩])
    (.cond (.tmp 4)
     (.seq
      (.reg [⟨some 2, .assign (.const (.slice none 0 0)), 79, none, []⟩])
      .ret)
     .skip))
   (.seq
    (.reg [⟨some 5, .buildSlice 79 0 #[], 79, none, []⟩,
      ⟨some 6, .move (.tmp 0), 79, none, [0]⟩,
      ⟨some 7, .call ⟨.builtin .append, #[.tmp 5, .tmp 6], #[79, 79]⟩, 79, none, [5, 6]⟩,
      ⟨some 2, .assign (.tmp 7), 79, none, [7]⟩])
    .ret)))
theorem F126.rs : Tryz.f126.results.toList = [.tmp 2] := rfl
def slices_Clone_heat_limit (k : Nat) (s0 : (List heat_limit)) : Option ((List heat_limit)) :=
  (room? s0.length 24).bind fun _ =>
  some s0
theorem slices_Clone_heat_limit_ok (k : Nat) (s0 : (List heat_limit)) (r : (List heat_limit)) (h0 : slices_Clone_heat_limit k s0 = some r) : GCall Tryz.prog 126 [.sl 3 (List.map heat_limit.c s0)] [] (fun y fr => y = .loc 0 0 3 0 r.length r.length ∧ fr = [(0, .arr 135 3 (List.map heat_limit.c r))]) := by
  have hr := GCall.own (et := 135) (sz := 3) (ls := List.map heat_limit.c r) (GCall.of_body T_ok (f := 126) (fn := Tryz.f126) (sc := F126.c) (args := [.sl 3 (List.map heat_limit.c s0)]) (fr0 := []) (by rfl) (by rfl) (by decide +kernel) (by rfl) (by decide +kernel) (Nat.le_of_ble_eq_true rfl) (fun H => ?_))
  · simpa only [List.length_map] using hr
  refine run_sound T_ok 1000 _ _ ?_
  simp only [slices_Clone_heat_limit] at h0
  try simp only [F126.c, go_sem]
  refine ⟨fun he => ?_, ?_⟩
  · refine run_sound T_ok 1000 _ _ ?_
    try simp only [go_sem]
    obtain ⟨u_, hu_, h0⟩ := bind_some h0
    obtain rfl := Option.some.inj h0
    refine AKev_gret rfl ?_
    simp only [he, F126.rs, oOK, Option.map_some, tupOf, List.length_nil, List.take_nil, go_sem]
    try simp
  · refine run_sound T_ok 1000 _ _ ?_
    try simp only [go_sem]
    obtain ⟨u1, yu1, h0⟩ := bind_some h0
    try simp only [room_some yu1, go_sem]
    obtain rfl := Option.some.inj h0
    refine AKev_gret rfl ?_
    try simp only [F126.rs, oOK, Option.map_some, tupOf, cut0_map, cut_map, Nat.le_refl, List.take_length, go_sem]
end Go.Abs
namespace Go.Abs
open Go.Proofs
set_option maxRecDepth 20000
set_option linter.unusedVariables false
set_option linter.unusedSimpArgs false
set_option maxHeartbeats 8000000
def F83.c : SC :=
 (.seq
  (.reg [⟨some 3, .box 81 (.tmp 0), 0, none, [0]⟩,
    ⟨some 5, .box 30 (.tmp 2), 0, none, [2]⟩,
    ⟨some 6, .alloc 81, 0, none, []⟩])
  (.seq
   (.dreg [⟨some 7, .fieldAddr 81 (.tmp 3) 1, 0, none, []⟩,
     ⟨some 8, .load 79 (.tmp 7), 79, none, []⟩,
     ⟨some 9, .call ⟨.value (.func 126), #[.tmp 8], #[79]⟩, 79, none, []⟩,
     ⟨some 10, .move (.tmp 1), 3, none, []⟩,
     ⟨some 11, .fieldAddr 30 (.tmp 5) 0, 0, none, []⟩,
     ⟨some 12, .load 3 (.tmp 11), 3, none, []⟩,
     ⟨some 13, .build 135 #[(0, .tmp 10), (1, .tmp 12), (2, .const (.int .i64 (-1)))], 135, none, []⟩,
     ⟨some 14, .buildSlice 79 1 #[(0, .tmp 13)], 79, none, []⟩,
     ⟨some 15, .call ⟨.builtin .append, #[.tmp 9, .tmp 14], #[79, 79]⟩, 79, none, []⟩,
     ⟨some 16, .fieldAddr 81 (.tmp 3) 1, 0, none, []⟩,
     ⟨none, .store 79 (.tmp 16) (.tmp 15), 0, none, []⟩] [[], [0], [0, 1], [], [], [4], [3, 4, 5], [3, 4, 5, 6], [0, 1, 2, 3, 4, 5, 6, 7], [0, 1, 2, 3, 4, 5, 6, 7, 8], [0, 1, 2, 3, 4, 5, 6, 7, 8, 9]] [7, 8, 9, 10, 11, 12, 13, 14, 15, 16])
   (.seq
    (.dreg [⟨some 17, .fieldAddr 81 (.tmp 3) 2, 0, none, []⟩,
      ⟨some 18, .load 79 (.tmp 17), 79, none, []⟩,
      ⟨some 19, .call ⟨.value (.func 126), #[.tmp 18], #[79]⟩, 79, none, []⟩,
      ⟨some 20, .move (.tmp 1), 3, none, []⟩,
      ⟨some 21, .fieldAddr 30 (.tmp 5) 1, 0, none, []⟩,
      ⟨some 22, .load 3 (.tmp 21), 3, none, []⟩,
      ⟨some 23, .build 135 #[(0, .tmp 20), (1, .tmp 22), (2, .const (.int .i64 (-1)))], 135, none, []⟩,
      ⟨some 24, .buildSlice 79 1 #[(0, .tmp 23)], 79, none, []⟩,
      ⟨some 25, .call ⟨.builtin .append, #[.tmp 19, .tmp 24], #[79, 79]⟩, 79, none, []⟩,
      ⟨some 26, .fieldAddr 81 (.tmp 3) 2, 0, none, []⟩,
      ⟨none, .store 79 (.tmp 26) (.tmp 25), 0, none, []⟩] [[], [0], [0, 1], [], [], [4], [3, 4, 5], [3, 4, 5, 6], [0, 1, 2, 3, 4, 5, 6, 7], [0, 1, 2, 3, 4, 5, 6, 7, 8], [0, 1, 2, 3, 4, 5, 6, 7, 8, 9]] [1, 5, 17, 18, 19, 20, 21, 22, 23, 24, 25, 26])
    (.seq
     (.reg [⟨some 27, .load 81 (.tmp 3), 81, none, [3]⟩,
       ⟨none, .store 81 (.tmp 6) (.tmp 27), 0, none, [27]⟩])
     .ret))))
theorem F83.rs : Tryz.f83.results.toList = [.cell 6 81] := rfl
def heat_furnace_asked (k : Nat) (f0 : heat_furnace) (place1 : Int) (heat2 : Range) : Option (heat_furnace) :=
  (slices_Clone_heat_limit k f0.least).bind fun x2 =>
  (push? 24 x2 (⟨place1, heat2.Lo, -1⟩ : heat_limit)).bind fun l3 =>
  (slices_Clone_heat_limit k f0.most).bind fun x5 =>
  (push? 24 x5 (⟨place1, heat2.Hi, -1⟩ : heat_limit)).bind fun l6 =>
  some (⟨f0.Firing, l3, l6⟩ : heat_furnace)
theorem heat_furnace_asked_ok (k : Nat) (f0 : heat_furnace) (place1 : Int) (heat2 : Range) (r : heat_furnace) (h0 : heat_furnace_asked k f0 place1 heat2 = some r) : PCall Tryz.prog 83 [.agg (heat_furnace.c f0), .int .i64 place1, .agg (Range.c heat2)] (fun y => y = .agg (heat_furnace.c r)) := by
  refine PCall.nlr (PCall.of_body T_ok (fn := Tryz.f83) (sc := F83.c) (by rfl) (by rfl) (by decide +kernel) (by rfl) (by decide +kernel) (Nat.le_of_ble_eq_true rfl) ?_)
  refine run_sound T_ok 1000 _ _ ?_
  simp only [heat_furnace_asked] at h0
  try simp only [F83.c, go_sem]
  refine AKev_region T_ok follows_ok 1000 ?_
  try simp only [go_sem]
  obtain ⟨x2, yx2, h0⟩ := bind_some h0
  refine DG_give 1000 [] [] (slices_Clone_heat_limit_ok k _ _ yx2) ?_ rfl ?_
  · try simp only [gOK, List.length_map, go_sem]
  try simp only [go_sem]
  obtain ⟨l3, yl3, h0⟩ := bind_some h0
  have eyl3 := push_map heat_limit.c yl3
  have tyl3 := push_take heat_limit.c yl3
  have nyl3 := push_len yl3
  have myl3 := push_room yl3
  try simp only [go_sem] at eyl3 tyl3 nyl3 myl3
  try simp only [myl3, eyl3, nyl3, tyl3, go_sem]
  refine DG_done ⟨rfl, run_sound T_ok 1000 _ _ ?_⟩
  try simp only [eyl3, nyl3, tyl3, go_sem]
  refine AKev_region T_ok follows_ok 1000 ?_
  try simp only [eyl3, nyl3, tyl3, go_sem]
  obtain ⟨x5, yx5, h0⟩ := bind_some h0
  refine DG_give 1000 [] [] (slices_Clone_heat_limit_ok k _ _ yx5) ?_ rfl ?_
  · try simp only [gOK, List.length_map, eyl3, nyl3, tyl3, go_sem]
  try simp only [eyl3, nyl3, tyl3, go_sem]
  obtain ⟨l6, yl6, h0⟩ := bind_some h0
  have eyl6 := push_map heat_limit.c yl6
  have tyl6 := push_take heat_limit.c yl6
  have nyl6 := push_len yl6
  have myl6 := push_room yl6
  try simp only [eyl3, nyl3, tyl3, go_sem] at eyl6 tyl6 nyl6 myl6
  try simp only [myl6, eyl6, eyl3, nyl3, tyl3, nyl6, tyl6, go_sem]
  refine DG_done ⟨rfl, run_sound T_ok 1000 _ _ ?_⟩
  try simp only [eyl3, nyl3, tyl3, eyl6, nyl6, tyl6, go_sem]
  obtain rfl := Option.some.inj h0
  refine AKev_ret rfl ?_
  try simp only [F83.rs, eyl3, nyl3, tyl3, eyl6, nyl6, tyl6, go_sem]
end Go.Abs
namespace Go.Abs
open Go.Proofs
set_option maxRecDepth 20000
set_option linter.unusedVariables false
set_option linter.unusedSimpArgs false
set_option maxHeartbeats 8000000
def F104.c : SC :=
 (.seq
  (.reg [⟨some 2, .box 32 (.tmp 0), 0, none, [0]⟩,
    ⟨some 3, .assign (.const (.bool false)), 4, none, [3]⟩])
  (.seq
   (.dreg [⟨some 4, .fieldAddr 32 (.tmp 2) 0, 0, none, []⟩,
     ⟨some 5, .load 3 (.tmp 4), 3, none, []⟩,
     ⟨some 6, .fieldAddr 27 (.tmp 1) 0, 0, none, []⟩,
     ⟨some 7, .fieldAddr 24 (.tmp 6) 0, 0, none, []⟩,
     ⟨some 8, .load 22 (.tmp 7), 22, none, []⟩,
     ⟨some 9, .indexAddr 22 (.tmp 8) (.const (.int .i64 0)), 0, none, []⟩,
     ⟨some 10, .load 89 (.tmp 9), 89, none, []⟩,
     ⟨some 11, .call ⟨.builtin .len, #[.tmp 10], #[89]⟩, 3, none, []⟩,
     ⟨some 12, .binOp .sub 3 (.tmp 11) (.const (.int .i64 1)) 3, 3, none, []⟩,
     ⟨some 13, .call ⟨.value (.func 58), #[.tmp 5, .const (.int .i64 0), .tmp 12], #[3, 3, 3]⟩, 4, none, []⟩,
     ⟨some 14, .move (.tmp 13), 4, none, []⟩,
     ⟨some 15, .fieldAddr 32 (.tmp 2) 1, 0, some (14, true), []⟩,
     ⟨some 16, .fieldAddr 30 (.tmp 15) 0, 0, some (14, true), []⟩,
     ⟨some 17, .load 3 (.tmp 16), 3, some (14, true), []⟩,
     ⟨some 18, .binOp .geq 3 (.tmp 17) (.const (.int .i64 (-3000))) 3, 4, some (14, true), []⟩,
     ⟨some 19, .pick (.tmp 14) (.tmp 18) (.const (.bool false)), 4, none, []⟩,
     ⟨some 20, .move (.tmp 19), 4, none, []⟩,
     ⟨some 21, .fieldAddr 32 (.tmp 2) 1, 0, some (20, true), []⟩,
     ⟨some 22, .fieldAddr 30 (.tmp 21) 0, 0, some (20, true), []⟩,
     ⟨some 23, .load 3 (.tmp 22), 3, some (20, true), []⟩,
     ⟨some 24, .fieldAddr 32 (.tmp 2) 1, 0, some (20, true), []⟩,
     ⟨some 25, .fieldAddr 30 (.tmp 24) 1, 0, some (20, true), []⟩,
     ⟨some 26, .load 3 (.tmp 25), 3, some (20, true), []⟩,
     ⟨some 27, .binOp .leq 3 (.tmp 23) (.tmp 26) 3, 4, some (20, true), []⟩,
     ⟨some 28, .pick (.tmp 20) (.tmp 27) (.const (.bool false)), 4, none, []⟩,
     ⟨some 29, .move (.tmp 28), 4, none, []⟩,
     ⟨some 30, .fieldAddr 32 (.tmp 2) 1, 0, some (29, true), []⟩,
     ⟨some 31, .fieldAddr 30 (.tmp 30) 1, 0, some (29, true), []⟩,
     ⟨some 32, .load 3 (.tmp 31), 3, some (29, true), []⟩,
     ⟨some 33, .binOp .leq 3 (.tmp 32) (.const (.int .i64 3000)) 3, 4, some (29, true), []⟩,
     ⟨some 34, .pick (.tmp 29) (.tmp 33) (.const (.bool false)), 4, none, []⟩,
     ⟨some 3, .assign (.tmp 34), 4, none, []⟩] [[], [0], [], [2], [2, 3], [2, 3, 4], [2, 3, 4, 5], [2, 3, 4, 5, 6], [2, 3, 4, 5, 6, 7], [0, 1, 2, 3, 4, 5, 6, 7, 8], [0, 1, 2, 3, 4, 5, 6, 7, 8, 9], [0, 1, 2, 3, 4, 5, 6, 7, 8, 9, 10], [0, 1, 2, 3, 4, 5, 6, 7, 8, 9, 10, 11], [0, 1, 2, 3, 4, 5, 6, 7, 8, 9, 10, 11, 12], [0, 1, 2, 3, 4, 5, 6, 7, 8, 9, 10, 11, 12, 13], [0, 1, 2, 3, 4, 5, 6, 7, 8, 9, 10, 11, 12, 13, 14], [0, 1, 2, 3, 4, 5, 6, 7, 8, 9, 10, 11, 12, 13, 14, 15], [0, 1, 2, 3, 4, 5, 6, 7, 8, 9, 10, 11, 12, 13, 14, 15, 16], [0, 1, 2, 3, 4, 5, 6, 7, 8, 9, 10, 11, 12, 13, 14, 15, 16, 17], [0, 1, 2, 3, 4, 5, 6, 7, 8, 9, 10, 11, 12, 13, 14, 15, 16, 17, 18], [0, 1, 2, 3, 4, 5, 6, 7, 8, 9, 10, 11, 12, 13, 14, 15, 16], [0, 1, 2, 3, 4, 5, 6, 7, 8, 9, 10, 11, 12, 13, 14, 15, 16, 20], [0, 1, 2, 3, 4, 5, 6, 7, 8, 9, 10, 11, 12, 13, 14, 15, 16, 20, 21], [0, 1, 2, 3, 4, 5, 6, 7, 8, 9, 10, 11, 12, 13, 14, 15, 16, 17, 18, 19, 20, 21, 22], [0, 1, 2, 3, 4, 5, 6, 7, 8, 9, 10, 11, 12, 13, 14, 15, 16, 17, 18, 19, 20, 21, 22, 23], [0, 1, 2, 3, 4, 5, 6, 7, 8, 9, 10, 11, 12, 13, 14, 15, 16, 17, 18, 19, 20, 21, 22, 23, 24], [0, 1, 2, 3, 4, 5, 6, 7, 8, 9, 10, 11, 12, 13, 14, 15, 16, 17, 18, 19, 20, 21, 22, 23, 24, 25], [0, 1, 2, 3, 4, 5, 6, 7, 8, 9, 10, 11, 12, 13, 14, 15, 16, 17, 18, 19, 20, 21, 22, 23, 24, 25, 26], [0, 1, 2, 3, 4, 5, 6, 7, 8, 9, 10, 11, 12, 13, 14, 15, 16, 17, 18, 19, 20, 21, 22, 23, 24, 25, 26, 27], [0, 1, 2, 3, 4, 5, 6, 7, 8, 9, 10, 11, 12, 13, 14, 15, 16, 17, 18, 19, 20, 21, 22, 23, 24, 25, 26, 27, 28], [0, 1, 2, 3, 4, 5, 6, 7, 8, 9, 10, 11, 12, 13, 14, 15, 16, 17, 18, 19, 20, 21, 22, 23, 24, 25, 26, 27, 28, 29], [0, 1, 2, 3, 4, 5, 6, 7, 8, 9, 10, 11, 12, 13, 14, 15, 16, 17, 18, 19, 20, 21, 22, 23, 24, 25, 26, 27, 28, 29, 30]] [1, 2, 4, 5, 6, 7, 8, 9, 10, 11, 12, 13, 14, 15, 16, 17, 18, 19, 20, 21, 22, 23, 24, 25, 26, 27, 28, 29, 30, 31, 32, 33, 34])
   .ret))
theorem F104.rs : Tryz.f104.results.toList = [.tmp 3] := rfl
def heat_wanted_1 (k : Nat) (w0 : Want) (c1 : Firing) : Option (Bool) :=
  (at? c1.Kiln.Falls 0).bind fun x1 =>
  (heat_in k w0.Place 0 (w64 ((x1.length : Int) - 1))).bind fun x2 =>
  bif x2 then
    bif decide ((-3000 : Int) ≤ w0.Heat.Lo) then
      bif decide (w0.Heat.Lo ≤ w0.Heat.Hi) then
        some (decide (w0.Heat.Hi ≤ (3000 : Int)))
      else
        some false
    else
      some false
  else
    some false
theorem heat_wanted_1_ok (k : Nat) (w0 : Want) (c1 : Firing) (r : Bool) (h0 : heat_wanted_1 k w0 c1 = some r) : PCall Tryz.prog 104 [.agg (Want.c w0), .rptr 2 [Firing.c c1] 0 0] (fun y => y = .bool r) := by
  refine PCall.nlr (PCall.of_body T_ok (fn := Tryz.f104) (sc := F104.c) (by rfl) (by rfl) (by decide +kernel) (by rfl) (by decide +kernel) (Nat.le_of_ble_eq_true rfl) ?_)
  refine run_sound T_ok 1000 _ _ ?_
  simp only [heat_wanted_1] at h0
  try simp only [F104.c, go_sem]
  refine AKev_region T_ok follows_ok 1000 ?_
  try simp only [go_sem]
  obtain ⟨x1, yx1, h0⟩ := bind_some h0
  try simp only [at_in yx1, at_get (eL 2 Range.c) yx1, go_sem]
  obtain ⟨x2, yx2, h0⟩ := bind_some h0
  refine DG_call0 1000 (heat_in_ok k _ _ _ _ yx2) ?_ (by first | rfl | simp [AV.refsL, AV.refs, AV.scal, AV.leaf]) ?_
  · try simp only [at_in yx1, at_get (eL 2 Range.c) yx1, go_sem]
  try simp only [at_in yx1, at_get (eL 2 Range.c) yx1, go_sem]
  refine DG_bif h0 (fun c3 h0 => ?_) (fun c3 h0 => ?_)
  · try simp only [c3, at_in yx1, at_get (eL 2 Range.c) yx1, go_sem]
    refine DG_bif h0 (fun c4 h0 => ?_) (fun c4 h0 => ?_)
    · try simp only [c4, at_in yx1, at_get (eL 2 Range.c) yx1, c3, go_sem]
      refine DG_bif h0 (fun c5 h0 => ?_) (fun c5 h0 => ?_)
      · try simp only [c5, at_in yx1, at_get (eL 2 Range.c) yx1, c3, c4, go_sem]
        refine DG_done ⟨rfl, run_sound T_ok 1000 _ _ ?_⟩
        try simp only [at_in yx1, at_get (eL 2 Range.c) yx1, c3, c4, c5, go_sem]
        obtain rfl := Option.some.inj h0
        refine AKev_ret rfl ?_
        try simp only [F104.rs, at_in yx1, at_get (eL 2 Range.c) yx1, c3, c4, c5, go_sem]
      · try simp only [c5, at_in yx1, at_get (eL 2 Range.c) yx1, c3, c4, go_sem]
        refine DG_done ⟨rfl, run_sound T_ok 1000 _ _ ?_⟩
        try simp only [at_in yx1, at_get (eL 2 Range.c) yx1, c3, c4, c5, go_sem]
        obtain rfl := Option.some.inj h0
        refine AKev_ret rfl ?_
        try simp only [F104.rs, at_in yx1, at_get (eL 2 Range.c) yx1, c3, c4, c5, go_sem]
    · try simp only [c4, at_in yx1, at_get (eL 2 Range.c) yx1, c3, go_sem]
      refine DG_done ⟨rfl, run_sound T_ok 1000 _ _ ?_⟩
      try simp only [at_in yx1, at_get (eL 2 Range.c) yx1, c3, c4, go_sem]
      obtain rfl := Option.some.inj h0
      refine AKev_ret rfl ?_
      try simp only [F104.rs, at_in yx1, at_get (eL 2 Range.c) yx1, c3, c4, go_sem]
  · try simp only [c3, at_in yx1, at_get (eL 2 Range.c) yx1, go_sem]
    refine DG_done ⟨rfl, run_sound T_ok 1000 _ _ ?_⟩
    try simp only [at_in yx1, at_get (eL 2 Range.c) yx1, c3, go_sem]
    obtain rfl := Option.some.inj h0
    refine AKev_ret rfl ?_
    try simp only [F104.rs, at_in yx1, at_get (eL 2 Range.c) yx1, c3, go_sem]
end Go.Abs
namespace Go.Abs
open Go.Proofs
set_option maxRecDepth 20000
set_option linter.unusedVariables false
set_option linter.unusedSimpArgs false
set_option maxHeartbeats 8000000
def F131.s0 : SC :=
 (.seq
  (.reg [⟨some 9, .binOp .lss 3 (.tmp 8) (.tmp 7) 3, 0, none, []⟩])
  (.seq
   (.cond (.tmp 9)
    .skip
    (.exit 0))
   (.seq
    (.block 1
     (.seq
      (.reg [⟨some 10, .move (.tmp 8), 3, none, []⟩,
        ⟨some 5, .assign (.tmp 10), 3, none, [10]⟩])
      (.seq
       (.reg [⟨some 11, .move (.tmp 1), 130, none, []⟩,
         ⟨some 12, .move (.tmp 0), 28, none, []⟩,
         ⟨some 13, .move (.tmp 5), 3, none, []⟩,
         ⟨some 14, .indexAddr 28 (.tmp 12) (.tmp 13), 0, none, [12, 13]⟩,
         ⟨some 15, .load 32 (.tmp 14), 32, none, [14]⟩,
         ⟨some 16, .call ⟨.value (.tmp 11), #[.tmp 15], #[32]⟩, 4, none, [11, 15]⟩])
       (.cond (.tmp 16)
        (.seq
         (.reg [⟨some 17, .move (.tmp 5), 3, none, [5]⟩,
           ⟨some 4, .assign (.tmp 17), 3, none, [17]⟩])
         .ret)
        .skip))))
    (.reg [⟨some 18, .binOp .add 3 (.tmp 8) (.const (.int .i64 1)) 3, 3, none, [8]⟩,
      ⟨some 8, .move (.tmp 18), 3, none, [18]⟩]))))
def F131.c : SC :=
 (.seq
  (.reg [⟨some 4, .assign (.const (.int .i64 0)), 3, none, [4]⟩])
  (.seq
   (.seq
    (.reg [⟨some 6, .move (.tmp 0), 28, none, []⟩,
      ⟨some 7, .call ⟨.builtin .len, #[.tmp 6], #[28]⟩, 3, none, [6]⟩,
      ⟨some 8, .move (.const (.int .i64 0)), 3, none, []⟩])
    (.block 0
     (.loop F131.s0)))
   (.seq
    (.reg [⟨some 4, .assign (.const (.int .i64 (-1))), 3, none, []⟩])
    .ret)))
theorem F131.rs : Tryz.f131.results.toList = [.tmp 4] := rfl
def slices_IndexFunc_api_Want.b0 (k : Nat) (f1 : Want → Option (Bool)) (s0 : (List Want)) : Int → Option (Stp (Int) (Unit) (Int)) := fun (i1 : Int) => 
  bif decide (i1 < (s0.length : Int)) then
    (at? s0 i1).bind fun x3 =>
    (f1 x3).bind fun x4 =>
    bif x4 then
      some (.ret i1)
    else
      some (.next (w64 (i1 + 1)))
  else
    some (.brk ())
noncomputable def slices_IndexFunc_api_Want.h0 (f1_f : Nat) (f1_c : List AV) (s0 : (List Want)) : Int → St := fun (i1 : Int) => ⟨[(0, .sl 3 (List.map Want.c s0)), (1, .fn (.func f1_f) [] f1_c), (7, .int .i64 (s0.length : Int)), (8, .int .i64 i1)], [], [], 1, Tryz.f131.ntmps⟩
noncomputable def slices_IndexFunc_api_Want.x0 : Unit → St := fun (_ : Unit) => ⟨[], [], [], 1, Tryz.f131.ntmps⟩
def slices_IndexFunc_api_Want (k : Nat) (s0 : (List Want)) (f1 : Want → Option (Bool)) : Option (Int) :=
  (whl (slices_IndexFunc_api_Want.b0 k f1 s0) k 0).bind fun r6 => match r6 with
  | .next _ => none
  | .ret v_ => some v_
  | .brk _ =>
    some (-1)
theorem slices_IndexFunc_api_Want_ok (k : Nat) (s0 : (List Want)) (f1_f : Nat) (f1_c : List AV) (f1_i : Ice f1_c) (f1 : Want → Option (Bool)) (f1_h : ∀ q0 qr, f1 q0 = some qr → PCall Tryz.prog f1_f (.agg (Want.c q0) :: f1_c) (fun y => y = .bool qr)) (r : Int) (h0 : slices_IndexFunc_api_Want k s0 f1 = some r) : PCall Tryz.prog 131 [.sl 3 (List.map Want.c s0), .fn (.func f1_f) [] f1_c] (fun y => y = .int .i64 r) := by
  refine PCall.nlr (PCall.of_body T_ok (fn := Tryz.f131) (sc := F131.c) (by rfl) (by rfl) (by decide +kernel) (by rfl) (by decide +kernel) (Nat.le_of_ble_eq_true rfl) ?_)
  refine run_sound T_ok 1000 _ _ ?_
  simp only [slices_IndexFunc_api_Want] at h0
  try simp only [F131.c, f1_i.sh, f1_i.frz, f1_i.br, f1_i.refs, f1_i.imp, f1_i.ren, f1_i.un, go_sem]
  obtain ⟨r6, yr6, h0⟩ := bind_some h0
  refine AKev_loopS yr6 (slices_IndexFunc_api_Want.h0 f1_f f1_c s0) (slices_IndexFunc_api_Want.x0) ?_ ?_ ?_
  · refine Weak.go [0, 1, 7, 8] [] rfl ?_
    try simp only [slices_IndexFunc_api_Want.h0, f1_i.sh, f1_i.frz, f1_i.br, f1_i.refs, f1_i.imp, f1_i.ren, f1_i.un, go_sem]
  · rintro i1 x_1 Bk1 Br1 h1 hnext1 hbrk1 hret1
    refine run_sound T_ok 1000 _ _ ?_
    simp only [slices_IndexFunc_api_Want.b0] at h1
    try simp only [F131.s0, slices_IndexFunc_api_Want.h0, f1_i.sh, f1_i.frz, f1_i.br, f1_i.refs, f1_i.imp, f1_i.ren, f1_i.un, go_sem]
    refine AKev_bif h1 (fun c2 h1 => ?_) (fun c2 h1 => ?_)
    · try simp only [c2, f1_i.sh, f1_i.frz, f1_i.br, f1_i.refs, f1_i.imp, f1_i.ren, f1_i.un, go_sem]
      obtain ⟨x3, yx3, h1⟩ := bind_some h1
      try simp only [at_in yx3, at_get Want.c yx3, f1_i.sh, f1_i.frz, f1_i.br, f1_i.refs, f1_i.imp, f1_i.ren, f1_i.un, c2, go_sem]
      obtain ⟨x4, yx4, h1⟩ := bind_some h1
      refine AKev_call0 T_ok 1000 (f1_h _ _ yx4) ?_ (by first | rfl | simp [AV.refsL, AV.refs, AV.scal, AV.leaf, f1_i.refs]) ?_
      · try simp only [f1_i.sh, f1_i.frz, f1_i.br, f1_i.refs, f1_i.imp, f1_i.ren, f1_i.un, c2, at_in yx3, at_get Want.c yx3, go_sem]
      try simp only [f1_i.sh, f1_i.frz, f1_i.br, f1_i.refs, f1_i.imp, f1_i.ren, f1_i.un, c2, at_in yx3, at_get Want.c yx3, go_sem]
      refine AKev_bif h1 (fun c5 h1 => ?_) (fun c5 h1 => ?_)
      · try simp only [c5, f1_i.sh, f1_i.frz, f1_i.br, f1_i.refs, f1_i.imp, f1_i.ren, f1_i.un, c2, at_in yx3, at_get Want.c yx3, go_sem]
        obtain rfl := hret1 _ (Option.some.inj h1).symm
        simp only at h0
        obtain rfl := Option.some.inj h0
        refine AKev_ret rfl ?_
        try simp only [F131.rs, f1_i.sh, f1_i.frz, f1_i.br, f1_i.refs, f1_i.imp, f1_i.ren, f1_i.un, c2, at_in yx3, at_get Want.c yx3, c5, go_sem]
      · try simp only [c5, f1_i.sh, f1_i.frz, f1_i.br, f1_i.refs, f1_i.imp, f1_i.ren, f1_i.un, c2, at_in yx3, at_get Want.c yx3, go_sem]
        refine AKev_backB (hnext1 _ _ (Option.some.inj h1).symm ?_)
        refine Weak.go [0, 1, 7, 8] [] rfl ?_
        try simp only [slices_IndexFunc_api_Want.h0, f1_i.sh, f1_i.frz, f1_i.br, f1_i.refs, f1_i.imp, f1_i.ren, f1_i.un, c2, at_in yx3, at_get Want.c yx3, c5, go_sem]
    · try simp only [c2, f1_i.sh, f1_i.frz, f1_i.br, f1_i.refs, f1_i.imp, f1_i.ren, f1_i.un, go_sem]
      refine AKev_backB (hbrk1 _ _ (Option.some.inj h1).symm ?_)
      refine Weak.go [] [] rfl ?_
      try simp only [slices_IndexFunc_api_Want.x0, f1_i.sh, f1_i.frz, f1_i.br, f1_i.refs, f1_i.imp, f1_i.ren, f1_i.un, c2, go_sem]
  · rintro _ hr_
    subst hr_
    simp only at h0
    refine run_sound T_ok 1000 _ _ ?_
    try simp only [slices_IndexFunc_api_Want.x0, f1_i.sh, f1_i.frz, f1_i.br, f1_i.refs, f1_i.imp, f1_i.ren, f1_i.un, go_sem]
    obtain rfl := Option.some.inj h0
    refine AKev_ret rfl ?_
    try simp only [F131.rs, f1_i.sh, f1_i.frz, f1_i.br, f1_i.refs, f1_i.imp, f1_i.ren, f1_i.un, go_sem]
end Go.Abs
namespace Go.Abs
open Go.Proofs
set_option maxRecDepth 20000
set_option linter.unusedVariables false
set_option linter.unusedSimpArgs false
set_option maxHeartbeats 8000000
def F105.c : SC :=
 (.seq
  (.reg [⟨some 4, .assign (.const (.bool false)), 4, none, [4]⟩])
  (.seq
   (.reg [⟨some 5, .move (.tmp 0), 28, none, [0]⟩,
     ⟨some 6, .move (.tmp 1), 130, none, [1]⟩,
     ⟨some 7, .call ⟨.value (.func 131), #[.tmp 5, .tmp 6], #[28, 130]⟩, 3, none, [5, 6]⟩,
     ⟨some 8, .binOp .geq 3 (.tmp 7) (.const (.int .i64 0)) 3, 4, none, [7]⟩,
     ⟨some 4, .assign (.tmp 8), 4, none, [8]⟩])
   .ret))
theorem F105.rs : Tryz.f105.results.toList = [.tmp 4] := rfl
def slices_ContainsFunc_api_Want (k : Nat) (s0 : (List Want)) (f1 : Want → Option (Bool)) : Option (Bool) :=
  (slices_IndexFunc_api_Want k s0 f1).bind fun x1 =>
  some (decide ((0 : Int) ≤ x1))
theorem slices_ContainsFunc_api_Want_ok (k : Nat) (s0 : (List Want)) (f1_f : Nat) (f1_c : List AV) (f1_i : Ice f1_c) (f1 : Want → Option (Bool)) (f1_h : ∀ q0 qr, f1 q0 = some qr → PCall Tryz.prog f1_f (.agg (Want.c q0) :: f1_c) (fun y => y = .bool qr)) (r : Bool) (h0 : slices_ContainsFunc_api_Want k s0 f1 = some r) : PCall Tryz.prog 105 [.sl 3 (List.map Want.c s0), .fn (.func f1_f) [] f1_c] (fun y => y = .bool r) := by
  refine PCall.nlr (PCall.of_body T_ok (fn := Tryz.f105) (sc := F105.c) (by rfl) (by rfl) (by decide +kernel) (by rfl) (by decide +kernel) (Nat.le_of_ble_eq_true rfl) ?_)
  refine run_sound T_ok 1000 _ _ ?_
  simp only [slices_ContainsFunc_api_Want] at h0
  try simp only [F105.c, f1_i.sh, f1_i.frz, f1_i.br, f1_i.refs, f1_i.imp, f1_i.ren, f1_i.un, go_sem]
  obtain ⟨x1, yx1, h0⟩ := bind_some h0
  refine AKev_call0 T_ok 1000 (slices_IndexFunc_api_Want_ok k _ f1_f f1_c f1_i f1 f1_h _ yx1) ?_ (by first | rfl | simp [AV.refsL, AV.refs, AV.scal, AV.leaf, f1_i.refs]) ?_
  · try simp only [f1_i.sh, f1_i.frz, f1_i.br, f1_i.refs, f1_i.imp, f1_i.ren, f1_i.un, go_sem]
  try simp only [f1_i.sh, f1_i.frz, f1_i.br, f1_i.refs, f1_i.imp, f1_i.ren, f1_i.un, go_sem]
  obtain rfl := Option.some.inj h0
  refine AKev_ret rfl ?_
  try simp only [F105.rs, f1_i.sh, f1_i.frz, f1_i.br, f1_i.refs, f1_i.imp, f1_i.ren, f1_i.un, go_sem]
end Go.Abs
namespace Go.Abs
open Go.Proofs
set_option maxRecDepth 20000
set_option linter.unusedVariables false
set_option linter.unusedSimpArgs false
set_option maxHeartbeats 8000000
def F106.c : SC :=
 (.seq
  (.reg [⟨some 2, .box 32 (.tmp 0), 0, none, [0]⟩,
    ⟨some 3, .assign (.const (.bool false)), 4, none, [3]⟩])
  (.seq
   (.reg [⟨some 4, .load 130 (.tmp 1), 130, none, [1]⟩,
     ⟨some 5, .load 32 (.tmp 2), 32, none, [2]⟩,
     ⟨some 6, .call ⟨.value (.tmp 4), #[.tmp 5], #[32]⟩, 4, none, [4, 5]⟩,
     ⟨some 7, .unOp .not 4 (.tmp 6), 4, none, [6]⟩,
     ⟨some 3, .assign (.tmp 7), 4, none, [7]⟩])
   .ret))
theorem F106.rs : Tryz.f106.results.toList = [.tmp 3] := rfl
def heat_wanted_2 (k : Nat) (w0 : Want) (c1 : Want → Option (Bool)) : Option (Bool) :=
  (c1 w0).bind fun x1 =>
  some (!x1)
theorem heat_wanted_2_ok (k : Nat) (w0 : Want) (c1_f : Nat) (c1_c : List AV) (c1_i : Ice c1_c) (c1 : Want → Option (Bool)) (c1_h : ∀ q0 qr, c1 q0 = some qr → PCall Tryz.prog c1_f (.agg (Want.c q0) :: c1_c) (fun y => y = .bool qr)) (r : Bool) (h0 : heat_wanted_2 k w0 c1 = some r) : PCall Tryz.prog 106 [.agg (Want.c w0), .rptr 1 [[.fn (.func c1_f) [] c1_c]] 0 0] (fun y => y = .bool r) := by
  refine PCall.nlr (PCall.of_body T_ok (fn := Tryz.f106) (sc := F106.c) (by rfl) (by rfl) (by decide +kernel) (by rfl) (by decide +kernel) (Nat.le_of_ble_eq_true rfl) ?_)
  refine run_sound T_ok 1000 _ _ ?_
  simp only [heat_wanted_2] at h0
  try simp only [F106.c, c1_i.sh, c1_i.frz, c1_i.br, c1_i.refs, c1_i.imp, c1_i.ren, c1_i.un, go_sem]
  obtain ⟨x1, yx1, h0⟩ := bind_some h0
  refine AKev_call0 T_ok 1000 (c1_h _ _ yx1) ?_ (by first | rfl | simp [AV.refsL, AV.refs, AV.scal, AV.leaf, c1_i.refs]) ?_
  · try simp only [c1_i.sh, c1_i.frz, c1_i.br, c1_i.refs, c1_i.imp, c1_i.ren, c1_i.un, go_sem]
  try simp only [c1_i.sh, c1_i.frz, c1_i.br, c1_i.refs, c1_i.imp, c1_i.ren, c1_i.un, go_sem]
  obtain rfl := Option.some.inj h0
  refine AKev_ret rfl ?_
  try simp only [F106.rs, c1_i.sh, c1_i.frz, c1_i.br, c1_i.refs, c1_i.imp, c1_i.ren, c1_i.un, go_sem]
end Go.Abs
namespace Go.Abs
open Go.Proofs
set_option maxRecDepth 20000
set_option linter.unusedVariables false
set_option linter.unusedSimpArgs false
set_option maxHeartbeats 8000000
def F52.s0 : SC :=
 (.seq
  (.reg [⟨some 43, .binOp .lss 3 (.tmp 42) (.tmp 41) 3, 0, none, []⟩])
  (.seq
   (.cond (.tmp 43)
    .skip
    (.exit 0))
   (.seq
    (.block 1
     (.seq
      (.reg [⟨some 44, .indexAddr 28 (.tmp 40) (.tmp 42), 0, none, []⟩,
        ⟨some 45, .load 32 (.tmp 44), 32, none, [44]⟩,
        ⟨some 12, .alloc 32, 0, none, []⟩,
        ⟨none, .store 32 (.tmp 12) (.tmp 45), 0, none, [45]⟩])
      (.reg [⟨some 46, .load 81 (.tmp 10), 81, none, []⟩,
        ⟨some 47, .fieldAddr 32 (.tmp 12) 0, 0, none, []⟩,
        ⟨some 48, .load 3 (.tmp 47), 3, none, [47]⟩,
        ⟨some 49, .fieldAddr 32 (.tmp 12) 1, 0, none, [12]⟩,
        ⟨some 50, .load 30 (.tmp 49), 30, none, [49]⟩,
        ⟨some 51, .call ⟨.value (.func 83), #[.tmp 46, .tmp 48, .tmp 50], #[81, 3, 30]⟩, 81, none, [46, 48, 50]⟩,
        ⟨none, .store 81 (.tmp 10) (.tmp 51), 0, none, [51]⟩])))
    (.reg [⟨some 52, .binOp .add 3 (.tmp 42) (.const (.int .i64 1)) 3, 3, none, [42]⟩,
      ⟨some 42, .move (.tmp 52), 3, none, [52]⟩]))))
def F52.c : SC :=
 (.seq
  (.reg [⟨some 2, .box 27 (.tmp 0), 0, none, [0]⟩,
    ⟨some 4, .alloc 81, 0, none, []⟩,
    ⟨some 5, .alloc 81, 0, none, []⟩,
    ⟨some 6, .assign (.const (.int .i64 0)), 33, none, [6]⟩])
  (.seq
   (.seq
    (.reg [⟨some 13, .load 27 (.tmp 2), 27, none, []⟩,
      ⟨some 14, .call ⟨.value (.func 42), #[.tmp 13], #[27]⟩, 33, none, [13]⟩,
      ⟨some 15, .binOp .neq 33 (.tmp 14) (.const (.int .i64 0)) 33, 4, none, [14]⟩])
    (.cond (.tmp 15)
     (.seq
      (.reg [⟨some 16, .build 81 #[], 81, none, []⟩,
        ⟨some 17, .build 81 #[], 81, none, []⟩,
        ⟨none, .store 81 (.tmp 4) (.tmp 16), 0, none, [16]⟩,
        ⟨none, .store 81 (.tmp 5) (.tmp 17), 0, none, [17]⟩,
        ⟨some 6, .assign (.const (.int .i64 42)), 33, none, []⟩])
      .ret)
     .skip))
   (.seq
    (.reg [⟨some 18, .makeFunc (.func 104) #[] #[.tmp 2], 130, none, []⟩,
      ⟨some 7, .alloc 130, 0, none, []⟩,
      ⟨none, .store 130 (.tmp 7) (.tmp 18), 0, none, [18]⟩])
    (.seq
     (.seq
      (.reg [⟨some 19, .move (.tmp 1), 28, none, []⟩,
        ⟨some 20, .call ⟨.builtin .len, #[.tmp 19], #[28]⟩, 3, none, [19]⟩,
        ⟨some 21, .binOp .gtr 3 (.tmp 20) (.const (.int .i64 24)) 3, 4, none, [20]⟩,
        ⟨some 22, .move (.tmp 21), 4, none, [21]⟩,
        ⟨some 23, .move (.tmp 1), 28, some (22, false), []⟩,
        ⟨some 24, .makeFunc (.func 106) #[] #[.tmp 7], 130, some (22, false), [7]⟩,
        ⟨some 25, .call ⟨.value (.func 105), #[.tmp 23, .tmp 24], #[28, 130]⟩, 4, some (22, false), [23, 24]⟩,
        ⟨some 26, .pick (.tmp 22) (.const (.bool true)) (.tmp 25), 4, none, [22, 25]⟩])
      (.cond (.tmp 26)
       (.seq
        (.reg [⟨some 27, .build 81 #[], 81, none, []⟩,
          ⟨some 28, .build 81 #[], 81, none, []⟩,
          ⟨none, .store 81 (.tmp 4) (.tmp 27), 0, none, [27]⟩,
          ⟨none, .store 81 (.tmp 5) (.tmp 28), 0, none, [28]⟩,
          ⟨some 6, .assign (.const (.int .i64 49)), 33, none, []⟩])
        .ret)
       .skip))
     (.seq
      (.reg [⟨some 30, .load 27 (.tmp 2), 27, none, [2]⟩,
        ⟨some 31, .call ⟨.value (.func 76), #[.tmp 30, .const (.int .i64 0)], #[27, 3]⟩, 104, none, [30]⟩,
        ⟨some 29, .move (.tmp 31), 104, none, [31]⟩,
        ⟨some 32, .extract (.tmp 29) 0, 81, none, []⟩,
        ⟨some 33, .extract (.tmp 29) 1, 33, none, [29]⟩,
        ⟨some 8, .alloc 81, 0, none, []⟩,
        ⟨none, .store 81 (.tmp 8) (.tmp 32), 0, none, [32]⟩,
        ⟨some 9, .assign (.tmp 33), 33, none, [33]⟩])
      (.seq
       (.seq
        (.reg [⟨some 34, .move (.tmp 9), 33, none, []⟩,
          ⟨some 35, .binOp .neq 33 (.tmp 34) (.const (.int .i64 0)) 33, 4, none, [34]⟩])
        (.cond (.tmp 35)
         (.seq
          (.reg [⟨some 36, .build 81 #[], 81, none, []⟩,
            ⟨some 37, .build 81 #[], 81, none, []⟩,
            ⟨some 38, .move (.tmp 9), 33, none, [9]⟩,
            ⟨none, .store 81 (.tmp 4) (.tmp 36), 0, none, [36]⟩,
            ⟨none, .store 81 (.tmp 5) (.tmp 37), 0, none, [37]⟩,
            ⟨some 6, .assign (.tmp 38), 33, none, [38]⟩])
          .ret)
         .skip))
       (.seq
        (.reg [⟨some 39, .load 81 (.tmp 8), 81, none, []⟩,
          ⟨some 10, .alloc 81, 0, none, []⟩,
          ⟨none, .store 81 (.tmp 10) (.tmp 39), 0, none, [39]⟩])
        (.seq
         (.seq
          (.reg [⟨some 40, .move (.tmp 1), 28, none, [1]⟩,
            ⟨some 41, .call ⟨.builtin .len, #[.tmp 40], #[28]⟩, 3, none, []⟩,
            ⟨some 42, .move (.const (.int .i64 0)), 3, none, []⟩])
          (.block 0
           (.loop F52.s0)))
         (.seq
          (.dreg [⟨some 53, .load 81 (.tmp 8), 81, none, []⟩,
            ⟨some 54, .load 81 (.tmp 10), 81, none, []⟩,
            ⟨none, .store 81 (.tmp 4) (.tmp 53), 0, none, []⟩,
            ⟨none, .store 81 (.tmp 5) (.tmp 54), 0, none, []⟩,
            ⟨some 6, .assign (.const (.int .i64 0)), 33, none, []⟩] [[], [], [0], [1, 0, 2], [1, 0, 2, 3]] [8, 10, 53, 54])
          .ret)))))))))
theorem F52.rs : Tryz.f52.results.toList = [.cell 4 81, .cell 5 81, .tmp 6] := rfl
def heat_wanted.b0 (k : Nat) (l1 : (List Want)) : (heat_furnace × Int) → Option (Stp (heat_furnace × Int) (heat_furnace) (heat_furnace × heat_furnace × Int)) := fun (s : heat_furnace × Int) => match s with
  | (s8, i9) => 
      bif decide (i9 < (l1.length : Int)) then
        (at? l1 i9).bind fun x12 =>
        (heat_furnace_asked k s8 x12.Place x12.Heat).bind fun x13 =>
        some (.next (x13, w64 (i9 + 1)))
      else
        some (.brk s8)
noncomputable def heat_wanted.h0 (l1 : (List Want)) (x6 : heat_furnace × Int) : (heat_furnace × Int) → St := fun (s : heat_furnace × Int) => match s with
  | (s8, i9) => ⟨[(4, .ptr 0 0 0), (5, .ptr 0 5 0), (8, .ptr 0 10 0), (10, .ptr 0 11 0), (40, .sl 3 (List.map Want.c l1)), (41, .int .i64 (l1.length : Int)), (42, .int .i64 i9)], [(0, .box [.loc 0 1 1 0 0 0, .loc 0 2 6 0 0 0, .loc 0 3 3 0 0 0, .loc 0 4 3 0 0 0]), (1, .arr 89 1 (List.map (eL 2 Range.c) [])), (2, .arr 64 6 (List.map Reading.c [])), (3, .arr 135 3 (List.map heat_limit.c [])), (4, .arr 135 3 (List.map heat_limit.c [])), (5, .box [.loc 0 6 1 0 0 0, .loc 0 7 6 0 0 0, .loc 0 8 3 0 0 0, .loc 0 9 3 0 0 0]), (6, .arr 89 1 (List.map (eL 2 Range.c) [])), (7, .arr 64 6 (List.map Reading.c [])), (8, .arr 135 3 (List.map heat_limit.c [])), (9, .arr 135 3 (List.map heat_limit.c [])), (10, .box [.sl 1 (List.map (eL 2 Range.c) x6.1.Firing.Kiln.Falls), .sl 6 (List.map Reading.c x6.1.Firing.Readings), .sl 3 (List.map heat_limit.c x6.1.least), .sl 3 (List.map heat_limit.c x6.1.most)]), (11, .box [.sl 1 (List.map (eL 2 Range.c) s8.Firing.Kiln.Falls), .sl 6 (List.map Reading.c s8.Firing.Readings), .sl 3 (List.map heat_limit.c s8.least), .sl 3 (List.map heat_limit.c s8.most)])], [], 12, Tryz.f52.ntmps⟩
noncomputable def heat_wanted.x0 (x6 : heat_furnace × Int) : heat_furnace → St := fun (s10 : heat_furnace) => ⟨[(4, .ptr 0 0 0), (5, .ptr 0 5 0), (8, .ptr 0 10 0), (10, .ptr 0 11 0)], [(0, .box [.loc 0 1 1 0 0 0, .loc 0 2 6 0 0 0, .loc 0 3 3 0 0 0, .loc 0 4 3 0 0 0]), (1, .arr 89 1 (List.map (eL 2 Range.c) [])), (2, .arr 64 6 (List.map Reading.c [])), (3, .arr 135 3 (List.map heat_limit.c [])), (4, .arr 135 3 (List.map heat_limit.c [])), (5, .box [.loc 0 6 1 0 0 0, .loc 0 7 6 0 0 0, .loc 0 8 3 0 0 0, .loc 0 9 3 0 0 0]), (6, .arr 89 1 (List.map (eL 2 Range.c) [])), (7, .arr 64 6 (List.map Reading.c [])), (8, .arr 135 3 (List.map heat_limit.c [])), (9, .arr 135 3 (List.map heat_limit.c [])), (10, .box [.sl 1 (List.map (eL 2 Range.c) x6.1.Firing.Kiln.Falls), .sl 6 (List.map Reading.c x6.1.Firing.Readings), .sl 3 (List.map heat_limit.c x6.1.least), .sl 3 (List.map heat_limit.c x6.1.most)]), (11, .box [.sl 1 (List.map (eL 2 Range.c) s10.Firing.Kiln.Falls), .sl 6 (List.map Reading.c s10.Firing.Readings), .sl 3 (List.map heat_limit.c s10.least), .sl 3 (List.map heat_limit.c s10.most)])], [], 12, Tryz.f52.ntmps⟩
def heat_wanted (k : Nat) (f0 : Firing) (l1 : (List Want)) : Option (heat_furnace × heat_furnace × Int) :=
  (heat_Check k f0).bind fun x1 =>
  bif (!decide (x1 = (0 : Int))) then
    some ((⟨(⟨(⟨[]⟩ : Kiln), []⟩ : Firing), [], []⟩ : heat_furnace), (⟨(⟨(⟨[]⟩ : Kiln), []⟩ : Firing), [], []⟩ : heat_furnace), 42)
  else
    bif (!decide ((24 : Int) < (l1.length : Int))) then
      (slices_ContainsFunc_api_Want k l1 (fun q0 => heat_wanted_2 k q0 (fun q0 => heat_wanted_1 k q0 f0))).bind fun x4 =>
      bif x4 then
        some ((⟨(⟨(⟨[]⟩ : Kiln), []⟩ : Firing), [], []⟩ : heat_furnace), (⟨(⟨(⟨[]⟩ : Kiln), []⟩ : Firing), [], []⟩ : heat_furnace), 49)
      else
        (heat_asks k f0 0).bind fun x6 =>
        bif (!decide (x6.2 = (0 : Int))) then
          some ((⟨(⟨(⟨[]⟩ : Kiln), []⟩ : Firing), [], []⟩ : heat_furnace), (⟨(⟨(⟨[]⟩ : Kiln), []⟩ : Firing), [], []⟩ : heat_furnace), x6.2)
        else
          (whl (heat_wanted.b0 k l1) k (x6.1, 0)).bind fun r14 => match r14 with
          | .next _ => none
          | .ret v_ => some v_
          | .brk s10 =>
            some (x6.1, s10, 0)
    else
      some ((⟨(⟨(⟨[]⟩ : Kiln), []⟩ : Firing), [], []⟩ : heat_furnace), (⟨(⟨(⟨[]⟩ : Kiln), []⟩ : Firing), [], []⟩ : heat_furnace), 49)
theorem heat_wanted_ok (k : Nat) (f0 : Firing) (l1 : (List Want)) (r : heat_furnace × heat_furnace × Int) (h0 : heat_wanted k f0 l1 = some r) : PCall Tryz.prog 52 [.agg (Firing.c f0), .sl 3 (List.map Want.c l1)] (fun y => y = .tup [.agg (heat_furnace.c r.1), .agg (heat_furnace.c r.2.1), .int .i64 r.2.2]) := by
  refine PCall.nlr (PCall.of_body T_ok (fn := Tryz.f52) (sc := F52.c) (by rfl) (by rfl) (by decide +kernel) (by rfl) (by decide +kernel) (Nat.le_of_ble_eq_true rfl) ?_)
  refine run_sound T_ok 1000 _ _ ?_
  simp only [heat_wanted] at h0
  try simp only [F52.c, go_sem]
  obtain ⟨x1, yx1, h0⟩ := bind_some h0
  refine AKev_call0 T_ok 1000 (heat_Check_ok k _ _ yx1) ?_ (by first | rfl | simp [AV.refsL, AV.refs, AV.scal, AV.leaf]) ?_
  · try simp only [go_sem]
  try simp only [go_sem]
  refine AKev_bif h0 (fun c2 h0 => ?_) (fun c2 h0 => ?_)
  · have c2 := bnot_t c2
    try simp only [c2, go_sem]
    obtain rfl := Option.some.inj h0
    refine AKev_ret rfl ?_
    try simp only [F52.rs, c2, go_sem]
  · have c2 := bnot_f c2
    try simp only [c2, go_sem]
    refine AKev_bif h0 (fun c3 h0 => ?_) (fun c3 h0 => ?_)
    · have c3 := bnot_t c3
      try simp only [c3, c2, go_sem]
      obtain ⟨x4, yx4, h0⟩ := bind_some h0
      refine AKev_callL T_ok 1000 (slices_ContainsFunc_api_Want_ok k _ 106 [.rptr 1 [[.fn (.func 104) [] [.rptr 2 [Firing.c f0] 0 0]]] 0 0] ⟨fun _ => rfl, fun _ => rfl, fun _ _ => rfl, rfl, fun _ => rfl, fun _ => rfl, fun _ => rfl⟩ (fun q0 => heat_wanted_2 k q0 (fun q0 => heat_wanted_1 k q0 f0)) (fun q0 qr qh => heat_wanted_2_ok k q0 104 [.rptr 2 [Firing.c f0] 0 0] ⟨fun _ => rfl, fun _ => rfl, fun _ _ => rfl, rfl, fun _ => rfl, fun _ => rfl, fun _ => rfl⟩ (fun q0 => heat_wanted_1 k q0 f0) (fun q0 qr qh => heat_wanted_1_ok k q0 _ qr qh) qr qh) _ yx4) ?_ (by first | rfl | simp [AV.refsL, AV.refs, AV.scal, AV.leaf]) ?_
      · try simp only [c2, c3, go_sem]
      try simp only [c2, c3, go_sem]
      refine AKev_bif h0 (fun c5 h0 => ?_) (fun c5 h0 => ?_)
      · try simp only [c5, c2, c3, go_sem]
        obtain rfl := Option.some.inj h0
        refine AKev_ret rfl ?_
        try simp only [F52.rs, c2, c3, c5, go_sem]
      · try simp only [c5, c2, c3, go_sem]
        obtain ⟨x6, yx6, h0⟩ := bind_some h0
        refine AKev_call0 T_ok 1000 (heat_asks_ok k _ _ _ yx6) ?_ (by first | rfl | simp [AV.refsL, AV.refs, AV.scal, AV.leaf]) ?_
        · try simp only [c2, c3, c5, go_sem]
        try simp only [c2, c3, c5, go_sem]
        refine AKev_bif h0 (fun c7 h0 => ?_) (fun c7 h0 => ?_)
        · have c7 := bnot_t c7
          try simp only [c7, c2, c3, c5, go_sem]
          obtain rfl := Option.some.inj h0
          refine AKev_ret rfl ?_
          try simp only [F52.rs, c2, c3, c5, c7, go_sem]
        · have c7 := bnot_f c7
          try simp only [c7, c2, c3, c5, go_sem]
          obtain ⟨r14, yr14, h0⟩ := bind_some h0
          refine AKev_loopS yr14 (heat_wanted.h0 l1 x6) (heat_wanted.x0 x6) ?_ ?_ ?_
          · refine Weak.go [4, 5, 8, 10, 40, 41, 42] [16, 17, 18, 19, 20, 32, 33, 34, 35, 36, 368, 464] rfl ?_
            try simp only [heat_wanted.h0, c2, c3, c5, c7, go_sem]
          · rintro ⟨s8, i9⟩ x_1 Bk1 Br1 h1 hnext1 hbrk1 hret1
            refine run_sound T_ok 1000 _ _ ?_
            simp only [heat_wanted.b0] at h1
            try simp only [F52.s0, heat_wanted.h0, c2, c3, c5, c7, go_sem]
            refine AKev_bif h1 (fun c11 h1 => ?_) (fun c11 h1 => ?_)
            · try simp only [c11, c2, c3, c5, c7, go_sem]
              obtain ⟨x12, yx12, h1⟩ := bind_some h1
              try simp only [at_in yx12, at_get Want.c yx12, c2, c3, c5, c7, c11, go_sem]
              obtain ⟨x13, yx13, h1⟩ := bind_some h1
              refine AKev_call0 T_ok 1000 (heat_furnace_asked_ok k _ _ _ _ yx13) ?_ (by first | rfl | simp [AV.refsL, AV.refs, AV.scal, AV.leaf]) ?_
              · try simp only [c2, c3, c5, c7, c11, at_in yx12, at_get Want.c yx12, go_sem]
              try simp only [c2, c3, c5, c7, c11, at_in yx12, at_get Want.c yx12, go_sem]
              refine AKev_backB (hnext1 _ _ (Option.some.inj h1).symm ?_)
              refine Weak.go [4, 5, 8, 10, 40, 41, 42] [0, 1, 2, 3, 4, 5, 6, 7, 8, 9, 10, 11] rfl ?_
              try simp only [heat_wanted.h0, c2, c3, c5, c7, c11, at_in yx12, at_get Want.c yx12, go_sem]
            · try simp only [c11, c2, c3, c5, c7, go_sem]
              refine AKev_backB (hbrk1 _ _ (Option.some.inj h1).symm ?_)
              refine Weak.go [4, 5, 8, 10] [0, 1, 2, 3, 4, 5, 6, 7, 8, 9, 10, 11] rfl ?_
              try simp only [heat_wanted.x0, c2, c3, c5, c7, c11, go_sem]
          · rintro s10 hr_
            subst hr_
            simp only at h0
            refine run_sound T_ok 1000 _ _ ?_
            try simp only [heat_wanted.x0, c2, c3, c5, c7, go_sem]
            refine AKev_region T_ok follows_ok 1000 ?_
            try simp only [c2, c3, c5, c7, go_sem]
            refine DG_done ⟨rfl, run_sound T_ok 1000 _ _ ?_⟩
            try simp only [c2, c3, c5, c7, go_sem]
            obtain rfl := Option.some.inj h0
            refine AKev_ret rfl ?_
            try simp only [F52.rs, c2, c3, c5, c7, go_sem]
    · have c3 := bnot_f c3
      try simp only [c3, c2, go_sem]
      obtain rfl := Option.some.inj h0
      refine AKev_ret rfl ?_
      try simp only [F52.rs, c2, c3, go_sem]
end Go.Abs
namespace Go.Abs
open Go.Proofs
set_option maxRecDepth 20000
set_option linter.unusedVariables false
set_option linter.unusedSimpArgs false
set_option maxHeartbeats 8000000
def F124.s0 : SC :=
 (.seq
  (.reg [⟨some 21, .binOp .lss 3 (.tmp 20) (.tmp 19) 3, 4, none, []⟩])
  (.seq
   (.cond (.tmp 21)
    .skip
    (.exit 0))
   (.seq
    (.block 1
     (.seq
      (.reg [⟨some 22, .move (.tmp 20), 3, none, []⟩,
        ⟨some 10, .assign (.tmp 22), 3, none, [22]⟩])
      (.seq
       (.dreg [⟨some 23, .fieldAddr 135 (.tmp 4) 1, 0, none, []⟩,
         ⟨some 24, .load 3 (.tmp 23), 3, none, []⟩,
         ⟨some 25, .fieldAddr 81 (.tmp 3) 0, 0, none, []⟩,
         ⟨some 26, .fieldAddr 27 (.tmp 25) 0, 0, none, []⟩,
         ⟨some 27, .fieldAddr 24 (.tmp 26) 0, 0, none, []⟩,
         ⟨some 28, .load 22 (.tmp 27), 22, none, []⟩,
         ⟨some 29, .move (.tmp 10), 3, none, []⟩,
         ⟨some 30, .indexAddr 22 (.tmp 28) (.tmp 29), 0, none, []⟩,
         ⟨some 31, .load 89 (.tmp 30), 89, none, []⟩,
         ⟨some 32, .fieldAddr 135 (.tmp 4) 0, 0, none, []⟩,
         ⟨some 33, .load 3 (.tmp 32), 3, none, []⟩,
         ⟨some 34, .indexAddr 89 (.tmp 31) (.tmp 33), 0, none, []⟩,
         ⟨some 35, .fieldAddr 30 (.tmp 34) 0, 0, none, []⟩,
         ⟨some 36, .load 3 (.tmp 35), 3, none, []⟩,
         ⟨some 37, .binOp .add 3 (.tmp 24) (.tmp 36) 3, 3, none, []⟩,
         ⟨some 11, .assign (.tmp 37), 3, none, []⟩] [[], [0], [], [2], [2, 3], [2, 3, 4], [], [2, 3, 4, 5, 6], [2, 3, 4, 5, 6, 7], [], [9], [2, 3, 4, 5, 6, 7, 8, 9, 10], [2, 3, 4, 5, 6, 7, 8, 9, 10, 11], [2, 3, 4, 5, 6, 7, 8, 9, 10, 11, 12], [0, 1, 2, 3, 4, 5, 6, 7, 8, 9, 10, 11, 12, 13], [0, 1, 2, 3, 4, 5, 6, 7, 8, 9, 10, 11, 12, 13, 14]] [23, 24, 25, 26, 27, 28, 29, 30, 31, 32, 33, 34, 35, 36, 37])
       (.seq
        (.reg [⟨some 39, .load 81 (.tmp 3), 81, none, []⟩,
          ⟨some 40, .move (.tmp 10), 3, none, []⟩,
          ⟨some 41, .call ⟨.value (.func 107), #[.tmp 39, .tmp 40], #[81, 3]⟩, 132, none, [39, 40]⟩,
          ⟨some 38, .move (.tmp 41), 132, none, [41]⟩,
          ⟨some 42, .extract (.tmp 38) 0, 3, none, []⟩,
          ⟨some 43, .extract (.tmp 38) 1, 3, none, [38]⟩,
          ⟨some 12, .assign (.tmp 42), 3, none, [42]⟩,
          ⟨some 13, .assign (.tmp 43), 3, none, [13, 43]⟩])
        (.seq
         (.reg [⟨some 44, .move (.tmp 11), 3, none, []⟩,
           ⟨some 45, .move (.tmp 12), 3, none, [12]⟩,
           ⟨some 46, .binOp .leq 3 (.tmp 44) (.tmp 45) 3, 4, none, [44, 45]⟩])
         (.cond (.tmp 46)
          (.seq
           (.reg [⟨some 47, .move (.tmp 11), 3, none, [11]⟩,
             ⟨some 48, .fieldAddr 81 (.tmp 3) 0, 0, none, []⟩,
             ⟨some 49, .fieldAddr 27 (.tmp 48) 0, 0, none, [48]⟩,
             ⟨some 50, .fieldAddr 24 (.tmp 49) 0, 0, none, [49]⟩,
             ⟨some 51, .load 22 (.tmp 50), 22, none, [50]⟩,
             ⟨some 52, .move (.tmp 10), 3, none, [10]⟩,
             ⟨some 53, .indexAddr 22 (.tmp 51) (.tmp 52), 0, none, [51, 52]⟩,
             ⟨some 54, .load 89 (.tmp 53), 89, none, [53]⟩,
             ⟨some 55, .move (.tmp 2), 3, none, []⟩,
             ⟨some 56, .indexAddr 89 (.tmp 54) (.tmp 55), 0, none, [54, 55]⟩,
             ⟨some 57, .fieldAddr 30 (.tmp 56) 1, 0, none, [56]⟩,
             ⟨some 58, .load 3 (.tmp 57), 3, none, [57]⟩,
             ⟨some 59, .binOp .sub 3 (.tmp 47) (.tmp 58) 3, 3, none, [47, 58]⟩,
             ⟨some 14, .assign (.tmp 59), 3, none, [59]⟩])
           (.seq
            (.reg [⟨some 60, .move (.tmp 9), 4, none, []⟩,
              ⟨some 61, .unOp .not 4 (.tmp 60), 4, none, [60]⟩,
              ⟨some 62, .move (.tmp 61), 4, none, [61]⟩,
              ⟨some 63, .move (.tmp 14), 3, some (62, false), []⟩,
              ⟨some 64, .move (.tmp 8), 3, some (62, false), []⟩,
              ⟨some 65, .binOp .lss 3 (.tmp 63) (.tmp 64) 3, 4, some (62, false), [63, 64]⟩,
              ⟨some 66, .pick (.tmp 62) (.const (.bool true)) (.tmp 65), 4, none, [62, 65]⟩])
            (.cond (.tmp 66)
             (.reg [⟨some 67, .move (.tmp 14), 3, none, [14]⟩,
               ⟨some 8, .assign (.tmp 67), 3, none, [67]⟩,
               ⟨some 9, .assign (.const (.bool true)), 4, none, []⟩])
             .skip)))
          .skip))))))
    (.reg [⟨some 68, .binOp .add 3 (.tmp 20) (.const (.int .i64 1)) 3, 3, none, [20]⟩,
      ⟨some 20, .move (.tmp 68), 3, none, [68]⟩]))))
def F124.c : SC :=
 (.seq
  (.reg [⟨some 3, .box 81 (.tmp 0), 0, none, [0]⟩,
    ⟨some 4, .box 135 (.tmp 1), 0, none, [1]⟩,
    ⟨some 6, .assign (.const (.int .i64 0)), 3, none, [6]⟩,
    ⟨some 7, .assign (.const (.bool false)), 4, none, [7]⟩])
  (.seq
   (.reg [⟨some 8, .assign (.const (.int .i64 0)), 3, none, []⟩,
     ⟨some 9, .assign (.const (.bool false)), 4, none, []⟩])
   (.seq
    (.seq
     (.reg [⟨some 15, .fieldAddr 81 (.tmp 3) 0, 0, none, []⟩,
       ⟨some 16, .fieldAddr 27 (.tmp 15) 0, 0, none, [15]⟩,
       ⟨some 17, .fieldAddr 24 (.tmp 16) 0, 0, none, [16]⟩,
       ⟨some 18, .load 22 (.tmp 17), 22, none, [17]⟩,
       ⟨some 19, .call ⟨.builtin .len, #[.tmp 18], #[22]⟩, 3, none, [18]⟩,
       ⟨some 20, .move (.const (.int .i64 0)), 3, none, []⟩])
     (.block 0
      (.loop F124.s0)))
    (.seq
     (.reg [⟨some 69, .move (.tmp 8), 3, none, [8]⟩,
       ⟨some 70, .move (.tmp 9), 4, none, [9]⟩,
       ⟨some 6, .assign (.tmp 69), 3, none, [69]⟩,
       ⟨some 7, .assign (.tmp 70), 4, none, [70]⟩])
     .ret))))
theorem F124.rs : Tryz.f124.results.toList = [.tmp 6, .tmp 7] := rfl
def heat_furnace_shownLow.b0 (k : Nat) (f0 : heat_furnace) (x1 : heat_limit) (place2 : Int) : (Int × Bool × Int) → Option (Stp (Int × Bool × Int) (Int × Bool) (Int × Bool)) := fun (s : Int × Bool × Int) => match s with
  | (i1, b2, i3) => 
      bif decide (i3 < (f0.Firing.Kiln.Falls.length : Int)) then
        (at? f0.Firing.Kiln.Falls i3).bind fun x7 =>
        (at? x7 x1.place).bind fun x8 =>
        (heat_furnace_hottest k f0 i3).bind fun x9 =>
        bif decide (w64 (x1.heat + x8.Lo) ≤ x9.1) then
          (at? x7 place2).bind fun x11 =>
          bif b2 then
            bif decide (w64 ((w64 (x1.heat + x8.Lo)) - x11.Hi) < i1) then
              some (.next (w64 ((w64 (x1.heat + x8.Lo)) - x11.Hi), true, w64 (i3 + 1)))
            else
              some (.next (i1, b2, w64 (i3 + 1)))
          else
            some (.next (w64 ((w64 (x1.heat + x8.Lo)) - x11.Hi), true, w64 (i3 + 1)))
        else
          some (.next (i1, b2, w64 (i3 + 1)))
      else
        some (.brk (i1, b2))
noncomputable def heat_furnace_shownLow.h0 (f0 : heat_furnace) (x1 : heat_limit) (place2 : Int) : (Int × Bool × Int) → St := fun (s : Int × Bool × Int) => match s with
  | (i1, b2, i3) => ⟨[(2, .int .i64 place2), (3, .ptr 0 0 0), (4, .ptr 0 1 0), (8, .int .i64 i1), (9, .bool b2), (19, .int .i64 (f0.Firing.Kiln.Falls.length : Int)), (20, .int .i64 i3)], [(0, .box [.sl 1 (List.map (eL 2 Range.c) f0.Firing.Kiln.Falls), .sl 6 (List.map Reading.c f0.Firing.Readings), .sl 3 (List.map heat_limit.c f0.least), .sl 3 (List.map heat_limit.c f0.most)]), (1, .box [.int .i64 x1.place, .int .i64 x1.heat, .int .i64 x1.by_])], [], 2, Tryz.f124.ntmps⟩
noncomputable def heat_furnace_shownLow.x0 : (Int × Bool) → St := fun (s : Int × Bool) => match s with
  | (i4, b5) => ⟨[(8, .int .i64 i4), (9, .bool b5)], [], [], 1, Tryz.f124.ntmps⟩
def heat_furnace_shownLow (k : Nat) (f0 : heat_furnace) (x1 : heat_limit) (place2 : Int) : Option (Int × Bool) :=
  (whl (heat_furnace_shownLow.b0 k f0 x1 place2) k (0, false, 0)).bind fun r14 => match r14 with
  | .next _ => none
  | .ret v_ => some v_
  | .brk (i4, b5) =>
    some (i4, b5)
theorem heat_furnace_shownLow_ok (k : Nat) (f0 : heat_furnace) (x1 : heat_limit) (place2 : Int) (r : Int × Bool) (h0 : heat_furnace_shownLow k f0 x1 place2 = some r) : PCall Tryz.prog 124 [.agg (heat_furnace.c f0), .agg (heat_limit.c x1), .int .i64 place2] (fun y => y = .tup [.int .i64 r.1, .bool r.2]) := by
  refine PCall.nlr (PCall.of_body T_ok (fn := Tryz.f124) (sc := F124.c) (by rfl) (by rfl) (by decide +kernel) (by rfl) (by decide +kernel) (Nat.le_of_ble_eq_true rfl) ?_)
  refine run_sound T_ok 1000 _ _ ?_
  simp only [heat_furnace_shownLow] at h0
  try simp only [F124.c, go_sem]
  obtain ⟨r14, yr14, h0⟩ := bind_some h0
  refine AKev_loopS yr14 (heat_furnace_shownLow.h0 f0 x1 place2) (heat_furnace_shownLow.x0) ?_ ?_ ?_
  · refine Weak.go [2, 3, 4, 8, 9, 19, 20] [0, 16] rfl ?_
    try simp only [heat_furnace_shownLow.h0, go_sem]
  · rintro ⟨i1, b2, i3⟩ x_1 Bk1 Br1 h1 hnext1 hbrk1 hret1
    refine run_sound T_ok 1000 _ _ ?_
    simp only [heat_furnace_shownLow.b0] at h1
    try simp only [F124.s0, heat_furnace_shownLow.h0, go_sem]
    refine AKev_bif h1 (fun c6 h1 => ?_) (fun c6 h1 => ?_)
    · try simp only [c6, go_sem]
      refine AKev_region T_ok follows_ok 1000 ?_
      try simp only [c6, go_sem]
      obtain ⟨x7, yx7, h1⟩ := bind_some h1
      try simp only [at_in yx7, at_get (eL 2 Range.c) yx7, c6, go_sem]
      obtain ⟨x8, yx8, h1⟩ := bind_some h1
      try simp only [at_in yx8, at_get Range.c yx8, c6, at_in yx7, at_get (eL 2 Range.c) yx7, go_sem]
      refine DG_done ⟨rfl, run_sound T_ok 1000 _ _ ?_⟩
      try simp only [c6, at_in yx7, at_get (eL 2 Range.c) yx7, at_in yx8, at_get Range.c yx8, go_sem]
      obtain ⟨x9, yx9, h1⟩ := bind_some h1
      refine AKev_call0 T_ok 1000 (heat_furnace_hottest_ok k _ _ _ yx9) ?_ (by first | rfl | simp [AV.refsL, AV.refs, AV.scal, AV.leaf]) ?_
      · try simp only [c6, at_in yx7, at_get (eL 2 Range.c) yx7, at_in yx8, at_get Range.c yx8, go_sem]
      try simp only [c6, at_in yx7, at_get (eL 2 Range.c) yx7, at_in yx8, at_get Range.c yx8, go_sem]
      refine AKev_bif h1 (fun c10 h1 => ?_) (fun c10 h1 => ?_)
      · try simp only [c10, at_in yx7, at_get (eL 2 Range.c) yx7, c6, at_in yx8, at_get Range.c yx8, go_sem]
        obtain ⟨x11, yx11, h1⟩ := bind_some h1
        try simp only [at_in yx11, at_get Range.c yx11, c6, at_in yx7, at_get (eL 2 Range.c) yx7, at_in yx8, at_get Range.c yx8, c10, go_sem]
        refine AKev_bif h1 (fun c12 h1 => ?_) (fun c12 h1 => ?_)
        · try simp only [c12, c6, at_in yx7, at_get (eL 2 Range.c) yx7, at_in yx8, at_get Range.c yx8, c10, at_in yx11, at_get Range.c yx11, go_sem]
          refine AKev_bif h1 (fun c13 h1 => ?_) (fun c13 h1 => ?_)
          · try simp only [c13, c6, at_in yx7, at_get (eL 2 Range.c) yx7, at_in yx8, at_get Range.c yx8, c10, at_in yx11, at_get Range.c yx11, c12, go_sem]
            refine AKev_backB (hnext1 _ _ (Option.some.inj h1).symm ?_)
            refine Weak.go [2, 3, 4, 8, 9, 19, 20] [0, 1] rfl ?_
            try simp only [heat_furnace_shownLow.h0, c6, at_in yx7, at_get (eL 2 Range.c) yx7, at_in yx8, at_get Range.c yx8, c10, at_in yx11, at_get Range.c yx11, c12, c13, go_sem]
          · try simp only [c13, c6, at_in yx7, at_get (eL 2 Range.c) yx7, at_in yx8, at_get Range.c yx8, c10, at_in yx11, at_get Range.c yx11, c12, go_sem]
            refine AKev_backB (hnext1 _ _ (Option.some.inj h1).symm ?_)
            refine Weak.go [2, 3, 4, 8, 9, 19, 20] [0, 1] rfl ?_
            try simp only [heat_furnace_shownLow.h0, c6, at_in yx7, at_get (eL 2 Range.c) yx7, at_in yx8, at_get Range.c yx8, c10, at_in yx11, at_get Range.c yx11, c12, c13, go_sem]
        · try simp only [c12, c6, at_in yx7, at_get (eL 2 Range.c) yx7, at_in yx8, at_get Range.c yx8, c10, at_in yx11, at_get Range.c yx11, go_sem]
          refine AKev_backB (hnext1 _ _ (Option.some.inj h1).symm ?_)
          refine Weak.go [2, 3, 4, 8, 9, 19, 20] [0, 1] rfl ?_
          try simp only [heat_furnace_shownLow.h0, c6, at_in yx7, at_get (eL 2 Range.c) yx7, at_in yx8, at_get Range.c yx8, c10, at_in yx11, at_get Range.c yx11, c12, go_sem]
      · try simp only [c10, c6, at_in yx7, at_get (eL 2 Range.c) yx7, at_in yx8, at_get Range.c yx8, go_sem]
        refine AKev_backB (hnext1 _ _ (Option.some.inj h1).symm ?_)
        refine Weak.go [2, 3, 4, 8, 9, 19, 20] [0, 1] rfl ?_
        try simp only [heat_furnace_shownLow.h0, c6, at_in yx7, at_get (eL 2 Range.c) yx7, at_in yx8, at_get Range.c yx8, c10, go_sem]
    · try simp only [c6, go_sem]
      refine AKev_backB (hbrk1 _ _ (Option.some.inj h1).symm ?_)
      refine Weak.go [8, 9] [] rfl ?_
      try simp only [heat_furnace_shownLow.x0, c6, go_sem]
  · rintro ⟨i4, b5⟩ hr_
    subst hr_
    simp only at h0
    refine run_sound T_ok 1000 _ _ ?_
    try simp only [heat_furnace_shownLow.x0, go_sem]
    obtain rfl := Option.some.inj h0
    refine AKev_ret rfl ?_
    try simp only [F124.rs, go_sem]
end Go.Abs
namespace Go.Abs
open Go.Proofs
set_option maxRecDepth 20000
set_option linter.unusedVariables false
set_option linter.unusedSimpArgs false
set_option maxHeartbeats 8000000
def F125.s0 : SC :=
 (.seq
  (.reg [⟨some 16, .binOp .lss 3 (.tmp 15) (.tmp 14) 3, 4, none, []⟩])
  (.seq
   (.cond (.tmp 16)
    .skip
    (.exit 0))
   (.seq
    (.block 1
     (.seq
      (.reg [⟨some 17, .move (.tmp 15), 3, none, []⟩,
        ⟨some 6, .assign (.tmp 17), 3, none, [17]⟩])
      (.seq
       (.dreg [⟨some 18, .fieldAddr 135 (.tmp 3) 1, 0, none, []⟩,
         ⟨some 19, .load 3 (.tmp 18), 3, none, []⟩,
         ⟨some 20, .fieldAddr 81 (.tmp 2) 0, 0, none, []⟩,
         ⟨some 21, .fieldAddr 27 (.tmp 20) 0, 0, none, []⟩,
         ⟨some 22, .fieldAddr 24 (.tmp 21) 0, 0, none, []⟩,
         ⟨some 23, .load 22 (.tmp 22), 22, none, []⟩,
         ⟨some 24, .move (.tmp 6), 3, none, []⟩,
         ⟨some 25, .indexAddr 22 (.tmp 23) (.tmp 24), 0, none, []⟩,
         ⟨some 26, .load 89 (.tmp 25), 89, none, []⟩,
         ⟨some 27, .fieldAddr 135 (.tmp 3) 0, 0, none, []⟩,
         ⟨some 28, .load 3 (.tmp 27), 3, none, []⟩,
         ⟨some 29, .indexAddr 89 (.tmp 26) (.tmp 28), 0, none, []⟩,
         ⟨some 30, .fieldAddr 30 (.tmp 29) 0, 0, none, []⟩,
         ⟨some 31, .load 3 (.tmp 30), 3, none, []⟩,
         ⟨some 32, .binOp .add 3 (.tmp 19) (.tmp 31) 3, 3, none, []⟩,
         ⟨some 7, .assign (.tmp 32), 3, none, []⟩] [[], [0], [], [2], [2, 3], [2, 3, 4], [], [2, 3, 4, 5, 6], [2, 3, 4, 5, 6, 7], [], [9], [2, 3, 4, 5, 6, 7, 8, 9, 10], [2, 3, 4, 5, 6, 7, 8, 9, 10, 11], [2, 3, 4, 5, 6, 7, 8, 9, 10, 11, 12], [0, 1, 2, 3, 4, 5, 6, 7, 8, 9, 10, 11, 12, 13], [0, 1, 2, 3, 4, 5, 6, 7, 8, 9, 10, 11, 12, 13, 14]] [18, 19, 20, 21, 22, 23, 24, 25, 26, 27, 28, 29, 30, 31, 32])
       (.seq
        (.reg [⟨some 34, .load 81 (.tmp 2), 81, none, []⟩,
          ⟨some 35, .move (.tmp 6), 3, none, [6]⟩,
          ⟨some 36, .call ⟨.value (.func 107), #[.tmp 34, .tmp 35], #[81, 3]⟩, 132, none, [34, 35]⟩,
          ⟨some 33, .move (.tmp 36), 132, none, [36]⟩,
          ⟨some 37, .extract (.tmp 33) 0, 3, none, []⟩,
          ⟨some 38, .extract (.tmp 33) 1, 3, none, [33]⟩,
          ⟨some 8, .assign (.tmp 37), 3, none, [37]⟩,
          ⟨some 9, .assign (.tmp 38), 3, none, [38]⟩])
        (.seq
         (.block 2
          (.seq
           (.reg [⟨some 40, .move (.tmp 7), 3, none, []⟩,
             ⟨some 41, .move (.tmp 8), 3, none, [8]⟩,
             ⟨some 42, .binOp .leq 3 (.tmp 40) (.tmp 41) 3, 4, none, [40, 41]⟩,
             ⟨some 39, .assign (.tmp 42), 4, none, [42]⟩])
           (.cond (.tmp 39)
            (.reg [⟨some 9, .assign (.const (.int .i64 (-1))), 3, none, []⟩])
            (.seq
             (.reg [⟨some 44, .move (.tmp 7), 3, none, [7]⟩,
               ⟨some 45, .binOp .gtr 3 (.tmp 44) (.const (.int .i64 3000)) 3, 4, none, [44]⟩,
               ⟨some 43, .assign (.tmp 45), 4, none, [45]⟩])
             (.cond (.tmp 43)
              (.reg [⟨some 9, .assign (.const (.int .i64 (-2))), 3, none, []⟩])
              .skip)))))
         (.reg [⟨some 46, .move (.tmp 5), 37, none, [5]⟩,
           ⟨some 47, .move (.tmp 9), 3, none, [9]⟩,
           ⟨some 48, .buildSlice 37 1 #[(0, .tmp 47)], 37, none, [47]⟩,
           ⟨some 49, .call ⟨.builtin .append, #[.tmp 46, .tmp 48], #[37, 37]⟩, 37, none, [46, 48]⟩,
           ⟨some 5, .assign (.tmp 49), 37, none, [49]⟩]))))))
    (.reg [⟨some 50, .binOp .add 3 (.tmp 15) (.const (.int .i64 1)) 3, 3, none, [15]⟩,
      ⟨some 15, .move (.tmp 50), 3, none, [50]⟩]))))
def F125.c : SC :=
 (.seq
  (.reg [⟨some 2, .box 81 (.tmp 0), 0, none, [0]⟩,
    ⟨some 3, .box 135 (.tmp 1), 0, none, [1]⟩,
    ⟨some 4, .assign (.const (.slice none 0 0)), 37, none, [4]⟩])
  (.seq
   (.reg [⟨some 5, .assign (.const (.slice none 0 0)), 37, none, []⟩])
   (.seq
    (.seq
     (.reg [⟨some 10, .fieldAddr 81 (.tmp 2) 0, 0, none, []⟩,
       ⟨some 11, .fieldAddr 27 (.tmp 10) 0, 0, none, [10]⟩,
       ⟨some 12, .fieldAddr 24 (.tmp 11) 0, 0, none, [11]⟩,
       ⟨some 13, .load 22 (.tmp 12), 22, none, [12]⟩,
       ⟨some 14, .call ⟨.builtin .len, #[.tmp 13], #[22]⟩, 3, none, [13]⟩,
       ⟨some 15, .move (.const (.int .i64 0)), 3, none, []⟩])
     (.block 0
      (.loop F125.s0)))
    (.seq
     (.reg [⟨some 51, .move (.tmp 5), 37, none, [5]⟩,
       ⟨some 4, .assign (.tmp 51), 37, none, [51]⟩])
     .ret))))
theorem F125.rs : Tryz.f125.results.toList = [.tmp 4] := rfl
def heat_furnace_cannot.b0 (k : Nat) (f0 : heat_furnace) (x1 : heat_limit) : (Int × (List Int)) → Option (Stp (Int × (List Int)) ((List Int)) ((List Int))) := fun (s : Int × (List Int)) => match s with
  | (i1, l2) => 
      bif decide (i1 < (f0.Firing.Kiln.Falls.length : Int)) then
        (at? f0.Firing.Kiln.Falls i1).bind fun x5 =>
        (at? x5 x1.place).bind fun x6 =>
        (heat_furnace_hottest k f0 i1).bind fun x7 =>
        bif decide (w64 (x1.heat + x6.Lo) ≤ x7.1) then
          (push? 8 l2 (-1)).bind fun l9 =>
          some (.next (w64 (i1 + 1), l9))
        else
          bif decide ((3000 : Int) < w64 (x1.heat + x6.Lo)) then
            (push? 8 l2 (-2)).bind fun l11 =>
            some (.next (w64 (i1 + 1), l11))
          else
            (push? 8 l2 x7.2).bind fun l12 =>
            some (.next (w64 (i1 + 1), l12))
      else
        some (.brk l2)
noncomputable def heat_furnace_cannot.h0 (f0 : heat_furnace) (x1 : heat_limit) : (Int × (List Int)) → St := fun (s : Int × (List Int)) => match s with
  | (i1, l2) => ⟨[(2, .ptr 0 0 0), (3, .ptr 0 1 0), (5, .loc 0 2 1 0 l2.length l2.length), (14, .int .i64 (f0.Firing.Kiln.Falls.length : Int)), (15, .int .i64 i1)], [(0, .box [.sl 1 (List.map (eL 2 Range.c) f0.Firing.Kiln.Falls), .sl 6 (List.map Reading.c f0.Firing.Readings), .sl 3 (List.map heat_limit.c f0.least), .sl 3 (List.map heat_limit.c f0.most)]), (1, .box [.int .i64 x1.place, .int .i64 x1.heat, .int .i64 x1.by_]), (2, .arr 3 1 (List.map eI l2))], [], 3, Tryz.f125.ntmps⟩
noncomputable def heat_furnace_cannot.x0 : (List Int) → St := fun (l3 : (List Int)) => ⟨[(5, .loc 0 0 1 0 l3.length l3.length)], [(0, .arr 3 1 (List.map eI l3))], [], 1, Tryz.f125.ntmps⟩
def heat_furnace_cannot (k : Nat) (f0 : heat_furnace) (x1 : heat_limit) : Option ((List Int)) :=
  (whl (heat_furnace_cannot.b0 k f0 x1) k (0, [])).bind fun r13 => match r13 with
  | .next _ => none
  | .ret v_ => some v_
  | .brk l3 =>
    some l3
theorem heat_furnace_cannot_ok (k : Nat) (f0 : heat_furnace) (x1 : heat_limit) (r : (List Int)) (h0 : heat_furnace_cannot k f0 x1 = some r) : PCall Tryz.prog 125 [.agg (heat_furnace.c f0), .agg (heat_limit.c x1)] (fun y => y = .sl 1 (List.map eI r)) := by
  refine PCall.nlr (PCall.of_body T_ok (fn := Tryz.f125) (sc := F125.c) (by rfl) (by rfl) (by decide +kernel) (by rfl) (by decide +kernel) (Nat.le_of_ble_eq_true rfl) ?_)
  refine run_sound T_ok 1000 _ _ ?_
  simp only [heat_furnace_cannot] at h0
  try simp only [F125.c, go_sem]
  obtain ⟨r13, yr13, h0⟩ := bind_some h0
  refine AKev_loopS yr13 (heat_furnace_cannot.h0 f0 x1) (heat_furnace_cannot.x0) ?_ ?_ ?_
  · refine Weak.go [2, 3, 5, 14, 15] [0, 16, 48] rfl ?_
    try simp only [heat_furnace_cannot.h0, go_sem]
  · rintro ⟨i1, l2⟩ x_1 Bk1 Br1 h1 hnext1 hbrk1 hret1
    refine run_sound T_ok 1000 _ _ ?_
    simp only [heat_furnace_cannot.b0] at h1
    try simp only [F125.s0, heat_furnace_cannot.h0, go_sem]
    refine AKev_bif h1 (fun c4 h1 => ?_) (fun c4 h1 => ?_)
    · try simp only [c4, go_sem]
      refine AKev_region T_ok follows_ok 1000 ?_
      try simp only [c4, go_sem]
      obtain ⟨x5, yx5, h1⟩ := bind_some h1
      try simp only [at_in yx5, at_get (eL 2 Range.c) yx5, c4, go_sem]
      obtain ⟨x6, yx6, h1⟩ := bind_some h1
      try simp only [at_in yx6, at_get Range.c yx6, c4, at_in yx5, at_get (eL 2 Range.c) yx5, go_sem]
      refine DG_done ⟨rfl, run_sound T_ok 1000 _ _ ?_⟩
      try simp only [c4, at_in yx5, at_get (eL 2 Range.c) yx5, at_in yx6, at_get Range.c yx6, go_sem]
      obtain ⟨x7, yx7, h1⟩ := bind_some h1
      refine AKev_call0 T_ok 1000 (heat_furnace_hottest_ok k _ _ _ yx7) ?_ (by first | rfl | simp [AV.refsL, AV.refs, AV.scal, AV.leaf]) ?_
      · try simp only [c4, at_in yx5, at_get (eL 2 Range.c) yx5, at_in yx6, at_get Range.c yx6, go_sem]
      try simp only [c4, at_in yx5, at_get (eL 2 Range.c) yx5, at_in yx6, at_get Range.c yx6, go_sem]
      refine AKev_bif h1 (fun c8 h1 => ?_) (fun c8 h1 => ?_)
      · try simp only [c8, c4, at_in yx5, at_get (eL 2 Range.c) yx5, at_in yx6, at_get Range.c yx6, go_sem]
        obtain ⟨l9, yl9, h1⟩ := bind_some h1
        have eyl9 := push_map eI yl9
        have tyl9 := push_take eI yl9
        have nyl9 := push_len yl9
        have myl9 := push_room yl9
        try simp only [c4, at_in yx5, at_get (eL 2 Range.c) yx5, at_in yx6, at_get Range.c yx6, c8, go_sem] at eyl9 tyl9 nyl9 myl9
        try simp only [myl9, eyl9, c4, at_in yx5, at_get (eL 2 Range.c) yx5, at_in yx6, at_get Range.c yx6, c8, nyl9, tyl9, go_sem]
        refine AKev_backB (hnext1 _ _ (Option.some.inj h1).symm ?_)
        refine Weak.go [2, 3, 5, 14, 15] [0, 1, 2] rfl ?_
        try simp only [heat_furnace_cannot.h0, c4, at_in yx5, at_get (eL 2 Range.c) yx5, at_in yx6, at_get Range.c yx6, c8, eyl9, nyl9, tyl9, go_sem]
      · try simp only [c8, c4, at_in yx5, at_get (eL 2 Range.c) yx5, at_in yx6, at_get Range.c yx6, go_sem]
        refine AKev_bif h1 (fun c10 h1 => ?_) (fun c10 h1 => ?_)
        · try simp only [c10, c4, at_in yx5, at_get (eL 2 Range.c) yx5, at_in yx6, at_get Range.c yx6, c8, go_sem]
          obtain ⟨l11, yl11, h1⟩ := bind_some h1
          have eyl11 := push_map eI yl11
          have tyl11 := push_take eI yl11
          have nyl11 := push_len yl11
          have myl11 := push_room yl11
          try simp only [c4, at_in yx5, at_get (eL 2 Range.c) yx5, at_in yx6, at_get Range.c yx6, c8, c10, go_sem] at eyl11 tyl11 nyl11 myl11
          try simp only [myl11, eyl11, c4, at_in yx5, at_get (eL 2 Range.c) yx5, at_in yx6, at_get Range.c yx6, c8, c10, nyl11, tyl11, go_sem]
          refine AKev_backB (hnext1 _ _ (Option.some.inj h1).symm ?_)
          refine Weak.go [2, 3, 5, 14, 15] [0, 1, 2] rfl ?_
          try simp only [heat_furnace_cannot.h0, c4, at_in yx5, at_get (eL 2 Range.c) yx5, at_in yx6, at_get Range.c yx6, c8, c10, eyl11, nyl11, tyl11, go_sem]
        · try simp only [c10, c4, at_in yx5, at_get (eL 2 Range.c) yx5, at_in yx6, at_get Range.c yx6, c8, go_sem]
          obtain ⟨l12, yl12, h1⟩ := bind_some h1
          have eyl12 := push_map eI yl12
          have tyl12 := push_take eI yl12
          have nyl12 := push_len yl12
          have myl12 := push_room yl12
          try simp only [c4, at_in yx5, at_get (eL 2 Range.c) yx5, at_in yx6, at_get Range.c yx6, c8, c10, go_sem] at eyl12 tyl12 nyl12 myl12
          try simp only [myl12, eyl12, c4, at_in yx5, at_get (eL 2 Range.c) yx5, at_in yx6, at_get Range.c yx6, c8, c10, nyl12, tyl12, go_sem]
          refine AKev_backB (hnext1 _ _ (Option.some.inj h1).symm ?_)
          refine Weak.go [2, 3, 5, 14, 15] [0, 1, 2] rfl ?_
          try simp only [heat_furnace_cannot.h0, c4, at_in yx5, at_get (eL 2 Range.c) yx5, at_in yx6, at_get Range.c yx6, c8, c10, eyl12, nyl12, tyl12, go_sem]
    · try simp only [c4, go_sem]
      refine AKev_backB (hbrk1 _ _ (Option.some.inj h1).symm ?_)
      refine Weak.go [5] [2] rfl ?_
      try simp only [heat_furnace_cannot.x0, c4, go_sem]
  · rintro l3 hr_
    subst hr_
    simp only at h0
    refine run_sound T_ok 1000 _ _ ?_
    try simp only [heat_furnace_cannot.x0, go_sem]
    obtain rfl := Option.some.inj h0
    refine AKev_ret rfl ?_
    try simp only [F125.rs, go_sem]
end Go.Abs
namespace Go.Abs
open Go.Proofs
set_option maxRecDepth 20000
set_option linter.unusedVariables false
set_option linter.unusedSimpArgs false
set_option maxHeartbeats 8000000
def F82.s1 : SC :=
 (.seq
  (.reg [⟨some 51, .binOp .lss 3 (.tmp 50) (.tmp 49) 3, 0, none, []⟩])
  (.seq
   (.cond (.tmp 51)
    .skip
    (.exit 2))
   (.seq
    (.block 3
     (.seq
      (.reg [⟨some 52, .indexAddr 79 (.tmp 48) (.tmp 50), 0, none, []⟩,
        ⟨some 53, .load 135 (.tmp 52), 135, none, [52]⟩,
        ⟨some 11, .alloc 135, 0, none, []⟩,
        ⟨none, .store 135 (.tmp 11) (.tmp 53), 0, none, [53]⟩])
      (.seq
       (.seq
        (.reg [⟨some 54, .fieldAddr 135 (.tmp 11) 0, 0, none, []⟩,
          ⟨some 55, .load 3 (.tmp 54), 3, none, [54]⟩,
          ⟨some 56, .move (.tmp 1), 3, none, []⟩,
          ⟨some 57, .binOp .eql 3 (.tmp 55) (.tmp 56) 3, 4, none, [55, 56]⟩])
        (.cond (.tmp 57)
         (.seq
          (.seq
           (.reg [⟨some 58, .fieldAddr 135 (.tmp 11) 1, 0, none, []⟩,
             ⟨some 59, .load 3 (.tmp 58), 3, none, [58]⟩,
             ⟨some 60, .move (.tmp 6), 3, none, []⟩,
             ⟨some 61, .binOp .gtr 3 (.tmp 59) (.tmp 60) 3, 4, none, [59, 60]⟩])
           (.cond (.tmp 61)
            (.dreg [⟨some 62, .fieldAddr 135 (.tmp 11) 1, 0, none, []⟩,
              ⟨some 63, .load 3 (.tmp 62), 3, none, []⟩,
              ⟨some 64, .fieldAddr 135 (.tmp 11) 2, 0, none, []⟩,
              ⟨some 65, .load 3 (.tmp 64), 3, none, []⟩,
              ⟨some 66, .build 57 #[(0, .tmp 65)], 57, none, []⟩,
              ⟨some 6, .assign (.tmp 63), 3, none, []⟩,
              ⟨none, .store 57 (.tmp 7) (.tmp 66), 0, none, []⟩] [[], [0], [], [2], [2, 3], [0, 1], [2, 3, 4, 0, 1, 5]] [11, 62, 63, 64, 65, 66])
            .skip))
          (.exit 3))
         .skip))
       (.seq
        (.reg [⟨some 68, .load 81 (.tmp 2), 81, none, []⟩,
          ⟨some 69, .load 135 (.tmp 11), 135, none, []⟩,
          ⟨some 70, .move (.tmp 1), 3, none, []⟩,
          ⟨some 71, .call ⟨.value (.func 124), #[.tmp 68, .tmp 69, .tmp 70], #[81, 135, 3]⟩, 126, none, [68, 69, 70]⟩,
          ⟨some 67, .move (.tmp 71), 126, none, [71]⟩,
          ⟨some 72, .extract (.tmp 67) 0, 3, none, []⟩,
          ⟨some 73, .extract (.tmp 67) 1, 4, none, [67]⟩,
          ⟨some 12, .assign (.tmp 72), 3, none, [72]⟩,
          ⟨some 13, .assign (.tmp 73), 4, none, [73]⟩])
        (.seq
         (.reg [⟨some 74, .move (.tmp 13), 4, none, [13]⟩,
           ⟨some 75, .move (.tmp 74), 4, none, [74]⟩,
           ⟨some 76, .move (.tmp 12), 3, some (75, true), []⟩,
           ⟨some 77, .move (.tmp 6), 3, some (75, true), []⟩,
           ⟨some 78, .binOp .gtr 3 (.tmp 76) (.tmp 77) 3, 4, some (75, true), [76, 77]⟩,
           ⟨some 79, .pick (.tmp 75) (.tmp 78) (.const (.bool false)), 4, none, [75, 78]⟩])
         (.cond (.tmp 79)
          (.dreg [⟨some 80, .move (.tmp 12), 3, none, []⟩,
            ⟨some 81, .fieldAddr 135 (.tmp 11) 2, 0, none, []⟩,
            ⟨some 82, .load 3 (.tmp 81), 3, none, []⟩,
            ⟨some 83, .load 81 (.tmp 2), 81, none, []⟩,
            ⟨some 84, .load 135 (.tmp 11), 135, none, []⟩,
            ⟨some 85, .call ⟨.value (.func 125), #[.tmp 83, .tmp 84], #[81, 135]⟩, 37, none, []⟩,
            ⟨some 86, .build 57 #[(0, .tmp 82), (1, .tmp 85)], 57, none, []⟩,
            ⟨some 6, .assign (.tmp 80), 3, none, []⟩,
            ⟨none, .store 57 (.tmp 7) (.tmp 86), 0, none, []⟩] [[], [], [1], [], [], [3, 4], [1, 2, 3, 4, 5], [0, 3, 4, 5], [1, 2, 3, 4, 5, 6, 0, 7]] [11, 12, 80, 81, 82, 83, 84, 85, 86])
          .skip))))))
    (.reg [⟨some 87, .binOp .add 3 (.tmp 50) (.const (.int .i64 1)) 3, 3, none, [50]⟩,
      ⟨some 50, .move (.tmp 87), 3, none, [87]⟩]))))
def F82.s0 : SC :=
 (.seq
  (.reg [⟨some 21, .binOp .lss 3 (.tmp 20) (.tmp 19) 3, 4, none, []⟩])
  (.seq
   (.cond (.tmp 21)
    .skip
    (.exit 0))
   (.seq
    (.block 1
     (.seq
      (.reg [⟨some 22, .move (.tmp 20), 3, none, []⟩,
        ⟨some 8, .assign (.tmp 22), 3, none, [22]⟩])
      (.seq
       (.reg [⟨some 23, .fieldAddr 81 (.tmp 2) 0, 0, none, []⟩,
         ⟨some 24, .fieldAddr 27 (.tmp 23) 0, 0, none, [23]⟩,
         ⟨some 25, .fieldAddr 24 (.tmp 24) 0, 0, none, [24]⟩,
         ⟨some 26, .load 22 (.tmp 25), 22, none, [25]⟩,
         ⟨some 27, .move (.tmp 8), 3, none, []⟩,
         ⟨some 28, .indexAddr 22 (.tmp 26) (.tmp 27), 0, none, [26, 27]⟩,
         ⟨some 29, .load 89 (.tmp 28), 89, none, [28]⟩,
         ⟨some 30, .move (.tmp 1), 3, none, []⟩,
         ⟨some 31, .indexAddr 89 (.tmp 29) (.tmp 30), 0, none, [29, 30]⟩,
         ⟨some 32, .fieldAddr 30 (.tmp 31) 1, 0, none, [31]⟩,
         ⟨some 33, .load 3 (.tmp 32), 3, none, [32]⟩,
         ⟨some 34, .unOp .neg 3 (.tmp 33), 3, none, [33]⟩,
         ⟨some 9, .assign (.tmp 34), 3, none, [34]⟩])
       (.seq
        (.reg [⟨some 35, .move (.tmp 8), 3, none, []⟩,
          ⟨some 36, .binOp .eql 3 (.tmp 35) (.const (.int .i64 0)) 3, 4, none, [35]⟩,
          ⟨some 37, .move (.tmp 36), 4, none, [36]⟩,
          ⟨some 38, .move (.tmp 9), 3, some (37, false), []⟩,
          ⟨some 39, .move (.tmp 6), 3, some (37, false), []⟩,
          ⟨some 40, .binOp .gtr 3 (.tmp 38) (.tmp 39) 3, 4, some (37, false), [38, 39]⟩,
          ⟨some 41, .pick (.tmp 37) (.const (.bool true)) (.tmp 40), 4, none, [37, 40]⟩])
        (.cond (.tmp 41)
         (.reg [⟨some 42, .move (.tmp 9), 3, none, [9]⟩,
           ⟨some 43, .move (.tmp 8), 3, none, [8]⟩,
           ⟨some 44, .buildSlice 37 1 #[(0, .tmp 43)], 37, none, [43]⟩,
           ⟨some 45, .build 57 #[(0, .const (.int .i64 (-2))), (1, .tmp 44)], 57, none, [44]⟩,
           ⟨some 6, .assign (.tmp 42), 3, none, [42]⟩,
           ⟨none, .store 57 (.tmp 7) (.tmp 45), 0, none, [45]⟩])
         .skip)))))
    (.reg [⟨some 46, .binOp .add 3 (.tmp 20) (.const (.int .i64 1)) 3, 3, none, [20]⟩,
      ⟨some 20, .move (.tmp 46), 3, none, [46]⟩]))))
def F82.c : SC :=
 (.seq
  (.reg [⟨some 2, .box 81 (.tmp 0), 0, none, [0]⟩,
    ⟨some 4, .assign (.const (.int .i64 0)), 3, none, [4]⟩,
    ⟨some 5, .alloc 57, 0, none, []⟩])
  (.seq
   (.reg [⟨some 14, .build 57 #[], 57, none, []⟩,
     ⟨some 7, .alloc 57, 0, none, []⟩,
     ⟨some 6, .assign (.const (.int .i64 (-3000))), 3, none, []⟩,
     ⟨none, .store 57 (.tmp 7) (.tmp 14), 0, none, [14]⟩])
   (.seq
    (.seq
     (.reg [⟨some 15, .fieldAddr 81 (.tmp 2) 0, 0, none, []⟩,
       ⟨some 16, .fieldAddr 27 (.tmp 15) 0, 0, none, [15]⟩,
       ⟨some 17, .fieldAddr 24 (.tmp 16) 0, 0, none, [16]⟩,
       ⟨some 18, .load 22 (.tmp 17), 22, none, [17]⟩,
       ⟨some 19, .call ⟨.builtin .len, #[.tmp 18], #[22]⟩, 3, none, [18]⟩,
       ⟨some 20, .move (.const (.int .i64 0)), 3, none, []⟩])
     (.block 0
      (.loop F82.s0)))
    (.seq
     (.seq
      (.reg [⟨some 47, .fieldAddr 81 (.tmp 2) 1, 0, none, []⟩,
        ⟨some 48, .load 79 (.tmp 47), 79, none, [47]⟩,
        ⟨some 49, .call ⟨.builtin .len, #[.tmp 48], #[79]⟩, 3, none, []⟩,
        ⟨some 50, .move (.const (.int .i64 0)), 3, none, []⟩])
      (.block 2
       (.loop F82.s1)))
     (.seq
      (.dreg [⟨some 88, .move (.tmp 6), 3, none, []⟩,
        ⟨some 89, .load 57 (.tmp 7), 57, none, []⟩,
        ⟨some 4, .assign (.tmp 88), 3, none, []⟩,
        ⟨none, .store 57 (.tmp 5) (.tmp 89), 0, none, []⟩] [[], [], [0], [1, 0, 2]] [6, 7, 88, 89])
      .ret)))))
theorem F82.rs : Tryz.f82.results.toList = [.tmp 4, .cell 5 57] := rfl
def heat_furnace_lowest.b0 (k : Nat) (f0 : heat_furnace) (place1 : Int) : (Int × Int × Int × (List Int)) → Option (Stp (Int × Int × Int × (List Int)) (Int × Int × (List Int)) (Int × HeatProof)) := fun (s : Int × Int × Int × (List Int)) => match s with
  | (i1, i2, i3, l4) => 
      bif decide (i2 < (f0.Firing.Kiln.Falls.length : Int)) then
        (at? f0.Firing.Kiln.Falls i2).bind fun x9 =>
        (at? x9 place1).bind fun x10 =>
        bif (!decide (i2 = (0 : Int))) then
          bif decide (i1 < w64 (0 - x10.Hi)) then
            some (.next (w64 (0 - x10.Hi), w64 (i2 + 1), -2, [i2]))
          else
            some (.next (i1, w64 (i2 + 1), i3, l4))
        else
          some (.next (w64 (0 - x10.Hi), w64 (i2 + 1), -2, [i2]))
      else
        some (.brk (i1, i3, l4))
def heat_furnace_lowest.b1 (k : Nat) (f0 : heat_furnace) (place1 : Int) : (HeatProof × Int × Int) → Option (Stp (HeatProof × Int × Int) (HeatProof × Int) (Int × HeatProof)) := fun (s : HeatProof × Int × Int) => match s with
  | (s14, i15, i16) => 
      bif decide (i16 < (f0.least.length : Int)) then
        (at? f0.least i16).bind fun x20 =>
        bif decide (x20.place = place1) then
          bif decide (i15 < x20.heat) then
            some (.next ((⟨x20.by_, []⟩ : HeatProof), x20.heat, w64 (i16 + 1)))
          else
            some (.next (s14, i15, w64 (i16 + 1)))
        else
          (heat_furnace_shownLow k f0 x20 place1).bind fun x23 =>
          bif x23.2 then
            bif decide (i15 < x23.1) then
              (heat_furnace_cannot k f0 x20).bind fun x26 =>
              some (.next ((⟨x20.by_, x26⟩ : HeatProof), x23.1, w64 (i16 + 1)))
            else
              some (.next (s14, i15, w64 (i16 + 1)))
          else
            some (.next (s14, i15, w64 (i16 + 1)))
      else
        some (.brk (s14, i15))
noncomputable def heat_furnace_lowest.h0 (f0 : heat_furnace) (place1 : Int) : (Int × Int × Int × (List Int)) → St := fun (s : Int × Int × Int × (List Int)) => match s with
  | (i1, i2, i3, l4) => ⟨[(1, .int .i64 place1), (2, .ptr 0 0 0), (5, .ptr 0 1 0), (6, .int .i64 i1), (7, .ptr 0 3 0), (19, .int .i64 (f0.Firing.Kiln.Falls.length : Int)), (20, .int .i64 i2)], [(0, .box [.sl 1 (List.map (eL 2 Range.c) f0.Firing.Kiln.Falls), .sl 6 (List.map Reading.c f0.Firing.Readings), .sl 3 (List.map heat_limit.c f0.least), .sl 3 (List.map heat_limit.c f0.most)]), (1, .box [.int .i64 0, .loc 0 2 1 0 0 0]), (2, .arr 3 1 (List.map eI [])), (3, .box [.int .i64 i3, .loc 0 4 1 0 l4.length l4.length]), (4, .arr 3 1 (List.map eI l4))], [], 5, Tryz.f82.ntmps⟩
noncomputable def heat_furnace_lowest.x0 (f0 : heat_furnace) (place1 : Int) : (Int × Int × (List Int)) → St := fun (s : Int × Int × (List Int)) => match s with
  | (i5, i6, l7) => ⟨[(1, .int .i64 place1), (2, .ptr 0 0 0), (5, .ptr 0 1 0), (6, .int .i64 i5), (7, .ptr 0 3 0)], [(0, .box [.sl 1 (List.map (eL 2 Range.c) f0.Firing.Kiln.Falls), .sl 6 (List.map Reading.c f0.Firing.Readings), .sl 3 (List.map heat_limit.c f0.least), .sl 3 (List.map heat_limit.c f0.most)]), (1, .box [.int .i64 0, .loc 0 2 1 0 0 0]), (2, .arr 3 1 (List.map eI [])), (3, .box [.int .i64 i6, .loc 0 4 1 0 l7.length l7.length]), (4, .arr 3 1 (List.map eI l7))], [], 5, Tryz.f82.ntmps⟩
noncomputable def heat_furnace_lowest.h1 (f0 : heat_furnace) (place1 : Int) : (HeatProof × Int × Int) → St := fun (s : HeatProof × Int × Int) => match s with
  | (s14, i15, i16) => ⟨[(1, .int .i64 place1), (2, .ptr 0 0 0), (5, .ptr 0 1 0), (6, .int .i64 i15), (7, .ptr 0 3 0), (48, .sl 3 (List.map heat_limit.c f0.least)), (49, .int .i64 (f0.least.length : Int)), (50, .int .i64 i16)], [(0, .box [.sl 1 (List.map (eL 2 Range.c) f0.Firing.Kiln.Falls), .sl 6 (List.map Reading.c f0.Firing.Readings), .sl 3 (List.map heat_limit.c f0.least), .sl 3 (List.map heat_limit.c f0.most)]), (1, .box [.int .i64 0, .loc 0 2 1 0 0 0]), (2, .arr 3 1 (List.map eI [])), (3, .box [.int .i64 s14.Reading, .sl 1 (List.map eI s14.By)])], [], 4, Tryz.f82.ntmps⟩
noncomputable def heat_furnace_lowest.x1 : (HeatProof × Int) → St := fun (s : HeatProof × Int) => match s with
  | (s17, i18) => ⟨[(5, .ptr 0 0 0), (6, .int .i64 i18), (7, .ptr 0 2 0)], [(0, .box [.int .i64 0, .loc 0 1 1 0 0 0]), (1, .arr 3 1 (List.map eI [])), (2, .box [.int .i64 s17.Reading, .sl 1 (List.map eI s17.By)])], [], 3, Tryz.f82.ntmps⟩
def heat_furnace_lowest (k : Nat) (f0 : heat_furnace) (place1 : Int) : Option (Int × HeatProof) :=
  (whl (heat_furnace_lowest.b0 k f0 place1) k (-3000, 0, 0, [])).bind fun r13 => match r13 with
  | .next _ => none
  | .ret v_ => some v_
  | .brk (i5, i6, l7) =>
    (whl (heat_furnace_lowest.b1 k f0 place1) k ((⟨i6, l7⟩ : HeatProof), i5, 0)).bind fun r27 => match r27 with
    | .next _ => none
    | .ret v_ => some v_
    | .brk (s17, i18) =>
      some (i18, s17)
theorem heat_furnace_lowest_ok (k : Nat) (f0 : heat_furnace) (place1 : Int) (r : Int × HeatProof) (h0 : heat_furnace_lowest k f0 place1 = some r) : PCall Tryz.prog 82 [.agg (heat_furnace.c f0), .int .i64 place1] (fun y => y = .tup [.int .i64 r.1, .agg (HeatProof.c r.2)]) := by
  refine PCall.nlr (PCall.of_body T_ok (fn := Tryz.f82) (sc := F82.c) (by rfl) (by rfl) (by decide +kernel) (by rfl) (by decide +kernel) (Nat.le_of_ble_eq_true rfl) ?_)
  refine run_sound T_ok 1000 _ _ ?_
  simp only [heat_furnace_lowest] at h0
  try simp only [F82.c, go_sem]
  obtain ⟨r13, yr13, h0⟩ := bind_some h0
  refine AKev_loopS yr13 (heat_furnace_lowest.h0 f0 place1) (heat_furnace_lowest.x0 f0 place1) ?_ ?_ ?_
  · refine Weak.go [1, 2, 5, 6, 7, 19, 20] [0, 32, 33, 64, 96] rfl ?_
    try simp only [heat_furnace_lowest.h0, go_sem]
  · rintro ⟨i1, i2, i3, l4⟩ x_1 Bk1 Br1 h1 hnext1 hbrk1 hret1
    refine run_sound T_ok 1000 _ _ ?_
    simp only [heat_furnace_lowest.b0] at h1
    try simp only [F82.s0, heat_furnace_lowest.h0, go_sem]
    refine AKev_bif h1 (fun c8 h1 => ?_) (fun c8 h1 => ?_)
    · try simp only [c8, go_sem]
      obtain ⟨x9, yx9, h1⟩ := bind_some h1
      try simp only [at_in yx9, at_get (eL 2 Range.c) yx9, c8, go_sem]
      obtain ⟨x10, yx10, h1⟩ := bind_some h1
      try simp only [at_in yx10, at_get Range.c yx10, c8, at_in yx9, at_get (eL 2 Range.c) yx9, go_sem]
      refine AKev_bif h1 (fun c11 h1 => ?_) (fun c11 h1 => ?_)
      · have c11 := bnot_t c11
        try simp only [c11, c8, at_in yx9, at_get (eL 2 Range.c) yx9, at_in yx10, at_get Range.c yx10, go_sem]
        refine AKev_bif h1 (fun c12 h1 => ?_) (fun c12 h1 => ?_)
        · try simp only [c12, c8, at_in yx9, at_get (eL 2 Range.c) yx9, at_in yx10, at_get Range.c yx10, c11, go_sem]
          refine AKev_backB (hnext1 _ _ (Option.some.inj h1).symm ?_)
          refine Weak.go [1, 2, 5, 6, 7, 19, 20] [0, 1, 2, 3, 405] rfl ?_
          try simp only [heat_furnace_lowest.h0, c8, at_in yx9, at_get (eL 2 Range.c) yx9, at_in yx10, at_get Range.c yx10, c11, c12, go_sem]
        · try simp only [c12, c8, at_in yx9, at_get (eL 2 Range.c) yx9, at_in yx10, at_get Range.c yx10, c11, go_sem]
          refine AKev_backB (hnext1 _ _ (Option.some.inj h1).symm ?_)
          refine Weak.go [1, 2, 5, 6, 7, 19, 20] [0, 1, 2, 3, 4] rfl ?_
          try simp only [heat_furnace_lowest.h0, c8, at_in yx9, at_get (eL 2 Range.c) yx9, at_in yx10, at_get Range.c yx10, c11, c12, go_sem]
      · have c11 := bnot_f c11
        try simp only [c11, c8, at_in yx9, at_get (eL 2 Range.c) yx9, at_in yx10, at_get Range.c yx10, go_sem]
        refine AKev_backB (hnext1 _ _ (Option.some.inj h1).symm ?_)
        refine Weak.go [1, 2, 5, 6, 7, 19, 20] [0, 1, 2, 3, 405] rfl ?_
        try simp only [heat_furnace_lowest.h0, c8, at_in yx9, at_get (eL 2 Range.c) yx9, at_in yx10, at_get Range.c yx10, c11, go_sem]
    · try simp only [c8, go_sem]
      refine AKev_backB (hbrk1 _ _ (Option.some.inj h1).symm ?_)
      refine Weak.go [1, 2, 5, 6, 7] [0, 1, 2, 3, 4] rfl ?_
      try simp only [heat_furnace_lowest.x0, c8, go_sem]
  · rintro ⟨i5, i6, l7⟩ hr_
    subst hr_
    simp only at h0
    refine run_sound T_ok 1000 _ _ ?_
    try simp only [heat_furnace_lowest.x0, go_sem]
    obtain ⟨r27, yr27, h0⟩ := bind_some h0
    refine AKev_loopS yr27 (heat_furnace_lowest.h1 f0 place1) (heat_furnace_lowest.x1) ?_ ?_ ?_
    · refine Weak.trans (Weak.fz 4 rfl (fun _ h => by cases h)) ?_
      refine Weak.go [1, 2, 5, 6, 7, 48, 49, 50] [0, 1, 2, 3] rfl ?_
      try simp only [heat_furnace_lowest.h1, go_sem]
    · rintro ⟨s14, i15, i16⟩ x_1 Bk1 Br1 h1 hnext1 hbrk1 hret1
      refine run_sound T_ok 1000 _ _ ?_
      simp only [heat_furnace_lowest.b1] at h1
      try simp only [F82.s1, heat_furnace_lowest.h1, go_sem]
      refine AKev_bif h1 (fun c19 h1 => ?_) (fun c19 h1 => ?_)
      · try simp only [c19, go_sem]
        obtain ⟨x20, yx20, h1⟩ := bind_some h1
        try simp only [at_in yx20, at_get heat_limit.c yx20, c19, go_sem]
        refine AKev_bif h1 (fun c21 h1 => ?_) (fun c21 h1 => ?_)
        · try simp only [c21, c19, at_in yx20, at_get heat_limit.c yx20, go_sem]
          refine AKev_bif h1 (fun c22 h1 => ?_) (fun c22 h1 => ?_)
          · try simp only [c22, c19, at_in yx20, at_get heat_limit.c yx20, c21, go_sem]
            refine AKev_region T_ok follows_ok 1000 ?_
            try simp only [c19, at_in yx20, at_get heat_limit.c yx20, c21, c22, go_sem]
            refine DG_done ⟨rfl, run_sound T_ok 1000 _ _ ?_⟩
            try simp only [c19, at_in yx20, at_get heat_limit.c yx20, c21, c22, go_sem]
            refine AKev_backB (hnext1 _ _ (Option.some.inj h1).symm ?_)
            refine Weak.trans (Weak.fz 308 rfl (fun _ h => by cases h)) ?_
            refine Weak.go [1, 2, 5, 6, 7, 48, 49, 50] [0, 1, 2, 3] rfl ?_
            try simp only [heat_furnace_lowest.h1, c19, at_in yx20, at_get heat_limit.c yx20, c21, c22, go_sem]
          · try simp only [c22, c19, at_in yx20, at_get heat_limit.c yx20, c21, go_sem]
            refine AKev_backB (hnext1 _ _ (Option.some.inj h1).symm ?_)
            refine Weak.go [1, 2, 5, 6, 7, 48, 49, 50] [0, 1, 2, 3] rfl ?_
            try simp only [heat_furnace_lowest.h1, c19, at_in yx20, at_get heat_limit.c yx20, c21, c22, go_sem]
        · try simp only [c21, c19, at_in yx20, at_get heat_limit.c yx20, go_sem]
          obtain ⟨x23, yx23, h1⟩ := bind_some h1
          refine AKev_call0 T_ok 1000 (heat_furnace_shownLow_ok k _ _ _ _ yx23) ?_ (by first | rfl | simp [AV.refsL, AV.refs, AV.scal, AV.leaf]) ?_
          · try simp only [c19, at_in yx20, at_get heat_limit.c yx20, c21, go_sem]
          try simp only [c19, at_in yx20, at_get heat_limit.c yx20, c21, go_sem]
          refine AKev_bif h1 (fun c24 h1 => ?_) (fun c24 h1 => ?_)
          · try simp only [c24, c19, at_in yx20, at_get heat_limit.c yx20, c21, go_sem]
            refine AKev_bif h1 (fun c25 h1 => ?_) (fun c25 h1 => ?_)
            · try simp only [c25, c19, at_in yx20, at_get heat_limit.c yx20, c21, c24, go_sem]
              refine AKev_region T_ok follows_ok 1000 ?_
              try simp only [c19, at_in yx20, at_get heat_limit.c yx20, c21, c24, c25, go_sem]
              obtain ⟨x26, yx26, h1⟩ := bind_some h1
              refine DG_call0 1000 (heat_furnace_cannot_ok k _ _ _ yx26) ?_ (by first | rfl | simp [AV.refsL, AV.refs, AV.scal, AV.leaf]) ?_
              · try simp only [c19, at_in yx20, at_get heat_limit.c yx20, c21, c24, c25, go_sem]
              try simp only [c19, at_in yx20, at_get heat_limit.c yx20, c21, c24, c25, go_sem]
              refine DG_done ⟨rfl, run_sound T_ok 1000 _ _ ?_⟩
              try simp only [c19, at_in yx20, at_get heat_limit.c yx20, c21, c24, c25, go_sem]
              refine AKev_backB (hnext1 _ _ (Option.some.inj h1).symm ?_)
              refine Weak.go [1, 2, 5, 6, 7, 48, 49, 50] [0, 1, 2, 3] rfl ?_
              try simp only [heat_furnace_lowest.h1, c19, at_in yx20, at_get heat_limit.c yx20, c21, c24, c25, go_sem]
            · try simp only [c25, c19, at_in yx20, at_get heat_limit.c yx20, c21, c24, go_sem]
              refine AKev_backB (hnext1 _ _ (Option.some.inj h1).symm ?_)
              refine Weak.go [1, 2, 5, 6, 7, 48, 49, 50] [0, 1, 2, 3] rfl ?_
              try simp only [heat_furnace_lowest.h1, c19, at_in yx20, at_get heat_limit.c yx20, c21, c24, c25, go_sem]
          · try simp only [c24, c19, at_in yx20, at_get heat_limit.c yx20, c21, go_sem]
            refine AKev_backB (hnext1 _ _ (Option.some.inj h1).symm ?_)
            refine Weak.go [1, 2, 5, 6, 7, 48, 49, 50] [0, 1, 2, 3] rfl ?_
            try simp only [heat_furnace_lowest.h1, c19, at_in yx20, at_get heat_limit.c yx20, c21, c24, go_sem]
      · try simp only [c19, go_sem]
        refine AKev_backB (hbrk1 _ _ (Option.some.inj h1).symm ?_)
        refine Weak.go [5, 6, 7] [1, 2, 3] rfl ?_
        try simp only [heat_furnace_lowest.x1, c19, go_sem]
    · rintro ⟨s17, i18⟩ hr_
      subst hr_
      simp only at h0
      refine run_sound T_ok 1000 _ _ ?_
      try simp only [heat_furnace_lowest.x1, go_sem]
      refine AKev_region T_ok follows_ok 1000 ?_
      try simp only [go_sem]
      refine DG_done ⟨rfl, run_sound T_ok 1000 _ _ ?_⟩
      try simp only [go_sem]
      obtain rfl := Option.some.inj h0
      refine AKev_ret rfl ?_
      try simp only [F82.rs, go_sem]
end Go.Abs
namespace Go.Abs
open Go.Proofs
set_option maxRecDepth 20000
set_option linter.unusedVariables false
set_option linter.unusedSimpArgs false
set_option maxHeartbeats 8000000
def F84.s0 : SC :=
 (.seq
  (.reg [⟨some 20, .binOp .lss 3 (.tmp 19) (.tmp 18) 3, 4, none, []⟩])
  (.seq
   (.cond (.tmp 20)
    .skip
    (.exit 0))
   (.seq
    (.block 1
     (.seq
      (.reg [⟨some 21, .move (.tmp 19), 3, none, []⟩,
        ⟨some 8, .assign (.tmp 21), 3, none, [21]⟩])
      (.seq
       (.reg [⟨some 23, .load 81 (.tmp 2), 81, none, []⟩,
         ⟨some 24, .move (.tmp 8), 3, none, []⟩,
         ⟨some 25, .call ⟨.value (.func 107), #[.tmp 23, .tmp 24], #[81, 3]⟩, 132, none, [23, 24]⟩,
         ⟨some 22, .move (.tmp 25), 132, none, [25]⟩,
         ⟨some 26, .extract (.tmp 22) 0, 3, none, []⟩,
         ⟨some 27, .extract (.tmp 22) 1, 3, none, [22]⟩,
         ⟨some 9, .assign (.tmp 26), 3, none, [26]⟩,
         ⟨some 10, .assign (.tmp 27), 3, none, [27]⟩])
       (.seq
        (.reg [⟨some 28, .move (.tmp 6), 3, none, [6]⟩,
          ⟨some 29, .move (.tmp 9), 3, none, [9]⟩,
          ⟨some 30, .fieldAddr 81 (.tmp 2) 0, 0, none, []⟩,
          ⟨some 31, .fieldAddr 27 (.tmp 30) 0, 0, none, [30]⟩,
          ⟨some 32, .fieldAddr 24 (.tmp 31) 0, 0, none, [31]⟩,
          ⟨some 33, .load 22 (.tmp 32), 22, none, [32]⟩,
          ⟨some 34, .move (.tmp 8), 3, none, [8]⟩,
          ⟨some 35, .indexAddr 22 (.tmp 33) (.tmp 34), 0, none, [33, 34]⟩,
          ⟨some 36, .load 89 (.tmp 35), 89, none, [35]⟩,
          ⟨some 37, .move (.tmp 1), 3, none, []⟩,
          ⟨some 38, .indexAddr 89 (.tmp 36) (.tmp 37), 0, none, [36, 37]⟩,
          ⟨some 39, .fieldAddr 30 (.tmp 38) 0, 0, none, [38]⟩,
          ⟨some 40, .load 3 (.tmp 39), 3, none, [39]⟩,
          ⟨some 41, .binOp .sub 3 (.tmp 29) (.tmp 40) 3, 3, none, [29, 40]⟩,
          ⟨some 42, .call ⟨.builtin .max, #[.tmp 28, .tmp 41], #[3, 3]⟩, 3, none, [28, 41]⟩,
          ⟨some 6, .assign (.tmp 42), 3, none, [42]⟩])
        (.reg [⟨some 43, .fieldAddr 57 (.tmp 7) 1, 0, none, []⟩,
          ⟨some 44, .load 37 (.tmp 43), 37, none, [43]⟩,
          ⟨some 45, .move (.tmp 10), 3, none, [10]⟩,
          ⟨some 46, .buildSlice 37 1 #[(0, .tmp 45)], 37, none, [45]⟩,
          ⟨some 47, .call ⟨.builtin .append, #[.tmp 44, .tmp 46], #[37, 37]⟩, 37, none, [44, 46]⟩,
          ⟨some 48, .fieldAddr 57 (.tmp 7) 1, 0, none, []⟩,
          ⟨none, .store 37 (.tmp 48) (.tmp 47), 0, none, [47, 48]⟩])))))
    (.reg [⟨some 49, .binOp .add 3 (.tmp 19) (.const (.int .i64 1)) 3, 3, none, [19]⟩,
      ⟨some 19, .move (.tmp 49), 3, none, [49]⟩]))))
def F84.c : SC :=
 (.seq
  (.reg [⟨some 2, .box 81 (.tmp 0), 0, none, [0]⟩,
    ⟨some 4, .assign (.const (.int .i64 0)), 3, none, [4]⟩,
    ⟨some 5, .alloc 57, 0, none, []⟩])
  (.seq
   (.reg [⟨some 13, .build 57 #[(0, .const (.int .i64 (-1)))], 57, none, []⟩,
     ⟨some 7, .alloc 57, 0, none, []⟩,
     ⟨some 6, .assign (.const (.int .i64 (-3000))), 3, none, []⟩,
     ⟨none, .store 57 (.tmp 7) (.tmp 13), 0, none, [13]⟩])
   (.seq
    (.seq
     (.reg [⟨some 14, .fieldAddr 81 (.tmp 2) 0, 0, none, []⟩,
       ⟨some 15, .fieldAddr 27 (.tmp 14) 0, 0, none, [14]⟩,
       ⟨some 16, .fieldAddr 24 (.tmp 15) 0, 0, none, [15]⟩,
       ⟨some 17, .load 22 (.tmp 16), 22, none, [16]⟩,
       ⟨some 18, .call ⟨.builtin .len, #[.tmp 17], #[22]⟩, 3, none, [17]⟩,
       ⟨some 19, .move (.const (.int .i64 0)), 3, none, []⟩])
     (.block 0
      (.loop F84.s0)))
    (.seq
     (.seq
      (.reg [⟨some 51, .fieldAddr 81 (.tmp 2) 2, 0, none, [2]⟩,
        ⟨some 52, .load 79 (.tmp 51), 79, none, [51]⟩,
        ⟨some 53, .move (.tmp 1), 3, none, [1]⟩,
        ⟨some 54, .call ⟨.value (.func 108), #[.tmp 52, .tmp 53, .func 109], #[79, 3, 138]⟩, 136, none, [52, 53]⟩,
        ⟨some 50, .move (.tmp 54), 136, none, [54]⟩,
        ⟨some 55, .extract (.tmp 50) 0, 135, none, []⟩,
        ⟨some 56, .extract (.tmp 50) 1, 4, none, [50]⟩,
        ⟨some 11, .alloc 135, 0, none, []⟩,
        ⟨none, .store 135 (.tmp 11) (.tmp 55), 0, none, [55]⟩,
        ⟨some 12, .assign (.tmp 56), 4, none, [56]⟩])
      (.seq
       (.reg [⟨some 57, .move (.tmp 12), 4, none, [12]⟩,
         ⟨some 58, .move (.tmp 57), 4, none, [57]⟩,
         ⟨some 59, .fieldAddr 135 (.tmp 11) 1, 0, some (58, true), []⟩,
         ⟨some 60, .load 3 (.tmp 59), 3, some (58, true), [59]⟩,
         ⟨some 61, .move (.tmp 6), 3, some (58, true), []⟩,
         ⟨some 62, .binOp .leq 3 (.tmp 60) (.tmp 61) 3, 4, some (58, true), [60, 61]⟩,
         ⟨some 63, .pick (.tmp 58) (.tmp 62) (.const (.bool false)), 4, none, [58, 62]⟩])
       (.cond (.tmp 63)
        (.seq
         (.dreg [⟨some 64, .fieldAddr 135 (.tmp 11) 1, 0, none, []⟩,
           ⟨some 65, .load 3 (.tmp 64), 3, none, []⟩,
           ⟨some 66, .fieldAddr 135 (.tmp 11) 2, 0, none, []⟩,
           ⟨some 67, .load 3 (.tmp 66), 3, none, []⟩,
           ⟨some 68, .build 57 #[(0, .tmp 67)], 57, none, []⟩,
           ⟨some 4, .assign (.tmp 65), 3, none, []⟩,
           ⟨none, .store 57 (.tmp 5) (.tmp 68), 0, none, []⟩] [[], [0], [], [2], [2, 3], [0, 1], [2, 3, 4, 0, 1, 5]] [11, 64, 65, 66, 67, 68])
         .ret)
        .skip)))
     (.seq
      (.dreg [⟨some 69, .move (.tmp 6), 3, none, []⟩,
        ⟨some 70, .load 57 (.tmp 7), 57, none, []⟩,
        ⟨some 4, .assign (.tmp 69), 3, none, []⟩,
        ⟨none, .store 57 (.tmp 5) (.tmp 70), 0, none, []⟩] [[], [], [0], [1, 0, 2]] [6, 7, 69, 70])
      .ret)))))
theorem F84.rs : Tryz.f84.results.toList = [.tmp 4, .cell 5 57] := rfl
def heat_furnace_highest.b0 (k : Nat) (f0 : heat_furnace) (place1 : Int) : (Int × Int × (List Int)) → Option (Stp (Int × Int × (List Int)) (Int × (List Int)) (Int × HeatProof)) := fun (s : Int × Int × (List Int)) => match s with
  | (i1, i2, l3) => 
      bif decide (i2 < (f0.Firing.Kiln.Falls.length : Int)) then
        (heat_furnace_hottest k f0 i2).bind fun x7 =>
        (at? f0.Firing.Kiln.Falls i2).bind fun x8 =>
        (at? x8 place1).bind fun x9 =>
        (push? 8 l3 x7.2).bind fun l10 =>
        some (.next (max i1 (w64 (x7.1 - x9.Lo)), w64 (i2 + 1), l10))
      else
        some (.brk (i1, l3))
noncomputable def heat_furnace_highest.h0 (f0 : heat_furnace) (place1 : Int) : (Int × Int × (List Int)) → St := fun (s : Int × Int × (List Int)) => match s with
  | (i1, i2, l3) => ⟨[(1, .int .i64 place1), (2, .ptr 0 0 0), (5, .ptr 0 1 0), (6, .int .i64 i1), (7, .ptr 0 3 0), (18, .int .i64 (f0.Firing.Kiln.Falls.length : Int)), (19, .int .i64 i2)], [(0, .box [.sl 1 (List.map (eL 2 Range.c) f0.Firing.Kiln.Falls), .sl 6 (List.map Reading.c f0.Firing.Readings), .sl 3 (List.map heat_limit.c f0.least), .sl 3 (List.map heat_limit.c f0.most)]), (1, .box [.int .i64 0, .loc 0 2 1 0 0 0]), (2, .arr 3 1 (List.map eI [])), (3, .box [.int .i64 (-1), .loc 0 4 1 0 l3.length l3.length]), (4, .arr 3 1 (List.map eI l3))], [], 5, Tryz.f84.ntmps⟩
noncomputable def heat_furnace_highest.x0 (f0 : heat_furnace) (place1 : Int) : (Int × (List Int)) → St := fun (s : Int × (List Int)) => match s with
  | (i4, l5) => ⟨[(1, .int .i64 place1), (2, .ptr 0 0 0), (5, .ptr 0 1 0), (6, .int .i64 i4), (7, .ptr 0 3 0)], [(0, .box [.sl 1 (List.map (eL 2 Range.c) f0.Firing.Kiln.Falls), .sl 6 (List.map Reading.c f0.Firing.Readings), .sl 3 (List.map heat_limit.c f0.least), .sl 3 (List.map heat_limit.c f0.most)]), (1, .box [.int .i64 0, .loc 0 2 1 0 0 0]), (2, .arr 3 1 (List.map eI [])), (3, .box [.int .i64 (-1), .loc 0 4 1 0 l5.length l5.length]), (4, .arr 3 1 (List.map eI l5))], [], 5, Tryz.f84.ntmps⟩
def heat_furnace_highest (k : Nat) (f0 : heat_furnace) (place1 : Int) : Option (Int × HeatProof) :=
  (whl (heat_furnace_highest.b0 k f0 place1) k (-3000, 0, [])).bind fun r11 => match r11 with
  | .next _ => none
  | .ret v_ => some v_
  | .brk (i4, l5) =>
    (heat_best k f0.most place1 (fun q0 q1 => heat_less k q0 q1)).bind fun x12 =>
    bif x12.2 then
      bif decide (x12.1.heat ≤ i4) then
        some (x12.1.heat, (⟨x12.1.by_, []⟩ : HeatProof))
      else
        some (i4, (⟨-1, l5⟩ : HeatProof))
    else
      some (i4, (⟨-1, l5⟩ : HeatProof))
theorem heat_furnace_highest_ok (k : Nat) (f0 : heat_furnace) (place1 : Int) (r : Int × HeatProof) (h0 : heat_furnace_highest k f0 place1 = some r) : PCall Tryz.prog 84 [.agg (heat_furnace.c f0), .int .i64 place1] (fun y => y = .tup [.int .i64 r.1, .agg (HeatProof.c r.2)]) := by
  refine PCall.nlr (PCall.of_body T_ok (fn := Tryz.f84) (sc := F84.c) (by rfl) (by rfl) (by decide +kernel) (by rfl) (by decide +kernel) (Nat.le_of_ble_eq_true rfl) ?_)
  refine run_sound T_ok 1000 _ _ ?_
  simp only [heat_furnace_highest] at h0
  try simp only [F84.c, go_sem]
  obtain ⟨r11, yr11, h0⟩ := bind_some h0
  refine AKev_loopS yr11 (heat_furnace_highest.h0 f0 place1) (heat_furnace_highest.x0 f0 place1) ?_ ?_ ?_
  · refine Weak.go [1, 2, 5, 6, 7, 18, 19] [0, 32, 33, 64, 96] rfl ?_
    try simp only [heat_furnace_highest.h0, go_sem]
  · rintro ⟨i1, i2, l3⟩ x_1 Bk1 Br1 h1 hnext1 hbrk1 hret1
    refine run_sound T_ok 1000 _ _ ?_
    simp only [heat_furnace_highest.b0] at h1
    try simp only [F84.s0, heat_furnace_highest.h0, go_sem]
    refine AKev_bif h1 (fun c6 h1 => ?_) (fun c6 h1 => ?_)
    · try simp only [c6, go_sem]
      obtain ⟨x7, yx7, h1⟩ := bind_some h1
      refine AKev_call0 T_ok 1000 (heat_furnace_hottest_ok k _ _ _ yx7) ?_ (by first | rfl | simp [AV.refsL, AV.refs, AV.scal, AV.leaf]) ?_
      · try simp only [c6, go_sem]
      try simp only [c6, go_sem]
      obtain ⟨x8, yx8, h1⟩ := bind_some h1
      try simp only [at_in yx8, at_get (eL 2 Range.c) yx8, c6, go_sem]
      obtain ⟨x9, yx9, h1⟩ := bind_some h1
      try simp only [at_in yx9, at_get Range.c yx9, c6, at_in yx8, at_get (eL 2 Range.c) yx8, go_sem]
      obtain ⟨l10, yl10, h1⟩ := bind_some h1
      have eyl10 := push_map eI yl10
      have tyl10 := push_take eI yl10
      have nyl10 := push_len yl10
      have myl10 := push_room yl10
      try simp only [c6, at_in yx8, at_get (eL 2 Range.c) yx8, at_in yx9, at_get Range.c yx9, go_sem] at eyl10 tyl10 nyl10 myl10
      try simp only [myl10, eyl10, c6, at_in yx8, at_get (eL 2 Range.c) yx8, at_in yx9, at_get Range.c yx9, nyl10, tyl10, go_sem]
      refine AKev_backB (hnext1 _ _ (Option.some.inj h1).symm ?_)
      refine Weak.go [1, 2, 5, 6, 7, 18, 19] [0, 1, 2, 3, 4] rfl ?_
      try simp only [heat_furnace_highest.h0, c6, at_in yx8, at_get (eL 2 Range.c) yx8, at_in yx9, at_get Range.c yx9, eyl10, nyl10, tyl10, go_sem]
    · try simp only [c6, go_sem]
      refine AKev_backB (hbrk1 _ _ (Option.some.inj h1).symm ?_)
      refine Weak.go [1, 2, 5, 6, 7] [0, 1, 2, 3, 4] rfl ?_
      try simp only [heat_furnace_highest.x0, c6, go_sem]
  · rintro ⟨i4, l5⟩ hr_
    subst hr_
    simp only at h0
    refine run_sound T_ok 1000 _ _ ?_
    try simp only [heat_furnace_highest.x0, go_sem]
    obtain ⟨x12, yx12, h0⟩ := bind_some h0
    refine AKev_call0 T_ok 1000 (heat_best_ok k _ _ 109 [] ⟨fun _ => rfl, fun _ => rfl, fun _ _ => rfl, rfl, fun _ => rfl, fun _ => rfl, fun _ => rfl⟩ (fun q0 q1 => heat_less k q0 q1) (fun q0 q1 qr qh => heat_less_ok k q0 q1 qr qh) _ yx12) ?_ (by first | rfl | simp [AV.refsL, AV.refs, AV.scal, AV.leaf]) ?_
    · try simp only [go_sem]
    try simp only [go_sem]
    refine AKev_bif h0 (fun c13 h0 => ?_) (fun c13 h0 => ?_)
    · try simp only [c13, go_sem]
      refine AKev_bif h0 (fun c14 h0 => ?_) (fun c14 h0 => ?_)
      · try simp only [c14, c13, go_sem]
        refine AKev_region T_ok follows_ok 1000 ?_
        try simp only [c13, c14, go_sem]
        refine DG_done ⟨rfl, run_sound T_ok 1000 _ _ ?_⟩
        try simp only [c13, c14, go_sem]
        obtain rfl := Option.some.inj h0
        refine AKev_ret rfl ?_
        try simp only [F84.rs, c13, c14, go_sem]
      · try simp only [c14, c13, go_sem]
        refine AKev_region T_ok follows_ok 1000 ?_
        try simp only [c13, c14, go_sem]
        refine DG_done ⟨rfl, run_sound T_ok 1000 _ _ ?_⟩
        try simp only [c13, c14, go_sem]
        obtain rfl := Option.some.inj h0
        refine AKev_ret rfl ?_
        try simp only [F84.rs, c13, c14, go_sem]
    · try simp only [c13, go_sem]
      refine AKev_region T_ok follows_ok 1000 ?_
      try simp only [c13, go_sem]
      refine DG_done ⟨rfl, run_sound T_ok 1000 _ _ ?_⟩
      try simp only [c13, go_sem]
      obtain rfl := Option.some.inj h0
      refine AKev_ret rfl ?_
      try simp only [F84.rs, c13, go_sem]
end Go.Abs
namespace Go.Abs
open Go.Proofs
set_option maxRecDepth 20000
set_option linter.unusedVariables false
set_option linter.unusedSimpArgs false
set_option maxHeartbeats 8000000
def F54.c : SC :=
 (.seq
  (.reg [⟨some 2, .box 81 (.tmp 0), 0, none, [0]⟩,
    ⟨some 4, .alloc 30, 0, none, []⟩])
  (.seq
   (.reg [⟨some 10, .load 81 (.tmp 2), 81, none, []⟩,
     ⟨some 11, .move (.tmp 1), 3, none, []⟩,
     ⟨some 12, .call ⟨.value (.func 82), #[.tmp 10, .tmp 11], #[81, 3]⟩, 110, none, [10, 11]⟩,
     ⟨some 9, .move (.tmp 12), 110, none, [12]⟩,
     ⟨some 13, .extract (.tmp 9) 0, 3, none, []⟩,
     ⟨some 14, .extract (.tmp 9) 1, 57, none, [9]⟩,
     ⟨some 6, .alloc 57, 0, none, []⟩,
     ⟨some 5, .assign (.tmp 13), 3, none, [13]⟩,
     ⟨none, .store 57 (.tmp 6) (.tmp 14), 0, none, [6, 14]⟩])
   (.seq
    (.reg [⟨some 16, .load 81 (.tmp 2), 81, none, [2]⟩,
      ⟨some 17, .move (.tmp 1), 3, none, [1]⟩,
      ⟨some 18, .call ⟨.value (.func 84), #[.tmp 16, .tmp 17], #[81, 3]⟩, 110, none, [16, 17]⟩,
      ⟨some 15, .move (.tmp 18), 110, none, [18]⟩,
      ⟨some 19, .extract (.tmp 15) 0, 3, none, []⟩,
      ⟨some 20, .extract (.tmp 15) 1, 57, none, [15]⟩,
      ⟨some 8, .alloc 57, 0, none, []⟩,
      ⟨some 7, .assign (.tmp 19), 3, none, [19]⟩,
      ⟨none, .store 57 (.tmp 8) (.tmp 20), 0, none, [8, 20]⟩])
    (.seq
     (.reg [⟨some 21, .move (.tmp 5), 3, none, [5]⟩,
       ⟨some 22, .move (.tmp 7), 3, none, [7]⟩,
       ⟨some 23, .build 30 #[(0, .tmp 21), (1, .tmp 22)], 30, none, [21, 22]⟩,
       ⟨none, .store 30 (.tmp 4) (.tmp 23), 0, none, [23]⟩])
     .ret))))
theorem F54.rs : Tryz.f54.results.toList = [.cell 4 30] := rfl
def heat_furnace_bound (k : Nat) (f0 : heat_furnace) (place1 : Int) : Option (Range) :=
  (heat_furnace_lowest k f0 place1).bind fun x1 =>
  (heat_furnace_highest k f0 place1).bind fun x2 =>
  some (⟨x1.1, x2.1⟩ : Range)
theorem heat_furnace_bound_ok (k : Nat) (f0 : heat_furnace) (place1 : Int) (r : Range) (h0 : heat_furnace_bound k f0 place1 = some r) : PCall Tryz.prog 54 [.agg (heat_furnace.c f0), .int .i64 place1] (fun y => y = .agg (Range.c r)) := by
  refine PCall.nlr (PCall.of_body T_ok (fn := Tryz.f54) (sc := F54.c) (by rfl) (by rfl) (by decide +kernel) (by rfl) (by decide +kernel) (Nat.le_of_ble_eq_true rfl) ?_)
  refine run_sound T_ok 1000 _ _ ?_
  simp only [heat_furnace_bound] at h0
  try simp only [F54.c, go_sem]
  obtain ⟨x1, yx1, h0⟩ := bind_some h0
  refine AKev_call0 T_ok 1000 (heat_furnace_lowest_ok k _ _ _ yx1) ?_ (by first | rfl | simp [AV.refsL, AV.refs, AV.scal, AV.leaf]) ?_
  · try simp only [go_sem]
  try simp only [go_sem]
  obtain ⟨x2, yx2, h0⟩ := bind_some h0
  refine AKev_call0 T_ok 1000 (heat_furnace_highest_ok k _ _ _ yx2) ?_ (by first | rfl | simp [AV.refsL, AV.refs, AV.scal, AV.leaf]) ?_
  · try simp only [go_sem]
  try simp only [go_sem]
  obtain rfl := Option.some.inj h0
  refine AKev_ret rfl ?_
  try simp only [F54.rs, go_sem]
end Go.Abs
namespace Go.Abs
open Go.Proofs
set_option maxRecDepth 20000
set_option linter.unusedVariables false
set_option linter.unusedSimpArgs false
set_option maxHeartbeats 8000000
def F8.s0 : SC :=
 (.seq
  (.reg [⟨some 28, .binOp .lss 3 (.tmp 27) (.tmp 26) 3, 0, none, []⟩])
  (.seq
   (.cond (.tmp 28)
    .skip
    (.exit 0))
   (.seq
    (.block 1
     (.seq
      (.reg [⟨some 29, .indexAddr 28 (.tmp 25) (.tmp 27), 0, none, []⟩,
        ⟨some 30, .load 32 (.tmp 29), 32, none, [29]⟩,
        ⟨some 10, .alloc 32, 0, none, []⟩,
        ⟨none, .store 32 (.tmp 10) (.tmp 30), 0, none, [30]⟩])
      (.seq
       (.reg [⟨some 31, .load 81 (.tmp 6), 81, none, []⟩,
         ⟨some 32, .fieldAddr 32 (.tmp 10) 0, 0, none, []⟩,
         ⟨some 33, .load 3 (.tmp 32), 3, none, [32]⟩,
         ⟨some 34, .call ⟨.value (.func 54), #[.tmp 31, .tmp 33], #[81, 3]⟩, 30, none, [31, 33]⟩,
         ⟨some 11, .alloc 30, 0, none, []⟩,
         ⟨none, .store 30 (.tmp 11) (.tmp 34), 0, none, [34]⟩])
       (.seq
        (.reg [⟨some 35, .fieldAddr 30 (.tmp 11) 0, 0, none, []⟩,
          ⟨some 36, .load 3 (.tmp 35), 3, none, [35]⟩,
          ⟨some 37, .fieldAddr 32 (.tmp 10) 1, 0, none, []⟩,
          ⟨some 38, .fieldAddr 30 (.tmp 37) 0, 0, none, [37]⟩,
          ⟨some 39, .load 3 (.tmp 38), 3, none, [38]⟩,
          ⟨some 40, .binOp .lss 3 (.tmp 36) (.tmp 39) 3, 4, none, [36, 39]⟩,
          ⟨some 41, .move (.tmp 40), 4, none, [40]⟩,
          ⟨some 42, .fieldAddr 30 (.tmp 11) 1, 0, some (41, false), [11]⟩,
          ⟨some 43, .load 3 (.tmp 42), 3, some (41, false), [42]⟩,
          ⟨some 44, .fieldAddr 32 (.tmp 10) 1, 0, some (41, false), [10]⟩,
          ⟨some 45, .fieldAddr 30 (.tmp 44) 1, 0, some (41, false), [44]⟩,
          ⟨some 46, .load 3 (.tmp 45), 3, some (41, false), [45]⟩,
          ⟨some 47, .binOp .gtr 3 (.tmp 43) (.tmp 46) 3, 4, some (41, false), [43, 46]⟩,
          ⟨some 48, .pick (.tmp 41) (.const (.bool true)) (.tmp 47), 4, none, [41, 47]⟩])
        (.cond (.tmp 48)
         (.seq
          (.reg [⟨some 4, .assign (.const (.int .i64 2)), 3, none, []⟩,
            ⟨some 5, .assign (.const (.int .i64 0)), 33, none, []⟩])
          .ret)
         .skip)))))
    (.reg [⟨some 49, .binOp .add 3 (.tmp 27) (.const (.int .i64 1)) 3, 3, none, [27]⟩,
      ⟨some 27, .move (.tmp 49), 3, none, [49]⟩]))))
def F8.c : SC :=
 (.seq
  (.reg [⟨some 2, .box 27 (.tmp 0), 0, none, [0]⟩,
    ⟨some 4, .assign (.const (.int .i64 0)), 3, none, [4]⟩,
    ⟨some 5, .assign (.const (.int .i64 0)), 33, none, [5]⟩])
  (.seq
   (.reg [⟨some 13, .load 27 (.tmp 2), 27, none, [2]⟩,
     ⟨some 14, .move (.tmp 1), 28, none, []⟩,
     ⟨some 15, .call ⟨.value (.func 52), #[.tmp 13, .tmp 14], #[27, 28]⟩, 82, none, [13, 14]⟩,
     ⟨some 12, .move (.tmp 15), 82, none, [15]⟩,
     ⟨some 16, .extract (.tmp 12) 0, 81, none, []⟩,
     ⟨some 17, .extract (.tmp 12) 1, 81, none, []⟩,
     ⟨some 18, .extract (.tmp 12) 2, 33, none, [12]⟩,
     ⟨some 6, .alloc 81, 0, none, []⟩,
     ⟨some 7, .alloc 81, 0, none, []⟩,
     ⟨none, .store 81 (.tmp 6) (.tmp 16), 0, none, [16]⟩,
     ⟨none, .store 81 (.tmp 7) (.tmp 17), 0, none, [17]⟩,
     ⟨some 8, .assign (.tmp 18), 33, none, [18]⟩])
   (.seq
    (.seq
     (.reg [⟨some 19, .move (.tmp 8), 33, none, []⟩,
       ⟨some 20, .binOp .neq 33 (.tmp 19) (.const (.int .i64 0)) 33, 4, none, [19]⟩])
     (.cond (.tmp 20)
      (.seq
       (.reg [⟨some 21, .move (.tmp 8), 33, none, [8]⟩,
         ⟨some 4, .assign (.const (.int .i64 0)), 3, none, []⟩,
         ⟨some 5, .assign (.tmp 21), 33, none, [21]⟩])
       .ret)
      .skip))
    (.seq
     (.seq
      (.reg [⟨some 22, .load 81 (.tmp 7), 81, none, [7]⟩,
        ⟨some 23, .call ⟨.value (.func 53), #[.tmp 22], #[81]⟩, 4, none, [22]⟩,
        ⟨some 24, .unOp .not 4 (.tmp 23), 4, none, [23]⟩])
      (.cond (.tmp 24)
       (.seq
        (.reg [⟨some 4, .assign (.const (.int .i64 0)), 3, none, []⟩,
          ⟨some 5, .assign (.const (.int .i64 0)), 33, none, []⟩])
        .ret)
       .skip))
     (.seq
      (.seq
       (.reg [⟨some 25, .move (.tmp 1), 28, none, [1]⟩,
         ⟨some 26, .call ⟨.builtin .len, #[.tmp 25], #[28]⟩, 3, none, []⟩,
         ⟨some 27, .move (.const (.int .i64 0)), 3, none, []⟩])
       (.block 0
        (.loop F8.s0)))
      (.seq
       (.reg [⟨some 4, .assign (.const (.int .i64 1)), 3, none, []⟩,
         ⟨some 5, .assign (.const (.int .i64 0)), 33, none, []⟩])
       .ret))))))
theorem F8.rs : Tryz.f8.results.toList = [.tmp 4, .tmp 5] := rfl
def heat_Together.b0 (k : Nat) (l1 : (List Want)) (x1 : heat_furnace × heat_furnace × Int) : Int → Option (Stp (Int) (Unit) (Int × Int)) := fun (i5 : Int) => 
  bif decide (i5 < (l1.length : Int)) then
    (at? l1 i5).bind fun x7 =>
    (heat_furnace_bound k x1.1 x7.Place).bind fun x8 =>
    bif (!decide (x8.Lo < x7.Heat.Lo)) then
      bif decide (x7.Heat.Hi < x8.Hi) then
        some (.ret (2, 0))
      else
        some (.next (w64 (i5 + 1)))
    else
      some (.ret (2, 0))
  else
    some (.brk ())
noncomputable def heat_Together.h0 (l1 : (List Want)) (x1 : heat_furnace × heat_furnace × Int) : Int → St := fun (i5 : Int) => ⟨[(6, .ptr 0 0 0), (25, .sl 3 (List.map Want.c l1)), (26, .int .i64 (l1.length : Int)), (27, .int .i64 i5)], [(0, .box [.sl 1 (List.map (eL 2 Range.c) x1.1.Firing.Kiln.Falls), .sl 6 (List.map Reading.c x1.1.Firing.Readings), .sl 3 (List.map heat_limit.c x1.1.least), .sl 3 (List.map heat_limit.c x1.1.most)])], [], 1, Tryz.f8.ntmps⟩
noncomputable def heat_Together.x0 : Unit → St := fun (_ : Unit) => ⟨[], [], [], 1, Tryz.f8.ntmps⟩
def heat_Together (k : Nat) (f0 : Firing) (l1 : (List Want)) : Option (Int × Int) :=
  (heat_wanted k f0 l1).bind fun x1 =>
  bif (!decide (x1.2.2 = (0 : Int))) then
    some (0, x1.2.2)
  else
    (heat_furnace_sound k x1.2.1).bind fun x3 =>
    bif (!x3) then
      some (0, 0)
    else
      (whl (heat_Together.b0 k l1 x1) k 0).bind fun r11 => match r11 with
      | .next _ => none
      | .ret v_ => some v_
      | .brk _ =>
        some (1, 0)
theorem heat_Together_ok (k : Nat) (f0 : Firing) (l1 : (List Want)) (r : Int × Int) (h0 : heat_Together k f0 l1 = some r) : PCall Tryz.prog 8 [.agg (Firing.c f0), .sl 3 (List.map Want.c l1)] (fun y => y = .tup [.int .i64 r.1, .int .i64 r.2]) := by
  refine PCall.nlr (PCall.of_body T_ok (fn := Tryz.f8) (sc := F8.c) (by rfl) (by rfl) (by decide +kernel) (by rfl) (by decide +kernel) (Nat.le_of_ble_eq_true rfl) ?_)
  refine run_sound T_ok 1000 _ _ ?_
  simp only [heat_Together] at h0
  try simp only [F8.c, go_sem]
  obtain ⟨x1, yx1, h0⟩ := bind_some h0
  refine AKev_call0 T_ok 1000 (heat_wanted_ok k _ _ _ yx1) ?_ (by first | rfl | simp [AV.refsL, AV.refs, AV.scal, AV.leaf]) ?_
  · try simp only [go_sem]
  try simp only [go_sem]
  refine AKev_bif h0 (fun c2 h0 => ?_) (fun c2 h0 => ?_)
  · have c2 := bnot_t c2
    try simp only [c2, go_sem]
    obtain rfl := Option.some.inj h0
    refine AKev_ret rfl ?_
    try simp only [F8.rs, c2, go_sem]
  · have c2 := bnot_f c2
    try simp only [c2, go_sem]
    obtain ⟨x3, yx3, h0⟩ := bind_some h0
    refine AKev_call0 T_ok 1000 (heat_furnace_sound_ok k _ _ yx3) ?_ (by first | rfl | simp [AV.refsL, AV.refs, AV.scal, AV.leaf]) ?_
    · try simp only [c2, go_sem]
    try simp only [c2, go_sem]
    refine AKev_bif h0 (fun c4 h0 => ?_) (fun c4 h0 => ?_)
    · have c4 := bnot_t c4
      try simp only [c4, c2, go_sem]
      obtain rfl := Option.some.inj h0
      refine AKev_ret rfl ?_
      try simp only [F8.rs, c2, c4, go_sem]
    · have c4 := bnot_f c4
      try simp only [c4, c2, go_sem]
      obtain ⟨r11, yr11, h0⟩ := bind_some h0
      refine AKev_loopS yr11 (heat_Together.h0 l1 x1) (heat_Together.x0) ?_ ?_ ?_
      · refine Weak.go [6, 25, 26, 27] [160] rfl ?_
        try simp only [heat_Together.h0, c2, c4, go_sem]
      · rintro i5 x_1 Bk1 Br1 h1 hnext1 hbrk1 hret1
        refine run_sound T_ok 1000 _ _ ?_
        simp only [heat_Together.b0] at h1
        try simp only [F8.s0, heat_Together.h0, c2, c4, go_sem]
        refine AKev_bif h1 (fun c6 h1 => ?_) (fun c6 h1 => ?_)
        · try simp only [c6, c2, c4, go_sem]
          obtain ⟨x7, yx7, h1⟩ := bind_some h1
          try simp only [at_in yx7, at_get Want.c yx7, c2, c4, c6, go_sem]
          obtain ⟨x8, yx8, h1⟩ := bind_some h1
          refine AKev_call0 T_ok 1000 (heat_furnace_bound_ok k _ _ _ yx8) ?_ (by first | rfl | simp [AV.refsL, AV.refs, AV.scal, AV.leaf]) ?_
          · try simp only [c2, c4, c6, at_in yx7, at_get Want.c yx7, go_sem]
          try simp only [c2, c4, c6, at_in yx7, at_get Want.c yx7, go_sem]
          refine AKev_bif h1 (fun c9 h1 => ?_) (fun c9 h1 => ?_)
          · have c9 := bnot_t c9
            try simp only [c9, c2, c4, c6, at_in yx7, at_get Want.c yx7, go_sem]
            refine AKev_bif h1 (fun c10 h1 => ?_) (fun c10 h1 => ?_)
            · try simp only [c10, c2, c4, c6, at_in yx7, at_get Want.c yx7, c9, go_sem]
              obtain rfl := hret1 _ (Option.some.inj h1).symm
              simp only at h0
              obtain rfl := Option.some.inj h0
              refine AKev_ret rfl ?_
              try simp only [F8.rs, c2, c4, c6, at_in yx7, at_get Want.c yx7, c9, c10, go_sem]
            · try simp only [c10, c2, c4, c6, at_in yx7, at_get Want.c yx7, c9, go_sem]
              refine AKev_backB (hnext1 _ _ (Option.some.inj h1).symm ?_)
              refine Weak.go [6, 25, 26, 27] [0] rfl ?_
              try simp only [heat_Together.h0, c2, c4, c6, at_in yx7, at_get Want.c yx7, c9, c10, go_sem]
          · have c9 := bnot_f c9
            try simp only [c9, c2, c4, c6, at_in yx7, at_get Want.c yx7, go_sem]
            obtain rfl := hret1 _ (Option.some.inj h1).symm
            simp only at h0
            obtain rfl := Option.some.inj h0
            refine AKev_ret rfl ?_
            try simp only [F8.rs, c2, c4, c6, at_in yx7, at_get Want.c yx7, c9, go_sem]
        · try simp only [c6, c2, c4, go_sem]
          refine AKev_backB (hbrk1 _ _ (Option.some.inj h1).symm ?_)
          refine Weak.go [] [] rfl ?_
          try simp only [heat_Together.x0, c2, c4, c6, go_sem]
      · rintro _ hr_
        subst hr_
        simp only at h0
        refine run_sound T_ok 1000 _ _ ?_
        try simp only [heat_Together.x0, c2, c4, go_sem]
        obtain rfl := Option.some.inj h0
        refine AKev_ret rfl ?_
        try simp only [F8.rs, c2, c4, go_sem]
end Go.Abs
namespace Go.Abs
open Go.Proofs
set_option maxRecDepth 20000
set_option linter.unusedVariables false
set_option linter.unusedSimpArgs false
set_option maxHeartbeats 8000000
def F10.c : SC :=
 (.seq
  (.reg [⟨some 3, .box 27 (.tmp 0), 0, none, [0]⟩,
    ⟨some 5, .box 30 (.tmp 2), 0, none, [2]⟩,
    ⟨some 6, .assign (.const (.int .i64 0)), 3, none, [6]⟩,
    ⟨some 7, .assign (.const (.int .i64 0)), 33, none, [7]⟩])
  (.seq
   (.block 0
    (.seq
     (.reg [⟨some 9, .load 27 (.tmp 3), 27, none, []⟩,
       ⟨some 10, .call ⟨.value (.func 42), #[.tmp 9], #[27]⟩, 33, none, [9]⟩,
       ⟨some 11, .binOp .neq 33 (.tmp 10) (.const (.int .i64 0)) 33, 4, none, [10]⟩,
       ⟨some 8, .assign (.tmp 11), 4, none, [11]⟩])
     (.cond (.tmp 8)
      (.seq
       (.reg [⟨some 6, .assign (.const (.int .i64 0)), 3, none, []⟩,
         ⟨some 7, .assign (.const (.int .i64 42)), 33, none, []⟩])
       .ret)
      (.seq
       (.reg [⟨some 13, .move (.tmp 1), 3, none, []⟩,
         ⟨some 14, .fieldAddr 27 (.tmp 3) 0, 0, none, []⟩,
         ⟨some 15, .fieldAddr 24 (.tmp 14) 0, 0, none, [14]⟩,
         ⟨some 16, .load 22 (.tmp 15), 22, none, [15]⟩,
         ⟨some 17, .indexAddr 22 (.tmp 16) (.const (.int .i64 0)), 0, none, [16]⟩,
         ⟨some 18, .load 89 (.tmp 17), 89, none, [17]⟩,
         ⟨some 19, .call ⟨.builtin .len, #[.tmp 18], #[89]⟩, 3, none, [18]⟩,
         ⟨some 20, .binOp .sub 3 (.tmp 19) (.const (.int .i64 1)) 3, 3, none, [19]⟩,
         ⟨some 21, .call ⟨.value (.func 58), #[.tmp 13, .const (.int .i64 0), .tmp 20], #[3, 3, 3]⟩, 4, none, [13, 20]⟩,
         ⟨some 22, .unOp .not 4 (.tmp 21), 4, none, [21]⟩,
         ⟨some 12, .assign (.tmp 22), 4, none, [22]⟩])
       (.cond (.tmp 12)
        (.seq
         (.reg [⟨some 6, .assign (.const (.int .i64 0)), 3, none, []⟩,
           ⟨some 7, .assign (.const (.int .i64 43)), 33, none, []⟩])
         .ret)
        .skip)))))
   (.seq
    (.reg [⟨some 23, .load 27 (.tmp 3), 27, none, [3]⟩,
      ⟨some 24, .move (.tmp 1), 3, none, [1]⟩,
      ⟨some 25, .load 30 (.tmp 5), 30, none, [5]⟩,
      ⟨some 26, .build 32 #[(0, .tmp 24), (1, .tmp 25)], 32, none, [24, 25]⟩,
      ⟨some 27, .buildSlice 28 1 #[(0, .tmp 26)], 28, none, [26]⟩,
      ⟨some 28, .call ⟨.value (.func 8), #[.tmp 23, .tmp 27], #[27, 28]⟩, 34, none, [23, 27]⟩,
      ⟨some 29, .extract (.tmp 28) 0, 3, none, []⟩,
      ⟨some 30, .extract (.tmp 28) 1, 33, none, [28]⟩,
      ⟨some 6, .assign (.tmp 29), 3, none, [29]⟩,
      ⟨some 7, .assign (.tmp 30), 33, none, [30]⟩])
    .ret)))
theorem F10.rs : Tryz.f10.results.toList = [.tmp 6, .tmp 7] := rfl
def heat_Verdict (k : Nat) (f0 : Firing) (place1 : Int) (want2 : Range) : Option (Int × Int) :=
  (heat_Check k f0).bind fun x1 =>
  bif (!decide (x1 = (0 : Int))) then
    some (0, 42)
  else
    (at? f0.Kiln.Falls 0).bind fun x3 =>
    (heat_in k place1 0 (w64 ((x3.length : Int) - 1))).bind fun x4 =>
    bif (!x4) then
      some (0, 43)
    else
      (heat_Together k f0 [(⟨place1, want2⟩ : Want)]).bind fun x6 =>
      some (x6.1, x6.2)
theorem heat_Verdict_ok (k : Nat) (f0 : Firing) (place1 : Int) (want2 : Range) (r : Int × Int) (h0 : heat_Verdict k f0 place1 want2 = some r) : PCall Tryz.prog 10 [.agg (Firing.c f0), .int .i64 place1, .agg (Range.c want2)] (fun y => y = .tup [.int .i64 r.1, .int .i64 r.2]) := by
  refine PCall.nlr (PCall.of_body T_ok (fn := Tryz.f10) (sc := F10.c) (by rfl) (by rfl) (by decide +kernel) (by rfl) (by decide +kernel) (Nat.le_of_ble_eq_true rfl) ?_)
  refine run_sound T_ok 1000 _ _ ?_
  simp only [heat_Verdict] at h0
  try simp only [F10.c, go_sem]
  obtain ⟨x1, yx1, h0⟩ := bind_some h0
  refine AKev_call0 T_ok 1000 (heat_Check_ok k _ _ yx1) ?_ (by first | rfl | simp [AV.refsL, AV.refs, AV.scal, AV.leaf]) ?_
  · try simp only [go_sem]
  try simp only [go_sem]
  refine AKev_bif h0 (fun c2 h0 => ?_) (fun c2 h0 => ?_)
  · have c2 := bnot_t c2
    try simp only [c2, go_sem]
    obtain rfl := Option.some.inj h0
    refine AKev_ret rfl ?_
    try simp only [F10.rs, c2, go_sem]
  · have c2 := bnot_f c2
    try simp only [c2, go_sem]
    obtain ⟨x3, yx3, h0⟩ := bind_some h0
    try simp only [at_in yx3, at_get (eL 2 Range.c) yx3, c2, go_sem]
    obtain ⟨x4, yx4, h0⟩ := bind_some h0
    refine AKev_call0 T_ok 1000 (heat_in_ok k _ _ _ _ yx4) ?_ (by first | rfl | simp [AV.refsL, AV.refs, AV.scal, AV.leaf]) ?_
    · try simp only [c2, at_in yx3, at_get (eL 2 Range.c) yx3, go_sem]
    try simp only [c2, at_in yx3, at_get (eL 2 Range.c) yx3, go_sem]
    refine AKev_bif h0 (fun c5 h0 => ?_) (fun c5 h0 => ?_)
    · have c5 := bnot_t c5
      try simp only [c5, c2, at_in yx3, at_get (eL 2 Range.c) yx3, go_sem]
      obtain rfl := Option.some.inj h0
      refine AKev_ret rfl ?_
      try simp only [F10.rs, c2, at_in yx3, at_get (eL 2 Range.c) yx3, c5, go_sem]
    · have c5 := bnot_f c5
      try simp only [c5, c2, at_in yx3, at_get (eL 2 Range.c) yx3, go_sem]
      obtain ⟨x6, yx6, h0⟩ := bind_some h0
      refine AKev_call0 T_ok 1000 (heat_Together_ok k _ _ _ yx6) ?_ (by first | rfl | simp [AV.refsL, AV.refs, AV.scal, AV.leaf]) ?_
      · try simp only [c2, at_in yx3, at_get (eL 2 Range.c) yx3, c5, go_sem]
      try simp only [c2, at_in yx3, at_get (eL 2 Range.c) yx3, c5, go_sem]
      obtain rfl := Option.some.inj h0
      refine AKev_ret rfl ?_
      try simp only [F10.rs, c2, at_in yx3, at_get (eL 2 Range.c) yx3, c5, go_sem]
end Go.Abs
namespace Go.Abs
open Go.Proofs
set_option maxRecDepth 20000
set_option linter.unusedVariables false
set_option linter.unusedSimpArgs false
set_option maxHeartbeats 8000000
def F117.s1 : SC :=
 (.seq
  (.seq
   (.reg [⟨some 29, .move (.tmp 5), 3, none, []⟩,
     ⟨some 30, .move (.tmp 4), 37, none, []⟩,
     ⟨some 31, .call ⟨.builtin .len, #[.tmp 30], #[37]⟩, 3, none, [30]⟩,
     ⟨some 32, .binOp .lss 3 (.tmp 29) (.tmp 31) 3, 4, none, [29, 31]⟩])
   (.cond (.tmp 32)
    .skip
    (.exit 2)))
  (.seq
   (.block 3
    (.seq
     (.dreg [⟨some 35, .move (.tmp 4), 37, none, []⟩,
       ⟨some 36, .move (.tmp 5), 3, none, []⟩,
       ⟨some 37, .indexAddr 37 (.tmp 35) (.tmp 36), 0, none, []⟩,
       ⟨some 38, .load 3 (.tmp 37), 3, none, []⟩,
       ⟨some 39, .move (.tmp 4), 37, none, []⟩,
       ⟨some 40, .move (.tmp 5), 3, none, []⟩,
       ⟨some 41, .binOp .sub 3 (.tmp 40) (.const (.int .i64 1)) 3, 3, none, []⟩,
       ⟨some 42, .indexAddr 37 (.tmp 39) (.tmp 41), 0, none, []⟩,
       ⟨some 43, .load 3 (.tmp 42), 3, none, []⟩,
       ⟨some 44, .binOp .neq 3 (.tmp 38) (.tmp 43) 3, 4, none, []⟩] [[], [], [0, 1], [0, 1, 2], [], [], [5], [4, 5, 6], [4, 5, 6, 7], [0, 1, 2, 3, 4, 5, 6, 7, 8]] [35, 36, 37, 38, 39, 40, 41, 42, 43])
     (.cond (.tmp 44)
      (.seq
       (.reg [⟨some 45, .move (.tmp 0), 37, none, []⟩,
         ⟨some 46, .move (.tmp 3), 3, none, []⟩,
         ⟨some 47, .move (.tmp 4), 37, none, []⟩,
         ⟨some 48, .move (.tmp 5), 3, none, []⟩,
         ⟨some 49, .indexAddr 37 (.tmp 47) (.tmp 48), 0, none, [47, 48]⟩,
         ⟨some 50, .load 3 (.tmp 49), 3, none, [49]⟩,
         ⟨some 51, .indexAddr 37 (.tmp 45) (.tmp 46), 0, none, [45, 46]⟩,
         ⟨none, .store 3 (.tmp 51) (.tmp 50), 0, none, [50, 51]⟩])
       (.reg [⟨some 52, .move (.tmp 3), 3, none, [3]⟩,
         ⟨some 53, .binOp .add 3 (.tmp 52) (.const (.int .i64 1)) 3, 3, none, [52]⟩,
         ⟨some 3, .assign (.tmp 53), 3, none, [53]⟩]))
      .skip)))
   (.reg [⟨some 33, .move (.tmp 5), 3, none, [5]⟩,
     ⟨some 34, .binOp .add 3 (.tmp 33) (.const (.int .i64 1)) 3, 3, none, [33]⟩,
     ⟨some 5, .assign (.tmp 34), 3, none, [34]⟩])))
def F117.s0 : SC :=
 (.seq
  (.seq
   (.reg [⟨some 10, .move (.tmp 3), 3, none, []⟩,
     ⟨some 11, .move (.tmp 0), 37, none, []⟩,
     ⟨some 12, .call ⟨.builtin .len, #[.tmp 11], #[37]⟩, 3, none, [11]⟩,
     ⟨some 13, .binOp .lss 3 (.tmp 10) (.tmp 12) 3, 4, none, [10, 12]⟩])
   (.cond (.tmp 13)
    .skip
    (.exit 0)))
  (.seq
   (.block 1
    (.seq
     (.dreg [⟨some 16, .move (.tmp 0), 37, none, []⟩,
       ⟨some 17, .move (.tmp 3), 3, none, []⟩,
       ⟨some 18, .indexAddr 37 (.tmp 16) (.tmp 17), 0, none, []⟩,
       ⟨some 19, .load 3 (.tmp 18), 3, none, []⟩,
       ⟨some 20, .move (.tmp 0), 37, none, []⟩,
       ⟨some 21, .move (.tmp 3), 3, none, []⟩,
       ⟨some 22, .binOp .sub 3 (.tmp 21) (.const (.int .i64 1)) 3, 3, none, []⟩,
       ⟨some 23, .indexAddr 37 (.tmp 20) (.tmp 22), 0, none, []⟩,
       ⟨some 24, .load 3 (.tmp 23), 3, none, []⟩,
       ⟨some 25, .binOp .eql 3 (.tmp 19) (.tmp 24) 3, 4, none, []⟩] [[], [], [0, 1], [0, 1, 2], [], [], [5], [4, 5, 6], [4, 5, 6, 7], [0, 1, 2, 3, 4, 5, 6, 7, 8]] [16, 17, 18, 19, 20, 21, 22, 23, 24])
     (.cond (.tmp 25)
      (.seq
       (.reg [⟨some 26, .move (.tmp 0), 37, none, []⟩,
         ⟨some 27, .move (.tmp 3), 3, none, []⟩,
         ⟨some 28, .slice 37 (.tmp 26) (some (.tmp 27)) none none, 37, none, [26, 27]⟩,
         ⟨some 4, .assign (.tmp 28), 37, none, [28]⟩])
       (.seq
        (.seq
         (.reg [⟨some 5, .assign (.const (.int .i64 1)), 3, none, []⟩])
         (.block 2
          (.loop F117.s1)))
        (.seq
         (.reg [⟨some 54, .move (.tmp 0), 37, none, []⟩,
           ⟨some 55, .move (.tmp 3), 3, none, []⟩,
           ⟨some 56, .slice 37 (.tmp 54) (some (.tmp 55)) none none, 37, none, [54, 55]⟩,
           ⟨none, .call ⟨.builtin .clear, #[.tmp 56], #[37]⟩, 0, none, [56]⟩])
         (.seq
          (.reg [⟨some 57, .move (.tmp 0), 37, none, [0]⟩,
            ⟨some 58, .move (.tmp 3), 3, none, [3]⟩,
            ⟨some 59, .slice 37 (.tmp 57) none (some (.tmp 58)) none, 37, none, [57, 58]⟩,
            ⟨some 2, .assign (.tmp 59), 37, none, [59]⟩])
          .ret))))
      .skip)))
   (.reg [⟨some 14, .move (.tmp 3), 3, none, [3]⟩,
     ⟨some 15, .binOp .add 3 (.tmp 14) (.const (.int .i64 1)) 3, 3, none, [14]⟩,
     ⟨some 3, .assign (.tmp 15), 3, none, [15]⟩])))
def F117.c : SC :=
 (.seq
  (.reg [⟨some 2, .assign (.const (.slice none 0 0)), 37, none, [2]⟩])
  (.seq
   (.seq
    (.reg [⟨some 6, .move (.tmp 0), 37, none, []⟩,
      ⟨some 7, .call ⟨.builtin .len, #[.tmp 6], #[37]⟩, 3, none, [6]⟩,
      ⟨some 8, .binOp .lss 3 (.tmp 7) (.const (.int .i64 2)) 3, 4, none, [7]⟩])
    (.cond (.tmp 8)
     (.seq
      (.reg [⟨some 9, .move (.tmp 0), 37, none, [0]⟩,
        ⟨some 2, .assign (.tmp 9), 37, none, [9]⟩])
      .ret)
     .skip))
   (.seq
    (.seq
     (.reg [⟨some 3, .assign (.const (.int .i64 1)), 3, none, []⟩])
     (.block 0
      (.loop F117.s0)))
    (.seq
     (.reg [⟨some 60, .move (.tmp 0), 37, none, [0]⟩,
       ⟨some 2, .assign (.tmp 60), 37, none, [60]⟩])
     .ret))))
theorem F117.rs : Tryz.f117.results.toList = [.tmp 2] := rfl
def slices_Compact_int.b1 (k : Nat) (s0 : (List Int)) (i2 : Int) : (Int × Int × (List Int)) → Option (Stp (Int × Int × (List Int)) (Int × (List Int)) ((List Int))) := fun (s : Int × Int × (List Int)) => match s with
  | (i8, i9, l10) => 
      bif decide (i9 < ((s0.length - i2.toNat : Nat) : Int)) then
        (at? ((l10.drop i2.toNat).take (s0.length - i2.toNat)) i9).bind fun x14 =>
        (at? ((l10.drop i2.toNat).take (s0.length - i2.toNat)) (w64 (i9 - 1))).bind fun x15 =>
        bif (!decide (x14 = x15)) then
          (at? l10 i8).bind fun x17 =>
          (set? l10 i8 x14).bind fun l18 =>
          some (.next (w64 (i8 + 1), w64 (i9 + 1), l18))
        else
          some (.next (i8, w64 (i9 + 1), l10))
      else
        some (.brk (i8, l10))
def slices_Compact_int.b0 (k : Nat) (s0 : (List Int)) : Int → Option (Stp (Int) (Unit) ((List Int))) := fun (i2 : Int) => 
  bif decide (i2 < ((s0.length : Nat) : Int)) then
    (at? s0 i2).bind fun x4 =>
    (at? s0 (w64 (i2 - 1))).bind fun x5 =>
    bif decide (x4 = x5) then
      (ls? s0.length i2).bind fun _ =>
      (whl (slices_Compact_int.b1 k s0 i2) k (i2, 1, s0)).bind fun r19 => match r19 with
      | .next _ => none
      | .ret v_ => some (.ret v_)
      | .brk (i11, l12) =>
        (ls? l12.length i11).bind fun _ =>
        (hs? l12.length i11).bind fun _ =>
        some (.ret ((clr l12 i11.toNat (l12.length - i11.toNat) 0).take i11.toNat))
    else
      some (.next (w64 (i2 + 1)))
  else
    some (.brk ())
noncomputable def slices_Compact_int.h1 (H : Heap) (s0 : (List Int)) (i2 : Int) : (Int × Int × (List Int)) → St := fun (s : Int × Int × (List Int)) => match s with
  | (i8, i9, l10) => ⟨[(0, .loc 0 0 1 0 l10.length l10.length), (3, .int .i64 i8), (4, .loc 0 0 1 i2.toNat (s0.length - i2.toNat) l10.length), (5, .int .i64 i9)], [(0, .arr 3 1 (List.map eI l10))], H, 1, Tryz.f117.ntmps⟩
noncomputable def slices_Compact_int.x1 (H : Heap) : (Int × (List Int)) → St := fun (s : Int × (List Int)) => match s with
  | (i11, l12) => ⟨[(0, .loc 0 0 1 0 l12.length l12.length), (3, .int .i64 i11)], [(0, .arr 3 1 (List.map eI l12))], H, 1, Tryz.f117.ntmps⟩
noncomputable def slices_Compact_int.h0 (H : Heap) (s0 : (List Int)) : Int → St := fun (i2 : Int) => ⟨[(0, .loc 0 0 1 0 s0.length s0.length), (3, .int .i64 i2)], [(0, .arr 3 1 (List.map eI s0))], H, 1, Tryz.f117.ntmps⟩
noncomputable def slices_Compact_int.x0 (H : Heap) (s0 : (List Int)) : Unit → St := fun (_ : Unit) => ⟨[(0, .loc 0 0 1 0 s0.length s0.length)], [(0, .arr 3 1 (List.map eI s0))], H, 1, Tryz.f117.ntmps⟩
def slices_Compact_int (k : Nat) (s0 : (List Int)) : Option ((List Int)) :=
  bif decide (((s0.length : Nat) : Int) < (2 : Int)) then
    some s0
  else
    (whl (slices_Compact_int.b0 k s0) k 1).bind fun r23 => match r23 with
    | .next _ => none
    | .ret v_ => some v_
    | .brk _ =>
      some s0
theorem slices_Compact_int_ok (k : Nat) (s0 : (List Int)) (r : (List Int)) (h0 : slices_Compact_int k s0 = some r) : GCall Tryz.prog 117 [.loc 0 0 1 0 s0.length s0.length] [(0, .arr 3 1 (List.map eI s0))] (fun y fr => y = .loc 0 0 1 0 r.length r.length ∧ fr = [(0, .arr 3 1 (List.map eI r))]) := by
  have hr := GCall.own (et := 3) (sz := 1) (ls := List.map eI r) (GCall.of_body T_ok (f := 117) (fn := Tryz.f117) (sc := F117.c) (args := [.loc 0 0 1 0 s0.length s0.length]) (fr0 := [(0, .arr 3 1 (List.map eI s0))]) (by rfl) (by rfl) (by decide +kernel) (by rfl) (by decide +kernel) (Nat.le_of_ble_eq_true rfl) (fun H => ?_))
  · simpa only [List.length_map] using hr
  refine run_sound T_ok 1000 _ _ ?_
  simp only [slices_Compact_int] at h0
  try simp only [F117.c, go_sem]
  refine AKev_bif h0 (fun c1 h0 => ?_) (fun c1 h0 => ?_)
  · try simp only [c1, go_sem]
    obtain rfl := Option.some.inj h0
    refine AKev_gret rfl ?_
    try simp only [F117.rs, oOK, Option.map_some, tupOf, cut0_map, cut_map, Nat.le_refl, List.take_length, c1, go_sem]
  · try simp only [c1, go_sem]
    obtain ⟨r23, yr23, h0⟩ := bind_some h0
    refine AKev_loopS yr23 (slices_Compact_int.h0 H s0) (slices_Compact_int.x0 H s0) ?_ ?_ ?_
    · refine Weak.go [0, 3] [0] rfl ?_
      try simp only [slices_Compact_int.h0, c1, go_sem]
    · rintro i2 x_1 Bk1 Br1 h1 hnext1 hbrk1 hret1
      refine run_sound T_ok 1000 _ _ ?_
      simp only [slices_Compact_int.b0] at h1
      try simp only [F117.s0, slices_Compact_int.h0, c1, go_sem]
      refine AKev_bif h1 (fun c3 h1 => ?_) (fun c3 h1 => ?_)
      · try simp only [c3, c1, go_sem]
        refine AKev_region T_ok follows_ok 1000 ?_
        try simp only [c1, c3, go_sem]
        obtain ⟨x4, yx4, h1⟩ := bind_some h1
        try simp only [at_in yx4, at_get eI yx4, c1, c3, go_sem]
        obtain ⟨x5, yx5, h1⟩ := bind_some h1
        try simp only [at_in yx5, at_get eI yx5, c1, c3, at_in yx4, at_get eI yx4, go_sem]
        refine DG_done ⟨rfl, run_sound T_ok 1000 _ _ ?_⟩
        try simp only [c1, c3, at_in yx4, at_get eI yx4, at_in yx5, at_get eI yx5, go_sem]
        refine AKev_bif h1 (fun c6 h1 => ?_) (fun c6 h1 => ?_)
        · try simp only [c6, c1, c3, at_in yx4, at_get eI yx4, at_in yx5, at_get eI yx5, go_sem]
          obtain ⟨u7, yu7, h1⟩ := bind_some h1
          have lyu7 := ls_le yu7
          try simp only [ls_bounds yu7, lyu7, c1, c3, at_in yx4, at_get eI yx4, at_in yx5, at_get eI yx5, c6, go_sem]
          obtain ⟨r19, yr19, h1⟩ := bind_some h1
          refine AKev_loopS yr19 (slices_Compact_int.h1 H s0 i2) (slices_Compact_int.x1 H) ?_ ?_ ?_
          · refine Weak.go [0, 3, 4, 5] [0] rfl ?_
            try simp only [slices_Compact_int.h1, c1, c3, at_in yx4, at_get eI yx4, at_in yx5, at_get eI yx5, c6, lyu7, go_sem]
          · rintro ⟨i8, i9, l10⟩ x_2 Bk2 Br2 h2 hnext2 hbrk2 hret2
            refine run_sound T_ok 1000 _ _ ?_
            simp only [slices_Compact_int.b1] at h2
            try simp only [F117.s1, slices_Compact_int.h1, c1, c3, at_in yx4, at_get eI yx4, at_in yx5, at_get eI yx5, c6, lyu7, go_sem]
            refine AKev_bif h2 (fun c13 h2 => ?_) (fun c13 h2 => ?_)
            · try simp only [c13, c1, c3, at_in yx4, at_get eI yx4, at_in yx5, at_get eI yx5, c6, lyu7, go_sem]
              refine AKev_region T_ok follows_ok 1000 ?_
              try simp only [c1, c3, at_in yx4, at_get eI yx4, at_in yx5, at_get eI yx5, c6, lyu7, c13, go_sem]
              obtain ⟨x14, yx14, h2⟩ := bind_some h2
              try simp only [at_part_in yx14, at_part_get eI yx14, c1, c3, at_in yx4, at_get eI yx4, at_in yx5, at_get eI yx5, c6, lyu7, c13, go_sem]
              obtain ⟨x15, yx15, h2⟩ := bind_some h2
              try simp only [at_part_in yx15, at_part_get eI yx15, c1, c3, at_in yx4, at_get eI yx4, at_in yx5, at_get eI yx5, c6, lyu7, c13, at_part_in yx14, at_part_get eI yx14, go_sem]
              refine DG_done ⟨rfl, run_sound T_ok 1000 _ _ ?_⟩
              try simp only [c1, c3, at_in yx4, at_get eI yx4, at_in yx5, at_get eI yx5, c6, lyu7, c13, at_part_in yx14, at_part_get eI yx14, at_part_in yx15, at_part_get eI yx15, go_sem]
              refine AKev_bif h2 (fun c16 h2 => ?_) (fun c16 h2 => ?_)
              · have c16 := bnot_t c16
                try simp only [c16, at_part_in yx14, at_part_get eI yx14, c1, c3, at_in yx4, at_get eI yx4, at_in yx5, at_get eI yx5, c6, lyu7, c13, at_part_in yx15, at_part_get eI yx15, go_sem]
                obtain ⟨x17, yx17, h2⟩ := bind_some h2
                try simp only [at_in yx17, at_get eI yx17, c1, c3, at_in yx4, at_get eI yx4, at_in yx5, at_get eI yx5, c6, lyu7, c13, at_part_in yx14, at_part_get eI yx14, at_part_in yx15, at_part_get eI yx15, c16, go_sem]
                obtain ⟨l18, yl18, h2⟩ := bind_some h2
                have eyl18 := set_map eI yl18
                simp only [go_sem] at eyl18
                try simp only [eyl18, c1, c3, at_in yx4, at_get eI yx4, at_in yx5, at_get eI yx5, c6, lyu7, c13, at_part_in yx14, at_part_get eI yx14, at_part_in yx15, at_part_get eI yx15, c16, at_in yx17, at_get eI yx17, set_len yl18, set_take eI yl18, go_sem]
                refine AKev_backB (hnext2 _ _ (Option.some.inj h2).symm ?_)
                refine Weak.go [0, 3, 4, 5] [0] rfl ?_
                try simp only [slices_Compact_int.h1, c1, c3, at_in yx4, at_get eI yx4, at_in yx5, at_get eI yx5, c6, lyu7, c13, at_part_in yx14, at_part_get eI yx14, at_part_in yx15, at_part_get eI yx15, c16, at_in yx17, at_get eI yx17, eyl18, set_len yl18, set_take eI yl18, go_sem]
              · have c16 := bnot_f c16
                try simp only [c16, c1, c3, at_in yx4, at_get eI yx4, at_in yx5, at_get eI yx5, c6, lyu7, c13, at_part_in yx14, at_part_get eI yx14, at_part_in yx15, at_part_get eI yx15, go_sem]
                refine AKev_backB (hnext2 _ _ (Option.some.inj h2).symm ?_)
                refine Weak.go [0, 3, 4, 5] [0] rfl ?_
                try simp only [slices_Compact_int.h1, c1, c3, at_in yx4, at_get eI yx4, at_in yx5, at_get eI yx5, c6, lyu7, c13, at_part_in yx14, at_part_get eI yx14, at_part_in yx15, at_part_get eI yx15, c16, go_sem]
            · try simp only [c13, c1, c3, at_in yx4, at_get eI yx4, at_in yx5, at_get eI yx5, c6, lyu7, go_sem]
              refine AKev_backB (hbrk2 _ _ (Option.some.inj h2).symm ?_)
              refine Weak.go [0, 3] [0] rfl ?_
              try simp only [slices_Compact_int.x1, c1, c3, at_in yx4, at_get eI yx4, at_in yx5, at_get eI yx5, c6, lyu7, c13, go_sem]
          · rintro ⟨i11, l12⟩ hr_
            subst hr_
            simp only at h1
            refine run_sound T_ok 1000 _ _ ?_
            try simp only [slices_Compact_int.x1, c1, c3, at_in yx4, at_get eI yx4, at_in yx5, at_get eI yx5, c6, lyu7, go_sem]
            obtain ⟨u20, yu20, h1⟩ := bind_some h1
            have lyu20 := ls_le yu20
            have eq21 := clr_map eI l12 i11.toNat (l12.length - i11.toNat) 0
            have lq21 : (clr l12 i11.toNat (l12.length - i11.toNat) 0).length = l12.length := by rw [clr_len] <;> simp only [c1, c3, at_in yx4, at_get eI yx4, at_in yx5, at_get eI yx5, c6, lyu7, lyu20, go_sem]
            try simp only [go_sem] at eq21
            try simp only [ls_bounds yu20, lyu20, eq21, c1, c3, at_in yx4, at_get eI yx4, at_in yx5, at_get eI yx5, c6, lyu7, lq21, go_sem]
            obtain ⟨u22, yu22, h1⟩ := bind_some h1
            have lyu22 := hs_le yu22
            try simp only [hs_bounds yu22, lyu22, c1, c3, at_in yx4, at_get eI yx4, at_in yx5, at_get eI yx5, c6, lyu7, lyu20, lq21, go_sem]
            obtain rfl := hret1 _ (Option.some.inj h1).symm
            simp only at h0
            obtain rfl := Option.some.inj h0
            refine AKev_gret rfl ?_
            try simp only [F117.rs, oOK, Option.map_some, tupOf, cut0_map, cut_map, Nat.le_refl, List.take_length, c1, c3, at_in yx4, at_get eI yx4, at_in yx5, at_get eI yx5, c6, lyu7, lyu20, lq21, lyu22, go_sem]
        · try simp only [c6, c1, c3, at_in yx4, at_get eI yx4, at_in yx5, at_get eI yx5, go_sem]
          refine AKev_backB (hnext1 _ _ (Option.some.inj h1).symm ?_)
          refine Weak.go [0, 3] [0] rfl ?_
          try simp only [slices_Compact_int.h0, c1, c3, at_in yx4, at_get eI yx4, at_in yx5, at_get eI yx5, c6, go_sem]
      · try simp only [c3, c1, go_sem]
        refine AKev_backB (hbrk1 _ _ (Option.some.inj h1).symm ?_)
        refine Weak.go [0] [0] rfl ?_
        try simp only [slices_Compact_int.x0, c1, c3, go_sem]
    · rintro _ hr_
      subst hr_
      simp only at h0
      refine run_sound T_ok 1000 _ _ ?_
      try simp only [slices_Compact_int.x0, c1, go_sem]
      obtain rfl := Option.some.inj h0
      refine AKev_gret rfl ?_
      try simp only [F117.rs, oOK, Option.map_some, tupOf, cut0_map, cut_map, Nat.le_refl, List.take_length, c1, go_sem]
end Go.Abs
