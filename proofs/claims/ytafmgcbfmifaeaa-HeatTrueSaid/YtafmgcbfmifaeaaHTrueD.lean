/-
  Part 4 of the proof: a machine over named blocks, what each function computes, and what follows. No condition.
-/
import Derived.Test.YtafmgcbfmifaeaaProg
import Derived.Ground.Names2Prog
import Derived.Shelf.Lays
import Derived.Test.YtafmgcbfmifaeaaHTrueC
set_option linter.unusedVariables false
set_option linter.unusedSimpArgs false
set_option linter.all false
set_option maxRecDepth 20000
set_option maxHeartbeats 8000000
namespace Go.Abs
open Go.Proofs
set_option maxRecDepth 20000
section
open Go.Shelf
def Try_lays189_ren : Ren :=
  {
    f := fun x =>
      match x with
      | 189 => 76
      | 125 => 106
      | 257 => 105
      | 128 => 121
      | 129 => 122
      | 294 => 112
      | 295 => 113
      | 296 => 114
      | 297 => 115
      | 298 => 116
      | 299 => 117
      | 216 => 118
      | 300 => 119
      | 301 => 120
      | 328 => 123
      | 329 => 124
      | 330 => 125
      | 331 => 126
      | 332 => 127
      | 215 => 128
      | 343 => 129
      | n => n,
    t := fun x =>
      match x with
      | 28 => 23
      | 3 => 3
      | 46 => 160
      | 0 => 0
      | 51 => 173
      | 53 => 175
      | 4 => 4
      | 183 => 167
      | 182 => 166
      | 131 => 106
      | 5 => 5
      | 9 => 9
      | 218 => 176
      | 222 => 180
      | 228 => 182
      | 229 => 141
      | n => n,
    g := fun x =>
      have n := x;
      n }
theorem Try_lays189 : Lays.n189 Try.prog Try_lays189_ren :=
  { mixed := Eq.refl true, f125 := Eq.trans Try.func106 (congrArg some (Eq.refl (Body.n125 Try_lays189_ren))),
    f128 := Eq.trans Try.func121 (congrArg some (Eq.refl (Body.n128 Try_lays189_ren))),
    f129 := Eq.trans Try.func122 (congrArg some (Eq.refl (Body.n129 Try_lays189_ren))),
    f189 := Eq.trans Try.func76 (congrArg some (Eq.refl (Body.n189 Try_lays189_ren))),
    f215 := Eq.trans Try.func128 (congrArg some (Eq.refl (Body.n215 Try_lays189_ren))),
    f216 := Eq.trans Try.func118 (congrArg some (Eq.refl (Body.n216 Try_lays189_ren))),
    f257 := Eq.trans Try.func105 (congrArg some (Eq.refl (Body.n257 Try_lays189_ren))),
    f294 := Eq.trans Try.func112 (congrArg some (Eq.refl (Body.n294 Try_lays189_ren))),
    f295 := Eq.trans Try.func113 (congrArg some (Eq.refl (Body.n295 Try_lays189_ren))),
    f296 := Eq.trans Try.func114 (congrArg some (Eq.refl (Body.n296 Try_lays189_ren))),
    f297 := Eq.trans Try.func115 (congrArg some (Eq.refl (Body.n297 Try_lays189_ren))),
    f298 := Eq.trans Try.func116 (congrArg some (Eq.refl (Body.n298 Try_lays189_ren))),
    f299 := Eq.trans Try.func117 (congrArg some (Eq.refl (Body.n299 Try_lays189_ren))),
    f300 := Eq.trans Try.func119 (congrArg some (Eq.refl (Body.n300 Try_lays189_ren))),
    f301 := Eq.trans Try.func120 (congrArg some (Eq.refl (Body.n301 Try_lays189_ren))),
    f328 := Eq.trans Try.func123 (congrArg some (Eq.refl (Body.n328 Try_lays189_ren))),
    f329 := Eq.trans Try.func124 (congrArg some (Eq.refl (Body.n329 Try_lays189_ren))),
    f330 := Eq.trans Try.func125 (congrArg some (Eq.refl (Body.n330 Try_lays189_ren))),
    f331 := Eq.trans Try.func126 (congrArg some (Eq.refl (Body.n331 Try_lays189_ren))),
    f332 := Eq.trans Try.func127 (congrArg some (Eq.refl (Body.n332 Try_lays189_ren))),
    f343 := Eq.trans Try.func129 (congrArg some (Eq.refl (Body.n343 Try_lays189_ren))), t0 := Try.underlying0,
    a0 := Try.isAgg0, z0 := Try.sizeOf0, v0 := Try.zeroValue0, t3 := Try.underlying3, a3 := Try.isAgg3, z3 := Try.sizeOf3,
    v3 := Try.zeroValue3, t4 := Try.underlying4, a4 := Try.isAgg4, z4 := Try.sizeOf4, v4 := Try.zeroValue4,
    t5 := Try.underlying5, a5 := Try.isAgg5, z5 := Try.sizeOf5, v5 := Try.zeroValue5, t9 := Try.underlying9,
    a9 := Try.isAgg9, z9 := Try.sizeOf9, v9 := Try.zeroValue9, t28 := Try.underlying23, a28 := Try.isAgg23,
    z28 := Try.sizeOf23, v28 := Try.zeroValue23, t46 := Try.underlying160, a46 := Try.isAgg160, z46 := Try.sizeOf160,
    v46 := Try.zeroValue160, t51 := Try.underlying173, a51 := Try.isAgg173, z51 := Try.sizeOf173, v51 := Try.zeroValue173,
    t53 := Try.underlying175, a53 := Try.isAgg175, z53 := Try.sizeOf175, v53 := Try.zeroValue175,
    t131 := Try.underlying106, a131 := Try.isAgg106, z131 := Try.sizeOf106, v131 := Try.zeroValue106,
    t182 := Try.underlying166, a182 := Try.isAgg166, z182 := Try.sizeOf166, v182 := Try.zeroValue166,
    t183 := Try.underlying167, a183 := Try.isAgg167, z183 := Try.sizeOf167, v183 := Try.zeroValue167,
    t218 := Try.underlying176, a218 := Try.isAgg176, z218 := Try.sizeOf176, v218 := Try.zeroValue176,
    t222 := Try.underlying180, a222 := Try.isAgg180, z222 := Try.sizeOf180, v222 := Try.zeroValue180,
    t228 := Try.underlying182, a228 := Try.isAgg182, z228 := Try.sizeOf182, v228 := Try.zeroValue182,
    t229 := Try.underlying141, a229 := Try.isAgg141, z229 := Try.sizeOf141, v229 := Try.zeroValue141 }
theorem sort_ok : SortC Try.prog 76 := SortC.of ⟨_, rfl, by decide +kernel, by rfl⟩ (Any.slices_Sort_int_none Try_lays189) (Any.slices_Sort_int Try_lays189)
end
def TL : List (Nat × TI) := [
  (3, ⟨1, 8, [.int .i64 0], .int .i64, 0, 0, false, [], [], true, []⟩),
  (4, ⟨1, 1, [.bool false], .bool, 0, 0, false, [], [], true, []⟩),
  (22, ⟨1, 24, [.nil], .slice 52, 2, 16, true, [.int .i64 0, .int .i64 0], [], false, [(0, 52, 2)]⟩),
  (23, ⟨1, 24, [.nil], .slice 3, 1, 8, false, [.int .i64 0], [], false, [(0, 3, 1)]⟩),
  (24, ⟨1, 24, [.nil], .slice 90, 4, 32, true, [.int .i64 0, .int .i64 0, .int .i64 0, .int .i64 0], [], false, [(0, 90, 4)]⟩),
  (26, ⟨5, 88, [.int .i64 0, .int .i64 0, .nil, .nil, .nil], .struct, 0, 0, false, [], [(0, 1, false), (1, 1, false), (2, 1, false), (3, 1, false), (4, 1, false)], false, [(2, 52, 2), (3, 3, 1), (4, 90, 4)]⟩),
  (27, ⟨1, 24, [.nil], .slice 40, 1, 24, false, [.nil], [], false, [(0, 40, 1)]⟩),
  (29, ⟨1, 24, [.nil], .struct, 0, 0, false, [], [(0, 1, false)], false, [(0, 40, 1)]⟩),
  (30, ⟨1, 24, [.nil], .slice 60, 6, 48, true, [.int .i64 0, .int .i64 0, .int .i64 0, .int .i64 0, .int .i64 0, .int .i64 0], [], false, [(0, 60, 6)]⟩),
  (32, ⟨2, 48, [.nil, .nil], .struct, 0, 0, false, [], [(0, 1, true), (1, 1, false)], false, [(0, 40, 1), (1, 60, 6)]⟩),
  (33, ⟨1, 24, [.nil], .slice 23, 1, 24, false, [.nil], [], false, [(0, 23, 1)]⟩),
  (35, ⟨2, 48, [.nil, .nil], .struct, 0, 0, false, [], [(0, 1, false), (1, 1, false)], false, [(0, 3, 1), (1, 23, 1)]⟩),
  (39, ⟨2, 16, [.int .i64 0, .int .i64 0], .struct, 0, 0, false, [], [(0, 1, false), (1, 1, false)], true, []⟩),
  (40, ⟨1, 24, [.nil], .slice 39, 2, 16, true, [.int .i64 0, .int .i64 0], [], false, [(0, 39, 2)]⟩),
  (43, ⟨1, 8, [.int .i64 0], .int .i64, 0, 0, false, [], [], true, []⟩),
  (49, ⟨3, 24, [.int .i64 0, .int .i64 0, .bool false], .struct, 0, 0, false, [], [(0, 1, false), (1, 1, false), (2, 1, false)], true, []⟩),
  (51, ⟨2, 32, [.int .i64 0, .nil], .struct, 0, 0, false, [], [(0, 1, false), (1, 1, false)], false, [(1, 3, 1)]⟩),
  (52, ⟨2, 16, [.int .i64 0, .int .i64 0], .array 2 3, 1, 8, false, [.int .i64 0], [], true, []⟩),
  (60, ⟨6, 48, [.int .i64 0, .int .i64 0, .int .i64 0, .int .i64 0, .int .i64 0, .int .i64 0], .struct, 0, 0, false, [], [(0, 1, false), (1, 1, false), (2, 1, false), (3, 1, false), (4, 2, true)], true, []⟩),
  (69, ⟨3, 24, [.int .i64 0, .int .i64 0, .int .i64 0], .array 3 3, 1, 8, false, [.int .i64 0], [], true, []⟩),
  (79, ⟨3, 24, [.int .i64 0, .int .i64 0, .int .i64 0], .struct, 0, 0, false, [], [(0, 1, false), (1, 2, true)], true, []⟩),
  (80, ⟨1, 24, [.nil], .slice 79, 3, 24, true, [.int .i64 0, .int .i64 0, .int .i64 0], [], false, [(0, 79, 3)]⟩),
  (82, ⟨1, 24, [.nil], .slice 69, 3, 24, true, [.int .i64 0, .int .i64 0, .int .i64 0], [], false, [(0, 69, 3)]⟩),
  (90, ⟨4, 32, [.int .i64 0, .int .i64 0, .int .i64 0, .int .i64 0], .array 4 3, 1, 8, false, [.int .i64 0], [], true, []⟩),
  (92, ⟨1, 24, [.nil], .slice 136, 3, 24, true, [.int .i64 0, .int .i64 0, .int .i64 0], [], false, [(0, 136, 3)]⟩),
  (94, ⟨4, 96, [.nil, .nil, .nil, .nil], .struct, 0, 0, false, [], [(0, 2, true), (2, 1, false), (3, 1, false)], false, [(0, 40, 1), (1, 60, 6), (2, 136, 3), (3, 136, 3)]⟩),
  (122, ⟨1, 8, [.fnil], .func, 0, 0, false, [], [], false, []⟩),
  (124, ⟨6, 48, [.int .i64 0, .int .i64 0, .int .i64 0, .int .i64 0, .int .i64 0, .int .i64 0], .struct, 0, 0, false, [], [(0, 6, true)], true, []⟩),
  (127, ⟨1, 8, [.fnil], .func, 0, 0, false, [], [], false, []⟩),
  (136, ⟨3, 24, [.int .i64 0, .int .i64 0, .int .i64 0], .struct, 0, 0, false, [], [(0, 1, false), (1, 1, false), (2, 1, false)], true, []⟩),
  (156, ⟨1, 8, [.fnil], .func, 0, 0, false, [], [], false, []⟩)]
def T : Tys := look TL
theorem T_ok : TysOK Try.prog T := tysOK_of _ _ (by decide +kernel)
theorem follows_ok : Try.prog.follows .mixedOrders = true := by rfl
theorem T_3 : T 3 = some ⟨1, 8, [.int .i64 0], .int .i64, 0, 0, false, [], [], true, []⟩ := rfl
theorem T_4 : T 4 = some ⟨1, 1, [.bool false], .bool, 0, 0, false, [], [], true, []⟩ := rfl
theorem T_22 : T 22 = some ⟨1, 24, [.nil], .slice 52, 2, 16, true, [.int .i64 0, .int .i64 0], [], false, [(0, 52, 2)]⟩ := rfl
theorem T_23 : T 23 = some ⟨1, 24, [.nil], .slice 3, 1, 8, false, [.int .i64 0], [], false, [(0, 3, 1)]⟩ := rfl
theorem T_24 : T 24 = some ⟨1, 24, [.nil], .slice 90, 4, 32, true, [.int .i64 0, .int .i64 0, .int .i64 0, .int .i64 0], [], false, [(0, 90, 4)]⟩ := rfl
theorem T_26 : T 26 = some ⟨5, 88, [.int .i64 0, .int .i64 0, .nil, .nil, .nil], .struct, 0, 0, false, [], [(0, 1, false), (1, 1, false), (2, 1, false), (3, 1, false), (4, 1, false)], false, [(2, 52, 2), (3, 3, 1), (4, 90, 4)]⟩ := rfl
theorem T_27 : T 27 = some ⟨1, 24, [.nil], .slice 40, 1, 24, false, [.nil], [], false, [(0, 40, 1)]⟩ := rfl
theorem T_29 : T 29 = some ⟨1, 24, [.nil], .struct, 0, 0, false, [], [(0, 1, false)], false, [(0, 40, 1)]⟩ := rfl
theorem T_30 : T 30 = some ⟨1, 24, [.nil], .slice 60, 6, 48, true, [.int .i64 0, .int .i64 0, .int .i64 0, .int .i64 0, .int .i64 0, .int .i64 0], [], false, [(0, 60, 6)]⟩ := rfl
theorem T_32 : T 32 = some ⟨2, 48, [.nil, .nil], .struct, 0, 0, false, [], [(0, 1, true), (1, 1, false)], false, [(0, 40, 1), (1, 60, 6)]⟩ := rfl
theorem T_33 : T 33 = some ⟨1, 24, [.nil], .slice 23, 1, 24, false, [.nil], [], false, [(0, 23, 1)]⟩ := rfl
theorem T_35 : T 35 = some ⟨2, 48, [.nil, .nil], .struct, 0, 0, false, [], [(0, 1, false), (1, 1, false)], false, [(0, 3, 1), (1, 23, 1)]⟩ := rfl
theorem T_39 : T 39 = some ⟨2, 16, [.int .i64 0, .int .i64 0], .struct, 0, 0, false, [], [(0, 1, false), (1, 1, false)], true, []⟩ := rfl
theorem T_40 : T 40 = some ⟨1, 24, [.nil], .slice 39, 2, 16, true, [.int .i64 0, .int .i64 0], [], false, [(0, 39, 2)]⟩ := rfl
theorem T_43 : T 43 = some ⟨1, 8, [.int .i64 0], .int .i64, 0, 0, false, [], [], true, []⟩ := rfl
theorem T_49 : T 49 = some ⟨3, 24, [.int .i64 0, .int .i64 0, .bool false], .struct, 0, 0, false, [], [(0, 1, false), (1, 1, false), (2, 1, false)], true, []⟩ := rfl
theorem T_51 : T 51 = some ⟨2, 32, [.int .i64 0, .nil], .struct, 0, 0, false, [], [(0, 1, false), (1, 1, false)], false, [(1, 3, 1)]⟩ := rfl
theorem T_52 : T 52 = some ⟨2, 16, [.int .i64 0, .int .i64 0], .array 2 3, 1, 8, false, [.int .i64 0], [], true, []⟩ := rfl
theorem T_60 : T 60 = some ⟨6, 48, [.int .i64 0, .int .i64 0, .int .i64 0, .int .i64 0, .int .i64 0, .int .i64 0], .struct, 0, 0, false, [], [(0, 1, false), (1, 1, false), (2, 1, false), (3, 1, false), (4, 2, true)], true, []⟩ := rfl
theorem T_69 : T 69 = some ⟨3, 24, [.int .i64 0, .int .i64 0, .int .i64 0], .array 3 3, 1, 8, false, [.int .i64 0], [], true, []⟩ := rfl
theorem T_79 : T 79 = some ⟨3, 24, [.int .i64 0, .int .i64 0, .int .i64 0], .struct, 0, 0, false, [], [(0, 1, false), (1, 2, true)], true, []⟩ := rfl
theorem T_80 : T 80 = some ⟨1, 24, [.nil], .slice 79, 3, 24, true, [.int .i64 0, .int .i64 0, .int .i64 0], [], false, [(0, 79, 3)]⟩ := rfl
theorem T_82 : T 82 = some ⟨1, 24, [.nil], .slice 69, 3, 24, true, [.int .i64 0, .int .i64 0, .int .i64 0], [], false, [(0, 69, 3)]⟩ := rfl
theorem T_90 : T 90 = some ⟨4, 32, [.int .i64 0, .int .i64 0, .int .i64 0, .int .i64 0], .array 4 3, 1, 8, false, [.int .i64 0], [], true, []⟩ := rfl
theorem T_92 : T 92 = some ⟨1, 24, [.nil], .slice 136, 3, 24, true, [.int .i64 0, .int .i64 0, .int .i64 0], [], false, [(0, 136, 3)]⟩ := rfl
theorem T_94 : T 94 = some ⟨4, 96, [.nil, .nil, .nil, .nil], .struct, 0, 0, false, [], [(0, 2, true), (2, 1, false), (3, 1, false)], false, [(0, 40, 1), (1, 60, 6), (2, 136, 3), (3, 136, 3)]⟩ := rfl
theorem T_122 : T 122 = some ⟨1, 8, [.fnil], .func, 0, 0, false, [], [], false, []⟩ := rfl
theorem T_124 : T 124 = some ⟨6, 48, [.int .i64 0, .int .i64 0, .int .i64 0, .int .i64 0, .int .i64 0, .int .i64 0], .struct, 0, 0, false, [], [(0, 6, true)], true, []⟩ := rfl
theorem T_127 : T 127 = some ⟨1, 8, [.fnil], .func, 0, 0, false, [], [], false, []⟩ := rfl
theorem T_136 : T 136 = some ⟨3, 24, [.int .i64 0, .int .i64 0, .int .i64 0], .struct, 0, 0, false, [], [(0, 1, false), (1, 1, false), (2, 1, false)], true, []⟩ := rfl
theorem T_156 : T 156 = some ⟨1, 8, [.fnil], .func, 0, 0, false, [], [], false, []⟩ := rfl
attribute [go_sem] T_3 T_4 T_22 T_23 T_24 T_26 T_27 T_29 T_30 T_32 T_33 T_35 T_39 T_40 T_43 T_49 T_51 T_52 T_60 T_69 T_79 T_80 T_82 T_90 T_92 T_94 T_122 T_124 T_127 T_136 T_156
structure R04_Raw where
  Mouths : Int
  Places : Int
  Falls : (List (A2 Int))
  Heats : (List Int)
  Readings : (List (A4 Int))
def R04_Raw.c (x : R04_Raw) : List AV := [.int .i64 x.Mouths, .int .i64 x.Places, .sl 2 (List.map (A2.c eI) x.Falls), .sl 1 (List.map eI x.Heats), .sl 4 (List.map (A4.c eI) x.Readings)]
structure Range where
  Lo : Int
  Hi : Int
def Range.c (x : Range) : List AV := [.int .i64 x.Lo, .int .i64 x.Hi]
structure Kiln where
  Falls : (List (List Range))
def Kiln.c (x : Kiln) : List AV := [.sl 1 (List.map (eL 2 Range.c) x.Falls)]
structure Reading where
  Source : Int
  Place : Int
  Kind : Int
  Mark : Int
  Heat : Range
def Reading.c (x : Reading) : List AV := [.int .i64 x.Source, .int .i64 x.Place, .int .i64 x.Kind, .int .i64 x.Mark, .int .i64 x.Heat.Lo, .int .i64 x.Heat.Hi]
structure Firing where
  Kiln : Kiln
  Readings : (List Reading)
def Firing.c (x : Firing) : List AV := [.sl 1 (List.map (eL 2 Range.c) x.Kiln.Falls), .sl 6 (List.map Reading.c x.Readings)]
structure Field where
  Mouths : (List Int)
  Falls : (List (List Int))
def Field.c (x : Field) : List AV := [.sl 1 (List.map eI x.Mouths), .sl 1 (List.map (eL 1 eI) x.Falls)]
structure heat_limit where
  place : Int
  heat : Int
  by_ : Int
def heat_limit.c (x : heat_limit) : List AV := [.int .i64 x.place, .int .i64 x.heat, .int .i64 x.by_]
structure heat_furnace where
  Firing : Firing
  least : (List heat_limit)
  most : (List heat_limit)
def heat_furnace.c (x : heat_furnace) : List AV := [.sl 1 (List.map (eL 2 Range.c) x.Firing.Kiln.Falls), .sl 6 (List.map Reading.c x.Firing.Readings), .sl 3 (List.map heat_limit.c x.least), .sl 3 (List.map heat_limit.c x.most)]
structure heat_reading where
  Reading : Reading
def heat_reading.c (x : heat_reading) : List AV := [.int .i64 x.Reading.Source, .int .i64 x.Reading.Place, .int .i64 x.Reading.Kind, .int .i64 x.Reading.Mark, .int .i64 x.Reading.Heat.Lo, .int .i64 x.Reading.Heat.Hi]
structure HeatProof where
  Reading : Int
  By : (List Int)
def HeatProof.c (x : HeatProof) : List AV := [.int .i64 x.Reading, .sl 1 (List.map eI x.By)]
structure Want where
  Place : Int
  Heat : Range
def Want.c (x : Want) : List AV := [.int .i64 x.Place, .int .i64 x.Heat.Lo, .int .i64 x.Heat.Hi]
structure L04_Told where
  Place : Int
  N : Int
  High : Bool
def L04_Told.c (x : L04_Told) : List AV := [.int .i64 x.Place, .int .i64 x.N, .bool x.High]
attribute [go_sem] R04_Raw.c Range.c Kiln.c Reading.c Firing.c Field.c heat_limit.c heat_furnace.c heat_reading.c HeatProof.c Want.c L04_Told.c
theorem bnot_t {b : Bool} (h : (!b) = true) : b = false := by simpa using h
theorem bnot_f {b : Bool} (h : (!b) = false) : b = true := by simpa using h
theorem PB {f : FuncId} {fn : Func} {c : Code} {sc : SC} {args : List AV} {v : AV} (h : AK Try.prog fn.ntmps (PEnds T fn.results.toList fun y => NL y v) [.sc sc] (St.enter args [] fn.ntmps)) (hf : Try.prog.funcs[f]? = some fn := by rfl) (hb : fn.body = some c := by rfl) (hnm : (fn.name == "runtime.NumGoroutine") = false := by decide +kernel) (he : sc.bare = erase fn.ntmps c := by rfl) (hfit : (erase fn.ntmps c).fits fn.ntmps = true := by decide +kernel) (hargs : args.length ≤ fn.ntmps := by exact Nat.le_of_ble_eq_true rfl) : PCall Try.prog f args (fun y => y = v) := PCall.nlr (PCall.of_body T_ok hf hb hnm he hfit hargs h)
theorem rS {n : Nat} {Φ : Exit → St → Prop} {todo : List It} {st : St} (h : AKev Try.prog n Φ (run T 1000 todo st)) : AK Try.prog n Φ todo st := run_sound T_ok 1000 _ _ h
theorem zc0 {n : Nat} {Φ : Exit → St → Prop} {f : FuncId} {args fargs : List AV} {v : AV} {dst : Option Tmp} {drop : List Nat} {todo : List It} {st : St} (hp : PCall Try.prog f fargs (fun y => y = v)) (hz : zOK (AV.frzL (Heap.get ([] :: st.fr :: st.low)) args) fargs) (hr : (AV.refsL args).isEmpty || v.scal = true) (h : AKev Try.prog n Φ (run T 1000 todo (st.took dst drop v [] (st.fr :: st.low)))) : AKev Try.prog n Φ (.call f args dst drop todo st) := AKev_call0 T_ok 1000 hp hz hr h
theorem zcL {n : Nat} {Φ : Exit → St → Prop} {f : FuncId} {args fargs : List AV} {v : AV} {dst : Option Tmp} {drop : List Nat} {todo : List It} {st : St} (hp : PCall Try.prog f fargs (fun y => y = v)) (hz : zOK (AV.brL (Heap.get ([] :: st.fr :: st.low)) (boxF (Heap.get ([] :: st.fr :: st.low)) 5) args) fargs) (hr : v.scal = true) (h : AKev Try.prog n Φ (run T 1000 todo (st.took dst drop v [] (st.fr :: st.low)))) : AKev Try.prog n Φ (.call f args dst drop todo st) := AKev_callL T_ok 1000 hp hz hr h
theorem zcT {n : Nat} {Φ : Exit → St → Prop} {f : FuncId} {args fargs : List AV} {v : AV} {dst : Option Tmp} {drop : List Nat} {todo : List It} {st : St} (rs : List Nat) (hp : PCall Try.prog f fargs (fun y => y = v)) (hz : zOK (AV.brL (only (Heap.get ([] :: st.fr :: st.low)) (rs.map fun k => (1, k))) (boxF (only (Heap.get ([] :: st.fr :: st.low)) (rs.map fun k => (1, k))) 5) args) fargs) (h : AKev Try.prog n Φ (run T 1000 todo (st.took dst drop v [] (dels st.fr rs :: st.low)))) : AKev Try.prog n Φ (.call f args dst drop todo st) := AKev_take T_ok 1000 rs hp hz h
end Go.Abs

namespace Go.Abs
open Go.Proofs
def F11.c : SC :=
 (.seq
 (.reg [sn 4 0 3 [4]])
 (.seq
 (.reg [mv 5 0 3 [0],
 mv 6 1 3 [],
 b2 7 .rem 3 5 6 3 3 [5, 6],
 mv 8 1 3 [],
 b2 9 .add 3 7 8 3 3 [7, 8],
 mv 10 1 3 [1],
 b2 11 .rem 3 9 10 3 3 [9, 10],
 sg 4 11 3 [11]])
 .ret))
theorem F11.rs : Try.f11.results.toList = [.tmp 4] := rfl
def R01_Mod (k : Nat) (n0 : Int) (m1 : Int) : Option (Int) :=
 (nz? m1).bind fun _ =>
 some (Int.tmod (w64 ((Int.tmod n0 m1) + m1)) m1)
theorem R01_Mod_ok (k : Nat) (n0 : Int) (m1 : Int) (r : Int) (h0 : R01_Mod k n0 m1 = some r) : PCall Try.prog 11 [.int .i64 n0, .int .i64 m1] (fun y => y = .int .i64 r) := by
 refine PB (fn := Try.f11) (sc := F11.c) ?_
 refine rS ?_
 simp only [R01_Mod] at h0
 try simp only [F11.c, go_sem]
 obtain ⟨u1, yu1, h0⟩ := bs h0
 try simp only [nz_some yu1, go_sem]
 obtain rfl := Option.some.inj h0
 refine AKev_ret rfl ?_
 try simp only [F11.rs, nz_some yu1, go_sem]
def F12.c : SC :=
 (.seq
 (.reg [sn 4 0 3 [4]])
 (.seq
 (.seq
 (.reg [mv 5 0 23 [],
 ln 6 5 23 3 [5],
 bn 7 .eql 3 6 0 3 4 [6]])
 (.cond (.tmp 7)
 (.seq
 (.reg [sn 4 0 3 []])
 .ret)
 .skip))
 (.seq
 (.reg [mv 8 0 23 [],
 mv 9 1 3 [1],
 mv 10 0 23 [0],
 ln 11 10 23 3 [10],
 cf2 12 11 9 11 3 3 3 [9, 11],
 ia 13 23 8 12 [8, 12],
 ld 14 3 13 [13],
 sg 4 14 3 [14]])
 .ret)))
theorem F12.rs : Try.f12.results.toList = [.tmp 4] := rfl
def R01_At (k : Nat) (l0 : (List Int)) (i1 : Int) : Option (Int) :=
 bif decide ((l0.length : Int) = (0 : Int)) then
  some 0
 else
  (R01_Mod k i1 (l0.length : Int)).bind fun x2 =>
  (at? l0 x2).bind fun x3 =>
  some x3
theorem R01_At_ok (k : Nat) (l0 : (List Int)) (i1 : Int) (r : Int) (h0 : R01_At k l0 i1 = some r) : PCall Try.prog 12 [.sl 1 (List.map eI l0), .int .i64 i1] (fun y => y = .int .i64 r) := by
 refine PB (fn := Try.f12) (sc := F12.c) ?_
 refine rS ?_
 simp only [R01_At] at h0
 try simp only [F12.c, go_sem]
 refine AKev_bif h0 ?_ ?_ <;> intro c1 h0
 try simp only [c1, go_sem]
 obtain rfl := Option.some.inj h0
 refine AKev_ret rfl ?_
 try simp only [F12.rs, c1, go_sem]
 try simp only [c1, go_sem]
 obtain ⟨x2, yx2, h0⟩ := bs h0
 refine zc0 (R01_Mod_ok k _ _ _ yx2) ?_ (by first | rfl | simp [AV.refsL, AV.refs, AV.scal, AV.leaf]) ?_
 try simp only [c1, go_sem]
 try simp only [c1, go_sem]
 obtain ⟨x3, yx3, h0⟩ := bs h0
 try simp only [aa yx3, c1, go_sem]
 obtain rfl := Option.some.inj h0
 refine AKev_ret rfl ?_
 try simp only [F12.rs, c1, aa yx3, go_sem]
def F35.s0 : SC :=
 (.seq
 (.seq
 (.reg [mv 19 6 3 [],
 fa 20 35 2 0 [],
 ld 21 23 20 [20],
 ln 22 21 23 3 [21],
 b2 23 .lss 3 19 22 3 4 [19, 22]])
 (.cond (.tmp 23)
 .skip
 (.exit 0)))
 (.seq
 (.block 1
 (.dreg [mv 26 5 3 [],
 fa 27 35 2 0 [],
 ld 28 23 27 [],
 mv 29 6 3 [],
 ia 30 23 28 29 [],
 ld 31 3 30 [],
 fa 32 35 2 1 [],
 ld 33 33 32 [],
 mv 34 6 3 [],
 ia 35 33 33 34 [],
 ld 36 23 35 [],
 mv 37 1 3 [],
 ia 38 23 36 37 [],
 ld 39 3 38 [],
 b2 40 .sub 3 31 39 3 3 [],
 oq 41 (.call ⟨.builtin .max, #[.tmp 26, .tmp 40], #[3, 3]⟩) 3 [],
 sg 5 41 3 []] [[], [], [1], [], [1, 2, 3], [1, 2, 3, 4], [], [6], [], [6, 7, 8], [6, 7, 8, 9], [], [6, 7, 8, 9, 10, 11], [6, 7, 8, 9, 10, 11, 12], [1, 2, 3, 4, 5, 6, 7, 8, 9, 10, 11, 12, 13], [0, 1, 2, 3, 4, 5, 6, 7, 8, 9, 10, 11, 12, 13, 14], [0, 1, 2, 3, 4, 5, 6, 7, 8, 9, 10, 11, 12, 13, 14, 15]] [26, 27, 28, 29, 30, 31, 32, 33, 34, 35, 36, 37, 38, 39, 40, 41]))
 (.reg [mv 24 6 3 [6],
 bn 25 .add 3 24 1 3 3 [24],
 sg 6 25 3 [25]])))
def F35.c : SC :=
 (.seq
 (.reg [oq 2 (.box 35 (.tmp 0)) 0 [0],
 sn 4 0 3 [4]])
 (.seq
 (.dreg [fa 7 35 2 0 [],
 ld 8 23 7 [],
 oq 9 (.indexAddr 23 (.tmp 8) (.const (.int .i64 0))) 0 [],
 ld 10 3 9 [],
 fa 11 35 2 1 [],
 ld 12 33 11 [],
 oq 13 (.indexAddr 33 (.tmp 12) (.const (.int .i64 0))) 0 [],
 ld 14 23 13 [],
 mv 15 1 3 [],
 ia 16 23 14 15 [],
 ld 17 3 16 [],
 b2 18 .sub 3 10 17 3 3 [],
 sg 5 18 3 []] [[], [0], [0, 1], [0, 1, 2], [], [4], [4, 5], [4, 5, 6], [], [4, 5, 6, 7, 8], [4, 5, 6, 7, 8, 9], [0, 1, 2, 3, 4, 5, 6, 7, 8, 9, 10], [0, 1, 2, 3, 4, 5, 6, 7, 8, 9, 10, 11]] [7, 8, 9, 10, 11, 12, 13, 14, 15, 16, 17, 18])
 (.seq
 (.seq
 (.reg [sn 6 1 3 []])
 (.block 0
 (.loop F35.s0)))
 (.seq
 (.reg [mv 42 5 3 [5],
 sg 4 42 3 [42]])
 .ret))))
theorem F35.rs : Try.f35.results.toList = [.tmp 4] := rfl
def R04_heat.b0 (k : Nat) (x0 : Field) (p1 : Int) : (Int × Int) → Option (Stp (Int × Int) (Int) (Int)) := fun (s : Int × Int) => match s with
 | (i4, i5) =>
   bif decide (i5 < (x0.Mouths.length : Int)) then
    (at? x0.Mouths i5).bind fun x8 =>
    (at? x0.Falls i5).bind fun x9 =>
    (at? x9 p1).bind fun x10 =>
    some (.next (max i4 (w64 (x8 - x10)), w64 (i5 + 1)))
   else
    some (.brk i4)
noncomputable def R04_heat.h0 (x0 : Field) (p1 : Int) : (Int × Int) → St := fun (s : Int × Int) => match s with
 | (i4, i5) => ⟨[(1, .int .i64 p1), (2, .ptr 0 0 0), (5, .int .i64 i4), (6, .int .i64 i5)], [(0, .box [.sl 1 (List.map eI x0.Mouths), .sl 1 (List.map (eL 1 eI) x0.Falls)])], [], 1, Try.f35.ntmps⟩
noncomputable def R04_heat.x0 : Int → St := fun (i6 : Int) => ⟨[(5, .int .i64 i6)], [], [], 1, Try.f35.ntmps⟩
def R04_heat (k : Nat) (x0 : Field) (p1 : Int) : Option (Int) :=
 (at? x0.Mouths 0).bind fun x1 =>
 (at? x0.Falls 0).bind fun x2 =>
 (at? x2 p1).bind fun x3 =>
 (whl (R04_heat.b0 k x0 p1) k (w64 (x1 - x3), 1)).bind fun r11 => match r11 with
 | .next _ => none
 | .ret v_ => some v_
 | .brk i6 =>
  some i6
theorem R04_heat_ok (k : Nat) (x0 : Field) (p1 : Int) (r : Int) (h0 : R04_heat k x0 p1 = some r) : PCall Try.prog 35 [.agg (Field.c x0), .int .i64 p1] (fun y => y = .int .i64 r) := by
 refine PB (fn := Try.f35) (sc := F35.c) ?_
 refine rS ?_
 simp only [R04_heat] at h0
 try simp only [F35.c, go_sem]
 refine AKev_region T_ok follows_ok 1000 ?_
 try simp only [go_sem]
 obtain ⟨x1, yx1, h0⟩ := bs h0
 try simp only [aa yx1, go_sem]
 obtain ⟨x2, yx2, h0⟩ := bs h0
 try simp only [aa yx2, aa yx1, go_sem]
 obtain ⟨x3, yx3, h0⟩ := bs h0
 try simp only [aa yx3, aa yx1, aa yx2, go_sem]
 refine DG_done ⟨calm_of (by simp only [skel, List.reverse_cons, List.reverse_nil, List.nil_append, List.cons_append, List.map_cons, List.map_nil, List.append_nil]; rfl) (by first | decide +kernel | rfl), run_sound T_ok 1000 _ _ ?_⟩
 try simp only [aa yx1, aa yx2, aa yx3, go_sem]
 obtain ⟨r11, yr11, h0⟩ := bs h0
 refine AKev_loopS yr11 (R04_heat.h0 x0 p1) (R04_heat.x0) ?_ ?_ ?_
 refine Weak.go [1, 2, 5, 6] [0] rfl ?_
 try simp only [R04_heat.h0, aa yx1, aa yx2, aa yx3, go_sem]
 rintro ⟨i4, i5⟩ x_1 Bk1 Br1 h1 hnext1 hbrk1 hret1
 refine rS ?_
 simp only [R04_heat.b0] at h1
 try simp only [F35.s0, R04_heat.h0, aa yx1, aa yx2, aa yx3, go_sem]
 refine AKev_bif h1 ?_ ?_ <;> intro c7 h1
 try simp only [c7, aa yx1, aa yx2, aa yx3, go_sem]
 refine AKev_region T_ok follows_ok 1000 ?_
 try simp only [aa yx1, aa yx2, aa yx3, c7, go_sem]
 obtain ⟨x8, yx8, h1⟩ := bs h1
 try simp only [aa yx8, aa yx1, aa yx2, aa yx3, c7, go_sem]
 obtain ⟨x9, yx9, h1⟩ := bs h1
 try simp only [aa yx9, aa yx1, aa yx2, aa yx3, c7, aa yx8, go_sem]
 obtain ⟨x10, yx10, h1⟩ := bs h1
 try simp only [aa yx10, aa yx1, aa yx2, aa yx3, c7, aa yx8, aa yx9, go_sem]
 refine DG_done ⟨calm_of (by simp only [skel, List.reverse_cons, List.reverse_nil, List.nil_append, List.cons_append, List.map_cons, List.map_nil, List.append_nil]; rfl) (by first | decide +kernel | rfl), run_sound T_ok 1000 _ _ ?_⟩
 try simp only [aa yx1, aa yx2, aa yx3, c7, aa yx8, aa yx9, aa yx10, go_sem]
 refine AKev_backB (hnext1 _ _ (Option.some.inj h1).symm ?_)
 refine Weak.go [1, 2, 5, 6] [0] rfl ?_
 try simp only [R04_heat.h0, aa yx1, aa yx2, aa yx3, c7, aa yx8, aa yx9, aa yx10, go_sem]
 try simp only [c7, aa yx1, aa yx2, aa yx3, go_sem]
 refine AKev_backB (hbrk1 _ _ (Option.some.inj h1).symm ?_)
 refine Weak.go [5] [] rfl ?_
 try simp only [R04_heat.x0, aa yx1, aa yx2, aa yx3, c7, go_sem]
 rintro i6 hr_
 subst hr_
 simp only at h0
 refine rS ?_
 try simp only [R04_heat.x0, aa yx1, aa yx2, aa yx3, go_sem]
 obtain rfl := Option.some.inj h0
 refine AKev_ret rfl ?_
 try simp only [F35.rs, aa yx1, aa yx2, aa yx3, go_sem]
def F10.s2 : SC :=
 (.seq
 (.seq
 (.reg [mv 115 15 3 [],
 fa 116 26 1 4 [],
 ld 117 24 116 [116],
 ln 118 117 24 3 [117],
 b2 119 .lss 3 115 118 3 4 [115, 118],
 mv 120 119 4 [119],
 og 121 (.move (.tmp 15)) 3 120 true [],
 og 122 (.binOp .lss 3 (.tmp 121) (.const (.int .i64 14)) 3) 4 120 true [121],
 oq 123 (.pick (.tmp 120) (.tmp 122) (.const (.bool false))) 4 [120, 122]])
 (.cond (.tmp 123)
 .skip
 (.exit 4)))
 (.seq
 (.block 5
 (.seq
 (.reg [fa 126 26 1 4 [],
 ld 127 24 126 [126],
 mv 128 15 3 [],
 ia 129 24 127 128 [127, 128],
 ld 130 90 129 [129],
 oq 16 (.alloc 90) 0 [],
 ⟨none, .store 90 (.tmp 16) (.tmp 130), 0, none, [130]⟩])
 (.seq
 (.reg [oq 131 (.indexAddr 90 (.tmp 16) (.const (.int .i64 0))) 0 [],
 ld 132 3 131 [131],
 mv 133 5 3 [],
 cf2 134 11 132 133 3 3 3 [132, 133],
 sg 17 134 3 [134]])
 (.seq
 (.reg [ld 135 35 7 [],
 mv 136 17 3 [],
 cf2 137 35 135 136 35 3 3 [135, 136],
 sg 18 137 3 [137]])
 (.seq
 (.reg [oq 138 (.indexAddr 90 (.tmp 16) (.const (.int .i64 2))) 0 [],
 ld 139 3 138 [138],
 oq 140 (.call ⟨.value (.func 11), #[.tmp 139, .const (.int .i64 90)], #[3, 3]⟩) 3 [139],
 sg 19 140 3 [140]])
 (.seq
 (.dreg [oq 141 (.indexAddr 90 (.tmp 16) (.const (.int .i64 3))) 0 [],
 ld 142 3 141 [],
 oq 143 (.call ⟨.value (.func 11), #[.tmp 142, .const (.int .i64 12)], #[3, 3]⟩) 3 [],
 oq 144 (.binOp .add 3 (.const (.int .i64 1)) (.tmp 143) 3) 3 [],
 mv 145 17 3 [],
 oq 146 (.indexAddr 90 (.tmp 16) (.const (.int .i64 1))) 0 [],
 ld 147 3 146 [],
 oq 148 (.call ⟨.value (.func 11), #[.tmp 147, .const (.int .i64 3)], #[3, 3]⟩) 3 [],
 oq 149 (.binOp .add 3 (.const (.int .i64 1)) (.tmp 148) 3) 3 [],
 oq 150 (.build 60 #[(0, .tmp 144), (1, .tmp 145), (2, .tmp 149)]) 60 [],
 oq 20 (.alloc 60) 0 [],
 ⟨none, .store 60 (.tmp 20) (.tmp 150), 0, none, []⟩] [[], [0], [0, 1], [0, 1, 2], [], [], [5], [5, 6, 0, 1, 2], [5, 6, 0, 1, 2, 7], [0, 1, 2, 3, 4, 5, 6, 7, 8], [], [10, 0, 1, 2, 3, 4, 5, 6, 7, 8, 9]] [16, 17, 141, 142, 143, 144, 145, 146, 147, 148, 149, 150])
 (.seq
 (.seq
 (.reg [fa 151 60 20 2 [],
 ld 152 3 151 [151]])
 (.block 6
 (.seq
 (.reg [bn 165 .eql 3 152 1 3 4 [],
 sg 164 165 4 [165]])
 (.cond (.tmp 164)
 (.reg [mv 166 18 3 [18],
 mv 167 19 3 [19],
 b2 168 .sub 3 166 167 3 3 [166, 167],
 oq 169 (.call ⟨.builtin .max, #[.tmp 168, .const (.int .i64 1)], #[3, 3]⟩) 3 [168],
 oq 170 (.call ⟨.builtin .min, #[.tmp 169, .const (.int .i64 2000)], #[3, 3]⟩) 3 [169],
 fa 171 60 20 3 [],
 ⟨none, .store 3 (.tmp 171) (.tmp 170), 0, none, [170, 171]⟩])
 (.seq
 (.reg [bn 173 .eql 3 152 2 3 4 [152],
 sg 172 173 4 [173]])
 (.cond (.tmp 172)
 (.reg [mv 174 18 3 [18],
 bn 175 .add 3 174 1 3 3 [174],
 mv 176 19 3 [19],
 b2 177 .add 3 175 176 3 3 [175, 176],
 oq 178 (.call ⟨.builtin .max, #[.tmp 177, .const (.int .i64 1)], #[3, 3]⟩) 3 [177],
 oq 179 (.call ⟨.builtin .min, #[.tmp 178, .const (.int .i64 2000)], #[3, 3]⟩) 3 [178],
 fa 180 60 20 3 [],
 ⟨none, .store 3 (.tmp 180) (.tmp 179), 0, none, [179, 180]⟩])
 (.reg [mv 153 18 3 [],
 mv 154 19 3 [],
 bn 155 .quo 3 154 2 3 3 [154],
 b2 156 .sub 3 153 155 3 3 [153, 155],
 oq 157 (.call ⟨.builtin .max, #[.tmp 156, .const (.int .i64 1)], #[3, 3]⟩) 3 [156],
 mv 158 18 3 [18],
 mv 159 19 3 [19],
 b2 160 .add 3 158 159 3 3 [158, 159],
 oq 161 (.call ⟨.builtin .min, #[.tmp 160, .const (.int .i64 2000)], #[3, 3]⟩) 3 [160],
 oq 162 (.build 39 #[(0, .tmp 157), (1, .tmp 161)]) 39 [157, 161],
 fa 163 60 20 4 [],
 ⟨none, .store 39 (.tmp 163) (.tmp 162), 0, none, [162, 163]⟩])))))))
 (.reg [fa 181 32 6 1 [],
 ld 182 30 181 [181],
 ld 183 60 20 [20],
 oq 184 (.buildSlice 30 1 #[(0, .tmp 183)]) 30 [183],
 oq 185 (.call ⟨.builtin .append, #[.tmp 182, .tmp 184], #[30, 30]⟩) 30 [182, 184],
 fa 186 32 6 1 [],
 ⟨none, .store 30 (.tmp 186) (.tmp 185), 0, none, [185, 186]⟩]))))))))
 (.reg [mv 124 15 3 [15],
 bn 125 .add 3 124 1 3 3 [124],
 sg 15 125 3 [125]])))
def F10.s1 : SC :=
 (.seq
 (.seq
 (.reg [mv 34 11 3 [],
 mv 35 5 3 [],
 b2 36 .lss 3 34 35 3 4 [34, 35]])
 (.cond (.tmp 36)
 .skip
 (.exit 2)))
 (.seq
 (.block 3
 (.seq
 (.reg [oq 39 (.build 52 #[]) 52 [],
 oq 12 (.alloc 52) 0 [],
 ⟨none, .store 52 (.tmp 12) (.tmp 39), 0, none, [39]⟩])
 (.seq
 (.seq
 (.reg [fa 40 26 1 2 [],
 ld 41 22 40 [40],
 ln 42 41 22 3 [41],
 bn 43 .gtr 3 42 0 3 4 [42]])
 (.cond (.tmp 43)
 (.dreg [fa 44 26 1 2 [],
 ld 45 22 44 [],
 mv 46 8 3 [],
 mv 47 5 3 [],
 b2 48 .mul 3 46 47 3 3 [],
 mv 49 11 3 [],
 b2 50 .add 3 48 49 3 3 [],
 fa 51 26 1 2 [],
 ld 52 22 51 [],
 ln 53 52 22 3 [],
 b2 54 .rem 3 50 53 3 3 [],
 ia 55 22 45 54 [],
 ld 56 52 55 [],
 ⟨none, .store 52 (.tmp 12) (.tmp 56), 0, none, []⟩] [[], [0], [], [], [2, 3], [], [2, 3, 4, 5], [], [7], [7, 8], [2, 3, 4, 5, 6, 7, 8, 9], [0, 1, 2, 3, 4, 5, 6, 7, 8, 9, 10], [0, 1, 2, 3, 4, 5, 6, 7, 8, 9, 10, 11], [0, 1, 2, 3, 4, 5, 6, 7, 8, 9, 10, 11, 12]] [44, 45, 46, 47, 48, 49, 50, 51, 52, 53, 54, 55, 56])
 .skip))
 (.seq
 (.reg [mv 57 8 3 [],
 bn 58 .mul 3 57 3 3 3 [57],
 mv 59 11 3 [],
 bn 60 .mul 3 59 2 3 3 [59],
 b2 61 .add 3 58 60 3 3 [58, 60],
 oq 62 (.indexAddr 52 (.tmp 12) (.const (.int .i64 0))) 0 [],
 ld 63 3 62 [62],
 bn 64 .quo 3 63 7 3 3 [63],
 b2 65 .add 3 61 64 3 3 [61, 64],
 oq 66 (.call ⟨.value (.func 11), #[.tmp 65, .const (.int .i64 6)], #[3, 3]⟩) 3 [65],
 oq 67 (.binOp .mul 3 (.const (.int .i64 110)) (.tmp 66) 3) 3 [66],
 oq 68 (.binOp .add 3 (.const (.int .i64 20)) (.tmp 67) 3) 3 [67],
 sg 13 68 3 [68]])
 (.seq
 (.reg [oq 69 (.indexAddr 52 (.tmp 12) (.const (.int .i64 0))) 0 [],
 ld 70 3 69 [69],
 oq 71 (.call ⟨.value (.func 11), #[.tmp 70, .const (.int .i64 120)], #[3, 3]⟩) 3 [70],
 sg 14 71 3 [71]])
 (.seq
 (.reg [mv 72 9 40 [9],
 mv 73 13 3 [],
 mv 74 13 3 [],
 mv 75 14 3 [],
 b2 76 .add 3 74 75 3 3 [74, 75],
 oq 77 (.build 39 #[(0, .tmp 73), (1, .tmp 76)]) 39 [73, 76],
 oq 78 (.buildSlice 40 1 #[(0, .tmp 77)]) 40 [77],
 oq 79 (.call ⟨.builtin .append, #[.tmp 72, .tmp 78], #[40, 40]⟩) 40 [72, 78],
 sg 9 79 40 [79]])
 (.reg [mv 80 10 23 [10],
 mv 81 13 3 [13],
 oq 82 (.indexAddr 52 (.tmp 12) (.const (.int .i64 1))) 0 [12],
 ld 83 3 82 [82],
 mv 84 14 3 [14],
 bn 85 .add 3 84 1 3 3 [84],
 cf2 86 11 83 85 3 3 3 [83, 85],
 b2 87 .add 3 81 86 3 3 [81, 86],
 oq 88 (.buildSlice 23 1 #[(0, .tmp 87)]) 23 [87],
 oq 89 (.call ⟨.builtin .append, #[.tmp 80, .tmp 88], #[23, 23]⟩) 23 [80, 88],
 sg 10 89 23 [89]])))))))
 (.reg [mv 37 11 3 [11],
 bn 38 .add 3 37 1 3 3 [37],
 sg 11 38 3 [38]])))
def F10.s0 : SC :=
 (.seq
 (.seq
 (.reg [mv 29 8 3 [],
 mv 30 4 3 [],
 b2 31 .lss 3 29 30 3 4 [29, 30]])
 (.cond (.tmp 31)
 .skip
 (.exit 0)))
 (.seq
 (.block 1
 (.seq
 (.reg [oq 9 (.assign (.const (.slice none 0 0))) 40 []])
 (.seq
 (.reg [oq 10 (.assign (.const (.slice none 0 0))) 23 []])
 (.seq
 (.seq
 (.reg [sn 11 0 3 []])
 (.block 2
 (.loop F10.s1)))
 (.seq
 (.reg [fa 90 32 6 0 [],
 fa 91 29 90 0 [90],
 ld 92 27 91 [91],
 mv 93 9 40 [9],
 oq 94 (.buildSlice 27 1 #[(0, .tmp 93)]) 27 [93],
 oq 95 (.call ⟨.builtin .append, #[.tmp 92, .tmp 94], #[27, 27]⟩) 27 [92, 94],
 fa 96 32 6 0 [],
 fa 97 29 96 0 [96],
 ⟨none, .store 27 (.tmp 97) (.tmp 95), 0, none, [95, 97]⟩])
 (.seq
 (.reg [fa 98 35 7 1 [],
 ld 99 33 98 [98],
 mv 100 10 23 [10],
 oq 101 (.buildSlice 33 1 #[(0, .tmp 100)]) 33 [100],
 oq 102 (.call ⟨.builtin .append, #[.tmp 99, .tmp 101], #[33, 33]⟩) 33 [99, 101],
 fa 103 35 7 1 [],
 ⟨none, .store 33 (.tmp 103) (.tmp 102), 0, none, [102, 103]⟩])
 (.dreg [fa 104 35 7 0 [],
 ld 105 23 104 [],
 fa 106 26 1 3 [],
 ld 107 23 106 [],
 mv 108 8 3 [],
 cf2 109 12 107 108 23 3 3 [],
 oq 110 (.call ⟨.value (.func 11), #[.tmp 109, .const (.int .i64 600)], #[3, 3]⟩) 3 [],
 oq 111 (.binOp .add 3 (.const (.int .i64 1000)) (.tmp 110) 3) 3 [],
 oq 112 (.buildSlice 23 1 #[(0, .tmp 111)]) 23 [],
 oq 113 (.call ⟨.builtin .append, #[.tmp 105, .tmp 112], #[23, 23]⟩) 23 [],
 fa 114 35 7 0 [],
 ⟨none, .store 23 (.tmp 114) (.tmp 113), 0, none, []⟩] [[], [0], [], [2], [], [2, 3, 4], [2, 3, 4, 5], [2, 3, 4, 5, 6], [2, 3, 4, 5, 6, 7], [0, 1, 2, 3, 4, 5, 6, 7, 8], [0, 1, 2, 3, 4, 5, 6, 7, 8, 9], [0, 1, 2, 3, 4, 5, 6, 7, 8, 9, 10]] [104, 105, 106, 107, 108, 109, 110, 111, 112, 113, 114])))))))
 (.reg [mv 32 8 3 [8],
 bn 33 .add 3 32 1 3 3 [32],
 sg 8 33 3 [33]])))
def F10.c : SC :=
 (.seq
 (.reg [oq 1 (.box 26 (.tmp 0)) 0 [0],
 oq 2 (.alloc 32) 0 [],
 oq 3 (.alloc 35) 0 []])
 (.seq
 (.reg [fa 21 26 1 0 [],
 ld 22 3 21 [21],
 oq 23 (.call ⟨.value (.func 11), #[.tmp 22, .const (.int .i64 4)], #[3, 3]⟩) 3 [22],
 oq 24 (.binOp .add 3 (.const (.int .i64 1)) (.tmp 23) 3) 3 [23],
 sg 4 24 3 [24]])
 (.seq
 (.reg [fa 25 26 1 1 [],
 ld 26 3 25 [25],
 oq 27 (.call ⟨.value (.func 11), #[.tmp 26, .const (.int .i64 7)], #[3, 3]⟩) 3 [26],
 oq 28 (.binOp .add 3 (.const (.int .i64 1)) (.tmp 27) 3) 3 [27],
 sg 5 28 3 [28]])
 (.seq
 (.reg [oq 6 (.alloc 32) 0 []])
 (.seq
 (.reg [oq 7 (.alloc 35) 0 []])
 (.seq
 (.seq
 (.reg [sn 8 0 3 []])
 (.block 0
 (.loop F10.s0)))
 (.seq
 (.seq
 (.reg [sn 15 0 3 []])
 (.block 4
 (.loop F10.s2)))
 (.seq
 (.dreg [ld 187 32 6 [],
 ld 188 35 7 [],
 ⟨none, .store 32 (.tmp 2) (.tmp 187), 0, none, []⟩,
 ⟨none, .store 35 (.tmp 3) (.tmp 188), 0, none, []⟩] [[], [], [0], [1, 0, 2]] [6, 7, 187, 188])
 .ret))))))))
theorem F10.rs : Try.f10.results.toList = [.cell 2 32, .cell 3 35] := rfl
def R04_Made.b1 (k : Nat) (r0 : R04_Raw) (x1 : Int) (x2 : Int) (i3 : Int) : (Int × (List Range) × (List Int)) → Option (Stp (Int × (List Range) × (List Int)) ((List Range) × (List Int)) (Firing × Field)) := fun (s : Int × (List Range) × (List Int)) => match s with
 | (i11, l12, l13) =>
   bif decide (i11 < w64 (1 + x2)) then
    bif decide ((0 : Int) < (r0.Falls.length : Int)) then
     (nz? (r0.Falls.length : Int)).bind fun _ =>
     (at? r0.Falls (Int.tmod (w64 ((w64 (i3 * (w64 (1 + x2)))) + i11)) (r0.Falls.length : Int))).bind fun x19 =>
     (R01_Mod k (w64 ((w64 ((w64 (i3 * 3)) + (w64 (i11 * 2)))) + (w64 (Int.tdiv x19.x0 7)))) 6).bind fun x20 =>
     (R01_Mod k x19.x0 120).bind fun x21 =>
     (push? 16 l12 (⟨w64 (20 + (w64 (110 * x20))), w64 ((w64 (20 + (w64 (110 * x20)))) + x21)⟩ : Range)).bind fun l22 =>
     (R01_Mod k x19.x1 (w64 (x21 + 1))).bind fun x23 =>
     (push? 8 l13 (w64 ((w64 (20 + (w64 (110 * x20)))) + x23))).bind fun l24 =>
     some (.next (w64 (i11 + 1), l22, l24))
    else
     (R01_Mod k (w64 ((w64 ((w64 (i3 * 3)) + (w64 (i11 * 2)))) + (w64 (Int.tdiv 0 7)))) 6).bind fun x25 =>
     (R01_Mod k 0 120).bind fun x26 =>
     (push? 16 l12 (⟨w64 (20 + (w64 (110 * x25))), w64 ((w64 (20 + (w64 (110 * x25)))) + x26)⟩ : Range)).bind fun l27 =>
     (R01_Mod k 0 (w64 (x26 + 1))).bind fun x28 =>
     (push? 8 l13 (w64 ((w64 (20 + (w64 (110 * x25)))) + x28))).bind fun l29 =>
     some (.next (w64 (i11 + 1), l27, l29))
   else
    some (.brk (l12, l13))
def R04_Made.b0 (k : Nat) (r0 : R04_Raw) (x1 : Int) (x2 : Int) : (Int × (List (List Range)) × (List Int) × (List (List Int))) → Option (Stp (Int × (List (List Range)) × (List Int) × (List (List Int))) ((List (List Range)) × (List Int) × (List (List Int))) (Firing × Field)) := fun (s : Int × (List (List Range)) × (List Int) × (List (List Int))) => match s with
 | (i3, l4, l5, l6) =>
   bif decide (i3 < w64 (1 + x1)) then
    (whl (R04_Made.b1 k r0 x1 x2 i3) k (0, [], [])).bind fun r30 => match r30 with
    | .next _ => none
    | .ret v_ => some (.ret v_)
    | .brk (l14, l15) =>
     (push? 24 l4 l14).bind fun l31 =>
     (push? 24 l6 l15).bind fun l32 =>
     (R01_At k r0.Heats i3).bind fun x33 =>
     (R01_Mod k x33 600).bind fun x34 =>
     (push? 8 l5 (w64 (1000 + x34))).bind fun l35 =>
     some (.next (w64 (i3 + 1), l31, l35, l32))
   else
    some (.brk (l4, l5, l6))
def R04_Made.b2 (k : Nat) (r0 : R04_Raw) (x1 : Int) (x2 : Int) (l8 : (List Int)) (l9 : (List (List Int))) : (Int × (List Reading)) → Option (Stp (Int × (List Reading)) ((List Reading)) (Firing × Field)) := fun (s : Int × (List Reading)) => match s with
 | (i37, l38) =>
   bif decide (i37 < (r0.Readings.length : Int)) then
    bif decide (i37 < (14 : Int)) then
     (at? r0.Readings i37).bind fun x42 =>
     (R01_Mod k x42.x0 (w64 (1 + x2))).bind fun x43 =>
     (R04_heat k (⟨l8, l9⟩ : Field) x43).bind fun x44 =>
     (R01_Mod k x42.x2 90).bind fun x45 =>
     (R01_Mod k x42.x3 12).bind fun x46 =>
     (R01_Mod k x42.x1 3).bind fun x47 =>
     bif decide (w64 (1 + x47) = (1 : Int)) then
      (push? 48 l38 (⟨w64 (1 + x46), x43, w64 (1 + x47), min (max (w64 (x44 - x45)) 1) 2000, (⟨0, 0⟩ : Range)⟩ : Reading)).bind fun l49 =>
      some (.next (w64 (i37 + 1), l49))
     else
      bif decide (w64 (1 + x47) = (2 : Int)) then
       (push? 48 l38 (⟨w64 (1 + x46), x43, w64 (1 + x47), min (max (w64 ((w64 (x44 + 1)) + x45)) 1) 2000, (⟨0, 0⟩ : Range)⟩ : Reading)).bind fun l51 =>
       some (.next (w64 (i37 + 1), l51))
      else
       (push? 48 l38 (⟨w64 (1 + x46), x43, w64 (1 + x47), 0, (⟨max (w64 (x44 - (w64 (Int.tdiv x45 2)))) 1, min (w64 (x44 + x45)) 2000⟩ : Range)⟩ : Reading)).bind fun l52 =>
       some (.next (w64 (i37 + 1), l52))
    else
     some (.brk l38)
   else
    some (.brk l38)
noncomputable def R04_Made.h1 (r0 : R04_Raw) (x1 : Int) (x2 : Int) (i3 : Int) (l4 : (List (List Range))) (l5 : (List Int)) (l6 : (List (List Int))) : (Int × (List Range) × (List Int)) → St := fun (s : Int × (List Range) × (List Int)) => match s with
 | (i11, l12, l13) => ⟨[(1, .ptr 0 0 0), (2, .ptr 0 1 0), (3, .ptr 0 4 0), (4, .int .i64 (w64 (1 + x1))), (5, .int .i64 (w64 (1 + x2))), (6, .ptr 0 7 0), (7, .ptr 0 10 0), (8, .int .i64 i3), (9, .loc 0 13 2 0 l12.length l12.length), (10, .loc 0 14 1 0 l13.length l13.length), (11, .int .i64 i11)], [(0, .box [.int .i64 r0.Mouths, .int .i64 r0.Places, .sl 2 (List.map (A2.c eI) r0.Falls), .sl 1 (List.map eI r0.Heats), .sl 4 (List.map (A4.c eI) r0.Readings)]), (1, .box [.loc 0 2 1 0 0 0, .loc 0 3 6 0 0 0]), (2, .arr 40 1 (List.map (eL 2 Range.c) [])), (3, .arr 60 6 (List.map Reading.c [])), (4, .box [.loc 0 5 1 0 0 0, .loc 0 6 1 0 0 0]), (5, .arr 3 1 (List.map eI [])), (6, .arr 23 1 (List.map (eL 1 eI) [])), (7, .box [.loc 0 8 1 0 l4.length l4.length, .loc 0 9 6 0 0 0]), (8, .arr 40 1 (List.map (eL 2 Range.c) l4)), (9, .arr 60 6 (List.map Reading.c [])), (10, .box [.loc 0 11 1 0 l5.length l5.length, .loc 0 12 1 0 l6.length l6.length]), (11, .arr 3 1 (List.map eI l5)), (12, .arr 23 1 (List.map (eL 1 eI) l6)), (13, .arr 39 2 (List.map Range.c l12)), (14, .arr 3 1 (List.map eI l13))], [], 15, Try.f10.ntmps⟩
noncomputable def R04_Made.x1 (r0 : R04_Raw) (x1 : Int) (x2 : Int) (i3 : Int) (l4 : (List (List Range))) (l5 : (List Int)) (l6 : (List (List Int))) : ((List Range) × (List Int)) → St := fun (s : (List Range) × (List Int)) => match s with
 | (l14, l15) => ⟨[(1, .ptr 0 0 0), (2, .ptr 0 1 0), (3, .ptr 0 4 0), (4, .int .i64 (w64 (1 + x1))), (5, .int .i64 (w64 (1 + x2))), (6, .ptr 0 7 0), (7, .ptr 0 10 0), (8, .int .i64 i3), (9, .loc 0 13 2 0 l14.length l14.length), (10, .loc 0 14 1 0 l15.length l15.length)], [(0, .box [.int .i64 r0.Mouths, .int .i64 r0.Places, .sl 2 (List.map (A2.c eI) r0.Falls), .sl 1 (List.map eI r0.Heats), .sl 4 (List.map (A4.c eI) r0.Readings)]), (1, .box [.loc 0 2 1 0 0 0, .loc 0 3 6 0 0 0]), (2, .arr 40 1 (List.map (eL 2 Range.c) [])), (3, .arr 60 6 (List.map Reading.c [])), (4, .box [.loc 0 5 1 0 0 0, .loc 0 6 1 0 0 0]), (5, .arr 3 1 (List.map eI [])), (6, .arr 23 1 (List.map (eL 1 eI) [])), (7, .box [.loc 0 8 1 0 l4.length l4.length, .loc 0 9 6 0 0 0]), (8, .arr 40 1 (List.map (eL 2 Range.c) l4)), (9, .arr 60 6 (List.map Reading.c [])), (10, .box [.loc 0 11 1 0 l5.length l5.length, .loc 0 12 1 0 l6.length l6.length]), (11, .arr 3 1 (List.map eI l5)), (12, .arr 23 1 (List.map (eL 1 eI) l6)), (13, .arr 39 2 (List.map Range.c l14)), (14, .arr 3 1 (List.map eI l15))], [], 15, Try.f10.ntmps⟩
noncomputable def R04_Made.h0 (r0 : R04_Raw) (x1 : Int) (x2 : Int) : (Int × (List (List Range)) × (List Int) × (List (List Int))) → St := fun (s : Int × (List (List Range)) × (List Int) × (List (List Int))) => match s with
 | (i3, l4, l5, l6) => ⟨[(1, .ptr 0 0 0), (2, .ptr 0 1 0), (3, .ptr 0 4 0), (4, .int .i64 (w64 (1 + x1))), (5, .int .i64 (w64 (1 + x2))), (6, .ptr 0 7 0), (7, .ptr 0 10 0), (8, .int .i64 i3)], [(0, .box [.int .i64 r0.Mouths, .int .i64 r0.Places, .sl 2 (List.map (A2.c eI) r0.Falls), .sl 1 (List.map eI r0.Heats), .sl 4 (List.map (A4.c eI) r0.Readings)]), (1, .box [.loc 0 2 1 0 0 0, .loc 0 3 6 0 0 0]), (2, .arr 40 1 (List.map (eL 2 Range.c) [])), (3, .arr 60 6 (List.map Reading.c [])), (4, .box [.loc 0 5 1 0 0 0, .loc 0 6 1 0 0 0]), (5, .arr 3 1 (List.map eI [])), (6, .arr 23 1 (List.map (eL 1 eI) [])), (7, .box [.loc 0 8 1 0 l4.length l4.length, .loc 0 9 6 0 0 0]), (8, .arr 40 1 (List.map (eL 2 Range.c) l4)), (9, .arr 60 6 (List.map Reading.c [])), (10, .box [.loc 0 11 1 0 l5.length l5.length, .loc 0 12 1 0 l6.length l6.length]), (11, .arr 3 1 (List.map eI l5)), (12, .arr 23 1 (List.map (eL 1 eI) l6))], [], 13, Try.f10.ntmps⟩
noncomputable def R04_Made.x0 (r0 : R04_Raw) (x2 : Int) : ((List (List Range)) × (List Int) × (List (List Int))) → St := fun (s : (List (List Range)) × (List Int) × (List (List Int))) => match s with
 | (l7, l8, l9) => ⟨[(1, .ptr 0 0 0), (2, .ptr 0 1 0), (3, .ptr 0 4 0), (5, .int .i64 (w64 (1 + x2))), (6, .ptr 0 7 0), (7, .ptr 0 10 0)], [(0, .box [.int .i64 r0.Mouths, .int .i64 r0.Places, .sl 2 (List.map (A2.c eI) r0.Falls), .sl 1 (List.map eI r0.Heats), .sl 4 (List.map (A4.c eI) r0.Readings)]), (1, .box [.loc 0 2 1 0 0 0, .loc 0 3 6 0 0 0]), (2, .arr 40 1 (List.map (eL 2 Range.c) [])), (3, .arr 60 6 (List.map Reading.c [])), (4, .box [.loc 0 5 1 0 0 0, .loc 0 6 1 0 0 0]), (5, .arr 3 1 (List.map eI [])), (6, .arr 23 1 (List.map (eL 1 eI) [])), (7, .box [.loc 0 8 1 0 l7.length l7.length, .loc 0 9 6 0 0 0]), (8, .arr 40 1 (List.map (eL 2 Range.c) l7)), (9, .arr 60 6 (List.map Reading.c [])), (10, .box [.loc 0 11 1 0 l8.length l8.length, .loc 0 12 1 0 l9.length l9.length]), (11, .arr 3 1 (List.map eI l8)), (12, .arr 23 1 (List.map (eL 1 eI) l9))], [], 13, Try.f10.ntmps⟩
noncomputable def R04_Made.h2 (r0 : R04_Raw) (x2 : Int) (l7 : (List (List Range))) (l8 : (List Int)) (l9 : (List (List Int))) : (Int × (List Reading)) → St := fun (s : Int × (List Reading)) => match s with
 | (i37, l38) => ⟨[(1, .ptr 0 0 0), (2, .ptr 0 1 0), (3, .ptr 0 4 0), (5, .int .i64 (w64 (1 + x2))), (6, .ptr 0 7 0), (7, .ptr 0 10 0), (15, .int .i64 i37)], [(0, .box [.int .i64 r0.Mouths, .int .i64 r0.Places, .sl 2 (List.map (A2.c eI) r0.Falls), .sl 1 (List.map eI r0.Heats), .sl 4 (List.map (A4.c eI) r0.Readings)]), (1, .box [.loc 0 2 1 0 0 0, .loc 0 3 6 0 0 0]), (2, .arr 40 1 (List.map (eL 2 Range.c) [])), (3, .arr 60 6 (List.map Reading.c [])), (4, .box [.loc 0 5 1 0 0 0, .loc 0 6 1 0 0 0]), (5, .arr 3 1 (List.map eI [])), (6, .arr 23 1 (List.map (eL 1 eI) [])), (7, .box [.loc 0 8 1 0 l7.length l7.length, .loc 0 9 6 0 l38.length l38.length]), (8, .arr 40 1 (List.map (eL 2 Range.c) l7)), (9, .arr 60 6 (List.map Reading.c l38)), (10, .box [.loc 0 11 1 0 l8.length l8.length, .loc 0 12 1 0 l9.length l9.length]), (11, .arr 3 1 (List.map eI l8)), (12, .arr 23 1 (List.map (eL 1 eI) l9))], [], 13, Try.f10.ntmps⟩
noncomputable def R04_Made.x2 (l7 : (List (List Range))) (l8 : (List Int)) (l9 : (List (List Int))) : (List Reading) → St := fun (l39 : (List Reading)) => ⟨[(2, .ptr 0 0 0), (3, .ptr 0 3 0), (6, .ptr 0 6 0), (7, .ptr 0 9 0)], [(0, .box [.loc 0 1 1 0 0 0, .loc 0 2 6 0 0 0]), (1, .arr 40 1 (List.map (eL 2 Range.c) [])), (2, .arr 60 6 (List.map Reading.c [])), (3, .box [.loc 0 4 1 0 0 0, .loc 0 5 1 0 0 0]), (4, .arr 3 1 (List.map eI [])), (5, .arr 23 1 (List.map (eL 1 eI) [])), (6, .box [.loc 0 7 1 0 l7.length l7.length, .loc 0 8 6 0 l39.length l39.length]), (7, .arr 40 1 (List.map (eL 2 Range.c) l7)), (8, .arr 60 6 (List.map Reading.c l39)), (9, .box [.loc 0 10 1 0 l8.length l8.length, .loc 0 11 1 0 l9.length l9.length]), (10, .arr 3 1 (List.map eI l8)), (11, .arr 23 1 (List.map (eL 1 eI) l9))], [], 12, Try.f10.ntmps⟩
def R04_Made (k : Nat) (r0 : R04_Raw) : Option (Firing × Field) :=
 (R01_Mod k r0.Mouths 4).bind fun x1 =>
 (R01_Mod k r0.Places 7).bind fun x2 =>
 (whl (R04_Made.b0 k r0 x1 x2) k (0, [], [], [])).bind fun r36 => match r36 with
 | .next _ => none
 | .ret v_ => some v_
 | .brk (l7, l8, l9) =>
  (whl (R04_Made.b2 k r0 x1 x2 l8 l9) k (0, [])).bind fun r53 => match r53 with
  | .next _ => none
  | .ret v_ => some v_
  | .brk l39 =>
   some ((⟨(⟨l7⟩ : Kiln), l39⟩ : Firing), (⟨l8, l9⟩ : Field))
theorem R04_Made_ok (k : Nat) (r0 : R04_Raw) (r : Firing × Field) (h0 : R04_Made k r0 = some r) : PCall Try.prog 10 [.agg (R04_Raw.c r0)] (fun y => y = .tup [.agg (Firing.c r.1), .agg (Field.c r.2)]) := by
 refine PB (fn := Try.f10) (sc := F10.c) ?_
 refine rS ?_
 simp only [R04_Made] at h0
 try simp only [F10.c, go_sem]
 obtain ⟨x1, yx1, h0⟩ := bs h0
 refine zc0 (R01_Mod_ok k _ _ _ yx1) ?_ (by first | rfl | simp [AV.refsL, AV.refs, AV.scal, AV.leaf]) ?_
 try simp only [go_sem]
 try simp only [go_sem]
 obtain ⟨x2, yx2, h0⟩ := bs h0
 refine zc0 (R01_Mod_ok k _ _ _ yx2) ?_ (by first | rfl | simp [AV.refsL, AV.refs, AV.scal, AV.leaf]) ?_
 try simp only [go_sem]
 try simp only [go_sem]
 obtain ⟨r36, yr36, h0⟩ := bs h0
 refine AKev_loopS yr36 (R04_Made.h0 r0 x1 x2) (R04_Made.x0 r0 x2) ?_ ?_ ?_
 refine Weak.go [1, 2, 3, 4, 5, 6, 7, 8] [0, 16, 17, 18, 32, 33, 34, 208, 209, 210, 224, 225, 226] rfl ?_
 try simp only [R04_Made.h0, go_sem]
 rintro ⟨i3, l4, l5, l6⟩ x_1 Bk1 Br1 h1 hnext1 hbrk1 hret1
 refine rS ?_
 simp only [R04_Made.b0] at h1
 try simp only [F10.s0, R04_Made.h0, go_sem]
 refine AKev_bif h1 ?_ ?_ <;> intro c10 h1
 try simp only [c10, go_sem]
 obtain ⟨r30, yr30, h1⟩ := bs h1
 refine AKev_loopS yr30 (R04_Made.h1 r0 x1 x2 i3 l4 l5 l6) (R04_Made.x1 r0 x1 x2 i3 l4 l5 l6) ?_ ?_ ?_
 refine Weak.go [1, 2, 3, 4, 5, 6, 7, 8, 9, 10, 11] [0, 1, 2, 3, 4, 5, 6, 7, 8, 9, 10, 11, 12, 61, 77] rfl ?_
 try simp only [R04_Made.h1, c10, go_sem]
 rintro ⟨i11, l12, l13⟩ x_2 Bk2 Br2 h2 hnext2 hbrk2 hret2
 refine rS ?_
 simp only [R04_Made.b1] at h2
 try simp only [F10.s1, R04_Made.h1, c10, go_sem]
 refine AKev_bif h2 ?_ ?_ <;> intro c16 h2
 try simp only [c16, c10, go_sem]
 refine AKev_bif h2 ?_ ?_ <;> intro c17 h2
 try simp only [c17, c10, c16, go_sem]
 refine AKev_region T_ok follows_ok 1000 ?_
 try simp only [c10, c16, c17, go_sem]
 obtain ⟨u18, yu18, h2⟩ := bs h2
 try simp only [nz_some yu18, c10, c16, c17, go_sem]
 obtain ⟨x19, yx19, h2⟩ := bs h2
 try simp only [aa yx19, c10, c16, c17, nz_some yu18, go_sem]
 refine DG_done ⟨calm_of (by simp only [skel, List.reverse_cons, List.reverse_nil, List.nil_append, List.cons_append, List.map_cons, List.map_nil, List.append_nil]; rfl) (by first | decide +kernel | rfl), run_sound T_ok 1000 _ _ ?_⟩
 try simp only [(by decide : inRange (0 : Int) 2 = some 0), c10, c16, c17, nz_some yu18, aa yx19, go_sem]
 obtain ⟨x20, yx20, h2⟩ := bs h2
 refine zc0 (R01_Mod_ok k _ _ _ yx20) ?_ (by first | rfl | simp [AV.refsL, AV.refs, AV.scal, AV.leaf]) ?_
 try simp only [c10, c16, c17, nz_some yu18, aa yx19, go_sem]
 try simp only [(by decide : inRange (0 : Int) 2 = some 0), c10, c16, c17, nz_some yu18, aa yx19, go_sem]
 obtain ⟨x21, yx21, h2⟩ := bs h2
 refine zc0 (R01_Mod_ok k _ _ _ yx21) ?_ (by first | rfl | simp [AV.refsL, AV.refs, AV.scal, AV.leaf]) ?_
 try simp only [c10, c16, c17, nz_some yu18, aa yx19, go_sem]
 try simp only [c10, c16, c17, nz_some yu18, aa yx19, go_sem]
 obtain ⟨l22, yl22, h2⟩ := bs h2
 have eyl22 := push_map Range.c yl22
 have tyl22 := push_take Range.c yl22
 have nyl22 := push_len yl22
 have myl22 := push_room yl22
 try simp only [c10, c16, c17, nz_some yu18, aa yx19, go_sem] at eyl22 tyl22 nyl22 myl22
 try simp only [myl22, eyl22, (by decide : inRange (1 : Int) 2 = some 1), c10, c16, c17, nz_some yu18, aa yx19, nyl22, tyl22, go_sem]
 obtain ⟨x23, yx23, h2⟩ := bs h2
 refine zc0 (R01_Mod_ok k _ _ _ yx23) ?_ (by first | rfl | simp [AV.refsL, AV.refs, AV.scal, AV.leaf]) ?_
 try simp only [c10, c16, c17, nz_some yu18, aa yx19, eyl22, nyl22, tyl22, go_sem]
 try simp only [c10, c16, c17, nz_some yu18, aa yx19, eyl22, nyl22, tyl22, go_sem]
 obtain ⟨l24, yl24, h2⟩ := bs h2
 have eyl24 := push_map eI yl24
 have tyl24 := push_take eI yl24
 have nyl24 := push_len yl24
 have myl24 := push_room yl24
 try simp only [c10, c16, c17, nz_some yu18, aa yx19, eyl22, nyl22, tyl22, go_sem] at eyl24 tyl24 nyl24 myl24
 try simp only [myl24, eyl24, c10, c16, c17, nz_some yu18, aa yx19, eyl22, nyl22, tyl22, nyl24, tyl24, go_sem]
 refine AKev_backB (hnext2 _ _ (Option.some.inj h2).symm ?_)
 refine Weak.go [1, 2, 3, 4, 5, 6, 7, 8, 9, 10, 11] [0, 1, 2, 3, 4, 5, 6, 7, 8, 9, 10, 11, 12, 13, 14] rfl ?_
 try simp only [R04_Made.h1, c10, c16, c17, nz_some yu18, aa yx19, eyl22, nyl22, tyl22, eyl24, nyl24, tyl24, go_sem]
 try simp only [c17, (by decide : inRange (0 : Int) 2 = some 0), c10, c16, go_sem]
 obtain ⟨x25, yx25, h2⟩ := bs h2
 refine zc0 (R01_Mod_ok k _ _ _ yx25) ?_ (by first | rfl | simp [AV.refsL, AV.refs, AV.scal, AV.leaf]) ?_
 try simp only [c10, c16, c17, go_sem]
 try simp only [(by decide : inRange (0 : Int) 2 = some 0), c10, c16, c17, go_sem]
 obtain ⟨x26, yx26, h2⟩ := bs h2
 refine zc0 (R01_Mod_ok k _ _ _ yx26) ?_ (by first | rfl | simp [AV.refsL, AV.refs, AV.scal, AV.leaf]) ?_
 try simp only [c10, c16, c17, go_sem]
 try simp only [c10, c16, c17, go_sem]
 obtain ⟨l27, yl27, h2⟩ := bs h2
 have eyl27 := push_map Range.c yl27
 have tyl27 := push_take Range.c yl27
 have nyl27 := push_len yl27
 have myl27 := push_room yl27
 try simp only [c10, c16, c17, go_sem] at eyl27 tyl27 nyl27 myl27
 try simp only [myl27, eyl27, (by decide : inRange (1 : Int) 2 = some 1), c10, c16, c17, nyl27, tyl27, go_sem]
 obtain ⟨x28, yx28, h2⟩ := bs h2
 refine zc0 (R01_Mod_ok k _ _ _ yx28) ?_ (by first | rfl | simp [AV.refsL, AV.refs, AV.scal, AV.leaf]) ?_
 try simp only [c10, c16, c17, eyl27, nyl27, tyl27, go_sem]
 try simp only [c10, c16, c17, eyl27, nyl27, tyl27, go_sem]
 obtain ⟨l29, yl29, h2⟩ := bs h2
 have eyl29 := push_map eI yl29
 have tyl29 := push_take eI yl29
 have nyl29 := push_len yl29
 have myl29 := push_room yl29
 try simp only [c10, c16, c17, eyl27, nyl27, tyl27, go_sem] at eyl29 tyl29 nyl29 myl29
 try simp only [myl29, eyl29, c10, c16, c17, eyl27, nyl27, tyl27, nyl29, tyl29, go_sem]
 refine AKev_backB (hnext2 _ _ (Option.some.inj h2).symm ?_)
 refine Weak.go [1, 2, 3, 4, 5, 6, 7, 8, 9, 10, 11] [0, 1, 2, 3, 4, 5, 6, 7, 8, 9, 10, 11, 12, 13, 14] rfl ?_
 try simp only [R04_Made.h1, c10, c16, c17, eyl27, nyl27, tyl27, eyl29, nyl29, tyl29, go_sem]
 try simp only [c16, c10, go_sem]
 refine AKev_backB (hbrk2 _ _ (Option.some.inj h2).symm ?_)
 refine Weak.go [1, 2, 3, 4, 5, 6, 7, 8, 9, 10] [0, 1, 2, 3, 4, 5, 6, 7, 8, 9, 10, 11, 12, 13, 14] rfl ?_
 try simp only [R04_Made.x1, c10, c16, go_sem]
 rintro ⟨l14, l15⟩ hr_
 subst hr_
 simp only at h1
 refine rS ?_
 try simp only [R04_Made.x1, c10, go_sem]
 obtain ⟨l31, yl31, h1⟩ := bs h1
 have eyl31 := push_map (eL 2 Range.c) yl31
 have tyl31 := push_take (eL 2 Range.c) yl31
 have nyl31 := push_len yl31
 have myl31 := push_room yl31
 try simp only [c10, go_sem] at eyl31 tyl31 nyl31 myl31
 try simp only [myl31, eyl31, c10, nyl31, tyl31, go_sem]
 obtain ⟨l32, yl32, h1⟩ := bs h1
 have eyl32 := push_map (eL 1 eI) yl32
 have tyl32 := push_take (eL 1 eI) yl32
 have nyl32 := push_len yl32
 have myl32 := push_room yl32
 try simp only [c10, eyl31, nyl31, tyl31, go_sem] at eyl32 tyl32 nyl32 myl32
 try simp only [myl32, eyl32, c10, eyl31, nyl31, tyl31, nyl32, tyl32, go_sem]
 refine AKev_region T_ok follows_ok 1000 ?_
 try simp only [c10, eyl31, nyl31, tyl31, eyl32, nyl32, tyl32, go_sem]
 obtain ⟨x33, yx33, h1⟩ := bs h1
 refine DG_call0 1000 (R01_At_ok k _ _ _ yx33) ?_ (by first | rfl | simp [AV.refsL, AV.refs, AV.scal, AV.leaf]) ?_
 try simp only [c10, eyl31, nyl31, tyl31, eyl32, nyl32, tyl32, go_sem]
 try simp only [c10, eyl31, nyl31, tyl31, eyl32, nyl32, tyl32, go_sem]
 obtain ⟨x34, yx34, h1⟩ := bs h1
 refine DG_call0 1000 (R01_Mod_ok k _ _ _ yx34) ?_ (by first | rfl | simp [AV.refsL, AV.refs, AV.scal, AV.leaf]) ?_
 try simp only [c10, eyl31, nyl31, tyl31, eyl32, nyl32, tyl32, go_sem]
 try simp only [c10, eyl31, nyl31, tyl31, eyl32, nyl32, tyl32, go_sem]
 obtain ⟨l35, yl35, h1⟩ := bs h1
 have eyl35 := push_map eI yl35
 have tyl35 := push_take eI yl35
 have nyl35 := push_len yl35
 have myl35 := push_room yl35
 try simp only [c10, eyl31, nyl31, tyl31, eyl32, nyl32, tyl32, go_sem] at eyl35 tyl35 nyl35 myl35
 try simp only [myl35, eyl35, c10, eyl31, nyl31, tyl31, eyl32, nyl32, tyl32, nyl35, tyl35, go_sem]
 refine DG_done ⟨calm_of (by simp only [skel, List.reverse_cons, List.reverse_nil, List.nil_append, List.cons_append, List.map_cons, List.map_nil, List.append_nil]; rfl) (by first | decide +kernel | rfl), run_sound T_ok 1000 _ _ ?_⟩
 try simp only [c10, eyl31, nyl31, tyl31, eyl32, nyl32, tyl32, eyl35, nyl35, tyl35, go_sem]
 refine AKev_backB (hnext1 _ _ (Option.some.inj h1).symm ?_)
 refine Weak.go [1, 2, 3, 4, 5, 6, 7, 8] [0, 1, 2, 3, 4, 5, 6, 7, 8, 9, 10, 11, 12] rfl ?_
 try simp only [R04_Made.h0, c10, eyl31, nyl31, tyl31, eyl32, nyl32, tyl32, eyl35, nyl35, tyl35, go_sem]
 try simp only [c10, go_sem]
 refine AKev_backB (hbrk1 _ _ (Option.some.inj h1).symm ?_)
 refine Weak.go [1, 2, 3, 5, 6, 7] [0, 1, 2, 3, 4, 5, 6, 7, 8, 9, 10, 11, 12] rfl ?_
 try simp only [R04_Made.x0, c10, go_sem]
 rintro ⟨l7, l8, l9⟩ hr_
 subst hr_
 simp only at h0
 refine rS ?_
 try simp only [R04_Made.x0, go_sem]
 obtain ⟨r53, yr53, h0⟩ := bs h0
 refine AKev_loopS yr53 (R04_Made.h2 r0 x2 l7 l8 l9) (R04_Made.x2 l7 l8 l9) ?_ ?_ ?_
 refine Weak.go [1, 2, 3, 5, 6, 7, 15] [0, 1, 2, 3, 4, 5, 6, 7, 8, 9, 10, 11, 12] rfl ?_
 try simp only [R04_Made.h2, go_sem]
 rintro ⟨i37, l38⟩ x_1 Bk1 Br1 h1 hnext1 hbrk1 hret1
 refine rS ?_
 simp only [R04_Made.b2] at h1
 try simp only [F10.s2, R04_Made.h2, go_sem]
 refine AKev_bif h1 ?_ ?_ <;> intro c40 h1
 try simp only [c40, go_sem]
 refine AKev_bif h1 ?_ ?_ <;> intro c41 h1
 try simp only [c41, c40, go_sem]
 obtain ⟨x42, yx42, h1⟩ := bs h1
 try simp only [aa yx42, (by decide : inRange (0 : Int) 4 = some 0), c40, c41, go_sem]
 obtain ⟨x43, yx43, h1⟩ := bs h1
 refine zc0 (R01_Mod_ok k _ _ _ yx43) ?_ (by first | rfl | simp [AV.refsL, AV.refs, AV.scal, AV.leaf]) ?_
 try simp only [c40, c41, aa yx42, go_sem]
 try simp only [c40, c41, aa yx42, go_sem]
 obtain ⟨x44, yx44, h1⟩ := bs h1
 refine zc0 (R04_heat_ok k _ _ _ yx44) ?_ (by first | rfl | simp [AV.refsL, AV.refs, AV.scal, AV.leaf]) ?_
 try simp only [c40, c41, aa yx42, go_sem]
 try simp only [(by decide : inRange (2 : Int) 4 = some 2), c40, c41, aa yx42, go_sem]
 obtain ⟨x45, yx45, h1⟩ := bs h1
 refine zc0 (R01_Mod_ok k _ _ _ yx45) ?_ (by first | rfl | simp [AV.refsL, AV.refs, AV.scal, AV.leaf]) ?_
 try simp only [c40, c41, aa yx42, go_sem]
 try simp only [c40, c41, aa yx42, go_sem]
 refine AKev_region T_ok follows_ok 1000 ?_
 try simp only [(by decide : inRange (3 : Int) 4 = some 3), c40, c41, aa yx42, go_sem]
 obtain ⟨x46, yx46, h1⟩ := bs h1
 refine DG_call0 1000 (R01_Mod_ok k _ _ _ yx46) ?_ (by first | rfl | simp [AV.refsL, AV.refs, AV.scal, AV.leaf]) ?_
 try simp only [c40, c41, aa yx42, go_sem]
 try simp only [(by decide : inRange (1 : Int) 4 = some 1), c40, c41, aa yx42, go_sem]
 obtain ⟨x47, yx47, h1⟩ := bs h1
 refine DG_call0 1000 (R01_Mod_ok k _ _ _ yx47) ?_ (by first | rfl | simp [AV.refsL, AV.refs, AV.scal, AV.leaf]) ?_
 try simp only [c40, c41, aa yx42, go_sem]
 try simp only [c40, c41, aa yx42, go_sem]
 refine DG_done ⟨calm_of (by simp only [skel, List.reverse_cons, List.reverse_nil, List.nil_append, List.cons_append, List.map_cons, List.map_nil, List.append_nil]; rfl) (by first | decide +kernel | rfl), run_sound T_ok 1000 _ _ ?_⟩
 try simp only [c40, c41, aa yx42, go_sem]
 refine AKev_bif h1 ?_ ?_ <;> intro c48 h1
 try simp only [c48, c40, c41, aa yx42, go_sem]
 obtain ⟨l49, yl49, h1⟩ := bs h1
 have eyl49 := push_map Reading.c yl49
 have tyl49 := push_take Reading.c yl49
 have nyl49 := push_len yl49
 have myl49 := push_room yl49
 try simp only [c40, c41, aa yx42, c48, go_sem] at eyl49 tyl49 nyl49 myl49
 try simp only [myl49, eyl49, c40, c41, aa yx42, c48, nyl49, tyl49, go_sem]
 refine AKev_backB (hnext1 _ _ (Option.some.inj h1).symm ?_)
 refine Weak.go [1, 2, 3, 5, 6, 7, 15] [0, 1, 2, 3, 4, 5, 6, 7, 8, 9, 10, 11, 12] rfl ?_
 try simp only [R04_Made.h2, c40, c41, aa yx42, c48, eyl49, nyl49, tyl49, go_sem]
 try simp only [c48, c40, c41, aa yx42, go_sem]
 refine AKev_bif h1 ?_ ?_ <;> intro c50 h1
 try simp only [c50, c40, c41, aa yx42, c48, go_sem]
 obtain ⟨l51, yl51, h1⟩ := bs h1
 have eyl51 := push_map Reading.c yl51
 have tyl51 := push_take Reading.c yl51
 have nyl51 := push_len yl51
 have myl51 := push_room yl51
 try simp only [c40, c41, aa yx42, c48, c50, go_sem] at eyl51 tyl51 nyl51 myl51
 try simp only [myl51, eyl51, c40, c41, aa yx42, c48, c50, nyl51, tyl51, go_sem]
 refine AKev_backB (hnext1 _ _ (Option.some.inj h1).symm ?_)
 refine Weak.go [1, 2, 3, 5, 6, 7, 15] [0, 1, 2, 3, 4, 5, 6, 7, 8, 9, 10, 11, 12] rfl ?_
 try simp only [R04_Made.h2, c40, c41, aa yx42, c48, c50, eyl51, nyl51, tyl51, go_sem]
 try simp only [c50, c40, c41, aa yx42, c48, go_sem]
 obtain ⟨l52, yl52, h1⟩ := bs h1
 have eyl52 := push_map Reading.c yl52
 have tyl52 := push_take Reading.c yl52
 have nyl52 := push_len yl52
 have myl52 := push_room yl52
 try simp only [c40, c41, aa yx42, c48, c50, go_sem] at eyl52 tyl52 nyl52 myl52
 try simp only [myl52, eyl52, c40, c41, aa yx42, c48, c50, nyl52, tyl52, go_sem]
 refine AKev_backB (hnext1 _ _ (Option.some.inj h1).symm ?_)
 refine Weak.go [1, 2, 3, 5, 6, 7, 15] [0, 1, 2, 3, 4, 5, 6, 7, 8, 9, 10, 11, 12] rfl ?_
 try simp only [R04_Made.h2, c40, c41, aa yx42, c48, c50, eyl52, nyl52, tyl52, go_sem]
 try simp only [c41, c40, go_sem]
 refine AKev_backB (hbrk1 _ _ (Option.some.inj h1).symm ?_)
 refine Weak.go [2, 3, 6, 7] [1, 2, 3, 4, 5, 6, 7, 8, 9, 10, 11, 12] rfl ?_
 try simp only [R04_Made.x2, c40, c41, go_sem]
 try simp only [c40, go_sem]
 refine AKev_backB (hbrk1 _ _ (Option.some.inj h1).symm ?_)
 refine Weak.go [2, 3, 6, 7] [1, 2, 3, 4, 5, 6, 7, 8, 9, 10, 11, 12] rfl ?_
 try simp only [R04_Made.x2, c40, go_sem]
 rintro l39 hr_
 subst hr_
 simp only at h0
 refine rS ?_
 try simp only [R04_Made.x2, go_sem]
 refine AKev_region T_ok follows_ok 1000 ?_
 try simp only [go_sem]
 refine DG_done ⟨calm_of (by simp only [skel, List.reverse_cons, List.reverse_nil, List.nil_append, List.cons_append, List.map_cons, List.map_nil, List.append_nil]; rfl) (by first | decide +kernel | rfl), run_sound T_ok 1000 _ _ ?_⟩
 try simp only [go_sem]
 obtain rfl := Option.some.inj h0
 refine AKev_ret rfl ?_
 try simp only [F10.rs, go_sem]
def R04_Made_o.b1 (k : Nat) (r0 : R04_Raw) (x1 : Int) (x2 : Int) (i3 : Int) : (Int × (List Range) × (List Int)) → Option (Stp (Int × (List Range) × (List Int)) ((List Range) × (List Int)) (Firing × Field)) := fun (s : Int × (List Range) × (List Int)) => match s with
 | (i11, l12, l13) =>
   bif decide (i11 < w64 (1 + x2)) then
    bif decide ((0 : Int) < (r0.Falls.length : Int)) then
     (nz? (r0.Falls.length : Int)).bind fun _ =>
     (at? r0.Falls (Int.tmod (w64 ((w64 (i3 * (w64 (1 + x2)))) + i11)) (r0.Falls.length : Int))).bind fun x19 =>
     (R01_Mod k (w64 ((w64 ((w64 (i3 * 3)) + (w64 (i11 * 2)))) + (w64 (Int.tdiv x19.x0 7)))) 6).bind fun x20 =>
     (R01_Mod k x19.x0 120).bind fun x21 =>
     (push? 16 l12 (⟨w64 (20 + (w64 (110 * x20))), w64 ((w64 (20 + (w64 (110 * x20)))) + x21)⟩ : Range)).bind fun l22 =>
     (R01_Mod k x19.x1 (w64 (x21 + 1))).bind fun x23 =>
     (push? 8 l13 (w64 ((w64 (20 + (w64 (110 * x20)))) + x23))).bind fun l24 =>
     some (.next (w64 (i11 + 1), l22, l24))
    else
     (R01_Mod k (w64 ((w64 ((w64 (i3 * 3)) + (w64 (i11 * 2)))) + (w64 (Int.tdiv 0 7)))) 6).bind fun x25 =>
     (R01_Mod k 0 120).bind fun x26 =>
     (push? 16 l12 (⟨w64 (20 + (w64 (110 * x25))), w64 ((w64 (20 + (w64 (110 * x25)))) + x26)⟩ : Range)).bind fun l27 =>
     (R01_Mod k 0 (w64 (x26 + 1))).bind fun x28 =>
     (push? 8 l13 (w64 ((w64 (20 + (w64 (110 * x25)))) + x28))).bind fun l29 =>
     some (.next (w64 (i11 + 1), l27, l29))
   else
    some (.brk (l12, l13))
def R04_Made_o.b0 (k : Nat) (r0 : R04_Raw) (x1 : Int) (x2 : Int) : (Int × (List (List Range)) × (List Int) × (List (List Int))) → Option (Stp (Int × (List (List Range)) × (List Int) × (List (List Int))) ((List (List Range)) × (List Int) × (List (List Int))) (Firing × Field)) := fun (s : Int × (List (List Range)) × (List Int) × (List (List Int))) => match s with
 | (i3, l4, l5, l6) =>
   bif decide (i3 < w64 (1 + x1)) then
    (whl (R04_Made_o.b1 k r0 x1 x2 i3) k (0, [], [])).bind fun r30 => match r30 with
    | .next _ => none
    | .ret v_ => some (.ret v_)
    | .brk (l14, l15) =>
     (push? 24 l4 l14).bind fun l31 =>
     (push? 24 l6 l15).bind fun l32 =>
     (R01_At k r0.Heats i3).bind fun x33 =>
     (R01_Mod k x33 600).bind fun x34 =>
     (push? 8 l5 (w64 (1000 + x34))).bind fun l35 =>
     some (.next (w64 (i3 + 1), l31, l35, l32))
   else
    some (.brk (l4, l5, l6))
def R04_Made_o.b2 (k : Nat) (r0 : R04_Raw) (x1 : Int) (x2 : Int) (l8 : (List Int)) (l9 : (List (List Int))) : (Int × (List Reading)) → Option (Stp (Int × (List Reading)) ((List Reading)) (Firing × Field)) := fun (s : Int × (List Reading)) => match s with
 | (i37, l38) =>
   bif decide (i37 < (r0.Readings.length : Int)) then
    bif decide (i37 < (14 : Int)) then
     (at? r0.Readings i37).bind fun x42 =>
     (R01_Mod k x42.x0 (w64 (1 + x2))).bind fun x43 =>
     (R04_heat k (⟨l8, l9⟩ : Field) x43).bind fun x44 =>
     (R01_Mod k x42.x2 90).bind fun x45 =>
     (R01_Mod k x42.x3 12).bind fun x46 =>
     (R01_Mod k x42.x1 3).bind fun x47 =>
     bif decide (w64 (1 + x47) = (1 : Int)) then
      (push? 48 l38 (⟨w64 (1 + x46), x43, w64 (1 + x47), min (max (w64 (x44 - x45)) 1) 2000, (⟨0, 0⟩ : Range)⟩ : Reading)).bind fun l49 =>
      some (.next (w64 (i37 + 1), l49))
     else
      bif decide (w64 (1 + x47) = (2 : Int)) then
       (push? 48 l38 (⟨w64 (1 + x46), x43, w64 (1 + x47), min (max (w64 ((w64 (x44 + 1)) + x45)) 1) 2000, (⟨0, 0⟩ : Range)⟩ : Reading)).bind fun l51 =>
       some (.next (w64 (i37 + 1), l51))
      else
       (push? 48 l38 (⟨w64 (1 + x46), x43, w64 (1 + x47), 0, (⟨max (w64 (x44 - (w64 (Int.tdiv x45 2)))) 1, min (w64 (x44 + x45)) 2000⟩ : Range)⟩ : Reading)).bind fun l52 =>
       some (.next (w64 (i37 + 1), l52))
    else
     some (.brk l38)
   else
    some (.brk l38)
noncomputable def R04_Made_o.h1 (H : Heap) (r0 : R04_Raw) (x1 : Int) (x2 : Int) (i3 : Int) (l4 : (List (List Range))) (l5 : (List Int)) (l6 : (List (List Int))) : (Int × (List Range) × (List Int)) → St := fun (s : Int × (List Range) × (List Int)) => match s with
 | (i11, l12, l13) => ⟨[(1, .ptr 0 0 0), (2, .ptr 0 1 0), (3, .ptr 0 4 0), (4, .int .i64 (w64 (1 + x1))), (5, .int .i64 (w64 (1 + x2))), (6, .ptr 0 7 0), (7, .ptr 0 10 0), (8, .int .i64 i3), (9, .loc 0 13 2 0 l12.length l12.length), (10, .loc 0 14 1 0 l13.length l13.length), (11, .int .i64 i11)], [(0, .box [.int .i64 r0.Mouths, .int .i64 r0.Places, .sl 2 (List.map (A2.c eI) r0.Falls), .sl 1 (List.map eI r0.Heats), .sl 4 (List.map (A4.c eI) r0.Readings)]), (1, .box [.loc 0 2 1 0 0 0, .loc 0 3 6 0 0 0]), (2, .arr 40 1 (List.map (eL 2 Range.c) [])), (3, .arr 60 6 (List.map Reading.c [])), (4, .box [.loc 0 5 1 0 0 0, .loc 0 6 1 0 0 0]), (5, .arr 3 1 (List.map eI [])), (6, .arr 23 1 (List.map (eL 1 eI) [])), (7, .box [.loc 0 8 1 0 l4.length l4.length, .loc 0 9 6 0 0 0]), (8, .arr 40 1 (List.map (eL 2 Range.c) l4)), (9, .arr 60 6 (List.map Reading.c [])), (10, .box [.loc 0 11 1 0 l5.length l5.length, .loc 0 12 1 0 l6.length l6.length]), (11, .arr 3 1 (List.map eI l5)), (12, .arr 23 1 (List.map (eL 1 eI) l6)), (13, .arr 39 2 (List.map Range.c l12)), (14, .arr 3 1 (List.map eI l13))], H, 15, Try.f10.ntmps⟩
noncomputable def R04_Made_o.x1 (H : Heap) (r0 : R04_Raw) (x1 : Int) (x2 : Int) (i3 : Int) (l4 : (List (List Range))) (l5 : (List Int)) (l6 : (List (List Int))) : ((List Range) × (List Int)) → St := fun (s : (List Range) × (List Int)) => match s with
 | (l14, l15) => ⟨[(1, .ptr 0 0 0), (2, .ptr 0 1 0), (3, .ptr 0 4 0), (4, .int .i64 (w64 (1 + x1))), (5, .int .i64 (w64 (1 + x2))), (6, .ptr 0 7 0), (7, .ptr 0 10 0), (8, .int .i64 i3), (9, .loc 0 13 2 0 l14.length l14.length), (10, .loc 0 14 1 0 l15.length l15.length)], [(0, .box [.int .i64 r0.Mouths, .int .i64 r0.Places, .sl 2 (List.map (A2.c eI) r0.Falls), .sl 1 (List.map eI r0.Heats), .sl 4 (List.map (A4.c eI) r0.Readings)]), (1, .box [.loc 0 2 1 0 0 0, .loc 0 3 6 0 0 0]), (2, .arr 40 1 (List.map (eL 2 Range.c) [])), (3, .arr 60 6 (List.map Reading.c [])), (4, .box [.loc 0 5 1 0 0 0, .loc 0 6 1 0 0 0]), (5, .arr 3 1 (List.map eI [])), (6, .arr 23 1 (List.map (eL 1 eI) [])), (7, .box [.loc 0 8 1 0 l4.length l4.length, .loc 0 9 6 0 0 0]), (8, .arr 40 1 (List.map (eL 2 Range.c) l4)), (9, .arr 60 6 (List.map Reading.c [])), (10, .box [.loc 0 11 1 0 l5.length l5.length, .loc 0 12 1 0 l6.length l6.length]), (11, .arr 3 1 (List.map eI l5)), (12, .arr 23 1 (List.map (eL 1 eI) l6)), (13, .arr 39 2 (List.map Range.c l14)), (14, .arr 3 1 (List.map eI l15))], H, 15, Try.f10.ntmps⟩
noncomputable def R04_Made_o.h0 (H : Heap) (r0 : R04_Raw) (x1 : Int) (x2 : Int) : (Int × (List (List Range)) × (List Int) × (List (List Int))) → St := fun (s : Int × (List (List Range)) × (List Int) × (List (List Int))) => match s with
 | (i3, l4, l5, l6) => ⟨[(1, .ptr 0 0 0), (2, .ptr 0 1 0), (3, .ptr 0 4 0), (4, .int .i64 (w64 (1 + x1))), (5, .int .i64 (w64 (1 + x2))), (6, .ptr 0 7 0), (7, .ptr 0 10 0), (8, .int .i64 i3)], [(0, .box [.int .i64 r0.Mouths, .int .i64 r0.Places, .sl 2 (List.map (A2.c eI) r0.Falls), .sl 1 (List.map eI r0.Heats), .sl 4 (List.map (A4.c eI) r0.Readings)]), (1, .box [.loc 0 2 1 0 0 0, .loc 0 3 6 0 0 0]), (2, .arr 40 1 (List.map (eL 2 Range.c) [])), (3, .arr 60 6 (List.map Reading.c [])), (4, .box [.loc 0 5 1 0 0 0, .loc 0 6 1 0 0 0]), (5, .arr 3 1 (List.map eI [])), (6, .arr 23 1 (List.map (eL 1 eI) [])), (7, .box [.loc 0 8 1 0 l4.length l4.length, .loc 0 9 6 0 0 0]), (8, .arr 40 1 (List.map (eL 2 Range.c) l4)), (9, .arr 60 6 (List.map Reading.c [])), (10, .box [.loc 0 11 1 0 l5.length l5.length, .loc 0 12 1 0 l6.length l6.length]), (11, .arr 3 1 (List.map eI l5)), (12, .arr 23 1 (List.map (eL 1 eI) l6))], H, 13, Try.f10.ntmps⟩
noncomputable def R04_Made_o.x0 (H : Heap) (r0 : R04_Raw) (x2 : Int) : ((List (List Range)) × (List Int) × (List (List Int))) → St := fun (s : (List (List Range)) × (List Int) × (List (List Int))) => match s with
 | (l7, l8, l9) => ⟨[(1, .ptr 0 0 0), (2, .ptr 0 1 0), (3, .ptr 0 4 0), (5, .int .i64 (w64 (1 + x2))), (6, .ptr 0 7 0), (7, .ptr 0 10 0)], [(0, .box [.int .i64 r0.Mouths, .int .i64 r0.Places, .sl 2 (List.map (A2.c eI) r0.Falls), .sl 1 (List.map eI r0.Heats), .sl 4 (List.map (A4.c eI) r0.Readings)]), (1, .box [.loc 0 2 1 0 0 0, .loc 0 3 6 0 0 0]), (2, .arr 40 1 (List.map (eL 2 Range.c) [])), (3, .arr 60 6 (List.map Reading.c [])), (4, .box [.loc 0 5 1 0 0 0, .loc 0 6 1 0 0 0]), (5, .arr 3 1 (List.map eI [])), (6, .arr 23 1 (List.map (eL 1 eI) [])), (7, .box [.loc 0 8 1 0 l7.length l7.length, .loc 0 9 6 0 0 0]), (8, .arr 40 1 (List.map (eL 2 Range.c) l7)), (9, .arr 60 6 (List.map Reading.c [])), (10, .box [.loc 0 11 1 0 l8.length l8.length, .loc 0 12 1 0 l9.length l9.length]), (11, .arr 3 1 (List.map eI l8)), (12, .arr 23 1 (List.map (eL 1 eI) l9))], H, 13, Try.f10.ntmps⟩
noncomputable def R04_Made_o.h2 (H : Heap) (r0 : R04_Raw) (x2 : Int) (l7 : (List (List Range))) (l8 : (List Int)) (l9 : (List (List Int))) : (Int × (List Reading)) → St := fun (s : Int × (List Reading)) => match s with
 | (i37, l38) => ⟨[(1, .ptr 0 0 0), (2, .ptr 0 1 0), (3, .ptr 0 4 0), (5, .int .i64 (w64 (1 + x2))), (6, .ptr 0 7 0), (7, .ptr 0 10 0), (15, .int .i64 i37)], [(0, .box [.int .i64 r0.Mouths, .int .i64 r0.Places, .sl 2 (List.map (A2.c eI) r0.Falls), .sl 1 (List.map eI r0.Heats), .sl 4 (List.map (A4.c eI) r0.Readings)]), (1, .box [.loc 0 2 1 0 0 0, .loc 0 3 6 0 0 0]), (2, .arr 40 1 (List.map (eL 2 Range.c) [])), (3, .arr 60 6 (List.map Reading.c [])), (4, .box [.loc 0 5 1 0 0 0, .loc 0 6 1 0 0 0]), (5, .arr 3 1 (List.map eI [])), (6, .arr 23 1 (List.map (eL 1 eI) [])), (7, .box [.loc 0 8 1 0 l7.length l7.length, .loc 0 9 6 0 l38.length l38.length]), (8, .arr 40 1 (List.map (eL 2 Range.c) l7)), (9, .arr 60 6 (List.map Reading.c l38)), (10, .box [.loc 0 11 1 0 l8.length l8.length, .loc 0 12 1 0 l9.length l9.length]), (11, .arr 3 1 (List.map eI l8)), (12, .arr 23 1 (List.map (eL 1 eI) l9))], H, 13, Try.f10.ntmps⟩
noncomputable def R04_Made_o.x2 (H : Heap) (l7 : (List (List Range))) (l8 : (List Int)) (l9 : (List (List Int))) : (List Reading) → St := fun (l39 : (List Reading)) => ⟨[(2, .ptr 0 0 0), (3, .ptr 0 3 0), (6, .ptr 0 6 0), (7, .ptr 0 9 0)], [(0, .box [.loc 0 1 1 0 0 0, .loc 0 2 6 0 0 0]), (1, .arr 40 1 (List.map (eL 2 Range.c) [])), (2, .arr 60 6 (List.map Reading.c [])), (3, .box [.loc 0 4 1 0 0 0, .loc 0 5 1 0 0 0]), (4, .arr 3 1 (List.map eI [])), (5, .arr 23 1 (List.map (eL 1 eI) [])), (6, .box [.loc 0 7 1 0 l7.length l7.length, .loc 0 8 6 0 l39.length l39.length]), (7, .arr 40 1 (List.map (eL 2 Range.c) l7)), (8, .arr 60 6 (List.map Reading.c l39)), (9, .box [.loc 0 10 1 0 l8.length l8.length, .loc 0 11 1 0 l9.length l9.length]), (10, .arr 3 1 (List.map eI l8)), (11, .arr 23 1 (List.map (eL 1 eI) l9))], H, 12, Try.f10.ntmps⟩
def R04_Made_o (k : Nat) (r0 : R04_Raw) : Option (Firing × Field) :=
 (R01_Mod k r0.Mouths 4).bind fun x1 =>
 (R01_Mod k r0.Places 7).bind fun x2 =>
 (whl (R04_Made_o.b0 k r0 x1 x2) k (0, [], [], [])).bind fun r36 => match r36 with
 | .next _ => none
 | .ret v_ => some v_
 | .brk (l7, l8, l9) =>
  (whl (R04_Made_o.b2 k r0 x1 x2 l8 l9) k (0, [])).bind fun r53 => match r53 with
  | .next _ => none
  | .ret v_ => some v_
  | .brk l39 =>
   some ((⟨(⟨l7⟩ : Kiln), l39⟩ : Firing), (⟨l8, l9⟩ : Field))
def F42.c : SC :=
 (.seq
 (.reg [sb 6 false 4 [6]])
 (.seq
 (.reg [mv 7 0 3 [],
 mv 8 1 3 [1],
 b2 9 .geq 3 7 8 3 4 [7, 8],
 mv 10 9 4 [9],
 og 11 (.move (.tmp 0)) 3 10 true [0],
 og 12 (.move (.tmp 2)) 3 10 true [2],
 og 13 (.binOp .leq 3 (.tmp 11) (.tmp 12) 3) 4 10 true [11, 12],
 oq 14 (.pick (.tmp 10) (.tmp 13) (.const (.bool false))) 4 [10, 13],
 sg 6 14 4 [14]])
 .ret))
theorem F42.rs : Try.f42.results.toList = [.tmp 6] := rfl
def heat_in (k : Nat) (n0 : Int) (low1 : Int) (high2 : Int) : Option (Bool) :=
 bif decide (low1 ≤ n0) then
  some (decide (n0 ≤ high2))
 else
  some false
theorem heat_in_ok (k : Nat) (n0 : Int) (low1 : Int) (high2 : Int) (r : Bool) (h0 : heat_in k n0 low1 high2 = some r) : PCall Try.prog 42 [.int .i64 n0, .int .i64 low1, .int .i64 high2] (fun y => y = .bool r) := by
 refine PB (fn := Try.f42) (sc := F42.c) ?_
 refine rS ?_
 simp only [heat_in] at h0
 try simp only [F42.c, go_sem]
 refine AKev_bif h0 ?_ ?_ <;> intro c1 h0
 try simp only [c1, go_sem]
 obtain rfl := Option.some.inj h0
 refine AKev_ret rfl ?_
 try simp only [F42.rs, c1, go_sem]
 try simp only [c1, go_sem]
 obtain rfl := Option.some.inj h0
 refine AKev_ret rfl ?_
 try simp only [F42.rs, c1, go_sem]
def F53.c : SC :=
 (.seq
 (.reg [oq 3 (.box 60 (.tmp 1)) 0 [1],
 sb 4 false 4 [4]])
 (.seq
 (.seq
 (.reg [fa 5 60 3 0 [],
 ld 6 3 5 [5],
 oq 7 (.call ⟨.value (.func 42), #[.tmp 6, .const (.int .i64 1), .const (.int .i64 99999)], #[3, 3, 3]⟩) 4 [6],
 oq 8 (.unOp .not 4 (.tmp 7)) 4 [7],
 mv 9 8 4 [8],
 og 10 (.fieldAddr 60 (.tmp 3) 1) 0 9 false [],
 og 11 (.load 3 (.tmp 10)) 3 9 false [10],
 og 12 (.move (.tmp 0)) 3 9 false [0],
 og 13 (.binOp .sub 3 (.tmp 12) (.const (.int .i64 1)) 3) 3 9 false [12],
 og 14 (.call ⟨.value (.func 42), #[.tmp 11, .const (.int .i64 0), .tmp 13], #[3, 3, 3]⟩) 4 9 false [11, 13],
 og 15 (.unOp .not 4 (.tmp 14)) 4 9 false [14],
 oq 16 (.pick (.tmp 9) (.const (.bool true)) (.tmp 15)) 4 [9, 15]])
 (.cond (.tmp 16)
 (.seq
 (.reg [sb 4 false 4 []])
 .ret)
 .skip))
 (.seq
 (.seq
 (.reg [fa 17 60 3 2 [],
 ld 18 3 17 [17]])
 (.block 0
 (.seq
 (.seq
 (.reg [bn 20 .eql 3 18 1 3 4 [],
 sg 19 20 4 [20]])
 (.cond (.tmp 19)
 .skip
 (.reg [bn 21 .eql 3 18 2 3 4 [],
 sg 19 21 4 [21]])))
 (.cond (.tmp 19)
 (.seq
 (.reg [fa 22 60 3 3 [],
 ld 23 3 22 [22],
 oq 24 (.call ⟨.value (.func 42), #[.tmp 23, .const (.int .i64 1), .const (.int .i64 2000)], #[3, 3, 3]⟩) 4 [23],
 mv 25 24 4 [24],
 og 26 (.fieldAddr 60 (.tmp 3) 4) 0 25 true [3],
 og 27 (.load 39 (.tmp 26)) 39 25 true [26],
 og 28 (.build 39 #[]) 39 25 true [],
 og 29 (.binOp .eql 39 (.tmp 27) (.tmp 28) 39) 4 25 true [27, 28],
 oq 30 (.pick (.tmp 25) (.tmp 29) (.const (.bool false))) 4 [25, 29],
 sg 4 30 4 [30]])
 .ret)
 (.seq
 (.reg [bn 32 .eql 3 18 3 3 4 [18],
 sg 31 32 4 [32]])
 (.cond (.tmp 31)
 (.seq
 (.reg [fa 33 60 3 3 [],
 ld 34 3 33 [33],
 bn 35 .eql 3 34 0 3 4 [34],
 mv 36 35 4 [35],
 og 37 (.fieldAddr 60 (.tmp 3) 4) 0 36 true [],
 og 38 (.fieldAddr 39 (.tmp 37) 0) 0 36 true [37],
 og 39 (.load 3 (.tmp 38)) 3 36 true [38],
 og 40 (.binOp .geq 3 (.tmp 39) (.const (.int .i64 1)) 3) 4 36 true [39],
 oq 41 (.pick (.tmp 36) (.tmp 40) (.const (.bool false))) 4 [36, 40],
 mv 42 41 4 [41],
 og 43 (.fieldAddr 60 (.tmp 3) 4) 0 42 true [],
 og 44 (.fieldAddr 39 (.tmp 43) 0) 0 42 true [43],
 og 45 (.load 3 (.tmp 44)) 3 42 true [44],
 og 46 (.fieldAddr 60 (.tmp 3) 4) 0 42 true [],
 og 47 (.fieldAddr 39 (.tmp 46) 1) 0 42 true [46],
 og 48 (.load 3 (.tmp 47)) 3 42 true [47],
 og 49 (.binOp .leq 3 (.tmp 45) (.tmp 48) 3) 4 42 true [45, 48],
 oq 50 (.pick (.tmp 42) (.tmp 49) (.const (.bool false))) 4 [42, 49],
 mv 51 50 4 [50],
 og 52 (.fieldAddr 60 (.tmp 3) 4) 0 51 true [3],
 og 53 (.fieldAddr 39 (.tmp 52) 1) 0 51 true [52],
 og 54 (.load 3 (.tmp 53)) 3 51 true [53],
 og 55 (.binOp .leq 3 (.tmp 54) (.const (.int .i64 2000)) 3) 4 51 true [54],
 oq 56 (.pick (.tmp 51) (.tmp 55) (.const (.bool false))) 4 [51, 55],
 sg 4 56 4 [56]])
 .ret)
 .skip))))))
 (.seq
 (.reg [sb 4 false 4 []])
 .ret))))
theorem F53.rs : Try.f53.results.toList = [.tmp 4] := rfl
def heat_isReading (k : Nat) (places0 : Int) (r1 : Reading) : Option (Bool) :=
 (heat_in k r1.Source 1 99999).bind fun x1 =>
 bif x1 then
  (heat_in k r1.Place 0 (w64 (places0 - 1))).bind fun x3 =>
  bif (!x3) then
   some false
  else
   bif decide (r1.Kind = (1 : Int)) then
    (heat_in k r1.Mark 1 2000).bind fun x6 =>
    bif x6 then
     some (decide (r1.Heat.Lo = (0 : Int)) && decide (r1.Heat.Hi = (0 : Int)))
    else
     some false
   else
    bif decide (r1.Kind = (2 : Int)) then
     (heat_in k r1.Mark 1 2000).bind fun x9 =>
     bif x9 then
      some (decide (r1.Heat.Lo = (0 : Int)) && decide (r1.Heat.Hi = (0 : Int)))
     else
      some false
    else
     bif decide (r1.Kind = (3 : Int)) then
      bif decide (r1.Mark = (0 : Int)) then
       bif decide ((1 : Int) ≤ r1.Heat.Lo) then
        bif decide (r1.Heat.Lo ≤ r1.Heat.Hi) then
         some (decide (r1.Heat.Hi ≤ (2000 : Int)))
        else
         some false
       else
        some false
      else
       some false
     else
      some false
 else
  some false
theorem heat_isReading_ok (k : Nat) (places0 : Int) (r1 : Reading) (r : Bool) (h0 : heat_isReading k places0 r1 = some r) : PCall Try.prog 53 [.int .i64 places0, .agg (Reading.c r1)] (fun y => y = .bool r) := by
 refine PB (fn := Try.f53) (sc := F53.c) ?_
 refine rS ?_
 simp only [heat_isReading] at h0
 try simp only [F53.c, go_sem]
 obtain ⟨x1, yx1, h0⟩ := bs h0
 refine zc0 (heat_in_ok k _ _ _ _ yx1) ?_ (by first | rfl | simp [AV.refsL, AV.refs, AV.scal, AV.leaf]) ?_
 try simp only [go_sem]
 try simp only [go_sem]
 refine AKev_bif h0 ?_ ?_ <;> intro c2 h0
 try simp only [c2, go_sem]
 obtain ⟨x3, yx3, h0⟩ := bs h0
 refine zc0 (heat_in_ok k _ _ _ _ yx3) ?_ (by first | rfl | simp [AV.refsL, AV.refs, AV.scal, AV.leaf]) ?_
 try simp only [c2, go_sem]
 try simp only [c2, go_sem]
 refine AKev_bif h0 ?_ ?_ <;> intro c4 h0
 have c4 := bnot_t c4
 try simp only [c4, c2, go_sem]
 obtain rfl := Option.some.inj h0
 refine AKev_ret rfl ?_
 try simp only [F53.rs, c2, c4, go_sem]
 have c4 := bnot_f c4
 try simp only [c4, c2, go_sem]
 refine AKev_bif h0 ?_ ?_ <;> intro c5 h0
 try simp only [c5, c2, c4, go_sem]
 obtain ⟨x6, yx6, h0⟩ := bs h0
 refine zc0 (heat_in_ok k _ _ _ _ yx6) ?_ (by first | rfl | simp [AV.refsL, AV.refs, AV.scal, AV.leaf]) ?_
 try simp only [c2, c4, c5, go_sem]
 try simp only [c2, c4, c5, go_sem]
 refine AKev_bif h0 ?_ ?_ <;> intro c7 h0
 try simp only [c7, c2, c4, c5, go_sem]
 obtain rfl := Option.some.inj h0
 refine AKev_ret rfl ?_
 try simp only [F53.rs, c2, c4, c5, c7, go_sem]
 try simp only [c7, c2, c4, c5, go_sem]
 obtain rfl := Option.some.inj h0
 refine AKev_ret rfl ?_
 try simp only [F53.rs, c2, c4, c5, c7, go_sem]
 try simp only [c5, c2, c4, go_sem]
 refine AKev_bif h0 ?_ ?_ <;> intro c8 h0
 try simp only [c8, c2, c4, c5, go_sem]
 obtain ⟨x9, yx9, h0⟩ := bs h0
 refine zc0 (heat_in_ok k _ _ _ _ yx9) ?_ (by first | rfl | simp [AV.refsL, AV.refs, AV.scal, AV.leaf]) ?_
 try simp only [c2, c4, c5, c8, go_sem]
 try simp only [c2, c4, c5, c8, go_sem]
 refine AKev_bif h0 ?_ ?_ <;> intro c10 h0
 try simp only [c10, c2, c4, c5, c8, go_sem]
 obtain rfl := Option.some.inj h0
 refine AKev_ret rfl ?_
 try simp only [F53.rs, c2, c4, c5, c8, c10, go_sem]
 try simp only [c10, c2, c4, c5, c8, go_sem]
 obtain rfl := Option.some.inj h0
 refine AKev_ret rfl ?_
 try simp only [F53.rs, c2, c4, c5, c8, c10, go_sem]
 try simp only [c8, c2, c4, c5, go_sem]
 refine AKev_bif h0 ?_ ?_ <;> intro c11 h0
 try simp only [c11, c2, c4, c5, c8, go_sem]
 refine AKev_bif h0 ?_ ?_ <;> intro c12 h0
 try simp only [c12, c2, c4, c5, c8, c11, go_sem]
 refine AKev_bif h0 ?_ ?_ <;> intro c13 h0
 try simp only [c13, c2, c4, c5, c8, c11, c12, go_sem]
 refine AKev_bif h0 ?_ ?_ <;> intro c14 h0
 try simp only [c14, c2, c4, c5, c8, c11, c12, c13, go_sem]
 obtain rfl := Option.some.inj h0
 refine AKev_ret rfl ?_
 try simp only [F53.rs, c2, c4, c5, c8, c11, c12, c13, c14, go_sem]
 try simp only [c14, c2, c4, c5, c8, c11, c12, c13, go_sem]
 obtain rfl := Option.some.inj h0
 refine AKev_ret rfl ?_
 try simp only [F53.rs, c2, c4, c5, c8, c11, c12, c13, c14, go_sem]
 try simp only [c13, c2, c4, c5, c8, c11, c12, go_sem]
 obtain rfl := Option.some.inj h0
 refine AKev_ret rfl ?_
 try simp only [F53.rs, c2, c4, c5, c8, c11, c12, c13, go_sem]
 try simp only [c12, c2, c4, c5, c8, c11, go_sem]
 obtain rfl := Option.some.inj h0
 refine AKev_ret rfl ?_
 try simp only [F53.rs, c2, c4, c5, c8, c11, c12, go_sem]
 try simp only [c11, c2, c4, c5, c8, go_sem]
 obtain rfl := Option.some.inj h0
 refine AKev_ret rfl ?_
 try simp only [F53.rs, c2, c4, c5, c8, c11, go_sem]
 try simp only [c2, go_sem]
 obtain rfl := Option.some.inj h0
 refine AKev_ret rfl ?_
 try simp only [F53.rs, c2, go_sem]
def F109.s0 : SC :=
 (.seq
 (.reg [b2 9 .lss 3 8 7 3 0 []])
 (.seq
 (.cond (.tmp 9)
 .skip
 (.exit 0))
 (.seq
 (.block 1
 (.seq
 (.reg [mv 10 8 3 [],
 sg 5 10 3 [10]])
 (.seq
 (.reg [mv 11 1 149 [],
 mv 12 0 40 [],
 mv 13 5 3 [],
 ia 14 40 12 13 [12, 13],
 ld 15 39 14 [14],
 oq 16 (.call ⟨.value (.tmp 11), #[.tmp 15], #[39]⟩) 4 [11, 15]])
 (.cond (.tmp 16)
 (.seq
 (.reg [mv 17 5 3 [5],
 sg 4 17 3 [17]])
 .ret)
 .skip))))
 (.reg [bn 18 .add 3 8 1 3 3 [8],
 mv 8 18 3 [18]]))))
def F109.c : SC :=
 (.seq
 (.reg [sn 4 0 3 [4]])
 (.seq
 (.seq
 (.reg [mv 6 0 40 [],
 ln 7 6 40 3 [6],
 oq 8 (.move (.const (.int .i64 0))) 3 []])
 (.block 0
 (.loop F109.s0)))
 (.seq
 (.reg [sn 4 (-1) 3 []])
 .ret)))
theorem F109.rs : Try.f109.results.toList = [.tmp 4] := rfl
def slices_IndexFunc_api_Range.b0 (k : Nat) (f1 : Range → Option (Bool)) (s0 : (List Range)) : Int → Option (Stp (Int) (Unit) (Int)) := fun (i1 : Int) =>
 bif decide (i1 < (s0.length : Int)) then
  (at? s0 i1).bind fun x3 =>
  (f1 x3).bind fun x4 =>
  bif x4 then
   some (.ret i1)
  else
   some (.next (w64 (i1 + 1)))
 else
  some (.brk ())
noncomputable def slices_IndexFunc_api_Range.h0 (f1_f : Nat) (f1_c : List AV) (s0 : (List Range)) : Int → St := fun (i1 : Int) => ⟨[(0, .sl 2 (List.map Range.c s0)), (1, .fn (.func f1_f) [] f1_c), (7, .int .i64 (s0.length : Int)), (8, .int .i64 i1)], [], [], 1, Try.f109.ntmps⟩
noncomputable def slices_IndexFunc_api_Range.x0 : Unit → St := fun (_ : Unit) => ⟨[], [], [], 1, Try.f109.ntmps⟩
def slices_IndexFunc_api_Range (k : Nat) (s0 : (List Range)) (f1 : Range → Option (Bool)) : Option (Int) :=
 (whl (slices_IndexFunc_api_Range.b0 k f1 s0) k 0).bind fun r6 => match r6 with
 | .next _ => none
 | .ret v_ => some v_
 | .brk _ =>
  some (-1)
theorem slices_IndexFunc_api_Range_ok (k : Nat) (s0 : (List Range)) (f1_f : Nat) (f1_c : List AV) (f1_i : Ice f1_c) (f1 : Range → Option (Bool)) (f1_h : ∀ q0 qr, f1 q0 = some qr → PCall Try.prog f1_f (.agg (Range.c q0) :: f1_c) (fun y => y = .bool qr)) (r : Int) (h0 : slices_IndexFunc_api_Range k s0 f1 = some r) : PCall Try.prog 109 [.sl 2 (List.map Range.c s0), .fn (.func f1_f) [] f1_c] (fun y => y = .int .i64 r) := by
 refine PB (fn := Try.f109) (sc := F109.c) ?_
 refine rS ?_
 simp only [slices_IndexFunc_api_Range] at h0
 try simp only [F109.c, f1_i.sh, f1_i.frz, f1_i.br, f1_i.refs, f1_i.imp, f1_i.ren, f1_i.un, go_sem]
 obtain ⟨r6, yr6, h0⟩ := bs h0
 refine AKev_loopS yr6 (slices_IndexFunc_api_Range.h0 f1_f f1_c s0) (slices_IndexFunc_api_Range.x0) ?_ ?_ ?_
 refine Weak.go [0, 1, 7, 8] [] rfl ?_
 try simp only [slices_IndexFunc_api_Range.h0, f1_i.sh, f1_i.frz, f1_i.br, f1_i.refs, f1_i.imp, f1_i.ren, f1_i.un, go_sem]
 rintro i1 x_1 Bk1 Br1 h1 hnext1 hbrk1 hret1
 refine rS ?_
 simp only [slices_IndexFunc_api_Range.b0] at h1
 try simp only [F109.s0, slices_IndexFunc_api_Range.h0, f1_i.sh, f1_i.frz, f1_i.br, f1_i.refs, f1_i.imp, f1_i.ren, f1_i.un, go_sem]
 refine AKev_bif h1 ?_ ?_ <;> intro c2 h1
 try simp only [c2, f1_i.sh, f1_i.frz, f1_i.br, f1_i.refs, f1_i.imp, f1_i.ren, f1_i.un, go_sem]
 obtain ⟨x3, yx3, h1⟩ := bs h1
 try simp only [aa yx3, f1_i.sh, f1_i.frz, f1_i.br, f1_i.refs, f1_i.imp, f1_i.ren, f1_i.un, c2, go_sem]
 obtain ⟨x4, yx4, h1⟩ := bs h1
 refine zc0 (f1_h _ _ yx4) ?_ (by first | rfl | simp [AV.refsL, AV.refs, AV.scal, AV.leaf, f1_i.refs]) ?_
 try simp only [f1_i.sh, f1_i.frz, f1_i.br, f1_i.refs, f1_i.imp, f1_i.ren, f1_i.un, c2, aa yx3, go_sem]
 try simp only [f1_i.sh, f1_i.frz, f1_i.br, f1_i.refs, f1_i.imp, f1_i.ren, f1_i.un, c2, aa yx3, go_sem]
 refine AKev_bif h1 ?_ ?_ <;> intro c5 h1
 try simp only [c5, f1_i.sh, f1_i.frz, f1_i.br, f1_i.refs, f1_i.imp, f1_i.ren, f1_i.un, c2, aa yx3, go_sem]
 obtain rfl := hret1 _ (Option.some.inj h1).symm
 simp only at h0
 obtain rfl := Option.some.inj h0
 refine AKev_ret rfl ?_
 try simp only [F109.rs, f1_i.sh, f1_i.frz, f1_i.br, f1_i.refs, f1_i.imp, f1_i.ren, f1_i.un, c2, aa yx3, c5, go_sem]
 try simp only [c5, f1_i.sh, f1_i.frz, f1_i.br, f1_i.refs, f1_i.imp, f1_i.ren, f1_i.un, c2, aa yx3, go_sem]
 refine AKev_backB (hnext1 _ _ (Option.some.inj h1).symm ?_)
 refine Weak.go [0, 1, 7, 8] [] rfl ?_
 try simp only [slices_IndexFunc_api_Range.h0, f1_i.sh, f1_i.frz, f1_i.br, f1_i.refs, f1_i.imp, f1_i.ren, f1_i.un, c2, aa yx3, c5, go_sem]
 try simp only [c2, f1_i.sh, f1_i.frz, f1_i.br, f1_i.refs, f1_i.imp, f1_i.ren, f1_i.un, go_sem]
 refine AKev_backB (hbrk1 _ _ (Option.some.inj h1).symm ?_)
 refine Weak.go [] [] rfl ?_
 try simp only [slices_IndexFunc_api_Range.x0, f1_i.sh, f1_i.frz, f1_i.br, f1_i.refs, f1_i.imp, f1_i.ren, f1_i.un, c2, go_sem]
 rintro _ hr_
 subst hr_
 simp only at h0
 refine rS ?_
 try simp only [slices_IndexFunc_api_Range.x0, f1_i.sh, f1_i.frz, f1_i.br, f1_i.refs, f1_i.imp, f1_i.ren, f1_i.un, go_sem]
 obtain rfl := Option.some.inj h0
 refine AKev_ret rfl ?_
 try simp only [F109.rs, f1_i.sh, f1_i.frz, f1_i.br, f1_i.refs, f1_i.imp, f1_i.ren, f1_i.un, go_sem]
def F94.c : SC :=
 (.seq
 (.reg [sb 4 false 4 [4]])
 (.seq
 (.reg [mv 5 0 40 [0],
 mv 6 1 149 [1],
 cf2 7 109 5 6 40 149 3 [5, 6],
 bn 8 .geq 3 7 0 3 4 [7],
 sg 4 8 4 [8]])
 .ret))
theorem F94.rs : Try.f94.results.toList = [.tmp 4] := rfl
def slices_ContainsFunc_api_Range (k : Nat) (s0 : (List Range)) (f1 : Range → Option (Bool)) : Option (Bool) :=
 (slices_IndexFunc_api_Range k s0 f1).bind fun x1 =>
 some (decide ((0 : Int) ≤ x1))
theorem slices_ContainsFunc_api_Range_ok (k : Nat) (s0 : (List Range)) (f1_f : Nat) (f1_c : List AV) (f1_i : Ice f1_c) (f1 : Range → Option (Bool)) (f1_h : ∀ q0 qr, f1 q0 = some qr → PCall Try.prog f1_f (.agg (Range.c q0) :: f1_c) (fun y => y = .bool qr)) (r : Bool) (h0 : slices_ContainsFunc_api_Range k s0 f1 = some r) : PCall Try.prog 94 [.sl 2 (List.map Range.c s0), .fn (.func f1_f) [] f1_c] (fun y => y = .bool r) := by
 refine PB (fn := Try.f94) (sc := F94.c) ?_
 refine rS ?_
 simp only [slices_ContainsFunc_api_Range] at h0
 try simp only [F94.c, f1_i.sh, f1_i.frz, f1_i.br, f1_i.refs, f1_i.imp, f1_i.ren, f1_i.un, go_sem]
 obtain ⟨x1, yx1, h0⟩ := bs h0
 refine zc0 (slices_IndexFunc_api_Range_ok k _ f1_f f1_c f1_i f1 f1_h _ yx1) ?_ (by first | rfl | simp [AV.refsL, AV.refs, AV.scal, AV.leaf, f1_i.refs]) ?_
 try simp only [f1_i.sh, f1_i.frz, f1_i.br, f1_i.refs, f1_i.imp, f1_i.ren, f1_i.un, go_sem]
 try simp only [f1_i.sh, f1_i.frz, f1_i.br, f1_i.refs, f1_i.imp, f1_i.ren, f1_i.un, go_sem]
 obtain rfl := Option.some.inj h0
 refine AKev_ret rfl ?_
 try simp only [F94.rs, f1_i.sh, f1_i.frz, f1_i.br, f1_i.refs, f1_i.imp, f1_i.ren, f1_i.un, go_sem]
def F95.c : SC :=
 (.seq
 (.reg [oq 1 (.box 39 (.tmp 0)) 0 [0],
 sb 2 false 4 [2]])
 (.seq
 (.reg [fa 3 39 1 0 [],
 ld 4 3 3 [3],
 bn 5 .lss 3 4 0 3 4 [4],
 mv 6 5 4 [5],
 og 7 (.fieldAddr 39 (.tmp 1) 0) 0 6 false [],
 og 8 (.load 3 (.tmp 7)) 3 6 false [7],
 og 9 (.fieldAddr 39 (.tmp 1) 1) 0 6 false [],
 og 10 (.load 3 (.tmp 9)) 3 6 false [9],
 og 11 (.binOp .gtr 3 (.tmp 8) (.tmp 10) 3) 4 6 false [8, 10],
 oq 12 (.pick (.tmp 6) (.const (.bool true)) (.tmp 11)) 4 [6, 11],
 mv 13 12 4 [12],
 og 14 (.fieldAddr 39 (.tmp 1) 1) 0 13 false [1],
 og 15 (.load 3 (.tmp 14)) 3 13 false [14],
 og 16 (.binOp .gtr 3 (.tmp 15) (.const (.int .i64 3000)) 3) 4 13 false [15],
 oq 17 (.pick (.tmp 13) (.const (.bool true)) (.tmp 16)) 4 [13, 16],
 sg 2 17 4 [17]])
 .ret))
theorem F95.rs : Try.f95.results.toList = [.tmp 2] := rfl
def heat_CheckKiln_1 (k : Nat) (r0 : Range) : Option (Bool) :=
 bif (!decide (r0.Lo < (0 : Int))) then
  bif (!decide (r0.Hi < r0.Lo)) then
   some (decide ((3000 : Int) < r0.Hi))
  else
   some true
 else
  some true
theorem heat_CheckKiln_1_ok (k : Nat) (r0 : Range) (r : Bool) (h0 : heat_CheckKiln_1 k r0 = some r) : PCall Try.prog 95 [.agg (Range.c r0)] (fun y => y = .bool r) := by
 refine PB (fn := Try.f95) (sc := F95.c) ?_
 refine rS ?_
 simp only [heat_CheckKiln_1] at h0
 try simp only [F95.c, go_sem]
 refine AKev_bif h0 ?_ ?_ <;> intro c1 h0
 have c1 := bnot_t c1
 try simp only [c1, go_sem]
 refine AKev_bif h0 ?_ ?_ <;> intro c2 h0
 have c2 := bnot_t c2
 try simp only [c2, c1, go_sem]
 obtain rfl := Option.some.inj h0
 refine AKev_ret rfl ?_
 try simp only [F95.rs, c1, c2, go_sem]
 have c2 := bnot_f c2
 try simp only [c2, c1, go_sem]
 obtain rfl := Option.some.inj h0
 refine AKev_ret rfl ?_
 try simp only [F95.rs, c1, c2, go_sem]
 have c1 := bnot_f c1
 try simp only [c1, go_sem]
 obtain rfl := Option.some.inj h0
 refine AKev_ret rfl ?_
 try simp only [F95.rs, c1, go_sem]
def F61.s0 : SC :=
 (.seq
 (.reg [b2 23 .lss 3 22 21 3 0 []])
 (.seq
 (.cond (.tmp 23)
 .skip
 (.exit 0))
 (.seq
 (.block 1
 (.seq
 (.reg [ia 24 27 20 22 [],
 ld 25 40 24 [24],
 sg 4 25 40 [25]])
 (.seq
 (.reg [mv 26 4 40 [],
 ln 27 26 40 3 [26],
 fa 28 29 1 0 [],
 ld 29 27 28 [28],
 oq 30 (.indexAddr 27 (.tmp 29) (.const (.int .i64 0))) 0 [29],
 ld 31 40 30 [30],
 ln 32 31 40 3 [31],
 b2 33 .neq 3 27 32 3 4 [27, 32],
 mv 34 33 4 [33],
 og 35 (.move (.tmp 4)) 40 34 false [4],
 og 36 (.call ⟨.value (.func 94), #[.tmp 35, .func 95], #[40, 149]⟩) 4 34 false [35],
 oq 37 (.pick (.tmp 34) (.const (.bool true)) (.tmp 36)) 4 [34, 36]])
 (.cond (.tmp 37)
 (.seq
 (.reg [sn 2 40 43 []])
 .ret)
 .skip))))
 (.reg [bn 38 .add 3 22 1 3 3 [22],
 mv 22 38 3 [38]]))))
def F61.c : SC :=
 (.seq
 (.reg [oq 1 (.box 29 (.tmp 0)) 0 [0],
 sn 2 0 43 [2]])
 (.seq
 (.seq
 (.reg [fa 5 29 1 0 [],
 ld 6 27 5 [5],
 ln 7 6 27 3 [6],
 oq 8 (.call ⟨.value (.func 42), #[.tmp 7, .const (.int .i64 1), .const (.int .i64 6)], #[3, 3, 3]⟩) 4 [7],
 oq 9 (.unOp .not 4 (.tmp 8)) 4 [8],
 mv 10 9 4 [9],
 og 11 (.fieldAddr 29 (.tmp 1) 0) 0 10 false [],
 og 12 (.load 27 (.tmp 11)) 27 10 false [11],
 og 13 (.indexAddr 27 (.tmp 12) (.const (.int .i64 0))) 0 10 false [12],
 og 14 (.load 40 (.tmp 13)) 40 10 false [13],
 og 15 (.call ⟨.builtin .len, #[.tmp 14], #[40]⟩) 3 10 false [14],
 og 16 (.call ⟨.value (.func 42), #[.tmp 15, .const (.int .i64 1), .const (.int .i64 24)], #[3, 3, 3]⟩) 4 10 false [15],
 og 17 (.unOp .not 4 (.tmp 16)) 4 10 false [16],
 oq 18 (.pick (.tmp 10) (.const (.bool true)) (.tmp 17)) 4 [10, 17]])
 (.cond (.tmp 18)
 (.seq
 (.reg [sn 2 40 43 []])
 .ret)
 .skip))
 (.seq
 (.seq
 (.reg [fa 19 29 1 0 [],
 ld 20 27 19 [19],
 ln 21 20 27 3 [],
 oq 22 (.move (.const (.int .i64 0))) 3 []])
 (.block 0
 (.loop F61.s0)))
 (.seq
 (.reg [sn 2 0 43 []])
 .ret))))
theorem F61.rs : Try.f61.results.toList = [.tmp 2] := rfl
def heat_CheckKiln.b0 (k : Nat) (k0 : Kiln) (x3 : (List Range)) : Int → Option (Stp (Int) (Unit) (Int)) := fun (i6 : Int) =>
 bif decide (i6 < (k0.Falls.length : Int)) then
  (at? k0.Falls i6).bind fun x8 =>
  bif decide ((x8.length : Int) = (x3.length : Int)) then
   (slices_ContainsFunc_api_Range k x8 (fun q0 => heat_CheckKiln_1 k q0)).bind fun x10 =>
   bif x10 then
    some (.ret 40)
   else
    some (.next (w64 (i6 + 1)))
  else
   some (.ret 40)
 else
  some (.brk ())
noncomputable def heat_CheckKiln.h0 (k0 : Kiln) : Int → St := fun (i6 : Int) => ⟨[(1, .ptr 0 0 0), (20, .sl 1 (List.map (eL 2 Range.c) k0.Falls)), (21, .int .i64 (k0.Falls.length : Int)), (22, .int .i64 i6)], [(0, .box [.sl 1 (List.map (eL 2 Range.c) k0.Falls)])], [], 1, Try.f61.ntmps⟩
noncomputable def heat_CheckKiln.x0 : Unit → St := fun (_ : Unit) => ⟨[], [], [], 1, Try.f61.ntmps⟩
def heat_CheckKiln (k : Nat) (k0 : Kiln) : Option (Int) :=
 (heat_in k (k0.Falls.length : Int) 1 6).bind fun x1 =>
 bif x1 then
  (at? k0.Falls 0).bind fun x3 =>
  (heat_in k (x3.length : Int) 1 24).bind fun x4 =>
  bif (!x4) then
   some 40
  else
   (whl (heat_CheckKiln.b0 k k0 x3) k 0).bind fun r12 => match r12 with
   | .next _ => none
   | .ret v_ => some v_
   | .brk _ =>
    some 0
 else
  some 40
theorem heat_CheckKiln_ok (k : Nat) (k0 : Kiln) (r : Int) (h0 : heat_CheckKiln k k0 = some r) : PCall Try.prog 61 [.agg (Kiln.c k0)] (fun y => y = .int .i64 r) := by
 refine PB (fn := Try.f61) (sc := F61.c) ?_
 refine rS ?_
 simp only [heat_CheckKiln] at h0
 try simp only [F61.c, go_sem]
 obtain ⟨x1, yx1, h0⟩ := bs h0
 refine zc0 (heat_in_ok k _ _ _ _ yx1) ?_ (by first | rfl | simp [AV.refsL, AV.refs, AV.scal, AV.leaf]) ?_
 try simp only [go_sem]
 try simp only [go_sem]
 refine AKev_bif h0 ?_ ?_ <;> intro c2 h0
 try simp only [c2, go_sem]
 obtain ⟨x3, yx3, h0⟩ := bs h0
 try simp only [aa yx3, c2, go_sem]
 obtain ⟨x4, yx4, h0⟩ := bs h0
 refine zc0 (heat_in_ok k _ _ _ _ yx4) ?_ (by first | rfl | simp [AV.refsL, AV.refs, AV.scal, AV.leaf]) ?_
 try simp only [c2, aa yx3, go_sem]
 try simp only [c2, aa yx3, go_sem]
 refine AKev_bif h0 ?_ ?_ <;> intro c5 h0
 have c5 := bnot_t c5
 try simp only [c5, c2, aa yx3, go_sem]
 obtain rfl := Option.some.inj h0
 refine AKev_ret rfl ?_
 try simp only [F61.rs, c2, aa yx3, c5, go_sem]
 have c5 := bnot_f c5
 try simp only [c5, c2, aa yx3, go_sem]
 obtain ⟨r12, yr12, h0⟩ := bs h0
 refine AKev_loopS yr12 (heat_CheckKiln.h0 k0) (heat_CheckKiln.x0) ?_ ?_ ?_
 refine Weak.go [1, 20, 21, 22] [0] rfl ?_
 try simp only [heat_CheckKiln.h0, c2, aa yx3, c5, go_sem]
 rintro i6 x_1 Bk1 Br1 h1 hnext1 hbrk1 hret1
 refine rS ?_
 simp only [heat_CheckKiln.b0] at h1
 try simp only [F61.s0, heat_CheckKiln.h0, c2, aa yx3, c5, go_sem]
 refine AKev_bif h1 ?_ ?_ <;> intro c7 h1
 try simp only [c7, c2, aa yx3, c5, go_sem]
 obtain ⟨x8, yx8, h1⟩ := bs h1
 try simp only [aa yx8, aa yx3, c2, c5, c7, go_sem]
 refine AKev_bif h1 ?_ ?_ <;> intro c9 h1
 try simp only [c9, c2, aa yx3, c5, c7, aa yx8, go_sem]
 obtain ⟨x10, yx10, h1⟩ := bs h1
 refine zc0 (slices_ContainsFunc_api_Range_ok k _ 95 [] ⟨fun _ => rfl, fun _ => rfl, fun _ _ => rfl, rfl, fun _ => rfl, fun _ => rfl, fun _ => rfl⟩ (fun q0 => heat_CheckKiln_1 k q0) (fun q0 qr qh => heat_CheckKiln_1_ok k q0 qr qh) _ yx10) ?_ (by first | rfl | simp [AV.refsL, AV.refs, AV.scal, AV.leaf]) ?_
 try simp only [c2, aa yx3, c5, c7, aa yx8, c9, go_sem]
 try simp only [c2, aa yx3, c5, c7, aa yx8, c9, go_sem]
 refine AKev_bif h1 ?_ ?_ <;> intro c11 h1
 try simp only [c11, c2, aa yx3, c5, c7, aa yx8, c9, go_sem]
 obtain rfl := hret1 _ (Option.some.inj h1).symm
 simp only at h0
 obtain rfl := Option.some.inj h0
 refine AKev_ret rfl ?_
 try simp only [F61.rs, c2, aa yx3, c5, c7, aa yx8, c9, c11, go_sem]
 try simp only [c11, c2, aa yx3, c5, c7, aa yx8, c9, go_sem]
 refine AKev_backB (hnext1 _ _ (Option.some.inj h1).symm ?_)
 refine Weak.go [1, 20, 21, 22] [0] rfl ?_
 try simp only [heat_CheckKiln.h0, c2, aa yx3, c5, c7, aa yx8, c9, c11, go_sem]
 try simp only [c9, c2, aa yx3, c5, c7, aa yx8, go_sem]
 obtain rfl := hret1 _ (Option.some.inj h1).symm
 simp only at h0
 obtain rfl := Option.some.inj h0
 refine AKev_ret rfl ?_
 try simp only [F61.rs, c2, aa yx3, c5, c7, aa yx8, c9, go_sem]
 try simp only [c7, c2, aa yx3, c5, go_sem]
 refine AKev_backB (hbrk1 _ _ (Option.some.inj h1).symm ?_)
 refine Weak.go [] [] rfl ?_
 try simp only [heat_CheckKiln.x0, c2, aa yx3, c5, c7, go_sem]
 rintro _ hr_
 subst hr_
 simp only at h0
 refine rS ?_
 try simp only [heat_CheckKiln.x0, c2, aa yx3, c5, go_sem]
 obtain rfl := Option.some.inj h0
 refine AKev_ret rfl ?_
 try simp only [F61.rs, c2, aa yx3, c5, go_sem]
 try simp only [c2, go_sem]
 obtain rfl := Option.some.inj h0
 refine AKev_ret rfl ?_
 try simp only [F61.rs, c2, go_sem]
def F41.s0 : SC :=
 (.seq
 (.reg [b2 20 .lss 3 19 18 3 0 []])
 (.seq
 (.cond (.tmp 20)
 .skip
 (.exit 0))
 (.seq
 (.block 1
 (.seq
 (.reg [ia 21 30 17 19 [],
 ld 22 60 21 [21],
 oq 5 (.alloc 60) 0 [],
 ⟨none, .store 60 (.tmp 5) (.tmp 22), 0, none, [22]⟩])
 (.seq
 (.dreg [fa 23 32 1 0 [],
 fa 24 29 23 0 [],
 ld 25 27 24 [],
 oq 26 (.indexAddr 27 (.tmp 25) (.const (.int .i64 0))) 0 [],
 ld 27 40 26 [],
 ln 28 27 40 3 [],
 ld 29 60 5 [],
 cf2 30 53 28 29 3 60 4 [],
 oq 31 (.unOp .not 4 (.tmp 30)) 4 []] [[], [0], [0, 1], [0, 1, 2], [0, 1, 2, 3], [0, 1, 2, 3, 4], [], [0, 1, 2, 3, 4, 5, 6], [0, 1, 2, 3, 4, 5, 6, 7]] [5, 23, 24, 25, 26, 27, 28, 29, 30])
 (.cond (.tmp 31)
 (.seq
 (.reg [sn 2 41 43 []])
 .ret)
 .skip))))
 (.reg [bn 32 .add 3 19 1 3 3 [19],
 mv 19 32 3 [32]]))))
def F41.c : SC :=
 (.seq
 (.reg [oq 1 (.box 32 (.tmp 0)) 0 [0],
 sn 2 0 43 [2]])
 (.seq
 (.seq
 (.reg [fa 6 32 1 0 [],
 ld 7 29 6 [6],
 cf1 8 61 7 29 43 [7],
 sg 3 8 43 [8]])
 (.seq
 (.reg [mv 9 3 43 [],
 bn 10 .neq 43 9 0 43 4 [9]])
 (.cond (.tmp 10)
 (.seq
 (.reg [mv 11 3 43 [3],
 sg 2 11 43 [11]])
 .ret)
 .skip)))
 (.seq
 (.seq
 (.reg [fa 12 32 1 1 [],
 ld 13 30 12 [12],
 ln 14 13 30 3 [13],
 bn 15 .gtr 3 14 60 3 4 [14]])
 (.cond (.tmp 15)
 (.seq
 (.reg [sn 2 2 43 []])
 .ret)
 .skip))
 (.seq
 (.seq
 (.reg [fa 16 32 1 1 [],
 ld 17 30 16 [16],
 ln 18 17 30 3 [],
 oq 19 (.move (.const (.int .i64 0))) 3 []])
 (.block 0
 (.loop F41.s0)))
 (.seq
 (.reg [sn 2 0 43 []])
 .ret)))))
theorem F41.rs : Try.f41.results.toList = [.tmp 2] := rfl
def heat_Check.b0 (k : Nat) (f0 : Firing) : Int → Option (Stp (Int) (Unit) (Int)) := fun (i4 : Int) =>
 bif decide (i4 < (f0.Readings.length : Int)) then
  (at? f0.Readings i4).bind fun x6 =>
  (at? f0.Kiln.Falls 0).bind fun x7 =>
  (heat_isReading k (x7.length : Int) x6).bind fun x8 =>
  bif (!x8) then
   some (.ret 41)
  else
   some (.next (w64 (i4 + 1)))
 else
  some (.brk ())
noncomputable def heat_Check.h0 (f0 : Firing) : Int → St := fun (i4 : Int) => ⟨[(1, .ptr 0 0 0), (17, .sl 6 (List.map Reading.c f0.Readings)), (18, .int .i64 (f0.Readings.length : Int)), (19, .int .i64 i4)], [(0, .box [.sl 1 (List.map (eL 2 Range.c) f0.Kiln.Falls), .sl 6 (List.map Reading.c f0.Readings)])], [], 1, Try.f41.ntmps⟩
noncomputable def heat_Check.x0 : Unit → St := fun (_ : Unit) => ⟨[], [], [], 1, Try.f41.ntmps⟩
def heat_Check (k : Nat) (f0 : Firing) : Option (Int) :=
 (heat_CheckKiln k f0.Kiln).bind fun x1 =>
 bif (!decide (x1 = (0 : Int))) then
  some x1
 else
  bif decide ((60 : Int) < (f0.Readings.length : Int)) then
   some 2
  else
   (whl (heat_Check.b0 k f0) k 0).bind fun r10 => match r10 with
   | .next _ => none
   | .ret v_ => some v_
   | .brk _ =>
    some 0
theorem heat_Check_ok (k : Nat) (f0 : Firing) (r : Int) (h0 : heat_Check k f0 = some r) : PCall Try.prog 41 [.agg (Firing.c f0)] (fun y => y = .int .i64 r) := by
 refine PB (fn := Try.f41) (sc := F41.c) ?_
 refine rS ?_
 simp only [heat_Check] at h0
 try simp only [F41.c, go_sem]
 obtain ⟨x1, yx1, h0⟩ := bs h0
 refine zc0 (heat_CheckKiln_ok k _ _ yx1) ?_ (by first | rfl | simp [AV.refsL, AV.refs, AV.scal, AV.leaf]) ?_
 try simp only [go_sem]
 try simp only [go_sem]
 refine AKev_bif h0 ?_ ?_ <;> intro c2 h0
 have c2 := bnot_t c2
 try simp only [c2, go_sem]
 obtain rfl := Option.some.inj h0
 refine AKev_ret rfl ?_
 try simp only [F41.rs, c2, go_sem]
 have c2 := bnot_f c2
 try simp only [c2, go_sem]
 refine AKev_bif h0 ?_ ?_ <;> intro c3 h0
 try simp only [c3, c2, go_sem]
 obtain rfl := Option.some.inj h0
 refine AKev_ret rfl ?_
 try simp only [F41.rs, c2, c3, go_sem]
 try simp only [c3, c2, go_sem]
 obtain ⟨r10, yr10, h0⟩ := bs h0
 refine AKev_loopS yr10 (heat_Check.h0 f0) (heat_Check.x0) ?_ ?_ ?_
 refine Weak.go [1, 17, 18, 19] [0] rfl ?_
 try simp only [heat_Check.h0, c2, c3, go_sem]
 rintro i4 x_1 Bk1 Br1 h1 hnext1 hbrk1 hret1
 refine rS ?_
 simp only [heat_Check.b0] at h1
 try simp only [F41.s0, heat_Check.h0, c2, c3, go_sem]
 refine AKev_bif h1 ?_ ?_ <;> intro c5 h1
 try simp only [c5, c2, c3, go_sem]
 obtain ⟨x6, yx6, h1⟩ := bs h1
 try simp only [aa yx6, c2, c3, c5, go_sem]
 refine AKev_region T_ok follows_ok 1000 ?_
 try simp only [c2, c3, c5, aa yx6, go_sem]
 obtain ⟨x7, yx7, h1⟩ := bs h1
 try simp only [aa yx7, c2, c3, c5, aa yx6, go_sem]
 obtain ⟨x8, yx8, h1⟩ := bs h1
 refine DG_call0 1000 (heat_isReading_ok k _ _ _ yx8) ?_ (by first | rfl | simp [AV.refsL, AV.refs, AV.scal, AV.leaf]) ?_
 try simp only [c2, c3, c5, aa yx6, aa yx7, go_sem]
 try simp only [c2, c3, c5, aa yx6, aa yx7, go_sem]
 refine DG_done ⟨calm_of (by simp only [skel, List.reverse_cons, List.reverse_nil, List.nil_append, List.cons_append, List.map_cons, List.map_nil, List.append_nil]; rfl) (by first | decide +kernel | rfl), run_sound T_ok 1000 _ _ ?_⟩
 try simp only [c2, c3, c5, aa yx6, aa yx7, go_sem]
 refine AKev_bif h1 ?_ ?_ <;> intro c9 h1
 have c9 := bnot_t c9
 try simp only [c9, c2, c3, c5, aa yx6, aa yx7, go_sem]
 obtain rfl := hret1 _ (Option.some.inj h1).symm
 simp only at h0
 obtain rfl := Option.some.inj h0
 refine AKev_ret rfl ?_
 try simp only [F41.rs, c2, c3, c5, aa yx6, aa yx7, c9, go_sem]
 have c9 := bnot_f c9
 try simp only [c9, c2, c3, c5, aa yx6, aa yx7, go_sem]
 refine AKev_backB (hnext1 _ _ (Option.some.inj h1).symm ?_)
 refine Weak.go [1, 17, 18, 19] [0] rfl ?_
 try simp only [heat_Check.h0, c2, c3, c5, aa yx6, aa yx7, c9, go_sem]
 try simp only [c5, c2, c3, go_sem]
 refine AKev_backB (hbrk1 _ _ (Option.some.inj h1).symm ?_)
 refine Weak.go [] [] rfl ?_
 try simp only [heat_Check.x0, c2, c3, c5, go_sem]
 rintro _ hr_
 subst hr_
 simp only at h0
 refine rS ?_
 try simp only [heat_Check.x0, c2, c3, go_sem]
 obtain rfl := Option.some.inj h0
 refine AKev_ret rfl ?_
 try simp only [F41.rs, c2, c3, go_sem]
def F69.c : SC :=
 (.seq
 (.reg [oq 1 (.box 124 (.tmp 0)) 0 [0],
 sn 2 0 3 [2],
 sb 3 false 4 [3]])
 (.seq
 (.seq
 (.reg [fa 4 124 1 0 [],
 fa 5 60 4 2 [4],
 ld 6 3 5 [5]])
 (.block 0
 (.seq
 (.reg [bn 8 .eql 3 6 1 3 4 [],
 sg 7 8 4 [8]])
 (.cond (.tmp 7)
 (.seq
 (.reg [fa 9 124 1 0 [1],
 fa 10 60 9 3 [9],
 ld 11 3 10 [10],
 sg 2 11 3 [11],
 sb 3 true 4 []])
 .ret)
 (.seq
 (.reg [bn 13 .eql 3 6 3 3 4 [6],
 sg 12 13 4 [13]])
 (.cond (.tmp 12)
 (.seq
 (.reg [fa 14 124 1 0 [1],
 fa 15 60 14 4 [14],
 fa 16 39 15 0 [15],
 ld 17 3 16 [16],
 sg 2 17 3 [17],
 sb 3 true 4 []])
 .ret)
 .skip))))))
 (.seq
 (.reg [sn 2 0 3 [],
 sb 3 false 4 []])
 .ret)))
theorem F69.rs : Try.f69.results.toList = [.tmp 2, .tmp 3] := rfl
def heat_reading_least (k : Nat) (r0 : heat_reading) : Option (Int × Bool) :=
 bif decide (r0.Reading.Kind = (1 : Int)) then
  some (r0.Reading.Mark, true)
 else
  bif decide (r0.Reading.Kind = (3 : Int)) then
   some (r0.Reading.Heat.Lo, true)
  else
   some (0, false)
theorem heat_reading_least_ok (k : Nat) (r0 : heat_reading) (r : Int × Bool) (h0 : heat_reading_least k r0 = some r) : PCall Try.prog 69 [.agg (heat_reading.c r0)] (fun y => y = .tup [.int .i64 r.1, .bool r.2]) := by
 refine PB (fn := Try.f69) (sc := F69.c) ?_
 refine rS ?_
 simp only [heat_reading_least] at h0
 try simp only [F69.c, go_sem]
 refine AKev_bif h0 ?_ ?_ <;> intro c1 h0
 try simp only [c1, go_sem]
 obtain rfl := Option.some.inj h0
 refine AKev_ret rfl ?_
 try simp only [F69.rs, c1, go_sem]
 try simp only [c1, go_sem]
 refine AKev_bif h0 ?_ ?_ <;> intro c2 h0
 try simp only [c2, c1, go_sem]
 obtain rfl := Option.some.inj h0
 refine AKev_ret rfl ?_
 try simp only [F69.rs, c1, c2, go_sem]
 try simp only [c2, c1, go_sem]
 obtain rfl := Option.some.inj h0
 refine AKev_ret rfl ?_
 try simp only [F69.rs, c1, c2, go_sem]
def F70.c : SC :=
 (.seq
 (.reg [oq 1 (.box 124 (.tmp 0)) 0 [0],
 sn 2 0 3 [2],
 sb 3 false 4 [3]])
 (.seq
 (.seq
 (.reg [fa 4 124 1 0 [],
 fa 5 60 4 2 [4],
 ld 6 3 5 [5]])
 (.block 0
 (.seq
 (.reg [bn 8 .eql 3 6 2 3 4 [],
 sg 7 8 4 [8]])
 (.cond (.tmp 7)
 (.seq
 (.reg [fa 9 124 1 0 [1],
 fa 10 60 9 3 [9],
 ld 11 3 10 [10],
 bn 12 .sub 3 11 1 3 3 [11],
 sg 2 12 3 [12],
 sb 3 true 4 []])
 .ret)
 (.seq
 (.reg [bn 14 .eql 3 6 3 3 4 [6],
 sg 13 14 4 [14]])
 (.cond (.tmp 13)
 (.seq
 (.reg [fa 15 124 1 0 [1],
 fa 16 60 15 4 [15],
 fa 17 39 16 1 [16],
 ld 18 3 17 [17],
 sg 2 18 3 [18],
 sb 3 true 4 []])
 .ret)
 .skip))))))
 (.seq
 (.reg [sn 2 0 3 [],
 sb 3 false 4 []])
 .ret)))
theorem F70.rs : Try.f70.results.toList = [.tmp 2, .tmp 3] := rfl
def heat_reading_most (k : Nat) (r0 : heat_reading) : Option (Int × Bool) :=
 bif decide (r0.Reading.Kind = (2 : Int)) then
  some (w64 (r0.Reading.Mark - 1), true)
 else
  bif decide (r0.Reading.Kind = (3 : Int)) then
   some (r0.Reading.Heat.Hi, true)
  else
   some (0, false)
theorem heat_reading_most_ok (k : Nat) (r0 : heat_reading) (r : Int × Bool) (h0 : heat_reading_most k r0 = some r) : PCall Try.prog 70 [.agg (heat_reading.c r0)] (fun y => y = .tup [.int .i64 r.1, .bool r.2]) := by
 refine PB (fn := Try.f70) (sc := F70.c) ?_
 refine rS ?_
 simp only [heat_reading_most] at h0
 try simp only [F70.c, go_sem]
 refine AKev_bif h0 ?_ ?_ <;> intro c1 h0
 try simp only [c1, go_sem]
 obtain rfl := Option.some.inj h0
 refine AKev_ret rfl ?_
 try simp only [F70.rs, c1, go_sem]
 try simp only [c1, go_sem]
 refine AKev_bif h0 ?_ ?_ <;> intro c2 h0
 try simp only [c2, c1, go_sem]
 obtain rfl := Option.some.inj h0
 refine AKev_ret rfl ?_
 try simp only [F70.rs, c1, c2, go_sem]
 try simp only [c2, c1, go_sem]
 obtain rfl := Option.some.inj h0
 refine AKev_ret rfl ?_
 try simp only [F70.rs, c1, c2, go_sem]
def F47.s0 : SC :=
 (.seq
 (.reg [b2 16 .lss 3 15 14 3 0 []])
 (.seq
 (.cond (.tmp 16)
 .skip
 (.exit 0))
 (.seq
 (.block 1
 (.seq
 (.reg [mv 17 15 3 [],
 ia 18 30 13 15 [],
 ld 19 60 18 [18],
 oq 5 (.alloc 60) 0 [],
 sg 4 17 3 [17],
 ⟨none, .store 60 (.tmp 5) (.tmp 19), 0, none, [19]⟩])
 (.seq
 (.seq
 (.reg [ld 21 60 5 [],
 oq 22 (.build 124 #[(0, .tmp 21)]) 124 [21],
 cf1 23 69 22 124 106 [22],
 mv 20 23 106 [23],
 xt 24 20 0 3 [],
 xt 25 20 1 4 [20],
 sg 6 24 3 [24],
 sg 7 25 4 [25]])
 (.seq
 (.reg [mv 26 7 4 [7]])
 (.cond (.tmp 26)
 (.reg [fa 27 94 3 1 [],
 ld 28 92 27 [27],
 fa 29 60 5 1 [],
 ld 30 3 29 [29],
 mv 31 6 3 [6],
 mv 32 4 3 [],
 oq 33 (.build 136 #[(0, .tmp 30), (1, .tmp 31), (2, .tmp 32)]) 136 [30, 31, 32],
 oq 34 (.buildSlice 92 1 #[(0, .tmp 33)]) 92 [33],
 oq 35 (.call ⟨.builtin .append, #[.tmp 28, .tmp 34], #[92, 92]⟩) 92 [28, 34],
 fa 36 94 3 1 [],
 ⟨none, .store 92 (.tmp 36) (.tmp 35), 0, none, [35, 36]⟩])
 .skip)))
 (.seq
 (.reg [ld 38 60 5 [],
 oq 39 (.build 124 #[(0, .tmp 38)]) 124 [38],
 cf1 40 70 39 124 106 [39],
 mv 37 40 106 [40],
 xt 41 37 0 3 [],
 xt 42 37 1 4 [37],
 sg 8 41 3 [41],
 sg 9 42 4 [42]])
 (.seq
 (.reg [mv 43 9 4 [9]])
 (.cond (.tmp 43)
 (.reg [fa 44 94 3 2 [],
 ld 45 92 44 [44],
 fa 46 60 5 1 [5],
 ld 47 3 46 [46],
 mv 48 8 3 [8],
 mv 49 4 3 [4],
 oq 50 (.build 136 #[(0, .tmp 47), (1, .tmp 48), (2, .tmp 49)]) 136 [47, 48, 49],
 oq 51 (.buildSlice 92 1 #[(0, .tmp 50)]) 92 [50],
 oq 52 (.call ⟨.builtin .append, #[.tmp 45, .tmp 51], #[92, 92]⟩) 92 [45, 51],
 fa 53 94 3 2 [],
 ⟨none, .store 92 (.tmp 53) (.tmp 52), 0, none, [52, 53]⟩])
 .skip))))))
 (.reg [bn 54 .add 3 15 1 3 3 [15],
 mv 15 54 3 [54]]))))
def F47.c : SC :=
 (.seq
 (.reg [oq 1 (.box 32 (.tmp 0)) 0 [0],
 oq 2 (.alloc 94) 0 []])
 (.seq
 (.reg [ld 10 32 1 [],
 oq 11 (.build 94 #[(0, .tmp 10)]) 94 [10],
 oq 3 (.alloc 94) 0 [],
 ⟨none, .store 94 (.tmp 3) (.tmp 11), 0, none, [11]⟩])
 (.seq
 (.seq
 (.reg [fa 12 32 1 1 [1],
 ld 13 30 12 [12],
 ln 14 13 30 3 [],
 oq 15 (.move (.const (.int .i64 0))) 3 []])
 (.block 0
 (.loop F47.s0)))
 (.seq
 (.reg [ld 55 94 3 [3],
 ⟨none, .store 94 (.tmp 2) (.tmp 55), 0, none, [55]⟩])
 .ret))))
theorem F47.rs : Try.f47.results.toList = [.cell 2 94] := rfl
def heat_newFurnace.b0 (k : Nat) (f0 : Firing) : (Int × (List heat_limit) × (List heat_limit)) → Option (Stp (Int × (List heat_limit) × (List heat_limit)) ((List heat_limit) × (List heat_limit)) (heat_furnace)) := fun (s : Int × (List heat_limit) × (List heat_limit)) => match s with
 | (i1, l2, l3) =>
   bif decide (i1 < (f0.Readings.length : Int)) then
    (at? f0.Readings i1).bind fun x7 =>
    (heat_reading_least k (⟨x7⟩ : heat_reading)).bind fun x8 =>
    bif x8.2 then
     (push? 24 l2 (⟨x7.Place, x8.1, i1⟩ : heat_limit)).bind fun l10 =>
     (heat_reading_most k (⟨x7⟩ : heat_reading)).bind fun x11 =>
     bif x11.2 then
      (push? 24 l3 (⟨x7.Place, x11.1, i1⟩ : heat_limit)).bind fun l13 =>
      some (.next (w64 (i1 + 1), l10, l13))
     else
      some (.next (w64 (i1 + 1), l10, l3))
    else
     (heat_reading_most k (⟨x7⟩ : heat_reading)).bind fun x14 =>
     bif x14.2 then
      (push? 24 l3 (⟨x7.Place, x14.1, i1⟩ : heat_limit)).bind fun l16 =>
      some (.next (w64 (i1 + 1), l2, l16))
     else
      some (.next (w64 (i1 + 1), l2, l3))
   else
    some (.brk (l2, l3))
noncomputable def heat_newFurnace.h0 (f0 : Firing) : (Int × (List heat_limit) × (List heat_limit)) → St := fun (s : Int × (List heat_limit) × (List heat_limit)) => match s with
 | (i1, l2, l3) => ⟨[(2, .ptr 0 0 0), (3, .ptr 0 5 0), (13, .sl 6 (List.map Reading.c f0.Readings)), (14, .int .i64 (f0.Readings.length : Int)), (15, .int .i64 i1)], [(0, .box [.loc 0 1 1 0 0 0, .loc 0 2 6 0 0 0, .loc 0 3 3 0 0 0, .loc 0 4 3 0 0 0]), (1, .arr 40 1 (List.map (eL 2 Range.c) [])), (2, .arr 60 6 (List.map Reading.c [])), (3, .arr 136 3 (List.map heat_limit.c [])), (4, .arr 136 3 (List.map heat_limit.c [])), (5, .box [.sl 1 (List.map (eL 2 Range.c) f0.Kiln.Falls), .sl 6 (List.map Reading.c f0.Readings), .loc 0 6 3 0 l2.length l2.length, .loc 0 7 3 0 l3.length l3.length]), (6, .arr 136 3 (List.map heat_limit.c l2)), (7, .arr 136 3 (List.map heat_limit.c l3))], [], 8, Try.f47.ntmps⟩
noncomputable def heat_newFurnace.x0 (f0 : Firing) : ((List heat_limit) × (List heat_limit)) → St := fun (s : (List heat_limit) × (List heat_limit)) => match s with
 | (l4, l5) => ⟨[(2, .ptr 0 0 0), (3, .ptr 0 5 0)], [(0, .box [.loc 0 1 1 0 0 0, .loc 0 2 6 0 0 0, .loc 0 3 3 0 0 0, .loc 0 4 3 0 0 0]), (1, .arr 40 1 (List.map (eL 2 Range.c) [])), (2, .arr 60 6 (List.map Reading.c [])), (3, .arr 136 3 (List.map heat_limit.c [])), (4, .arr 136 3 (List.map heat_limit.c [])), (5, .box [.sl 1 (List.map (eL 2 Range.c) f0.Kiln.Falls), .sl 6 (List.map Reading.c f0.Readings), .loc 0 6 3 0 l4.length l4.length, .loc 0 7 3 0 l5.length l5.length]), (6, .arr 136 3 (List.map heat_limit.c l4)), (7, .arr 136 3 (List.map heat_limit.c l5))], [], 8, Try.f47.ntmps⟩
def heat_newFurnace (k : Nat) (f0 : Firing) : Option (heat_furnace) :=
 (whl (heat_newFurnace.b0 k f0) k (0, [], [])).bind fun r17 => match r17 with
 | .next _ => none
 | .ret v_ => some v_
 | .brk (l4, l5) =>
  some (⟨f0, l4, l5⟩ : heat_furnace)
theorem heat_newFurnace_ok (k : Nat) (f0 : Firing) (r : heat_furnace) (h0 : heat_newFurnace k f0 = some r) : PCall Try.prog 47 [.agg (Firing.c f0)] (fun y => y = .agg (heat_furnace.c r)) := by
 refine PB (fn := Try.f47) (sc := F47.c) ?_
 refine rS ?_
 simp only [heat_newFurnace] at h0
 try simp only [F47.c, go_sem]
 obtain ⟨r17, yr17, h0⟩ := bs h0
 refine AKev_loopS yr17 (heat_newFurnace.h0 f0) (heat_newFurnace.x0 f0) ?_ ?_ ?_
 refine Weak.go [2, 3, 13, 14, 15] [16, 17, 18, 19, 20, 64, 80, 81] rfl ?_
 try simp only [heat_newFurnace.h0, go_sem]
 rintro ⟨i1, l2, l3⟩ x_1 Bk1 Br1 h1 hnext1 hbrk1 hret1
 refine rS ?_
 simp only [heat_newFurnace.b0] at h1
 try simp only [F47.s0, heat_newFurnace.h0, go_sem]
 refine AKev_bif h1 ?_ ?_ <;> intro c6 h1
 try simp only [c6, go_sem]
 obtain ⟨x7, yx7, h1⟩ := bs h1
 try simp only [aa yx7, c6, go_sem]
 obtain ⟨x8, yx8, h1⟩ := bs h1
 refine zc0 (heat_reading_least_ok k _ _ yx8) ?_ (by first | rfl | simp [AV.refsL, AV.refs, AV.scal, AV.leaf]) ?_
 try simp only [c6, aa yx7, go_sem]
 try simp only [c6, aa yx7, go_sem]
 refine AKev_bif h1 ?_ ?_ <;> intro c9 h1
 try simp only [c9, c6, aa yx7, go_sem]
 obtain ⟨l10, yl10, h1⟩ := bs h1
 have eyl10 := push_map heat_limit.c yl10
 have tyl10 := push_take heat_limit.c yl10
 have nyl10 := push_len yl10
 have myl10 := push_room yl10
 try simp only [c6, aa yx7, c9, go_sem] at eyl10 tyl10 nyl10 myl10
 try simp only [myl10, eyl10, c6, aa yx7, c9, nyl10, tyl10, go_sem]
 obtain ⟨x11, yx11, h1⟩ := bs h1
 refine zc0 (heat_reading_most_ok k _ _ yx11) ?_ (by first | rfl | simp [AV.refsL, AV.refs, AV.scal, AV.leaf]) ?_
 try simp only [c6, aa yx7, c9, eyl10, nyl10, tyl10, go_sem]
 try simp only [c6, aa yx7, c9, eyl10, nyl10, tyl10, go_sem]
 refine AKev_bif h1 ?_ ?_ <;> intro c12 h1
 try simp only [c12, c6, aa yx7, c9, eyl10, nyl10, tyl10, go_sem]
 obtain ⟨l13, yl13, h1⟩ := bs h1
 have eyl13 := push_map heat_limit.c yl13
 have tyl13 := push_take heat_limit.c yl13
 have nyl13 := push_len yl13
 have myl13 := push_room yl13
 try simp only [c6, aa yx7, c9, eyl10, nyl10, tyl10, c12, go_sem] at eyl13 tyl13 nyl13 myl13
 try simp only [myl13, eyl13, c6, aa yx7, c9, eyl10, nyl10, tyl10, c12, nyl13, tyl13, go_sem]
 refine AKev_backB (hnext1 _ _ (Option.some.inj h1).symm ?_)
 refine Weak.go [2, 3, 13, 14, 15] [0, 1, 2, 3, 4, 5, 6, 7] rfl ?_
 try simp only [heat_newFurnace.h0, c6, aa yx7, c9, eyl10, nyl10, tyl10, c12, eyl13, nyl13, tyl13, go_sem]
 try simp only [c12, c6, aa yx7, c9, eyl10, nyl10, tyl10, go_sem]
 refine AKev_backB (hnext1 _ _ (Option.some.inj h1).symm ?_)
 refine Weak.go [2, 3, 13, 14, 15] [0, 1, 2, 3, 4, 5, 6, 7] rfl ?_
 try simp only [heat_newFurnace.h0, c6, aa yx7, c9, eyl10, nyl10, tyl10, c12, go_sem]
 try simp only [c9, c6, aa yx7, go_sem]
 obtain ⟨x14, yx14, h1⟩ := bs h1
 refine zc0 (heat_reading_most_ok k _ _ yx14) ?_ (by first | rfl | simp [AV.refsL, AV.refs, AV.scal, AV.leaf]) ?_
 try simp only [c6, aa yx7, c9, go_sem]
 try simp only [c6, aa yx7, c9, go_sem]
 refine AKev_bif h1 ?_ ?_ <;> intro c15 h1
 try simp only [c15, c6, aa yx7, c9, go_sem]
 obtain ⟨l16, yl16, h1⟩ := bs h1
 have eyl16 := push_map heat_limit.c yl16
 have tyl16 := push_take heat_limit.c yl16
 have nyl16 := push_len yl16
 have myl16 := push_room yl16
 try simp only [c6, aa yx7, c9, c15, go_sem] at eyl16 tyl16 nyl16 myl16
 try simp only [myl16, eyl16, c6, aa yx7, c9, c15, nyl16, tyl16, go_sem]
 refine AKev_backB (hnext1 _ _ (Option.some.inj h1).symm ?_)
 refine Weak.go [2, 3, 13, 14, 15] [0, 1, 2, 3, 4, 5, 6, 7] rfl ?_
 try simp only [heat_newFurnace.h0, c6, aa yx7, c9, c15, eyl16, nyl16, tyl16, go_sem]
 try simp only [c15, c6, aa yx7, c9, go_sem]
 refine AKev_backB (hnext1 _ _ (Option.some.inj h1).symm ?_)
 refine Weak.go [2, 3, 13, 14, 15] [0, 1, 2, 3, 4, 5, 6, 7] rfl ?_
 try simp only [heat_newFurnace.h0, c6, aa yx7, c9, c15, go_sem]
 try simp only [c6, go_sem]
 refine AKev_backB (hbrk1 _ _ (Option.some.inj h1).symm ?_)
 refine Weak.go [2, 3] [0, 1, 2, 3, 4, 5, 6, 7] rfl ?_
 try simp only [heat_newFurnace.x0, c6, go_sem]
 rintro ⟨l4, l5⟩ hr_
 subst hr_
 simp only at h0
 refine rS ?_
 try simp only [heat_newFurnace.x0, go_sem]
 obtain rfl := Option.some.inj h0
 refine AKev_ret rfl ?_
 try simp only [F47.rs, go_sem]
def F88.s0 : SC :=
 (.seq
 (.reg [b2 15 .lss 3 14 13 3 0 []])
 (.seq
 (.cond (.tmp 15)
 .skip
 (.exit 0))
 (.seq
 (.block 1
 (.seq
 (.reg [ia 16 92 12 14 [],
 ld 17 136 16 [16],
 oq 9 (.alloc 136) 0 [],
 ⟨none, .store 136 (.tmp 9) (.tmp 17), 0, none, [17]⟩])
 (.seq
 (.dreg [fa 18 136 9 1 [],
 ld 19 3 18 [],
 fa 20 94 2 0 [],
 fa 21 32 20 0 [],
 fa 22 29 21 0 [],
 ld 23 27 22 [],
 mv 24 1 3 [],
 ia 25 27 23 24 [],
 ld 26 40 25 [],
 fa 27 136 9 0 [],
 ld 28 3 27 [],
 ia 29 40 26 28 [],
 fa 30 39 29 1 [],
 ld 31 3 30 [],
 b2 32 .add 3 19 31 3 3 [],
 sg 10 32 3 []] [[], [0], [], [2], [2, 3], [2, 3, 4], [], [2, 3, 4, 5, 6], [2, 3, 4, 5, 6, 7], [], [9], [2, 3, 4, 5, 6, 7, 8, 9, 10], [2, 3, 4, 5, 6, 7, 8, 9, 10, 11], [2, 3, 4, 5, 6, 7, 8, 9, 10, 11, 12], [0, 1, 2, 3, 4, 5, 6, 7, 8, 9, 10, 11, 12, 13], [0, 1, 2, 3, 4, 5, 6, 7, 8, 9, 10, 11, 12, 13, 14]] [18, 19, 20, 21, 22, 23, 24, 25, 26, 27, 28, 29, 30, 31, 32])
 (.seq
 (.reg [mv 33 10 3 [],
 mv 34 6 3 [],
 b2 35 .lss 3 33 34 3 4 [33, 34]])
 (.cond (.tmp 35)
 (.dreg [mv 36 10 3 [],
 fa 37 136 9 2 [],
 ld 38 3 37 [],
 sg 6 36 3 [],
 sg 7 38 3 []] [[], [], [1], [0], [1, 2, 0, 3]] [9, 10, 36, 37, 38])
 .skip)))))
 (.reg [bn 39 .add 3 14 1 3 3 [14],
 mv 14 39 3 [39]]))))
def F88.c : SC :=
 (.seq
 (.reg [oq 2 (.box 94 (.tmp 0)) 0 [0],
 sn 4 0 3 [4],
 sn 5 0 3 [5]])
 (.seq
 (.reg [sn 6 3000 3 [],
 sn 7 (-1) 3 []])
 (.seq
 (.seq
 (.reg [fa 11 94 2 2 [],
 ld 12 92 11 [11],
 ln 13 12 92 3 [],
 oq 14 (.move (.const (.int .i64 0))) 3 []])
 (.block 0
 (.loop F88.s0)))
 (.seq
 (.reg [mv 40 6 3 [6],
 mv 41 7 3 [7],
 sg 4 40 3 [40],
 sg 5 41 3 [41]])
 .ret))))
theorem F88.rs : Try.f88.results.toList = [.tmp 4, .tmp 5] := rfl
def heat_furnace_hottest.b0 (k : Nat) (f0 : heat_furnace) (mouth1 : Int) : (Int × Int × Int) → Option (Stp (Int × Int × Int) (Int × Int) (Int × Int)) := fun (s : Int × Int × Int) => match s with
 | (i1, i2, i3) =>
   bif decide (i3 < (f0.most.length : Int)) then
    (at? f0.most i3).bind fun x7 =>
    (at? f0.Firing.Kiln.Falls mouth1).bind fun x8 =>
    (at? x8 x7.place).bind fun x9 =>
    bif decide (w64 (x7.heat + x9.Hi) < i1) then
     some (.next (w64 (x7.heat + x9.Hi), x7.by_, w64 (i3 + 1)))
    else
     some (.next (i1, i2, w64 (i3 + 1)))
   else
    some (.brk (i1, i2))
noncomputable def heat_furnace_hottest.h0 (f0 : heat_furnace) (mouth1 : Int) : (Int × Int × Int) → St := fun (s : Int × Int × Int) => match s with
 | (i1, i2, i3) => ⟨[(1, .int .i64 mouth1), (2, .ptr 0 0 0), (6, .int .i64 i1), (7, .int .i64 i2), (12, .sl 3 (List.map heat_limit.c f0.most)), (13, .int .i64 (f0.most.length : Int)), (14, .int .i64 i3)], [(0, .box [.sl 1 (List.map (eL 2 Range.c) f0.Firing.Kiln.Falls), .sl 6 (List.map Reading.c f0.Firing.Readings), .sl 3 (List.map heat_limit.c f0.least), .sl 3 (List.map heat_limit.c f0.most)])], [], 1, Try.f88.ntmps⟩
noncomputable def heat_furnace_hottest.x0 : (Int × Int) → St := fun (s : Int × Int) => match s with
 | (i4, i5) => ⟨[(6, .int .i64 i4), (7, .int .i64 i5)], [], [], 1, Try.f88.ntmps⟩
def heat_furnace_hottest (k : Nat) (f0 : heat_furnace) (mouth1 : Int) : Option (Int × Int) :=
 (whl (heat_furnace_hottest.b0 k f0 mouth1) k (3000, -1, 0)).bind fun r11 => match r11 with
 | .next _ => none
 | .ret v_ => some v_
 | .brk (i4, i5) =>
  some (i4, i5)
theorem heat_furnace_hottest_ok (k : Nat) (f0 : heat_furnace) (mouth1 : Int) (r : Int × Int) (h0 : heat_furnace_hottest k f0 mouth1 = some r) : PCall Try.prog 88 [.agg (heat_furnace.c f0), .int .i64 mouth1] (fun y => y = .tup [.int .i64 r.1, .int .i64 r.2]) := by
 refine PB (fn := Try.f88) (sc := F88.c) ?_
 refine rS ?_
 simp only [heat_furnace_hottest] at h0
 try simp only [F88.c, go_sem]
 obtain ⟨r11, yr11, h0⟩ := bs h0
 refine AKev_loopS yr11 (heat_furnace_hottest.h0 f0 mouth1) (heat_furnace_hottest.x0) ?_ ?_ ?_
 refine Weak.go [1, 2, 6, 7, 12, 13, 14] [0] rfl ?_
 try simp only [heat_furnace_hottest.h0, go_sem]
 rintro ⟨i1, i2, i3⟩ x_1 Bk1 Br1 h1 hnext1 hbrk1 hret1
 refine rS ?_
 simp only [heat_furnace_hottest.b0] at h1
 try simp only [F88.s0, heat_furnace_hottest.h0, go_sem]
 refine AKev_bif h1 ?_ ?_ <;> intro c6 h1
 try simp only [c6, go_sem]
 obtain ⟨x7, yx7, h1⟩ := bs h1
 try simp only [aa yx7, c6, go_sem]
 refine AKev_region T_ok follows_ok 1000 ?_
 try simp only [c6, aa yx7, go_sem]
 obtain ⟨x8, yx8, h1⟩ := bs h1
 try simp only [aa yx8, c6, aa yx7, go_sem]
 obtain ⟨x9, yx9, h1⟩ := bs h1
 try simp only [aa yx9, c6, aa yx7, aa yx8, go_sem]
 refine DG_done ⟨calm_of (by simp only [skel, List.reverse_cons, List.reverse_nil, List.nil_append, List.cons_append, List.map_cons, List.map_nil, List.append_nil]; rfl) (by first | decide +kernel | rfl), run_sound T_ok 1000 _ _ ?_⟩
 try simp only [c6, aa yx7, aa yx8, aa yx9, go_sem]
 refine AKev_bif h1 ?_ ?_ <;> intro c10 h1
 try simp only [c10, c6, aa yx7, aa yx8, aa yx9, go_sem]
 refine AKev_region T_ok follows_ok 1000 ?_
 try simp only [c6, aa yx7, aa yx8, aa yx9, c10, go_sem]
 refine DG_done ⟨calm_of (by simp only [skel, List.reverse_cons, List.reverse_nil, List.nil_append, List.cons_append, List.map_cons, List.map_nil, List.append_nil]; rfl) (by first | decide +kernel | rfl), run_sound T_ok 1000 _ _ ?_⟩
 try simp only [c6, aa yx7, aa yx8, aa yx9, c10, go_sem]
 refine AKev_backB (hnext1 _ _ (Option.some.inj h1).symm ?_)
 refine Weak.go [1, 2, 6, 7, 12, 13, 14] [0] rfl ?_
 try simp only [heat_furnace_hottest.h0, c6, aa yx7, aa yx8, aa yx9, c10, go_sem]
 try simp only [c10, c6, aa yx7, aa yx8, aa yx9, go_sem]
 refine AKev_backB (hnext1 _ _ (Option.some.inj h1).symm ?_)
 refine Weak.go [1, 2, 6, 7, 12, 13, 14] [0] rfl ?_
 try simp only [heat_furnace_hottest.h0, c6, aa yx7, aa yx8, aa yx9, c10, go_sem]
 try simp only [c6, go_sem]
 refine AKev_backB (hbrk1 _ _ (Option.some.inj h1).symm ?_)
 refine Weak.go [6, 7] [] rfl ?_
 try simp only [heat_furnace_hottest.x0, c6, go_sem]
 rintro ⟨i4, i5⟩ hr_
 subst hr_
 simp only at h0
 refine rS ?_
 try simp only [heat_furnace_hottest.x0, go_sem]
 obtain rfl := Option.some.inj h0
 refine AKev_ret rfl ?_
 try simp only [F88.rs, go_sem]
def F89.s0 : SC :=
 (.seq
 (.reg [b2 15 .lss 3 14 13 3 0 []])
 (.seq
 (.cond (.tmp 15)
 .skip
 (.exit 0))
 (.seq
 (.block 1
 (.seq
 (.reg [ia 16 92 12 14 [],
 ld 17 136 16 [16],
 oq 11 (.alloc 136) 0 [],
 ⟨none, .store 136 (.tmp 11) (.tmp 17), 0, none, [17]⟩])
 (.seq
 (.reg [fa 18 136 11 0 [],
 ld 19 3 18 [18],
 mv 20 1 3 [],
 b2 21 .eql 3 19 20 3 4 [19, 20],
 mv 22 21 4 [21],
 og 23 (.move (.tmp 9)) 4 22 true [],
 og 24 (.unOp .not 4 (.tmp 23)) 4 22 true [23],
 og 25 (.move (.tmp 24)) 4 22 true [24],
 og 26 (.move (.tmp 2)) 147 25 false [],
 og 27 (.fieldAddr 136 (.tmp 11) 1) 0 25 false [],
 og 28 (.load 3 (.tmp 27)) 3 25 false [27],
 og 29 (.fieldAddr 136 (.tmp 8) 1) 0 25 false [],
 og 30 (.load 3 (.tmp 29)) 3 25 false [29],
 og 31 (.call ⟨.value (.tmp 26), #[.tmp 28, .tmp 30], #[3, 3]⟩) 4 25 false [26, 28, 30],
 og 32 (.pick (.tmp 25) (.const (.bool true)) (.tmp 31)) 4 22 true [25, 31],
 oq 33 (.pick (.tmp 22) (.tmp 32) (.const (.bool false))) 4 [22, 32]])
 (.cond (.tmp 33)
 (.reg [ld 34 136 11 [11],
 ⟨none, .store 136 (.tmp 8) (.tmp 34), 0, none, [34]⟩,
 sb 9 true 4 []])
 .skip))))
 (.reg [bn 35 .add 3 14 1 3 3 [14],
 mv 14 35 3 [35]]))))
def F89.c : SC :=
 (.seq
 (.reg [oq 6 (.alloc 136) 0 [],
 sb 7 false 4 [7]])
 (.seq
 (.reg [oq 8 (.alloc 136) 0 []])
 (.seq
 (.reg [sb 9 false 4 []])
 (.seq
 (.seq
 (.reg [mv 12 0 92 [0],
 ln 13 12 92 3 [],
 oq 14 (.move (.const (.int .i64 0))) 3 []])
 (.block 0
 (.loop F89.s0)))
 (.seq
 (.reg [ld 36 136 8 [8],
 mv 37 9 4 [9],
 ⟨none, .store 136 (.tmp 6) (.tmp 36), 0, none, [36]⟩,
 sg 7 37 4 [37]])
 .ret)))))
theorem F89.rs : Try.f89.results.toList = [.cell 6 136, .tmp 7] := rfl
def heat_best.b0 (k : Nat) (better2 : Int → Int → Option (Bool)) (l0 : (List heat_limit)) (place1 : Int) : (heat_limit × Bool × Int) → Option (Stp (heat_limit × Bool × Int) (heat_limit × Bool) (heat_limit × Bool)) := fun (s : heat_limit × Bool × Int) => match s with
 | (s1, b2, i3) =>
   bif decide (i3 < (l0.length : Int)) then
    (at? l0 i3).bind fun x7 =>
    bif decide (x7.place = place1) then
     bif b2 then
      (better2 x7.heat s1.heat).bind fun x10 =>
      bif x10 then
       some (.next (x7, true, w64 (i3 + 1)))
      else
       some (.next (s1, b2, w64 (i3 + 1)))
     else
      some (.next (x7, true, w64 (i3 + 1)))
    else
     some (.next (s1, b2, w64 (i3 + 1)))
   else
    some (.brk (s1, b2))
noncomputable def heat_best.h0 (better2_f : Nat) (better2_c : List AV) (l0 : (List heat_limit)) (place1 : Int) : (heat_limit × Bool × Int) → St := fun (s : heat_limit × Bool × Int) => match s with
 | (s1, b2, i3) => ⟨[(1, .int .i64 place1), (2, .fn (.func better2_f) [] better2_c), (6, .ptr 0 0 0), (8, .ptr 0 1 0), (9, .bool b2), (12, .sl 3 (List.map heat_limit.c l0)), (13, .int .i64 (l0.length : Int)), (14, .int .i64 i3)], [(0, .box [.int .i64 0, .int .i64 0, .int .i64 0]), (1, .box [.int .i64 s1.place, .int .i64 s1.heat, .int .i64 s1.by_])], [], 2, Try.f89.ntmps⟩
noncomputable def heat_best.x0 : (heat_limit × Bool) → St := fun (s : heat_limit × Bool) => match s with
 | (s4, b5) => ⟨[(6, .ptr 0 0 0), (8, .ptr 0 1 0), (9, .bool b5)], [(0, .box [.int .i64 0, .int .i64 0, .int .i64 0]), (1, .box [.int .i64 s4.place, .int .i64 s4.heat, .int .i64 s4.by_])], [], 2, Try.f89.ntmps⟩
def heat_best (k : Nat) (l0 : (List heat_limit)) (place1 : Int) (better2 : Int → Int → Option (Bool)) : Option (heat_limit × Bool) :=
 (whl (heat_best.b0 k better2 l0 place1) k ((⟨0, 0, 0⟩ : heat_limit), false, 0)).bind fun r12 => match r12 with
 | .next _ => none
 | .ret v_ => some v_
 | .brk (s4, b5) =>
  some (s4, b5)
theorem heat_best_ok (k : Nat) (l0 : (List heat_limit)) (place1 : Int) (better2_f : Nat) (better2_c : List AV) (better2_i : Ice better2_c) (better2 : Int → Int → Option (Bool)) (better2_h : ∀ q0 q1 qr, better2 q0 q1 = some qr → PCall Try.prog better2_f (.int .i64 q0 :: .int .i64 q1 :: better2_c) (fun y => y = .bool qr)) (r : heat_limit × Bool) (h0 : heat_best k l0 place1 better2 = some r) : PCall Try.prog 89 [.sl 3 (List.map heat_limit.c l0), .int .i64 place1, .fn (.func better2_f) [] better2_c] (fun y => y = .tup [.agg (heat_limit.c r.1), .bool r.2]) := by
 refine PB (fn := Try.f89) (sc := F89.c) ?_
 refine rS ?_
 simp only [heat_best] at h0
 try simp only [F89.c, better2_i.sh, better2_i.frz, better2_i.br, better2_i.refs, better2_i.imp, better2_i.ren, better2_i.un, go_sem]
 obtain ⟨r12, yr12, h0⟩ := bs h0
 refine AKev_loopS yr12 (heat_best.h0 better2_f better2_c l0 place1) (heat_best.x0) ?_ ?_ ?_
 refine Weak.go [1, 2, 6, 8, 9, 12, 13, 14] [0, 32] rfl ?_
 try simp only [heat_best.h0, better2_i.sh, better2_i.frz, better2_i.br, better2_i.refs, better2_i.imp, better2_i.ren, better2_i.un, go_sem]
 rintro ⟨s1, b2, i3⟩ x_1 Bk1 Br1 h1 hnext1 hbrk1 hret1
 refine rS ?_
 simp only [heat_best.b0] at h1
 try simp only [F89.s0, heat_best.h0, better2_i.sh, better2_i.frz, better2_i.br, better2_i.refs, better2_i.imp, better2_i.ren, better2_i.un, go_sem]
 refine AKev_bif h1 ?_ ?_ <;> intro c6 h1
 try simp only [c6, better2_i.sh, better2_i.frz, better2_i.br, better2_i.refs, better2_i.imp, better2_i.ren, better2_i.un, go_sem]
 obtain ⟨x7, yx7, h1⟩ := bs h1
 try simp only [aa yx7, better2_i.sh, better2_i.frz, better2_i.br, better2_i.refs, better2_i.imp, better2_i.ren, better2_i.un, c6, go_sem]
 refine AKev_bif h1 ?_ ?_ <;> intro c8 h1
 try simp only [c8, better2_i.sh, better2_i.frz, better2_i.br, better2_i.refs, better2_i.imp, better2_i.ren, better2_i.un, c6, aa yx7, go_sem]
 refine AKev_bif h1 ?_ ?_ <;> intro c9 h1
 try simp only [c9, better2_i.sh, better2_i.frz, better2_i.br, better2_i.refs, better2_i.imp, better2_i.ren, better2_i.un, c6, aa yx7, c8, go_sem]
 obtain ⟨x10, yx10, h1⟩ := bs h1
 refine zc0 (better2_h _ _ _ yx10) ?_ (by first | rfl | simp [AV.refsL, AV.refs, AV.scal, AV.leaf, better2_i.refs]) ?_
 try simp only [better2_i.sh, better2_i.frz, better2_i.br, better2_i.refs, better2_i.imp, better2_i.ren, better2_i.un, c6, aa yx7, c8, c9, go_sem]
 try simp only [better2_i.sh, better2_i.frz, better2_i.br, better2_i.refs, better2_i.imp, better2_i.ren, better2_i.un, c6, aa yx7, c8, c9, go_sem]
 refine AKev_bif h1 ?_ ?_ <;> intro c11 h1
 try simp only [c11, better2_i.sh, better2_i.frz, better2_i.br, better2_i.refs, better2_i.imp, better2_i.ren, better2_i.un, c6, aa yx7, c8, c9, go_sem]
 refine AKev_backB (hnext1 _ _ (Option.some.inj h1).symm ?_)
 refine Weak.go [1, 2, 6, 8, 9, 12, 13, 14] [0, 1] rfl ?_
 try simp only [heat_best.h0, better2_i.sh, better2_i.frz, better2_i.br, better2_i.refs, better2_i.imp, better2_i.ren, better2_i.un, c6, aa yx7, c8, c9, c11, go_sem]
 try simp only [c11, better2_i.sh, better2_i.frz, better2_i.br, better2_i.refs, better2_i.imp, better2_i.ren, better2_i.un, c6, aa yx7, c8, c9, go_sem]
 refine AKev_backB (hnext1 _ _ (Option.some.inj h1).symm ?_)
 refine Weak.go [1, 2, 6, 8, 9, 12, 13, 14] [0, 1] rfl ?_
 try simp only [heat_best.h0, better2_i.sh, better2_i.frz, better2_i.br, better2_i.refs, better2_i.imp, better2_i.ren, better2_i.un, c6, aa yx7, c8, c9, c11, go_sem]
 try simp only [c9, better2_i.sh, better2_i.frz, better2_i.br, better2_i.refs, better2_i.imp, better2_i.ren, better2_i.un, c6, aa yx7, c8, go_sem]
 refine AKev_backB (hnext1 _ _ (Option.some.inj h1).symm ?_)
 refine Weak.go [1, 2, 6, 8, 9, 12, 13, 14] [0, 1] rfl ?_
 try simp only [heat_best.h0, better2_i.sh, better2_i.frz, better2_i.br, better2_i.refs, better2_i.imp, better2_i.ren, better2_i.un, c6, aa yx7, c8, c9, go_sem]
 try simp only [c8, better2_i.sh, better2_i.frz, better2_i.br, better2_i.refs, better2_i.imp, better2_i.ren, better2_i.un, c6, aa yx7, go_sem]
 refine AKev_backB (hnext1 _ _ (Option.some.inj h1).symm ?_)
 refine Weak.go [1, 2, 6, 8, 9, 12, 13, 14] [0, 1] rfl ?_
 try simp only [heat_best.h0, better2_i.sh, better2_i.frz, better2_i.br, better2_i.refs, better2_i.imp, better2_i.ren, better2_i.un, c6, aa yx7, c8, go_sem]
 try simp only [c6, better2_i.sh, better2_i.frz, better2_i.br, better2_i.refs, better2_i.imp, better2_i.ren, better2_i.un, go_sem]
 refine AKev_backB (hbrk1 _ _ (Option.some.inj h1).symm ?_)
 refine Weak.go [6, 8, 9] [0, 1] rfl ?_
 try simp only [heat_best.x0, better2_i.sh, better2_i.frz, better2_i.br, better2_i.refs, better2_i.imp, better2_i.ren, better2_i.un, c6, go_sem]
 rintro ⟨s4, b5⟩ hr_
 subst hr_
 simp only at h0
 refine rS ?_
 try simp only [heat_best.x0, better2_i.sh, better2_i.frz, better2_i.br, better2_i.refs, better2_i.imp, better2_i.ren, better2_i.un, go_sem]
 obtain rfl := Option.some.inj h0
 refine AKev_ret rfl ?_
 try simp only [F89.rs, better2_i.sh, better2_i.frz, better2_i.br, better2_i.refs, better2_i.imp, better2_i.ren, better2_i.un, go_sem]
def F90.c : SC :=
 (.seq
 (.reg [sb 4 false 4 [4]])
 (.seq
 (.reg [mv 5 0 3 [0],
 mv 6 1 3 [1],
 b2 7 .lss 3 5 6 3 4 [5, 6],
 sg 4 7 4 [7]])
 .ret))
theorem F90.rs : Try.f90.results.toList = [.tmp 4] := rfl
def heat_less (k : Nat) (a0 : Int) (b1 : Int) : Option (Bool) :=
 some (decide (a0 < b1))
theorem heat_less_ok (k : Nat) (a0 : Int) (b1 : Int) (r : Bool) (h0 : heat_less k a0 b1 = some r) : PCall Try.prog 90 [.int .i64 a0, .int .i64 b1] (fun y => y = .bool r) := by
 refine PB (fn := Try.f90) (sc := F90.c) ?_
 refine rS ?_
 simp only [heat_less] at h0
 try simp only [F90.c, go_sem]
 obtain rfl := Option.some.inj h0
 refine AKev_ret rfl ?_
 try simp only [F90.rs, go_sem]
def F91.s0 : SC :=
 (.seq
 (.reg [b2 16 .lss 3 15 14 3 4 []])
 (.seq
 (.cond (.tmp 16)
 .skip
 (.exit 0))
 (.seq
 (.block 1
 (.seq
 (.reg [mv 17 15 3 [],
 sg 7 17 3 [17]])
 (.seq
 (.seq
 (.reg [ld 19 94 3 [],
 mv 20 7 3 [],
 cf2 21 88 19 20 94 3 141 [19, 20],
 mv 18 21 141 [21],
 xt 22 18 0 3 [],
 xt 23 18 1 3 [18],
 sg 8 22 3 [22],
 sg 9 23 3 [9, 23]])
 (.seq
 (.reg [mv 24 8 3 [],
 bn 25 .lss 3 24 0 3 4 [24],
 mv 26 25 4 [25],
 og 27 (.move (.tmp 8)) 3 26 false [8],
 og 28 (.fieldAddr 94 (.tmp 3) 0) 0 26 false [],
 og 29 (.fieldAddr 32 (.tmp 28) 0) 0 26 false [28],
 og 30 (.fieldAddr 29 (.tmp 29) 0) 0 26 false [29],
 og 31 (.load 27 (.tmp 30)) 27 26 false [30],
 og 32 (.move (.tmp 7)) 3 26 false [7],
 og 33 (.indexAddr 27 (.tmp 31) (.tmp 32)) 0 26 false [31, 32],
 og 34 (.load 40 (.tmp 33)) 40 26 false [33],
 og 35 (.move (.tmp 1)) 3 26 false [],
 og 36 (.indexAddr 40 (.tmp 34) (.tmp 35)) 0 26 false [34, 35],
 og 37 (.fieldAddr 39 (.tmp 36) 0) 0 26 false [36],
 og 38 (.load 3 (.tmp 37)) 3 26 false [37],
 og 39 (.binOp .sub 3 (.tmp 27) (.tmp 38) 3) 3 26 false [27, 38],
 og 40 (.move (.tmp 2)) 3 26 false [],
 og 41 (.binOp .lss 3 (.tmp 39) (.tmp 40) 3) 4 26 false [39, 40],
 oq 42 (.pick (.tmp 26) (.const (.bool true)) (.tmp 41)) 4 [26, 41]])
 (.cond (.tmp 42)
 (.exit 1)
 .skip)))
 (.seq
 (.reg [sb 6 true 4 []])
 .ret))))
 (.reg [bn 43 .add 3 15 1 3 3 [15],
 mv 15 43 3 [43]]))))
def F91.c : SC :=
 (.seq
 (.reg [oq 3 (.box 94 (.tmp 0)) 0 [0],
 sb 6 false 4 [6]])
 (.seq
 .skip
 (.seq
 (.seq
 (.reg [fa 10 94 3 0 [],
 fa 11 32 10 0 [10],
 fa 12 29 11 0 [11],
 ld 13 27 12 [12],
 ln 14 13 27 3 [13],
 oq 15 (.move (.const (.int .i64 0))) 3 []])
 (.block 0
 (.loop F91.s0)))
 (.seq
 (.reg [sb 6 false 4 []])
 .ret))))
theorem F91.rs : Try.f91.results.toList = [.tmp 6] := rfl
def heat_furnace_reaches.b0 (k : Nat) (f0 : heat_furnace) (place1 : Int) (heat2 : Int) : Int → Option (Stp (Int) (Unit) (Bool)) := fun (i1 : Int) =>
 bif decide (i1 < (f0.Firing.Kiln.Falls.length : Int)) then
  (heat_furnace_hottest k f0 i1).bind fun x3 =>
  bif (!decide (x3.1 < (0 : Int))) then
   (at? f0.Firing.Kiln.Falls i1).bind fun x5 =>
   (at? x5 place1).bind fun x6 =>
   bif decide (w64 (x3.1 - x6.Lo) < heat2) then
    some (.next (w64 (i1 + 1)))
   else
    some (.ret true)
  else
   some (.next (w64 (i1 + 1)))
 else
  some (.brk ())
noncomputable def heat_furnace_reaches.h0 (f0 : heat_furnace) (place1 : Int) (heat2 : Int) : Int → St := fun (i1 : Int) => ⟨[(1, .int .i64 place1), (2, .int .i64 heat2), (3, .ptr 0 0 0), (14, .int .i64 (f0.Firing.Kiln.Falls.length : Int)), (15, .int .i64 i1)], [(0, .box [.sl 1 (List.map (eL 2 Range.c) f0.Firing.Kiln.Falls), .sl 6 (List.map Reading.c f0.Firing.Readings), .sl 3 (List.map heat_limit.c f0.least), .sl 3 (List.map heat_limit.c f0.most)])], [], 1, Try.f91.ntmps⟩
noncomputable def heat_furnace_reaches.x0 : Unit → St := fun (_ : Unit) => ⟨[], [], [], 1, Try.f91.ntmps⟩
def heat_furnace_reaches (k : Nat) (f0 : heat_furnace) (place1 : Int) (heat2 : Int) : Option (Bool) :=
 (whl (heat_furnace_reaches.b0 k f0 place1 heat2) k 0).bind fun r8 => match r8 with
 | .next _ => none
 | .ret v_ => some v_
 | .brk _ =>
  some false
theorem heat_furnace_reaches_ok (k : Nat) (f0 : heat_furnace) (place1 : Int) (heat2 : Int) (r : Bool) (h0 : heat_furnace_reaches k f0 place1 heat2 = some r) : PCall Try.prog 91 [.agg (heat_furnace.c f0), .int .i64 place1, .int .i64 heat2] (fun y => y = .bool r) := by
 refine PB (fn := Try.f91) (sc := F91.c) ?_
 refine rS ?_
 simp only [heat_furnace_reaches] at h0
 try simp only [F91.c, go_sem]
 obtain ⟨r8, yr8, h0⟩ := bs h0
 refine AKev_loopS yr8 (heat_furnace_reaches.h0 f0 place1 heat2) (heat_furnace_reaches.x0) ?_ ?_ ?_
 refine Weak.go [1, 2, 3, 14, 15] [0] rfl ?_
 try simp only [heat_furnace_reaches.h0, go_sem]
 rintro i1 x_1 Bk1 Br1 h1 hnext1 hbrk1 hret1
 refine rS ?_
 simp only [heat_furnace_reaches.b0] at h1
 try simp only [F91.s0, heat_furnace_reaches.h0, go_sem]
 refine AKev_bif h1 ?_ ?_ <;> intro c2 h1
 try simp only [c2, go_sem]
 obtain ⟨x3, yx3, h1⟩ := bs h1
 refine zc0 (heat_furnace_hottest_ok k _ _ _ yx3) ?_ (by first | rfl | simp [AV.refsL, AV.refs, AV.scal, AV.leaf]) ?_
 try simp only [c2, go_sem]
 try simp only [c2, go_sem]
 refine AKev_bif h1 ?_ ?_ <;> intro c4 h1
 have c4 := bnot_t c4
 try simp only [c4, c2, go_sem]
 obtain ⟨x5, yx5, h1⟩ := bs h1
 try simp only [aa yx5, c2, c4, go_sem]
 obtain ⟨x6, yx6, h1⟩ := bs h1
 try simp only [aa yx6, c2, c4, aa yx5, go_sem]
 refine AKev_bif h1 ?_ ?_ <;> intro c7 h1
 try simp only [c7, c2, c4, aa yx5, aa yx6, go_sem]
 refine AKev_backB (hnext1 _ _ (Option.some.inj h1).symm ?_)
 refine Weak.go [1, 2, 3, 14, 15] [0] rfl ?_
 try simp only [heat_furnace_reaches.h0, c2, c4, aa yx5, aa yx6, c7, go_sem]
 try simp only [c7, c2, c4, aa yx5, aa yx6, go_sem]
 obtain rfl := hret1 _ (Option.some.inj h1).symm
 simp only at h0
 obtain rfl := Option.some.inj h0
 refine AKev_ret rfl ?_
 try simp only [F91.rs, c2, c4, aa yx5, aa yx6, c7, go_sem]
 have c4 := bnot_f c4
 try simp only [c4, c2, go_sem]
 refine AKev_backB (hnext1 _ _ (Option.some.inj h1).symm ?_)
 refine Weak.go [1, 2, 3, 14, 15] [0] rfl ?_
 try simp only [heat_furnace_reaches.h0, c2, c4, go_sem]
 try simp only [c2, go_sem]
 refine AKev_backB (hbrk1 _ _ (Option.some.inj h1).symm ?_)
 refine Weak.go [] [] rfl ?_
 try simp only [heat_furnace_reaches.x0, c2, go_sem]
 rintro _ hr_
 subst hr_
 simp only at h0
 refine rS ?_
 try simp only [heat_furnace_reaches.x0, go_sem]
 obtain rfl := Option.some.inj h0
 refine AKev_ret rfl ?_
 try simp only [F91.rs, go_sem]
def F56.s1 : SC :=
 (.seq
 (.reg [b2 31 .lss 3 30 29 3 0 []])
 (.seq
 (.cond (.tmp 31)
 .skip
 (.exit 2))
 (.seq
 (.block 3
 (.seq
 (.reg [ia 32 92 28 30 [],
 ld 33 136 32 [32],
 oq 7 (.alloc 136) 0 [],
 ⟨none, .store 136 (.tmp 7) (.tmp 33), 0, none, [33]⟩])
 (.seq
 (.reg [fa 35 94 1 2 [],
 ld 36 92 35 [35],
 fa 37 136 7 0 [],
 ld 38 3 37 [37],
 oq 39 (.call ⟨.value (.func 89), #[.tmp 36, .tmp 38, .func 90], #[92, 3, 147]⟩) 137 [36, 38],
 mv 34 39 137 [39],
 xt 40 34 0 136 [],
 xt 41 34 1 4 [34],
 oq 8 (.alloc 136) 0 [],
 ⟨none, .store 136 (.tmp 8) (.tmp 40), 0, none, [40]⟩,
 sg 9 41 4 [41]])
 (.seq
 (.reg [mv 42 9 4 [9],
 mv 43 42 4 [42],
 og 44 (.fieldAddr 136 (.tmp 8) 1) 0 43 true [8],
 og 45 (.load 3 (.tmp 44)) 3 43 true [44],
 og 46 (.fieldAddr 136 (.tmp 7) 1) 0 43 true [],
 og 47 (.load 3 (.tmp 46)) 3 43 true [46],
 og 48 (.binOp .lss 3 (.tmp 45) (.tmp 47) 3) 4 43 true [45, 47],
 oq 49 (.pick (.tmp 43) (.tmp 48) (.const (.bool false))) 4 [43, 48],
 mv 50 49 4 [49],
 og 51 (.load 94 (.tmp 1)) 94 50 false [],
 og 52 (.fieldAddr 136 (.tmp 7) 0) 0 50 false [],
 og 53 (.load 3 (.tmp 52)) 3 50 false [52],
 og 54 (.fieldAddr 136 (.tmp 7) 1) 0 50 false [7],
 og 55 (.load 3 (.tmp 54)) 3 50 false [54],
 og 56 (.call ⟨.value (.func 91), #[.tmp 51, .tmp 53, .tmp 55], #[94, 3, 3]⟩) 4 50 false [51, 53, 55],
 og 57 (.unOp .not 4 (.tmp 56)) 4 50 false [56],
 oq 58 (.pick (.tmp 50) (.const (.bool true)) (.tmp 57)) 4 [50, 57]])
 (.cond (.tmp 58)
 (.seq
 (.reg [sb 2 false 4 []])
 .ret)
 .skip)))))
 (.reg [bn 59 .add 3 30 1 3 3 [30],
 mv 30 59 3 [59]]))))
def F56.s0 : SC :=
 (.seq
 (.reg [b2 16 .lss 3 15 14 3 4 []])
 (.seq
 (.cond (.tmp 16)
 .skip
 (.exit 0))
 (.seq
 (.block 1
 (.seq
 (.reg [mv 17 15 3 [],
 sg 3 17 3 [17]])
 (.seq
 (.reg [ld 19 94 1 [],
 mv 20 3 3 [3],
 cf2 21 88 19 20 94 3 141 [19, 20],
 mv 18 21 141 [21],
 xt 22 18 0 3 [],
 xt 23 18 1 3 [18],
 sg 4 22 3 [22],
 sg 5 23 3 [5, 23]])
 (.seq
 (.reg [mv 24 4 3 [4],
 bn 25 .lss 3 24 0 3 4 [24]])
 (.cond (.tmp 25)
 (.seq
 (.reg [sb 2 false 4 []])
 .ret)
 .skip)))))
 (.reg [bn 26 .add 3 15 1 3 3 [15],
 mv 15 26 3 [26]]))))
def F56.c : SC :=
 (.seq
 (.reg [oq 1 (.box 94 (.tmp 0)) 0 [0],
 sb 2 false 4 [2]])
 (.seq
 (.seq
 (.reg [fa 10 94 1 0 [],
 fa 11 32 10 0 [10],
 fa 12 29 11 0 [11],
 ld 13 27 12 [12],
 ln 14 13 27 3 [13],
 oq 15 (.move (.const (.int .i64 0))) 3 []])
 (.block 0
 (.loop F56.s0)))
 (.seq
 (.seq
 (.reg [fa 27 94 1 1 [],
 ld 28 92 27 [27],
 ln 29 28 92 3 [],
 oq 30 (.move (.const (.int .i64 0))) 3 []])
 (.block 2
 (.loop F56.s1)))
 (.seq
 (.reg [sb 2 true 4 []])
 .ret))))
theorem F56.rs : Try.f56.results.toList = [.tmp 2] := rfl
def heat_furnace_sound.b0 (k : Nat) (f0 : heat_furnace) : Int → Option (Stp (Int) (Unit) (Bool)) := fun (i1 : Int) =>
 bif decide (i1 < (f0.Firing.Kiln.Falls.length : Int)) then
  (heat_furnace_hottest k f0 i1).bind fun x3 =>
  bif decide (x3.1 < (0 : Int)) then
   some (.ret false)
  else
   some (.next (w64 (i1 + 1)))
 else
  some (.brk ())
def heat_furnace_sound.b1 (k : Nat) (f0 : heat_furnace) : Int → Option (Stp (Int) (Unit) (Bool)) := fun (i6 : Int) =>
 bif decide (i6 < (f0.least.length : Int)) then
  (at? f0.least i6).bind fun x8 =>
  (heat_best k f0.most x8.place (fun q0 q1 => heat_less k q0 q1)).bind fun x9 =>
  bif x9.2 then
   bif (!decide (x9.1.heat < x8.heat)) then
    (heat_furnace_reaches k f0 x8.place x8.heat).bind fun x12 =>
    bif (!x12) then
     some (.ret false)
    else
     some (.next (w64 (i6 + 1)))
   else
    some (.ret false)
  else
   (heat_furnace_reaches k f0 x8.place x8.heat).bind fun x14 =>
   bif (!x14) then
    some (.ret false)
   else
    some (.next (w64 (i6 + 1)))
 else
  some (.brk ())
noncomputable def heat_furnace_sound.h0 (f0 : heat_furnace) : Int → St := fun (i1 : Int) => ⟨[(1, .ptr 0 0 0), (14, .int .i64 (f0.Firing.Kiln.Falls.length : Int)), (15, .int .i64 i1)], [(0, .box [.sl 1 (List.map (eL 2 Range.c) f0.Firing.Kiln.Falls), .sl 6 (List.map Reading.c f0.Firing.Readings), .sl 3 (List.map heat_limit.c f0.least), .sl 3 (List.map heat_limit.c f0.most)])], [], 1, Try.f56.ntmps⟩
noncomputable def heat_furnace_sound.x0 (f0 : heat_furnace) : Unit → St := fun (_ : Unit) => ⟨[(1, .ptr 0 0 0)], [(0, .box [.sl 1 (List.map (eL 2 Range.c) f0.Firing.Kiln.Falls), .sl 6 (List.map Reading.c f0.Firing.Readings), .sl 3 (List.map heat_limit.c f0.least), .sl 3 (List.map heat_limit.c f0.most)])], [], 1, Try.f56.ntmps⟩
noncomputable def heat_furnace_sound.h1 (f0 : heat_furnace) : Int → St := fun (i6 : Int) => ⟨[(1, .ptr 0 0 0), (28, .sl 3 (List.map heat_limit.c f0.least)), (29, .int .i64 (f0.least.length : Int)), (30, .int .i64 i6)], [(0, .box [.sl 1 (List.map (eL 2 Range.c) f0.Firing.Kiln.Falls), .sl 6 (List.map Reading.c f0.Firing.Readings), .sl 3 (List.map heat_limit.c f0.least), .sl 3 (List.map heat_limit.c f0.most)])], [], 1, Try.f56.ntmps⟩
noncomputable def heat_furnace_sound.x1 : Unit → St := fun (_ : Unit) => ⟨[], [], [], 1, Try.f56.ntmps⟩
def heat_furnace_sound (k : Nat) (f0 : heat_furnace) : Option (Bool) :=
 (whl (heat_furnace_sound.b0 k f0) k 0).bind fun r5 => match r5 with
 | .next _ => none
 | .ret v_ => some v_
 | .brk _ =>
  (whl (heat_furnace_sound.b1 k f0) k 0).bind fun r16 => match r16 with
  | .next _ => none
  | .ret v_ => some v_
  | .brk _ =>
   some true
theorem heat_furnace_sound_ok (k : Nat) (f0 : heat_furnace) (r : Bool) (h0 : heat_furnace_sound k f0 = some r) : PCall Try.prog 56 [.agg (heat_furnace.c f0)] (fun y => y = .bool r) := by
 refine PB (fn := Try.f56) (sc := F56.c) ?_
 refine rS ?_
 simp only [heat_furnace_sound] at h0
 try simp only [F56.c, go_sem]
 obtain ⟨r5, yr5, h0⟩ := bs h0
 refine AKev_loopS yr5 (heat_furnace_sound.h0 f0) (heat_furnace_sound.x0 f0) ?_ ?_ ?_
 refine Weak.go [1, 14, 15] [0] rfl ?_
 try simp only [heat_furnace_sound.h0, go_sem]
 rintro i1 x_1 Bk1 Br1 h1 hnext1 hbrk1 hret1
 refine rS ?_
 simp only [heat_furnace_sound.b0] at h1
 try simp only [F56.s0, heat_furnace_sound.h0, go_sem]
 refine AKev_bif h1 ?_ ?_ <;> intro c2 h1
 try simp only [c2, go_sem]
 obtain ⟨x3, yx3, h1⟩ := bs h1
 refine zc0 (heat_furnace_hottest_ok k _ _ _ yx3) ?_ (by first | rfl | simp [AV.refsL, AV.refs, AV.scal, AV.leaf]) ?_
 try simp only [c2, go_sem]
 try simp only [c2, go_sem]
 refine AKev_bif h1 ?_ ?_ <;> intro c4 h1
 try simp only [c4, c2, go_sem]
 obtain rfl := hret1 _ (Option.some.inj h1).symm
 simp only at h0
 obtain rfl := Option.some.inj h0
 refine AKev_ret rfl ?_
 try simp only [F56.rs, c2, c4, go_sem]
 try simp only [c4, c2, go_sem]
 refine AKev_backB (hnext1 _ _ (Option.some.inj h1).symm ?_)
 refine Weak.go [1, 14, 15] [0] rfl ?_
 try simp only [heat_furnace_sound.h0, c2, c4, go_sem]
 try simp only [c2, go_sem]
 refine AKev_backB (hbrk1 _ _ (Option.some.inj h1).symm ?_)
 refine Weak.go [1] [0] rfl ?_
 try simp only [heat_furnace_sound.x0, c2, go_sem]
 rintro _ hr_
 subst hr_
 simp only at h0
 refine rS ?_
 try simp only [heat_furnace_sound.x0, go_sem]
 obtain ⟨r16, yr16, h0⟩ := bs h0
 refine AKev_loopS yr16 (heat_furnace_sound.h1 f0) (heat_furnace_sound.x1) ?_ ?_ ?_
 refine Weak.go [1, 28, 29, 30] [0] rfl ?_
 try simp only [heat_furnace_sound.h1, go_sem]
 rintro i6 x_1 Bk1 Br1 h1 hnext1 hbrk1 hret1
 refine rS ?_
 simp only [heat_furnace_sound.b1] at h1
 try simp only [F56.s1, heat_furnace_sound.h1, go_sem]
 refine AKev_bif h1 ?_ ?_ <;> intro c7 h1
 try simp only [c7, go_sem]
 obtain ⟨x8, yx8, h1⟩ := bs h1
 try simp only [aa yx8, c7, go_sem]
 obtain ⟨x9, yx9, h1⟩ := bs h1
 refine zc0 (heat_best_ok k _ _ 90 [] ⟨fun _ => rfl, fun _ => rfl, fun _ _ => rfl, rfl, fun _ => rfl, fun _ => rfl, fun _ => rfl⟩ (fun q0 q1 => heat_less k q0 q1) (fun q0 q1 qr qh => heat_less_ok k q0 q1 qr qh) _ yx9) ?_ (by first | rfl | simp [AV.refsL, AV.refs, AV.scal, AV.leaf]) ?_
 try simp only [c7, aa yx8, go_sem]
 try simp only [c7, aa yx8, go_sem]
 refine AKev_bif h1 ?_ ?_ <;> intro c10 h1
 try simp only [c10, c7, aa yx8, go_sem]
 refine AKev_bif h1 ?_ ?_ <;> intro c11 h1
 have c11 := bnot_t c11
 try simp only [c11, c7, aa yx8, c10, go_sem]
 obtain ⟨x12, yx12, h1⟩ := bs h1
 refine zc0 (heat_furnace_reaches_ok k _ _ _ _ yx12) ?_ (by first | rfl | simp [AV.refsL, AV.refs, AV.scal, AV.leaf]) ?_
 try simp only [c7, aa yx8, c10, c11, go_sem]
 try simp only [c7, aa yx8, c10, c11, go_sem]
 refine AKev_bif h1 ?_ ?_ <;> intro c13 h1
 have c13 := bnot_t c13
 try simp only [c13, c7, aa yx8, c10, c11, go_sem]
 obtain rfl := hret1 _ (Option.some.inj h1).symm
 simp only at h0
 obtain rfl := Option.some.inj h0
 refine AKev_ret rfl ?_
 try simp only [F56.rs, c7, aa yx8, c10, c11, c13, go_sem]
 have c13 := bnot_f c13
 try simp only [c13, c7, aa yx8, c10, c11, go_sem]
 refine AKev_backB (hnext1 _ _ (Option.some.inj h1).symm ?_)
 refine Weak.go [1, 28, 29, 30] [0] rfl ?_
 try simp only [heat_furnace_sound.h1, c7, aa yx8, c10, c11, c13, go_sem]
 have c11 := bnot_f c11
 try simp only [c11, c7, aa yx8, c10, go_sem]
 obtain rfl := hret1 _ (Option.some.inj h1).symm
 simp only at h0
 obtain rfl := Option.some.inj h0
 refine AKev_ret rfl ?_
 try simp only [F56.rs, c7, aa yx8, c10, c11, go_sem]
 try simp only [c10, c7, aa yx8, go_sem]
 obtain ⟨x14, yx14, h1⟩ := bs h1
 refine zc0 (heat_furnace_reaches_ok k _ _ _ _ yx14) ?_ (by first | rfl | simp [AV.refsL, AV.refs, AV.scal, AV.leaf]) ?_
 try simp only [c7, aa yx8, c10, go_sem]
 try simp only [c7, aa yx8, c10, go_sem]
 refine AKev_bif h1 ?_ ?_ <;> intro c15 h1
 have c15 := bnot_t c15
 try simp only [c15, c7, aa yx8, c10, go_sem]
 obtain rfl := hret1 _ (Option.some.inj h1).symm
 simp only at h0
 obtain rfl := Option.some.inj h0
 refine AKev_ret rfl ?_
 try simp only [F56.rs, c7, aa yx8, c10, c15, go_sem]
 have c15 := bnot_f c15
 try simp only [c15, c7, aa yx8, c10, go_sem]
 refine AKev_backB (hnext1 _ _ (Option.some.inj h1).symm ?_)
 refine Weak.go [1, 28, 29, 30] [0] rfl ?_
 try simp only [heat_furnace_sound.h1, c7, aa yx8, c10, c15, go_sem]
 try simp only [c7, go_sem]
 refine AKev_backB (hbrk1 _ _ (Option.some.inj h1).symm ?_)
 refine Weak.go [] [] rfl ?_
 try simp only [heat_furnace_sound.x1, c7, go_sem]
 rintro _ hr_
 subst hr_
 simp only at h0
 refine rS ?_
 try simp only [heat_furnace_sound.x1, go_sem]
 obtain rfl := Option.some.inj h0
 refine AKev_ret rfl ?_
 try simp only [F56.rs, go_sem]
def F36.c : SC :=
 (.seq
 (.reg [oq 2 (.box 32 (.tmp 0)) 0 [0],
 oq 4 (.alloc 94) 0 [],
 sn 5 0 43 [5]])
 (.seq
 (.reg [ld 7 32 2 [],
 cf1 8 47 7 32 94 [7],
 oq 6 (.alloc 94) 0 [],
 ⟨none, .store 94 (.tmp 6) (.tmp 8), 0, none, [8]⟩])
 (.seq
 (.block 0
 (.seq
 (.reg [ld 10 32 2 [],
 cf1 11 41 10 32 43 [10],
 bn 12 .neq 43 11 0 43 4 [11],
 sg 9 12 4 [12]])
 (.cond (.tmp 9)
 (.seq
 (.reg [oq 13 (.build 94 #[]) 94 [],
 ⟨none, .store 94 (.tmp 4) (.tmp 13), 0, none, [13]⟩,
 sn 5 42 43 []])
 .ret)
 (.seq
 (.reg [mv 15 1 3 [1],
 fa 16 32 2 0 [2],
 fa 17 29 16 0 [16],
 ld 18 27 17 [17],
 oq 19 (.indexAddr 27 (.tmp 18) (.const (.int .i64 0))) 0 [18],
 ld 20 40 19 [19],
 ln 21 20 40 3 [20],
 bn 22 .sub 3 21 1 3 3 [21],
 oq 23 (.call ⟨.value (.func 42), #[.tmp 15, .const (.int .i64 0), .tmp 22], #[3, 3, 3]⟩) 4 [15, 22],
 oq 24 (.unOp .not 4 (.tmp 23)) 4 [23],
 sg 14 24 4 [24]])
 (.cond (.tmp 14)
 (.seq
 (.reg [oq 25 (.build 94 #[]) 94 [],
 ⟨none, .store 94 (.tmp 4) (.tmp 25), 0, none, [25]⟩,
 sn 5 43 43 []])
 .ret)
 (.seq
 (.reg [ld 27 94 6 [],
 cf1 28 56 27 94 4 [27],
 oq 29 (.unOp .not 4 (.tmp 28)) 4 [28],
 sg 26 29 4 [29]])
 (.cond (.tmp 26)
 (.seq
 (.reg [oq 30 (.build 94 #[]) 94 [],
 ⟨none, .store 94 (.tmp 4) (.tmp 30), 0, none, [30]⟩,
 sn 5 44 43 []])
 .ret)
 .skip)))))))
 (.seq
 (.reg [ld 31 94 6 [6],
 ⟨none, .store 94 (.tmp 4) (.tmp 31), 0, none, [31]⟩,
 sn 5 0 43 []])
 .ret))))
theorem F36.rs : Try.f36.results.toList = [.cell 4 94, .tmp 5] := rfl
def heat_asks (k : Nat) (f0 : Firing) (place1 : Int) : Option (heat_furnace × Int) :=
 (heat_newFurnace k f0).bind fun x1 =>
 (heat_Check k f0).bind fun x2 =>
 bif (!decide (x2 = (0 : Int))) then
  some ((⟨(⟨(⟨[]⟩ : Kiln), []⟩ : Firing), [], []⟩ : heat_furnace), 42)
 else
  (at? f0.Kiln.Falls 0).bind fun x4 =>
  (heat_in k place1 0 (w64 ((x4.length : Int) - 1))).bind fun x5 =>
  bif (!x5) then
   some ((⟨(⟨(⟨[]⟩ : Kiln), []⟩ : Firing), [], []⟩ : heat_furnace), 43)
  else
   (heat_furnace_sound k x1).bind fun x7 =>
   bif (!x7) then
    some ((⟨(⟨(⟨[]⟩ : Kiln), []⟩ : Firing), [], []⟩ : heat_furnace), 44)
   else
    some (x1, 0)
theorem heat_asks_ok (k : Nat) (f0 : Firing) (place1 : Int) (r : heat_furnace × Int) (h0 : heat_asks k f0 place1 = some r) : PCall Try.prog 36 [.agg (Firing.c f0), .int .i64 place1] (fun y => y = .tup [.agg (heat_furnace.c r.1), .int .i64 r.2]) := by
 refine PB (fn := Try.f36) (sc := F36.c) ?_
 refine rS ?_
 simp only [heat_asks] at h0
 try simp only [F36.c, go_sem]
 obtain ⟨x1, yx1, h0⟩ := bs h0
 refine zc0 (heat_newFurnace_ok k _ _ yx1) ?_ (by first | rfl | simp [AV.refsL, AV.refs, AV.scal, AV.leaf]) ?_
 try simp only [go_sem]
 try simp only [go_sem]
 obtain ⟨x2, yx2, h0⟩ := bs h0
 refine zc0 (heat_Check_ok k _ _ yx2) ?_ (by first | rfl | simp [AV.refsL, AV.refs, AV.scal, AV.leaf]) ?_
 try simp only [go_sem]
 try simp only [go_sem]
 refine AKev_bif h0 ?_ ?_ <;> intro c3 h0
 have c3 := bnot_t c3
 try simp only [c3, go_sem]
 obtain rfl := Option.some.inj h0
 refine AKev_ret rfl ?_
 try simp only [F36.rs, c3, go_sem]
 have c3 := bnot_f c3
 try simp only [c3, go_sem]
 obtain ⟨x4, yx4, h0⟩ := bs h0
 try simp only [aa yx4, c3, go_sem]
 obtain ⟨x5, yx5, h0⟩ := bs h0
 refine zc0 (heat_in_ok k _ _ _ _ yx5) ?_ (by first | rfl | simp [AV.refsL, AV.refs, AV.scal, AV.leaf]) ?_
 try simp only [c3, aa yx4, go_sem]
 try simp only [c3, aa yx4, go_sem]
 refine AKev_bif h0 ?_ ?_ <;> intro c6 h0
 have c6 := bnot_t c6
 try simp only [c6, c3, aa yx4, go_sem]
 obtain rfl := Option.some.inj h0
 refine AKev_ret rfl ?_
 try simp only [F36.rs, c3, aa yx4, c6, go_sem]
 have c6 := bnot_f c6
 try simp only [c6, c3, aa yx4, go_sem]
 obtain ⟨x7, yx7, h0⟩ := bs h0
 refine zc0 (heat_furnace_sound_ok k _ _ yx7) ?_ (by first | rfl | simp [AV.refsL, AV.refs, AV.scal, AV.leaf]) ?_
 try simp only [c3, aa yx4, c6, go_sem]
 try simp only [c3, aa yx4, c6, go_sem]
 refine AKev_bif h0 ?_ ?_ <;> intro c8 h0
 have c8 := bnot_t c8
 try simp only [c8, c3, aa yx4, c6, go_sem]
 obtain rfl := Option.some.inj h0
 refine AKev_ret rfl ?_
 try simp only [F36.rs, c3, aa yx4, c6, c8, go_sem]
 have c8 := bnot_f c8
 try simp only [c8, c3, aa yx4, c6, go_sem]
 obtain rfl := Option.some.inj h0
 refine AKev_ret rfl ?_
 try simp only [F36.rs, c3, aa yx4, c6, c8, go_sem]
def F99.s0 : SC :=
 (.seq
 (.reg [b2 21 .lss 3 20 19 3 4 []])
 (.seq
 (.cond (.tmp 21)
 .skip
 (.exit 0))
 (.seq
 (.block 1
 (.seq
 (.reg [mv 22 20 3 [],
 sg 10 22 3 [22]])
 (.seq
 (.dreg [fa 23 136 4 1 [],
 ld 24 3 23 [],
 fa 25 94 3 0 [],
 fa 26 32 25 0 [],
 fa 27 29 26 0 [],
 ld 28 27 27 [],
 mv 29 10 3 [],
 ia 30 27 28 29 [],
 ld 31 40 30 [],
 fa 32 136 4 0 [],
 ld 33 3 32 [],
 ia 34 40 31 33 [],
 fa 35 39 34 0 [],
 ld 36 3 35 [],
 b2 37 .add 3 24 36 3 3 [],
 sg 11 37 3 []] [[], [0], [], [2], [2, 3], [2, 3, 4], [], [2, 3, 4, 5, 6], [2, 3, 4, 5, 6, 7], [], [9], [2, 3, 4, 5, 6, 7, 8, 9, 10], [2, 3, 4, 5, 6, 7, 8, 9, 10, 11], [2, 3, 4, 5, 6, 7, 8, 9, 10, 11, 12], [0, 1, 2, 3, 4, 5, 6, 7, 8, 9, 10, 11, 12, 13], [0, 1, 2, 3, 4, 5, 6, 7, 8, 9, 10, 11, 12, 13, 14]] [23, 24, 25, 26, 27, 28, 29, 30, 31, 32, 33, 34, 35, 36, 37])
 (.seq
 (.reg [ld 39 94 3 [],
 mv 40 10 3 [],
 cf2 41 88 39 40 94 3 141 [39, 40],
 mv 38 41 141 [41],
 xt 42 38 0 3 [],
 xt 43 38 1 3 [38],
 sg 12 42 3 [42],
 sg 13 43 3 [13, 43]])
 (.seq
 (.reg [mv 44 11 3 [],
 mv 45 12 3 [12],
 b2 46 .leq 3 44 45 3 4 [44, 45]])
 (.cond (.tmp 46)
 (.seq
 (.reg [mv 47 11 3 [11],
 fa 48 94 3 0 [],
 fa 49 32 48 0 [48],
 fa 50 29 49 0 [49],
 ld 51 27 50 [50],
 mv 52 10 3 [10],
 ia 53 27 51 52 [51, 52],
 ld 54 40 53 [53],
 mv 55 2 3 [],
 ia 56 40 54 55 [54, 55],
 fa 57 39 56 1 [56],
 ld 58 3 57 [57],
 b2 59 .sub 3 47 58 3 3 [47, 58],
 sg 14 59 3 [59]])
 (.seq
 (.reg [mv 60 9 4 [],
 oq 61 (.unOp .not 4 (.tmp 60)) 4 [60],
 mv 62 61 4 [61],
 og 63 (.move (.tmp 14)) 3 62 false [],
 og 64 (.move (.tmp 8)) 3 62 false [],
 og 65 (.binOp .lss 3 (.tmp 63) (.tmp 64) 3) 4 62 false [63, 64],
 oq 66 (.pick (.tmp 62) (.const (.bool true)) (.tmp 65)) 4 [62, 65]])
 (.cond (.tmp 66)
 (.reg [mv 67 14 3 [14],
 sg 8 67 3 [67],
 sb 9 true 4 []])
 .skip)))
 .skip))))))
 (.reg [bn 68 .add 3 20 1 3 3 [20],
 mv 20 68 3 [68]]))))
def F99.c : SC :=
 (.seq
 (.reg [oq 3 (.box 94 (.tmp 0)) 0 [0],
 oq 4 (.box 136 (.tmp 1)) 0 [1],
 sn 6 0 3 [6],
 sb 7 false 4 [7]])
 (.seq
 (.reg [sn 8 0 3 [],
 sb 9 false 4 []])
 (.seq
 (.seq
 (.reg [fa 15 94 3 0 [],
 fa 16 32 15 0 [15],
 fa 17 29 16 0 [16],
 ld 18 27 17 [17],
 ln 19 18 27 3 [18],
 oq 20 (.move (.const (.int .i64 0))) 3 []])
 (.block 0
 (.loop F99.s0)))
 (.seq
 (.reg [mv 69 8 3 [8],
 mv 70 9 4 [9],
 sg 6 69 3 [69],
 sg 7 70 4 [70]])
 .ret))))
theorem F99.rs : Try.f99.results.toList = [.tmp 6, .tmp 7] := rfl
def heat_furnace_shownLow.b0 (k : Nat) (f0 : heat_furnace) (x1 : heat_limit) (place2 : Int) : (Int × Bool × Int) → Option (Stp (Int × Bool × Int) (Int × Bool) (Int × Bool)) := fun (s : Int × Bool × Int) => match s with
 | (i1, b2, i3) =>
   bif decide (i3 < (f0.Firing.Kiln.Falls.length : Int)) then
    (at? f0.Firing.Kiln.Falls i3).bind fun x7 =>
    (at? x7 x1.place).bind fun x8 =>
    (heat_furnace_hottest k f0 i3).bind fun x9 =>
    bif decide (w64 (x1.heat + x8.Lo) ≤ x9.1) then
     (at? x7 place2).bind fun x11 =>
     bif b2 then
      bif decide (w64 ((w64 (x1.heat + x8.Lo)) - x11.Hi) < i1) then
       some (.next (w64 ((w64 (x1.heat + x8.Lo)) - x11.Hi), true, w64 (i3 + 1)))
      else
       some (.next (i1, b2, w64 (i3 + 1)))
     else
      some (.next (w64 ((w64 (x1.heat + x8.Lo)) - x11.Hi), true, w64 (i3 + 1)))
    else
     some (.next (i1, b2, w64 (i3 + 1)))
   else
    some (.brk (i1, b2))
noncomputable def heat_furnace_shownLow.h0 (f0 : heat_furnace) (x1 : heat_limit) (place2 : Int) : (Int × Bool × Int) → St := fun (s : Int × Bool × Int) => match s with
 | (i1, b2, i3) => ⟨[(2, .int .i64 place2), (3, .ptr 0 0 0), (4, .ptr 0 1 0), (8, .int .i64 i1), (9, .bool b2), (19, .int .i64 (f0.Firing.Kiln.Falls.length : Int)), (20, .int .i64 i3)], [(0, .box [.sl 1 (List.map (eL 2 Range.c) f0.Firing.Kiln.Falls), .sl 6 (List.map Reading.c f0.Firing.Readings), .sl 3 (List.map heat_limit.c f0.least), .sl 3 (List.map heat_limit.c f0.most)]), (1, .box [.int .i64 x1.place, .int .i64 x1.heat, .int .i64 x1.by_])], [], 2, Try.f99.ntmps⟩
noncomputable def heat_furnace_shownLow.x0 : (Int × Bool) → St := fun (s : Int × Bool) => match s with
 | (i4, b5) => ⟨[(8, .int .i64 i4), (9, .bool b5)], [], [], 1, Try.f99.ntmps⟩
def heat_furnace_shownLow (k : Nat) (f0 : heat_furnace) (x1 : heat_limit) (place2 : Int) : Option (Int × Bool) :=
 (whl (heat_furnace_shownLow.b0 k f0 x1 place2) k (0, false, 0)).bind fun r14 => match r14 with
 | .next _ => none
 | .ret v_ => some v_
 | .brk (i4, b5) =>
  some (i4, b5)
theorem heat_furnace_shownLow_ok (k : Nat) (f0 : heat_furnace) (x1 : heat_limit) (place2 : Int) (r : Int × Bool) (h0 : heat_furnace_shownLow k f0 x1 place2 = some r) : PCall Try.prog 99 [.agg (heat_furnace.c f0), .agg (heat_limit.c x1), .int .i64 place2] (fun y => y = .tup [.int .i64 r.1, .bool r.2]) := by
 refine PB (fn := Try.f99) (sc := F99.c) ?_
 refine rS ?_
 simp only [heat_furnace_shownLow] at h0
 try simp only [F99.c, go_sem]
 obtain ⟨r14, yr14, h0⟩ := bs h0
 refine AKev_loopS yr14 (heat_furnace_shownLow.h0 f0 x1 place2) (heat_furnace_shownLow.x0) ?_ ?_ ?_
 refine Weak.go [2, 3, 4, 8, 9, 19, 20] [0, 16] rfl ?_
 try simp only [heat_furnace_shownLow.h0, go_sem]
 rintro ⟨i1, b2, i3⟩ x_1 Bk1 Br1 h1 hnext1 hbrk1 hret1
 refine rS ?_
 simp only [heat_furnace_shownLow.b0] at h1
 try simp only [F99.s0, heat_furnace_shownLow.h0, go_sem]
 refine AKev_bif h1 ?_ ?_ <;> intro c6 h1
 try simp only [c6, go_sem]
 refine AKev_region T_ok follows_ok 1000 ?_
 try simp only [c6, go_sem]
 obtain ⟨x7, yx7, h1⟩ := bs h1
 try simp only [aa yx7, c6, go_sem]
 obtain ⟨x8, yx8, h1⟩ := bs h1
 try simp only [aa yx8, c6, aa yx7, go_sem]
 refine DG_done ⟨calm_of (by simp only [skel, List.reverse_cons, List.reverse_nil, List.nil_append, List.cons_append, List.map_cons, List.map_nil, List.append_nil]; rfl) (by first | decide +kernel | rfl), run_sound T_ok 1000 _ _ ?_⟩
 try simp only [c6, aa yx7, aa yx8, go_sem]
 obtain ⟨x9, yx9, h1⟩ := bs h1
 refine zc0 (heat_furnace_hottest_ok k _ _ _ yx9) ?_ (by first | rfl | simp [AV.refsL, AV.refs, AV.scal, AV.leaf]) ?_
 try simp only [c6, aa yx7, aa yx8, go_sem]
 try simp only [c6, aa yx7, aa yx8, go_sem]
 refine AKev_bif h1 ?_ ?_ <;> intro c10 h1
 try simp only [c10, aa yx7, c6, aa yx8, go_sem]
 obtain ⟨x11, yx11, h1⟩ := bs h1
 try simp only [aa yx11, c6, aa yx7, aa yx8, c10, go_sem]
 refine AKev_bif h1 ?_ ?_ <;> intro c12 h1
 try simp only [c12, c6, aa yx7, aa yx8, c10, aa yx11, go_sem]
 refine AKev_bif h1 ?_ ?_ <;> intro c13 h1
 try simp only [c13, c6, aa yx7, aa yx8, c10, aa yx11, c12, go_sem]
 refine AKev_backB (hnext1 _ _ (Option.some.inj h1).symm ?_)
 refine Weak.go [2, 3, 4, 8, 9, 19, 20] [0, 1] rfl ?_
 try simp only [heat_furnace_shownLow.h0, c6, aa yx7, aa yx8, c10, aa yx11, c12, c13, go_sem]
 try simp only [c13, c6, aa yx7, aa yx8, c10, aa yx11, c12, go_sem]
 refine AKev_backB (hnext1 _ _ (Option.some.inj h1).symm ?_)
 refine Weak.go [2, 3, 4, 8, 9, 19, 20] [0, 1] rfl ?_
 try simp only [heat_furnace_shownLow.h0, c6, aa yx7, aa yx8, c10, aa yx11, c12, c13, go_sem]
 try simp only [c12, c6, aa yx7, aa yx8, c10, aa yx11, go_sem]
 refine AKev_backB (hnext1 _ _ (Option.some.inj h1).symm ?_)
 refine Weak.go [2, 3, 4, 8, 9, 19, 20] [0, 1] rfl ?_
 try simp only [heat_furnace_shownLow.h0, c6, aa yx7, aa yx8, c10, aa yx11, c12, go_sem]
 try simp only [c10, c6, aa yx7, aa yx8, go_sem]
 refine AKev_backB (hnext1 _ _ (Option.some.inj h1).symm ?_)
 refine Weak.go [2, 3, 4, 8, 9, 19, 20] [0, 1] rfl ?_
 try simp only [heat_furnace_shownLow.h0, c6, aa yx7, aa yx8, c10, go_sem]
 try simp only [c6, go_sem]
 refine AKev_backB (hbrk1 _ _ (Option.some.inj h1).symm ?_)
 refine Weak.go [8, 9] [] rfl ?_
 try simp only [heat_furnace_shownLow.x0, c6, go_sem]
 rintro ⟨i4, b5⟩ hr_
 subst hr_
 simp only at h0
 refine rS ?_
 try simp only [heat_furnace_shownLow.x0, go_sem]
 obtain rfl := Option.some.inj h0
 refine AKev_ret rfl ?_
 try simp only [F99.rs, go_sem]
def F100.s0 : SC :=
 (.seq
 (.reg [b2 16 .lss 3 15 14 3 4 []])
 (.seq
 (.cond (.tmp 16)
 .skip
 (.exit 0))
 (.seq
 (.block 1
 (.seq
 (.reg [mv 17 15 3 [],
 sg 6 17 3 [17]])
 (.seq
 (.dreg [fa 18 136 3 1 [],
 ld 19 3 18 [],
 fa 20 94 2 0 [],
 fa 21 32 20 0 [],
 fa 22 29 21 0 [],
 ld 23 27 22 [],
 mv 24 6 3 [],
 ia 25 27 23 24 [],
 ld 26 40 25 [],
 fa 27 136 3 0 [],
 ld 28 3 27 [],
 ia 29 40 26 28 [],
 fa 30 39 29 0 [],
 ld 31 3 30 [],
 b2 32 .add 3 19 31 3 3 [],
 sg 7 32 3 []] [[], [0], [], [2], [2, 3], [2, 3, 4], [], [2, 3, 4, 5, 6], [2, 3, 4, 5, 6, 7], [], [9], [2, 3, 4, 5, 6, 7, 8, 9, 10], [2, 3, 4, 5, 6, 7, 8, 9, 10, 11], [2, 3, 4, 5, 6, 7, 8, 9, 10, 11, 12], [0, 1, 2, 3, 4, 5, 6, 7, 8, 9, 10, 11, 12, 13], [0, 1, 2, 3, 4, 5, 6, 7, 8, 9, 10, 11, 12, 13, 14]] [18, 19, 20, 21, 22, 23, 24, 25, 26, 27, 28, 29, 30, 31, 32])
 (.seq
 (.reg [ld 34 94 2 [],
 mv 35 6 3 [6],
 cf2 36 88 34 35 94 3 141 [34, 35],
 mv 33 36 141 [36],
 xt 37 33 0 3 [],
 xt 38 33 1 3 [33],
 sg 8 37 3 [37],
 sg 9 38 3 [38]])
 (.seq
 (.block 2
 (.seq
 (.reg [mv 40 7 3 [],
 mv 41 8 3 [8],
 b2 42 .leq 3 40 41 3 4 [40, 41],
 sg 39 42 4 [42]])
 (.cond (.tmp 39)
 (.reg [sn 9 (-1) 3 []])
 (.seq
 (.reg [mv 44 7 3 [7],
 bn 45 .gtr 3 44 3000 3 4 [44],
 sg 43 45 4 [45]])
 (.cond (.tmp 43)
 (.reg [sn 9 (-2) 3 []])
 .skip)))))
 (.reg [mv 46 5 23 [5],
 mv 47 9 3 [9],
 oq 48 (.buildSlice 23 1 #[(0, .tmp 47)]) 23 [47],
 oq 49 (.call ⟨.builtin .append, #[.tmp 46, .tmp 48], #[23, 23]⟩) 23 [46, 48],
 sg 5 49 23 [49]]))))))
 (.reg [bn 50 .add 3 15 1 3 3 [15],
 mv 15 50 3 [50]]))))
def F100.c : SC :=
 (.seq
 (.reg [oq 2 (.box 94 (.tmp 0)) 0 [0],
 oq 3 (.box 136 (.tmp 1)) 0 [1],
 oq 4 (.assign (.const (.slice none 0 0))) 23 [4]])
 (.seq
 (.reg [oq 5 (.assign (.const (.slice none 0 0))) 23 []])
 (.seq
 (.seq
 (.reg [fa 10 94 2 0 [],
 fa 11 32 10 0 [10],
 fa 12 29 11 0 [11],
 ld 13 27 12 [12],
 ln 14 13 27 3 [13],
 oq 15 (.move (.const (.int .i64 0))) 3 []])
 (.block 0
 (.loop F100.s0)))
 (.seq
 (.reg [mv 51 5 23 [5],
 sg 4 51 23 [51]])
 .ret))))
theorem F100.rs : Try.f100.results.toList = [.tmp 4] := rfl
def heat_furnace_cannot.b0 (k : Nat) (f0 : heat_furnace) (x1 : heat_limit) : (Int × (List Int)) → Option (Stp (Int × (List Int)) ((List Int)) ((List Int))) := fun (s : Int × (List Int)) => match s with
 | (i1, l2) =>
   bif decide (i1 < (f0.Firing.Kiln.Falls.length : Int)) then
    (at? f0.Firing.Kiln.Falls i1).bind fun x5 =>
    (at? x5 x1.place).bind fun x6 =>
    (heat_furnace_hottest k f0 i1).bind fun x7 =>
    bif decide (w64 (x1.heat + x6.Lo) ≤ x7.1) then
     (push? 8 l2 (-1)).bind fun l9 =>
     some (.next (w64 (i1 + 1), l9))
    else
     bif decide ((3000 : Int) < w64 (x1.heat + x6.Lo)) then
      (push? 8 l2 (-2)).bind fun l11 =>
      some (.next (w64 (i1 + 1), l11))
     else
      (push? 8 l2 x7.2).bind fun l12 =>
      some (.next (w64 (i1 + 1), l12))
   else
    some (.brk l2)
noncomputable def heat_furnace_cannot.h0 (f0 : heat_furnace) (x1 : heat_limit) : (Int × (List Int)) → St := fun (s : Int × (List Int)) => match s with
 | (i1, l2) => ⟨[(2, .ptr 0 0 0), (3, .ptr 0 1 0), (5, .loc 0 2 1 0 l2.length l2.length), (14, .int .i64 (f0.Firing.Kiln.Falls.length : Int)), (15, .int .i64 i1)], [(0, .box [.sl 1 (List.map (eL 2 Range.c) f0.Firing.Kiln.Falls), .sl 6 (List.map Reading.c f0.Firing.Readings), .sl 3 (List.map heat_limit.c f0.least), .sl 3 (List.map heat_limit.c f0.most)]), (1, .box [.int .i64 x1.place, .int .i64 x1.heat, .int .i64 x1.by_]), (2, .arr 3 1 (List.map eI l2))], [], 3, Try.f100.ntmps⟩
noncomputable def heat_furnace_cannot.x0 : (List Int) → St := fun (l3 : (List Int)) => ⟨[(5, .loc 0 0 1 0 l3.length l3.length)], [(0, .arr 3 1 (List.map eI l3))], [], 1, Try.f100.ntmps⟩
def heat_furnace_cannot (k : Nat) (f0 : heat_furnace) (x1 : heat_limit) : Option ((List Int)) :=
 (whl (heat_furnace_cannot.b0 k f0 x1) k (0, [])).bind fun r13 => match r13 with
 | .next _ => none
 | .ret v_ => some v_
 | .brk l3 =>
  some l3
theorem heat_furnace_cannot_ok (k : Nat) (f0 : heat_furnace) (x1 : heat_limit) (r : (List Int)) (h0 : heat_furnace_cannot k f0 x1 = some r) : PCall Try.prog 100 [.agg (heat_furnace.c f0), .agg (heat_limit.c x1)] (fun y => y = .sl 1 (List.map eI r)) := by
 refine PB (fn := Try.f100) (sc := F100.c) ?_
 refine rS ?_
 simp only [heat_furnace_cannot] at h0
 try simp only [F100.c, go_sem]
 obtain ⟨r13, yr13, h0⟩ := bs h0
 refine AKev_loopS yr13 (heat_furnace_cannot.h0 f0 x1) (heat_furnace_cannot.x0) ?_ ?_ ?_
 refine Weak.go [2, 3, 5, 14, 15] [0, 16, 48] rfl ?_
 try simp only [heat_furnace_cannot.h0, go_sem]
 rintro ⟨i1, l2⟩ x_1 Bk1 Br1 h1 hnext1 hbrk1 hret1
 refine rS ?_
 simp only [heat_furnace_cannot.b0] at h1
 try simp only [F100.s0, heat_furnace_cannot.h0, go_sem]
 refine AKev_bif h1 ?_ ?_ <;> intro c4 h1
 try simp only [c4, go_sem]
 refine AKev_region T_ok follows_ok 1000 ?_
 try simp only [c4, go_sem]
 obtain ⟨x5, yx5, h1⟩ := bs h1
 try simp only [aa yx5, c4, go_sem]
 obtain ⟨x6, yx6, h1⟩ := bs h1
 try simp only [aa yx6, c4, aa yx5, go_sem]
 refine DG_done ⟨calm_of (by simp only [skel, List.reverse_cons, List.reverse_nil, List.nil_append, List.cons_append, List.map_cons, List.map_nil, List.append_nil]; rfl) (by first | decide +kernel | rfl), run_sound T_ok 1000 _ _ ?_⟩
 try simp only [c4, aa yx5, aa yx6, go_sem]
 obtain ⟨x7, yx7, h1⟩ := bs h1
 refine zc0 (heat_furnace_hottest_ok k _ _ _ yx7) ?_ (by first | rfl | simp [AV.refsL, AV.refs, AV.scal, AV.leaf]) ?_
 try simp only [c4, aa yx5, aa yx6, go_sem]
 try simp only [c4, aa yx5, aa yx6, go_sem]
 refine AKev_bif h1 ?_ ?_ <;> intro c8 h1
 try simp only [c8, c4, aa yx5, aa yx6, go_sem]
 obtain ⟨l9, yl9, h1⟩ := bs h1
 have eyl9 := push_map eI yl9
 have tyl9 := push_take eI yl9
 have nyl9 := push_len yl9
 have myl9 := push_room yl9
 try simp only [c4, aa yx5, aa yx6, c8, go_sem] at eyl9 tyl9 nyl9 myl9
 try simp only [myl9, eyl9, c4, aa yx5, aa yx6, c8, nyl9, tyl9, go_sem]
 refine AKev_backB (hnext1 _ _ (Option.some.inj h1).symm ?_)
 refine Weak.go [2, 3, 5, 14, 15] [0, 1, 2] rfl ?_
 try simp only [heat_furnace_cannot.h0, c4, aa yx5, aa yx6, c8, eyl9, nyl9, tyl9, go_sem]
 try simp only [c8, c4, aa yx5, aa yx6, go_sem]
 refine AKev_bif h1 ?_ ?_ <;> intro c10 h1
 try simp only [c10, c4, aa yx5, aa yx6, c8, go_sem]
 obtain ⟨l11, yl11, h1⟩ := bs h1
 have eyl11 := push_map eI yl11
 have tyl11 := push_take eI yl11
 have nyl11 := push_len yl11
 have myl11 := push_room yl11
 try simp only [c4, aa yx5, aa yx6, c8, c10, go_sem] at eyl11 tyl11 nyl11 myl11
 try simp only [myl11, eyl11, c4, aa yx5, aa yx6, c8, c10, nyl11, tyl11, go_sem]
 refine AKev_backB (hnext1 _ _ (Option.some.inj h1).symm ?_)
 refine Weak.go [2, 3, 5, 14, 15] [0, 1, 2] rfl ?_
 try simp only [heat_furnace_cannot.h0, c4, aa yx5, aa yx6, c8, c10, eyl11, nyl11, tyl11, go_sem]
 try simp only [c10, c4, aa yx5, aa yx6, c8, go_sem]
 obtain ⟨l12, yl12, h1⟩ := bs h1
 have eyl12 := push_map eI yl12
 have tyl12 := push_take eI yl12
 have nyl12 := push_len yl12
 have myl12 := push_room yl12
 try simp only [c4, aa yx5, aa yx6, c8, c10, go_sem] at eyl12 tyl12 nyl12 myl12
 try simp only [myl12, eyl12, c4, aa yx5, aa yx6, c8, c10, nyl12, tyl12, go_sem]
 refine AKev_backB (hnext1 _ _ (Option.some.inj h1).symm ?_)
 refine Weak.go [2, 3, 5, 14, 15] [0, 1, 2] rfl ?_
 try simp only [heat_furnace_cannot.h0, c4, aa yx5, aa yx6, c8, c10, eyl12, nyl12, tyl12, go_sem]
 try simp only [c4, go_sem]
 refine AKev_backB (hbrk1 _ _ (Option.some.inj h1).symm ?_)
 refine Weak.go [5] [2] rfl ?_
 try simp only [heat_furnace_cannot.x0, c4, go_sem]
 rintro l3 hr_
 subst hr_
 simp only at h0
 refine rS ?_
 try simp only [heat_furnace_cannot.x0, go_sem]
 obtain rfl := Option.some.inj h0
 refine AKev_ret rfl ?_
 try simp only [F100.rs, go_sem]
def F71.s1 : SC :=
 (.seq
 (.reg [b2 51 .lss 3 50 49 3 0 []])
 (.seq
 (.cond (.tmp 51)
 .skip
 (.exit 2))
 (.seq
 (.block 3
 (.seq
 (.reg [ia 52 92 48 50 [],
 ld 53 136 52 [52],
 oq 11 (.alloc 136) 0 [],
 ⟨none, .store 136 (.tmp 11) (.tmp 53), 0, none, [53]⟩])
 (.seq
 (.seq
 (.reg [fa 54 136 11 0 [],
 ld 55 3 54 [54],
 mv 56 1 3 [],
 b2 57 .eql 3 55 56 3 4 [55, 56]])
 (.cond (.tmp 57)
 (.seq
 (.seq
 (.reg [fa 58 136 11 1 [],
 ld 59 3 58 [58],
 mv 60 6 3 [],
 b2 61 .gtr 3 59 60 3 4 [59, 60]])
 (.cond (.tmp 61)
 (.dreg [fa 62 136 11 1 [],
 ld 63 3 62 [],
 fa 64 136 11 2 [],
 ld 65 3 64 [],
 oq 66 (.build 51 #[(0, .tmp 65)]) 51 [],
 sg 6 63 3 [],
 ⟨none, .store 51 (.tmp 7) (.tmp 66), 0, none, []⟩] [[], [0], [], [2], [2, 3], [0, 1], [2, 3, 4, 0, 1, 5]] [11, 62, 63, 64, 65, 66])
 .skip))
 (.exit 3))
 .skip))
 (.seq
 (.reg [ld 68 94 2 [],
 ld 69 136 11 [],
 mv 70 1 3 [],
 oq 71 (.call ⟨.value (.func 99), #[.tmp 68, .tmp 69, .tmp 70], #[94, 136, 3]⟩) 106 [68, 69, 70],
 mv 67 71 106 [71],
 xt 72 67 0 3 [],
 xt 73 67 1 4 [67],
 sg 12 72 3 [72],
 sg 13 73 4 [73]])
 (.seq
 (.reg [mv 74 13 4 [13],
 mv 75 74 4 [74],
 og 76 (.move (.tmp 12)) 3 75 true [],
 og 77 (.move (.tmp 6)) 3 75 true [],
 og 78 (.binOp .gtr 3 (.tmp 76) (.tmp 77) 3) 4 75 true [76, 77],
 oq 79 (.pick (.tmp 75) (.tmp 78) (.const (.bool false))) 4 [75, 78]])
 (.cond (.tmp 79)
 (.dreg [mv 80 12 3 [],
 fa 81 136 11 2 [],
 ld 82 3 81 [],
 ld 83 94 2 [],
 ld 84 136 11 [],
 cf2 85 100 83 84 94 136 23 [],
 oq 86 (.build 51 #[(0, .tmp 82), (1, .tmp 85)]) 51 [],
 sg 6 80 3 [],
 ⟨none, .store 51 (.tmp 7) (.tmp 86), 0, none, []⟩] [[], [], [1], [], [], [3, 4], [1, 2, 3, 4, 5], [0, 3, 4, 5], [1, 2, 3, 4, 5, 6, 0, 7]] [11, 12, 80, 81, 82, 83, 84, 85, 86])
 .skip))))))
 (.reg [bn 87 .add 3 50 1 3 3 [50],
 mv 50 87 3 [87]]))))
def F71.s0 : SC :=
 (.seq
 (.reg [b2 21 .lss 3 20 19 3 4 []])
 (.seq
 (.cond (.tmp 21)
 .skip
 (.exit 0))
 (.seq
 (.block 1
 (.seq
 (.reg [mv 22 20 3 [],
 sg 8 22 3 [22]])
 (.seq
 (.reg [fa 23 94 2 0 [],
 fa 24 32 23 0 [23],
 fa 25 29 24 0 [24],
 ld 26 27 25 [25],
 mv 27 8 3 [],
 ia 28 27 26 27 [26, 27],
 ld 29 40 28 [28],
 mv 30 1 3 [],
 ia 31 40 29 30 [29, 30],
 fa 32 39 31 1 [31],
 ld 33 3 32 [32],
 oq 34 (.unOp .neg 3 (.tmp 33)) 3 [33],
 sg 9 34 3 [34]])
 (.seq
 (.reg [mv 35 8 3 [],
 bn 36 .eql 3 35 0 3 4 [35],
 mv 37 36 4 [36],
 og 38 (.move (.tmp 9)) 3 37 false [],
 og 39 (.move (.tmp 6)) 3 37 false [],
 og 40 (.binOp .gtr 3 (.tmp 38) (.tmp 39) 3) 4 37 false [38, 39],
 oq 41 (.pick (.tmp 37) (.const (.bool true)) (.tmp 40)) 4 [37, 40]])
 (.cond (.tmp 41)
 (.reg [mv 42 9 3 [9],
 mv 43 8 3 [8],
 oq 44 (.buildSlice 23 1 #[(0, .tmp 43)]) 23 [43],
 oq 45 (.build 51 #[(0, .const (.int .i64 (-2))), (1, .tmp 44)]) 51 [44],
 sg 6 42 3 [42],
 ⟨none, .store 51 (.tmp 7) (.tmp 45), 0, none, [45]⟩])
 .skip)))))
 (.reg [bn 46 .add 3 20 1 3 3 [20],
 mv 20 46 3 [46]]))))
def F71.c : SC :=
 (.seq
 (.reg [oq 2 (.box 94 (.tmp 0)) 0 [0],
 sn 4 0 3 [4],
 oq 5 (.alloc 51) 0 []])
 (.seq
 (.reg [oq 14 (.build 51 #[]) 51 [],
 oq 7 (.alloc 51) 0 [],
 sn 6 (-3000) 3 [],
 ⟨none, .store 51 (.tmp 7) (.tmp 14), 0, none, [14]⟩])
 (.seq
 (.seq
 (.reg [fa 15 94 2 0 [],
 fa 16 32 15 0 [15],
 fa 17 29 16 0 [16],
 ld 18 27 17 [17],
 ln 19 18 27 3 [18],
 oq 20 (.move (.const (.int .i64 0))) 3 []])
 (.block 0
 (.loop F71.s0)))
 (.seq
 (.seq
 (.reg [fa 47 94 2 1 [],
 ld 48 92 47 [47],
 ln 49 48 92 3 [],
 oq 50 (.move (.const (.int .i64 0))) 3 []])
 (.block 2
 (.loop F71.s1)))
 (.seq
 (.dreg [mv 88 6 3 [],
 ld 89 51 7 [],
 sg 4 88 3 [],
 ⟨none, .store 51 (.tmp 5) (.tmp 89), 0, none, []⟩] [[], [], [0], [1, 0, 2]] [6, 7, 88, 89])
 .ret)))))
theorem F71.rs : Try.f71.results.toList = [.tmp 4, .cell 5 51] := rfl
def heat_furnace_lowest.b0 (k : Nat) (f0 : heat_furnace) (place1 : Int) : (Int × Int × Int × (List Int)) → Option (Stp (Int × Int × Int × (List Int)) (Int × Int × (List Int)) (Int × HeatProof)) := fun (s : Int × Int × Int × (List Int)) => match s with
 | (i1, i2, i3, l4) =>
   bif decide (i2 < (f0.Firing.Kiln.Falls.length : Int)) then
    (at? f0.Firing.Kiln.Falls i2).bind fun x9 =>
    (at? x9 place1).bind fun x10 =>
    bif (!decide (i2 = (0 : Int))) then
     bif decide (i1 < w64 (0 - x10.Hi)) then
      some (.next (w64 (0 - x10.Hi), w64 (i2 + 1), -2, [i2]))
     else
      some (.next (i1, w64 (i2 + 1), i3, l4))
    else
     some (.next (w64 (0 - x10.Hi), w64 (i2 + 1), -2, [i2]))
   else
    some (.brk (i1, i3, l4))
def heat_furnace_lowest.b1 (k : Nat) (f0 : heat_furnace) (place1 : Int) : (HeatProof × Int × Int) → Option (Stp (HeatProof × Int × Int) (HeatProof × Int) (Int × HeatProof)) := fun (s : HeatProof × Int × Int) => match s with
 | (s14, i15, i16) =>
   bif decide (i16 < (f0.least.length : Int)) then
    (at? f0.least i16).bind fun x20 =>
    bif decide (x20.place = place1) then
     bif decide (i15 < x20.heat) then
      some (.next ((⟨x20.by_, []⟩ : HeatProof), x20.heat, w64 (i16 + 1)))
     else
      some (.next (s14, i15, w64 (i16 + 1)))
    else
     (heat_furnace_shownLow k f0 x20 place1).bind fun x23 =>
     bif x23.2 then
      bif decide (i15 < x23.1) then
       (heat_furnace_cannot k f0 x20).bind fun x26 =>
       some (.next ((⟨x20.by_, x26⟩ : HeatProof), x23.1, w64 (i16 + 1)))
      else
       some (.next (s14, i15, w64 (i16 + 1)))
     else
      some (.next (s14, i15, w64 (i16 + 1)))
   else
    some (.brk (s14, i15))
noncomputable def heat_furnace_lowest.h0 (f0 : heat_furnace) (place1 : Int) : (Int × Int × Int × (List Int)) → St := fun (s : Int × Int × Int × (List Int)) => match s with
 | (i1, i2, i3, l4) => ⟨[(1, .int .i64 place1), (2, .ptr 0 0 0), (5, .ptr 0 1 0), (6, .int .i64 i1), (7, .ptr 0 3 0), (19, .int .i64 (f0.Firing.Kiln.Falls.length : Int)), (20, .int .i64 i2)], [(0, .box [.sl 1 (List.map (eL 2 Range.c) f0.Firing.Kiln.Falls), .sl 6 (List.map Reading.c f0.Firing.Readings), .sl 3 (List.map heat_limit.c f0.least), .sl 3 (List.map heat_limit.c f0.most)]), (1, .box [.int .i64 0, .loc 0 2 1 0 0 0]), (2, .arr 3 1 (List.map eI [])), (3, .box [.int .i64 i3, .loc 0 4 1 0 l4.length l4.length]), (4, .arr 3 1 (List.map eI l4))], [], 5, Try.f71.ntmps⟩
noncomputable def heat_furnace_lowest.x0 (f0 : heat_furnace) (place1 : Int) : (Int × Int × (List Int)) → St := fun (s : Int × Int × (List Int)) => match s with
 | (i5, i6, l7) => ⟨[(1, .int .i64 place1), (2, .ptr 0 0 0), (5, .ptr 0 1 0), (6, .int .i64 i5), (7, .ptr 0 3 0)], [(0, .box [.sl 1 (List.map (eL 2 Range.c) f0.Firing.Kiln.Falls), .sl 6 (List.map Reading.c f0.Firing.Readings), .sl 3 (List.map heat_limit.c f0.least), .sl 3 (List.map heat_limit.c f0.most)]), (1, .box [.int .i64 0, .loc 0 2 1 0 0 0]), (2, .arr 3 1 (List.map eI [])), (3, .box [.int .i64 i6, .loc 0 4 1 0 l7.length l7.length]), (4, .arr 3 1 (List.map eI l7))], [], 5, Try.f71.ntmps⟩
noncomputable def heat_furnace_lowest.h1 (f0 : heat_furnace) (place1 : Int) : (HeatProof × Int × Int) → St := fun (s : HeatProof × Int × Int) => match s with
 | (s14, i15, i16) => ⟨[(1, .int .i64 place1), (2, .ptr 0 0 0), (5, .ptr 0 1 0), (6, .int .i64 i15), (7, .ptr 0 3 0), (48, .sl 3 (List.map heat_limit.c f0.least)), (49, .int .i64 (f0.least.length : Int)), (50, .int .i64 i16)], [(0, .box [.sl 1 (List.map (eL 2 Range.c) f0.Firing.Kiln.Falls), .sl 6 (List.map Reading.c f0.Firing.Readings), .sl 3 (List.map heat_limit.c f0.least), .sl 3 (List.map heat_limit.c f0.most)]), (1, .box [.int .i64 0, .loc 0 2 1 0 0 0]), (2, .arr 3 1 (List.map eI [])), (3, .box [.int .i64 s14.Reading, .sl 1 (List.map eI s14.By)])], [], 4, Try.f71.ntmps⟩
noncomputable def heat_furnace_lowest.x1 : (HeatProof × Int) → St := fun (s : HeatProof × Int) => match s with
 | (s17, i18) => ⟨[(5, .ptr 0 0 0), (6, .int .i64 i18), (7, .ptr 0 2 0)], [(0, .box [.int .i64 0, .loc 0 1 1 0 0 0]), (1, .arr 3 1 (List.map eI [])), (2, .box [.int .i64 s17.Reading, .sl 1 (List.map eI s17.By)])], [], 3, Try.f71.ntmps⟩
def heat_furnace_lowest (k : Nat) (f0 : heat_furnace) (place1 : Int) : Option (Int × HeatProof) :=
 (whl (heat_furnace_lowest.b0 k f0 place1) k (-3000, 0, 0, [])).bind fun r13 => match r13 with
 | .next _ => none
 | .ret v_ => some v_
 | .brk (i5, i6, l7) =>
  (whl (heat_furnace_lowest.b1 k f0 place1) k ((⟨i6, l7⟩ : HeatProof), i5, 0)).bind fun r27 => match r27 with
  | .next _ => none
  | .ret v_ => some v_
  | .brk (s17, i18) =>
   some (i18, s17)
theorem heat_furnace_lowest_ok (k : Nat) (f0 : heat_furnace) (place1 : Int) (r : Int × HeatProof) (h0 : heat_furnace_lowest k f0 place1 = some r) : PCall Try.prog 71 [.agg (heat_furnace.c f0), .int .i64 place1] (fun y => y = .tup [.int .i64 r.1, .agg (HeatProof.c r.2)]) := by
 refine PB (fn := Try.f71) (sc := F71.c) ?_
 refine rS ?_
 simp only [heat_furnace_lowest] at h0
 try simp only [F71.c, go_sem]
 obtain ⟨r13, yr13, h0⟩ := bs h0
 refine AKev_loopS yr13 (heat_furnace_lowest.h0 f0 place1) (heat_furnace_lowest.x0 f0 place1) ?_ ?_ ?_
 refine Weak.go [1, 2, 5, 6, 7, 19, 20] [0, 32, 33, 64, 96] rfl ?_
 try simp only [heat_furnace_lowest.h0, go_sem]
 rintro ⟨i1, i2, i3, l4⟩ x_1 Bk1 Br1 h1 hnext1 hbrk1 hret1
 refine rS ?_
 simp only [heat_furnace_lowest.b0] at h1
 try simp only [F71.s0, heat_furnace_lowest.h0, go_sem]
 refine AKev_bif h1 ?_ ?_ <;> intro c8 h1
 try simp only [c8, go_sem]
 obtain ⟨x9, yx9, h1⟩ := bs h1
 try simp only [aa yx9, c8, go_sem]
 obtain ⟨x10, yx10, h1⟩ := bs h1
 try simp only [aa yx10, c8, aa yx9, go_sem]
 refine AKev_bif h1 ?_ ?_ <;> intro c11 h1
 have c11 := bnot_t c11
 try simp only [c11, c8, aa yx9, aa yx10, go_sem]
 refine AKev_bif h1 ?_ ?_ <;> intro c12 h1
 try simp only [c12, c8, aa yx9, aa yx10, c11, go_sem]
 refine AKev_backB (hnext1 _ _ (Option.some.inj h1).symm ?_)
 refine Weak.go [1, 2, 5, 6, 7, 19, 20] [0, 1, 2, 3, 405] rfl ?_
 try simp only [heat_furnace_lowest.h0, c8, aa yx9, aa yx10, c11, c12, go_sem]
 try simp only [c12, c8, aa yx9, aa yx10, c11, go_sem]
 refine AKev_backB (hnext1 _ _ (Option.some.inj h1).symm ?_)
 refine Weak.go [1, 2, 5, 6, 7, 19, 20] [0, 1, 2, 3, 4] rfl ?_
 try simp only [heat_furnace_lowest.h0, c8, aa yx9, aa yx10, c11, c12, go_sem]
 have c11 := bnot_f c11
 try simp only [c11, c8, aa yx9, aa yx10, go_sem]
 refine AKev_backB (hnext1 _ _ (Option.some.inj h1).symm ?_)
 refine Weak.go [1, 2, 5, 6, 7, 19, 20] [0, 1, 2, 3, 405] rfl ?_
 try simp only [heat_furnace_lowest.h0, c8, aa yx9, aa yx10, c11, go_sem]
 try simp only [c8, go_sem]
 refine AKev_backB (hbrk1 _ _ (Option.some.inj h1).symm ?_)
 refine Weak.go [1, 2, 5, 6, 7] [0, 1, 2, 3, 4] rfl ?_
 try simp only [heat_furnace_lowest.x0, c8, go_sem]
 rintro ⟨i5, i6, l7⟩ hr_
 subst hr_
 simp only at h0
 refine rS ?_
 try simp only [heat_furnace_lowest.x0, go_sem]
 obtain ⟨r27, yr27, h0⟩ := bs h0
 refine AKev_loopS yr27 (heat_furnace_lowest.h1 f0 place1) (heat_furnace_lowest.x1) ?_ ?_ ?_
 refine Weak.trans (Weak.fz 4 rfl (fun _ h => by cases h)) ?_
 refine Weak.go [1, 2, 5, 6, 7, 48, 49, 50] [0, 1, 2, 3] rfl ?_
 try simp only [heat_furnace_lowest.h1, go_sem]
 rintro ⟨s14, i15, i16⟩ x_1 Bk1 Br1 h1 hnext1 hbrk1 hret1
 refine rS ?_
 simp only [heat_furnace_lowest.b1] at h1
 try simp only [F71.s1, heat_furnace_lowest.h1, go_sem]
 refine AKev_bif h1 ?_ ?_ <;> intro c19 h1
 try simp only [c19, go_sem]
 obtain ⟨x20, yx20, h1⟩ := bs h1
 try simp only [aa yx20, c19, go_sem]
 refine AKev_bif h1 ?_ ?_ <;> intro c21 h1
 try simp only [c21, c19, aa yx20, go_sem]
 refine AKev_bif h1 ?_ ?_ <;> intro c22 h1
 try simp only [c22, c19, aa yx20, c21, go_sem]
 refine AKev_region T_ok follows_ok 1000 ?_
 try simp only [c19, aa yx20, c21, c22, go_sem]
 refine DG_done ⟨calm_of (by simp only [skel, List.reverse_cons, List.reverse_nil, List.nil_append, List.cons_append, List.map_cons, List.map_nil, List.append_nil]; rfl) (by first | decide +kernel | rfl), run_sound T_ok 1000 _ _ ?_⟩
 try simp only [c19, aa yx20, c21, c22, go_sem]
 refine AKev_backB (hnext1 _ _ (Option.some.inj h1).symm ?_)
 refine Weak.trans (Weak.fz 308 rfl (fun _ h => by cases h)) ?_
 refine Weak.go [1, 2, 5, 6, 7, 48, 49, 50] [0, 1, 2, 3] rfl ?_
 try simp only [heat_furnace_lowest.h1, c19, aa yx20, c21, c22, go_sem]
 try simp only [c22, c19, aa yx20, c21, go_sem]
 refine AKev_backB (hnext1 _ _ (Option.some.inj h1).symm ?_)
 refine Weak.go [1, 2, 5, 6, 7, 48, 49, 50] [0, 1, 2, 3] rfl ?_
 try simp only [heat_furnace_lowest.h1, c19, aa yx20, c21, c22, go_sem]
 try simp only [c21, c19, aa yx20, go_sem]
 obtain ⟨x23, yx23, h1⟩ := bs h1
 refine zc0 (heat_furnace_shownLow_ok k _ _ _ _ yx23) ?_ (by first | rfl | simp [AV.refsL, AV.refs, AV.scal, AV.leaf]) ?_
 try simp only [c19, aa yx20, c21, go_sem]
 try simp only [c19, aa yx20, c21, go_sem]
 refine AKev_bif h1 ?_ ?_ <;> intro c24 h1
 try simp only [c24, c19, aa yx20, c21, go_sem]
 refine AKev_bif h1 ?_ ?_ <;> intro c25 h1
 try simp only [c25, c19, aa yx20, c21, c24, go_sem]
 refine AKev_region T_ok follows_ok 1000 ?_
 try simp only [c19, aa yx20, c21, c24, c25, go_sem]
 obtain ⟨x26, yx26, h1⟩ := bs h1
 refine DG_call0 1000 (heat_furnace_cannot_ok k _ _ _ yx26) ?_ (by first | rfl | simp [AV.refsL, AV.refs, AV.scal, AV.leaf]) ?_
 try simp only [c19, aa yx20, c21, c24, c25, go_sem]
 try simp only [c19, aa yx20, c21, c24, c25, go_sem]
 refine DG_done ⟨calm_of (by simp only [skel, List.reverse_cons, List.reverse_nil, List.nil_append, List.cons_append, List.map_cons, List.map_nil, List.append_nil]; rfl) (by first | decide +kernel | rfl), run_sound T_ok 1000 _ _ ?_⟩
 try simp only [c19, aa yx20, c21, c24, c25, go_sem]
 refine AKev_backB (hnext1 _ _ (Option.some.inj h1).symm ?_)
 refine Weak.go [1, 2, 5, 6, 7, 48, 49, 50] [0, 1, 2, 3] rfl ?_
 try simp only [heat_furnace_lowest.h1, c19, aa yx20, c21, c24, c25, go_sem]
 try simp only [c25, c19, aa yx20, c21, c24, go_sem]
 refine AKev_backB (hnext1 _ _ (Option.some.inj h1).symm ?_)
 refine Weak.go [1, 2, 5, 6, 7, 48, 49, 50] [0, 1, 2, 3] rfl ?_
 try simp only [heat_furnace_lowest.h1, c19, aa yx20, c21, c24, c25, go_sem]
 try simp only [c24, c19, aa yx20, c21, go_sem]
 refine AKev_backB (hnext1 _ _ (Option.some.inj h1).symm ?_)
 refine Weak.go [1, 2, 5, 6, 7, 48, 49, 50] [0, 1, 2, 3] rfl ?_
 try simp only [heat_furnace_lowest.h1, c19, aa yx20, c21, c24, go_sem]
 try simp only [c19, go_sem]
 refine AKev_backB (hbrk1 _ _ (Option.some.inj h1).symm ?_)
 refine Weak.go [5, 6, 7] [1, 2, 3] rfl ?_
 try simp only [heat_furnace_lowest.x1, c19, go_sem]
 rintro ⟨s17, i18⟩ hr_
 subst hr_
 simp only at h0
 refine rS ?_
 try simp only [heat_furnace_lowest.x1, go_sem]
 refine AKev_region T_ok follows_ok 1000 ?_
 try simp only [go_sem]
 refine DG_done ⟨calm_of (by simp only [skel, List.reverse_cons, List.reverse_nil, List.nil_append, List.cons_append, List.map_cons, List.map_nil, List.append_nil]; rfl) (by first | decide +kernel | rfl), run_sound T_ok 1000 _ _ ?_⟩
 try simp only [go_sem]
 obtain rfl := Option.some.inj h0
 refine AKev_ret rfl ?_
 try simp only [F71.rs, go_sem]
def F75.s0 : SC :=
 (.seq
 (.reg [b2 20 .lss 3 19 18 3 4 []])
 (.seq
 (.cond (.tmp 20)
 .skip
 (.exit 0))
 (.seq
 (.block 1
 (.seq
 (.reg [mv 21 19 3 [],
 sg 8 21 3 [21]])
 (.seq
 (.reg [ld 23 94 2 [],
 mv 24 8 3 [],
 cf2 25 88 23 24 94 3 141 [23, 24],
 mv 22 25 141 [25],
 xt 26 22 0 3 [],
 xt 27 22 1 3 [22],
 sg 9 26 3 [26],
 sg 10 27 3 [27]])
 (.seq
 (.reg [mv 28 6 3 [6],
 mv 29 9 3 [9],
 fa 30 94 2 0 [],
 fa 31 32 30 0 [30],
 fa 32 29 31 0 [31],
 ld 33 27 32 [32],
 mv 34 8 3 [8],
 ia 35 27 33 34 [33, 34],
 ld 36 40 35 [35],
 mv 37 1 3 [],
 ia 38 40 36 37 [36, 37],
 fa 39 39 38 0 [38],
 ld 40 3 39 [39],
 b2 41 .sub 3 29 40 3 3 [29, 40],
 oq 42 (.call ⟨.builtin .max, #[.tmp 28, .tmp 41], #[3, 3]⟩) 3 [28, 41],
 sg 6 42 3 [42]])
 (.reg [fa 43 51 7 1 [],
 ld 44 23 43 [43],
 mv 45 10 3 [10],
 oq 46 (.buildSlice 23 1 #[(0, .tmp 45)]) 23 [45],
 oq 47 (.call ⟨.builtin .append, #[.tmp 44, .tmp 46], #[23, 23]⟩) 23 [44, 46],
 fa 48 51 7 1 [],
 ⟨none, .store 23 (.tmp 48) (.tmp 47), 0, none, [47, 48]⟩])))))
 (.reg [bn 49 .add 3 19 1 3 3 [19],
 mv 19 49 3 [49]]))))
def F75.c : SC :=
 (.seq
 (.reg [oq 2 (.box 94 (.tmp 0)) 0 [0],
 sn 4 0 3 [4],
 oq 5 (.alloc 51) 0 []])
 (.seq
 (.reg [oq 13 (.build 51 #[(0, .const (.int .i64 (-1)))]) 51 [],
 oq 7 (.alloc 51) 0 [],
 sn 6 (-3000) 3 [],
 ⟨none, .store 51 (.tmp 7) (.tmp 13), 0, none, [13]⟩])
 (.seq
 (.seq
 (.reg [fa 14 94 2 0 [],
 fa 15 32 14 0 [14],
 fa 16 29 15 0 [15],
 ld 17 27 16 [16],
 ln 18 17 27 3 [17],
 oq 19 (.move (.const (.int .i64 0))) 3 []])
 (.block 0
 (.loop F75.s0)))
 (.seq
 (.seq
 (.reg [fa 51 94 2 2 [2],
 ld 52 92 51 [51],
 mv 53 1 3 [1],
 oq 54 (.call ⟨.value (.func 89), #[.tmp 52, .tmp 53, .func 90], #[92, 3, 147]⟩) 137 [52, 53],
 mv 50 54 137 [54],
 xt 55 50 0 136 [],
 xt 56 50 1 4 [50],
 oq 11 (.alloc 136) 0 [],
 ⟨none, .store 136 (.tmp 11) (.tmp 55), 0, none, [55]⟩,
 sg 12 56 4 [56]])
 (.seq
 (.reg [mv 57 12 4 [12],
 mv 58 57 4 [57],
 og 59 (.fieldAddr 136 (.tmp 11) 1) 0 58 true [],
 og 60 (.load 3 (.tmp 59)) 3 58 true [59],
 og 61 (.move (.tmp 6)) 3 58 true [],
 og 62 (.binOp .leq 3 (.tmp 60) (.tmp 61) 3) 4 58 true [60, 61],
 oq 63 (.pick (.tmp 58) (.tmp 62) (.const (.bool false))) 4 [58, 62]])
 (.cond (.tmp 63)
 (.seq
 (.dreg [fa 64 136 11 1 [],
 ld 65 3 64 [],
 fa 66 136 11 2 [],
 ld 67 3 66 [],
 oq 68 (.build 51 #[(0, .tmp 67)]) 51 [],
 sg 4 65 3 [],
 ⟨none, .store 51 (.tmp 5) (.tmp 68), 0, none, []⟩] [[], [0], [], [2], [2, 3], [0, 1], [2, 3, 4, 0, 1, 5]] [11, 64, 65, 66, 67, 68])
 .ret)
 .skip)))
 (.seq
 (.dreg [mv 69 6 3 [],
 ld 70 51 7 [],
 sg 4 69 3 [],
 ⟨none, .store 51 (.tmp 5) (.tmp 70), 0, none, []⟩] [[], [], [0], [1, 0, 2]] [6, 7, 69, 70])
 .ret)))))
theorem F75.rs : Try.f75.results.toList = [.tmp 4, .cell 5 51] := rfl
def heat_furnace_highest.b0 (k : Nat) (f0 : heat_furnace) (place1 : Int) : (Int × Int × (List Int)) → Option (Stp (Int × Int × (List Int)) (Int × (List Int)) (Int × HeatProof)) := fun (s : Int × Int × (List Int)) => match s with
 | (i1, i2, l3) =>
   bif decide (i2 < (f0.Firing.Kiln.Falls.length : Int)) then
    (heat_furnace_hottest k f0 i2).bind fun x7 =>
    (at? f0.Firing.Kiln.Falls i2).bind fun x8 =>
    (at? x8 place1).bind fun x9 =>
    (push? 8 l3 x7.2).bind fun l10 =>
    some (.next (max i1 (w64 (x7.1 - x9.Lo)), w64 (i2 + 1), l10))
   else
    some (.brk (i1, l3))
noncomputable def heat_furnace_highest.h0 (f0 : heat_furnace) (place1 : Int) : (Int × Int × (List Int)) → St := fun (s : Int × Int × (List Int)) => match s with
 | (i1, i2, l3) => ⟨[(1, .int .i64 place1), (2, .ptr 0 0 0), (5, .ptr 0 1 0), (6, .int .i64 i1), (7, .ptr 0 3 0), (18, .int .i64 (f0.Firing.Kiln.Falls.length : Int)), (19, .int .i64 i2)], [(0, .box [.sl 1 (List.map (eL 2 Range.c) f0.Firing.Kiln.Falls), .sl 6 (List.map Reading.c f0.Firing.Readings), .sl 3 (List.map heat_limit.c f0.least), .sl 3 (List.map heat_limit.c f0.most)]), (1, .box [.int .i64 0, .loc 0 2 1 0 0 0]), (2, .arr 3 1 (List.map eI [])), (3, .box [.int .i64 (-1), .loc 0 4 1 0 l3.length l3.length]), (4, .arr 3 1 (List.map eI l3))], [], 5, Try.f75.ntmps⟩
noncomputable def heat_furnace_highest.x0 (f0 : heat_furnace) (place1 : Int) : (Int × (List Int)) → St := fun (s : Int × (List Int)) => match s with
 | (i4, l5) => ⟨[(1, .int .i64 place1), (2, .ptr 0 0 0), (5, .ptr 0 1 0), (6, .int .i64 i4), (7, .ptr 0 3 0)], [(0, .box [.sl 1 (List.map (eL 2 Range.c) f0.Firing.Kiln.Falls), .sl 6 (List.map Reading.c f0.Firing.Readings), .sl 3 (List.map heat_limit.c f0.least), .sl 3 (List.map heat_limit.c f0.most)]), (1, .box [.int .i64 0, .loc 0 2 1 0 0 0]), (2, .arr 3 1 (List.map eI [])), (3, .box [.int .i64 (-1), .loc 0 4 1 0 l5.length l5.length]), (4, .arr 3 1 (List.map eI l5))], [], 5, Try.f75.ntmps⟩
def heat_furnace_highest (k : Nat) (f0 : heat_furnace) (place1 : Int) : Option (Int × HeatProof) :=
 (whl (heat_furnace_highest.b0 k f0 place1) k (-3000, 0, [])).bind fun r11 => match r11 with
 | .next _ => none
 | .ret v_ => some v_
 | .brk (i4, l5) =>
  (heat_best k f0.most place1 (fun q0 q1 => heat_less k q0 q1)).bind fun x12 =>
  bif x12.2 then
   bif decide (x12.1.heat ≤ i4) then
    some (x12.1.heat, (⟨x12.1.by_, []⟩ : HeatProof))
   else
    some (i4, (⟨-1, l5⟩ : HeatProof))
  else
   some (i4, (⟨-1, l5⟩ : HeatProof))
theorem heat_furnace_highest_ok (k : Nat) (f0 : heat_furnace) (place1 : Int) (r : Int × HeatProof) (h0 : heat_furnace_highest k f0 place1 = some r) : PCall Try.prog 75 [.agg (heat_furnace.c f0), .int .i64 place1] (fun y => y = .tup [.int .i64 r.1, .agg (HeatProof.c r.2)]) := by
 refine PB (fn := Try.f75) (sc := F75.c) ?_
 refine rS ?_
 simp only [heat_furnace_highest] at h0
 try simp only [F75.c, go_sem]
 obtain ⟨r11, yr11, h0⟩ := bs h0
 refine AKev_loopS yr11 (heat_furnace_highest.h0 f0 place1) (heat_furnace_highest.x0 f0 place1) ?_ ?_ ?_
 refine Weak.go [1, 2, 5, 6, 7, 18, 19] [0, 32, 33, 64, 96] rfl ?_
 try simp only [heat_furnace_highest.h0, go_sem]
 rintro ⟨i1, i2, l3⟩ x_1 Bk1 Br1 h1 hnext1 hbrk1 hret1
 refine rS ?_
 simp only [heat_furnace_highest.b0] at h1
 try simp only [F75.s0, heat_furnace_highest.h0, go_sem]
 refine AKev_bif h1 ?_ ?_ <;> intro c6 h1
 try simp only [c6, go_sem]
 obtain ⟨x7, yx7, h1⟩ := bs h1
 refine zc0 (heat_furnace_hottest_ok k _ _ _ yx7) ?_ (by first | rfl | simp [AV.refsL, AV.refs, AV.scal, AV.leaf]) ?_
 try simp only [c6, go_sem]
 try simp only [c6, go_sem]
 obtain ⟨x8, yx8, h1⟩ := bs h1
 try simp only [aa yx8, c6, go_sem]
 obtain ⟨x9, yx9, h1⟩ := bs h1
 try simp only [aa yx9, c6, aa yx8, go_sem]
 obtain ⟨l10, yl10, h1⟩ := bs h1
 have eyl10 := push_map eI yl10
 have tyl10 := push_take eI yl10
 have nyl10 := push_len yl10
 have myl10 := push_room yl10
 try simp only [c6, aa yx8, aa yx9, go_sem] at eyl10 tyl10 nyl10 myl10
 try simp only [myl10, eyl10, c6, aa yx8, aa yx9, nyl10, tyl10, go_sem]
 refine AKev_backB (hnext1 _ _ (Option.some.inj h1).symm ?_)
 refine Weak.go [1, 2, 5, 6, 7, 18, 19] [0, 1, 2, 3, 4] rfl ?_
 try simp only [heat_furnace_highest.h0, c6, aa yx8, aa yx9, eyl10, nyl10, tyl10, go_sem]
 try simp only [c6, go_sem]
 refine AKev_backB (hbrk1 _ _ (Option.some.inj h1).symm ?_)
 refine Weak.go [1, 2, 5, 6, 7] [0, 1, 2, 3, 4] rfl ?_
 try simp only [heat_furnace_highest.x0, c6, go_sem]
 rintro ⟨i4, l5⟩ hr_
 subst hr_
 simp only at h0
 refine rS ?_
 try simp only [heat_furnace_highest.x0, go_sem]
 obtain ⟨x12, yx12, h0⟩ := bs h0
 refine zc0 (heat_best_ok k _ _ 90 [] ⟨fun _ => rfl, fun _ => rfl, fun _ _ => rfl, rfl, fun _ => rfl, fun _ => rfl, fun _ => rfl⟩ (fun q0 q1 => heat_less k q0 q1) (fun q0 q1 qr qh => heat_less_ok k q0 q1 qr qh) _ yx12) ?_ (by first | rfl | simp [AV.refsL, AV.refs, AV.scal, AV.leaf]) ?_
 try simp only [go_sem]
 try simp only [go_sem]
 refine AKev_bif h0 ?_ ?_ <;> intro c13 h0
 try simp only [c13, go_sem]
 refine AKev_bif h0 ?_ ?_ <;> intro c14 h0
 try simp only [c14, c13, go_sem]
 refine AKev_region T_ok follows_ok 1000 ?_
 try simp only [c13, c14, go_sem]
 refine DG_done ⟨calm_of (by simp only [skel, List.reverse_cons, List.reverse_nil, List.nil_append, List.cons_append, List.map_cons, List.map_nil, List.append_nil]; rfl) (by first | decide +kernel | rfl), run_sound T_ok 1000 _ _ ?_⟩
 try simp only [c13, c14, go_sem]
 obtain rfl := Option.some.inj h0
 refine AKev_ret rfl ?_
 try simp only [F75.rs, c13, c14, go_sem]
 try simp only [c14, c13, go_sem]
 refine AKev_region T_ok follows_ok 1000 ?_
 try simp only [c13, c14, go_sem]
 refine DG_done ⟨calm_of (by simp only [skel, List.reverse_cons, List.reverse_nil, List.nil_append, List.cons_append, List.map_cons, List.map_nil, List.append_nil]; rfl) (by first | decide +kernel | rfl), run_sound T_ok 1000 _ _ ?_⟩
 try simp only [c13, c14, go_sem]
 obtain rfl := Option.some.inj h0
 refine AKev_ret rfl ?_
 try simp only [F75.rs, c13, c14, go_sem]
 try simp only [c13, go_sem]
 refine AKev_region T_ok follows_ok 1000 ?_
 try simp only [c13, go_sem]
 refine DG_done ⟨calm_of (by simp only [skel, List.reverse_cons, List.reverse_nil, List.nil_append, List.cons_append, List.map_cons, List.map_nil, List.append_nil]; rfl) (by first | decide +kernel | rfl), run_sound T_ok 1000 _ _ ?_⟩
 try simp only [c13, go_sem]
 obtain rfl := Option.some.inj h0
 refine AKev_ret rfl ?_
 try simp only [F75.rs, c13, go_sem]
def F37.c : SC :=
 (.seq
 (.reg [oq 2 (.box 94 (.tmp 0)) 0 [0],
 oq 4 (.alloc 39) 0 []])
 (.seq
 (.reg [ld 10 94 2 [],
 mv 11 1 3 [],
 cf2 12 71 10 11 94 3 126 [10, 11],
 mv 9 12 126 [12],
 xt 13 9 0 3 [],
 xt 14 9 1 51 [9],
 oq 6 (.alloc 51) 0 [],
 sg 5 13 3 [13],
 ⟨none, .store 51 (.tmp 6) (.tmp 14), 0, none, [6, 14]⟩])
 (.seq
 (.reg [ld 16 94 2 [2],
 mv 17 1 3 [1],
 cf2 18 75 16 17 94 3 126 [16, 17],
 mv 15 18 126 [18],
 xt 19 15 0 3 [],
 xt 20 15 1 51 [15],
 oq 8 (.alloc 51) 0 [],
 sg 7 19 3 [19],
 ⟨none, .store 51 (.tmp 8) (.tmp 20), 0, none, [8, 20]⟩])
 (.seq
 (.reg [mv 21 5 3 [5],
 mv 22 7 3 [7],
 oq 23 (.build 39 #[(0, .tmp 21), (1, .tmp 22)]) 39 [21, 22],
 ⟨none, .store 39 (.tmp 4) (.tmp 23), 0, none, [23]⟩])
 .ret))))
theorem F37.rs : Try.f37.results.toList = [.cell 4 39] := rfl
def heat_furnace_bound (k : Nat) (f0 : heat_furnace) (place1 : Int) : Option (Range) :=
 (heat_furnace_lowest k f0 place1).bind fun x1 =>
 (heat_furnace_highest k f0 place1).bind fun x2 =>
 some (⟨x1.1, x2.1⟩ : Range)
theorem heat_furnace_bound_ok (k : Nat) (f0 : heat_furnace) (place1 : Int) (r : Range) (h0 : heat_furnace_bound k f0 place1 = some r) : PCall Try.prog 37 [.agg (heat_furnace.c f0), .int .i64 place1] (fun y => y = .agg (Range.c r)) := by
 refine PB (fn := Try.f37) (sc := F37.c) ?_
 refine rS ?_
 simp only [heat_furnace_bound] at h0
 try simp only [F37.c, go_sem]
 obtain ⟨x1, yx1, h0⟩ := bs h0
 refine zc0 (heat_furnace_lowest_ok k _ _ _ yx1) ?_ (by first | rfl | simp [AV.refsL, AV.refs, AV.scal, AV.leaf]) ?_
 try simp only [go_sem]
 try simp only [go_sem]
 obtain ⟨x2, yx2, h0⟩ := bs h0
 refine zc0 (heat_furnace_highest_ok k _ _ _ yx2) ?_ (by first | rfl | simp [AV.refsL, AV.refs, AV.scal, AV.leaf]) ?_
 try simp only [go_sem]
 try simp only [go_sem]
 obtain rfl := Option.some.inj h0
 refine AKev_ret rfl ?_
 try simp only [F37.rs, go_sem]
def F13.c : SC :=
 (.seq
 (.reg [oq 2 (.box 32 (.tmp 0)) 0 [0],
 oq 4 (.alloc 39) 0 [],
 sn 5 0 43 [5]])
 (.seq
 (.reg [ld 9 32 2 [2],
 mv 10 1 3 [],
 cf2 11 36 9 10 32 3 95 [9, 10],
 mv 8 11 95 [11],
 xt 12 8 0 94 [],
 xt 13 8 1 43 [8],
 oq 6 (.alloc 94) 0 [],
 ⟨none, .store 94 (.tmp 6) (.tmp 12), 0, none, [12]⟩,
 sg 7 13 43 [13]])
 (.seq
 (.seq
 (.reg [mv 14 7 43 [],
 bn 15 .neq 43 14 0 43 4 [14]])
 (.cond (.tmp 15)
 (.seq
 (.reg [oq 16 (.build 39 #[]) 39 [],
 mv 17 7 43 [7],
 ⟨none, .store 39 (.tmp 4) (.tmp 16), 0, none, [16]⟩,
 sg 5 17 43 [17]])
 .ret)
 .skip))
 (.seq
 (.reg [ld 18 94 6 [6],
 mv 19 1 3 [1],
 cf2 20 37 18 19 94 3 39 [18, 19],
 ⟨none, .store 39 (.tmp 4) (.tmp 20), 0, none, [20]⟩,
 sn 5 0 43 []])
 .ret))))
theorem F13.rs : Try.f13.results.toList = [.cell 4 39, .tmp 5] := rfl
def heat_Bound (k : Nat) (f0 : Firing) (place1 : Int) : Option (Range × Int) :=
 (heat_asks k f0 place1).bind fun x1 =>
 bif (!decide (x1.2 = (0 : Int))) then
  some ((⟨0, 0⟩ : Range), x1.2)
 else
  (heat_furnace_bound k x1.1 place1).bind fun x3 =>
  some (x3, 0)
theorem heat_Bound_ok (k : Nat) (f0 : Firing) (place1 : Int) (r : Range × Int) (h0 : heat_Bound k f0 place1 = some r) : PCall Try.prog 13 [.agg (Firing.c f0), .int .i64 place1] (fun y => y = .tup [.agg (Range.c r.1), .int .i64 r.2]) := by
 refine PB (fn := Try.f13) (sc := F13.c) ?_
 refine rS ?_
 simp only [heat_Bound] at h0
 try simp only [F13.c, go_sem]
 obtain ⟨x1, yx1, h0⟩ := bs h0
 refine zc0 (heat_asks_ok k _ _ _ yx1) ?_ (by first | rfl | simp [AV.refsL, AV.refs, AV.scal, AV.leaf]) ?_
 try simp only [go_sem]
 try simp only [go_sem]
 refine AKev_bif h0 ?_ ?_ <;> intro c2 h0
 have c2 := bnot_t c2
 try simp only [c2, go_sem]
 obtain rfl := Option.some.inj h0
 refine AKev_ret rfl ?_
 try simp only [F13.rs, c2, go_sem]
 have c2 := bnot_f c2
 try simp only [c2, go_sem]
 obtain ⟨x3, yx3, h0⟩ := bs h0
 refine zc0 (heat_furnace_bound_ok k _ _ _ yx3) ?_ (by first | rfl | simp [AV.refsL, AV.refs, AV.scal, AV.leaf]) ?_
 try simp only [c2, go_sem]
 try simp only [c2, go_sem]
 obtain rfl := Option.some.inj h0
 refine AKev_ret rfl ?_
 try simp only [F13.rs, c2, go_sem]
def F82.s0 : SC :=
 (.seq
 (.reg [b2 9 .lss 3 8 7 3 0 []])
 (.seq
 (.cond (.tmp 9)
 .skip
 (.exit 0))
 (.seq
 (.block 1
 (.seq
 (.reg [mv 10 8 3 [],
 sg 5 10 3 [10]])
 (.seq
 (.reg [mv 11 1 140 [],
 mv 12 0 92 [],
 mv 13 5 3 [],
 ia 14 92 12 13 [12, 13],
 ld 15 136 14 [14],
 oq 16 (.call ⟨.value (.tmp 11), #[.tmp 15], #[136]⟩) 4 [11, 15]])
 (.cond (.tmp 16)
 (.seq
 (.reg [mv 17 5 3 [5],
 sg 4 17 3 [17]])
 .ret)
 .skip))))
 (.reg [bn 18 .add 3 8 1 3 3 [8],
 mv 8 18 3 [18]]))))
def F82.c : SC :=
 (.seq
 (.reg [sn 4 0 3 [4]])
 (.seq
 (.seq
 (.reg [mv 6 0 92 [],
 ln 7 6 92 3 [6],
 oq 8 (.move (.const (.int .i64 0))) 3 []])
 (.block 0
 (.loop F82.s0)))
 (.seq
 (.reg [sn 4 (-1) 3 []])
 .ret)))
theorem F82.rs : Try.f82.results.toList = [.tmp 4] := rfl
def slices_IndexFunc_heat_limit.b0 (k : Nat) (f1 : heat_limit → Option (Bool)) (s0 : (List heat_limit)) : Int → Option (Stp (Int) (Unit) (Int)) := fun (i1 : Int) =>
 bif decide (i1 < (s0.length : Int)) then
  (at? s0 i1).bind fun x3 =>
  (f1 x3).bind fun x4 =>
  bif x4 then
   some (.ret i1)
  else
   some (.next (w64 (i1 + 1)))
 else
  some (.brk ())
noncomputable def slices_IndexFunc_heat_limit.h0 (f1_f : Nat) (f1_c : List AV) (s0 : (List heat_limit)) : Int → St := fun (i1 : Int) => ⟨[(0, .sl 3 (List.map heat_limit.c s0)), (1, .fn (.func f1_f) [] f1_c), (7, .int .i64 (s0.length : Int)), (8, .int .i64 i1)], [], [], 1, Try.f82.ntmps⟩
noncomputable def slices_IndexFunc_heat_limit.x0 : Unit → St := fun (_ : Unit) => ⟨[], [], [], 1, Try.f82.ntmps⟩
def slices_IndexFunc_heat_limit (k : Nat) (s0 : (List heat_limit)) (f1 : heat_limit → Option (Bool)) : Option (Int) :=
 (whl (slices_IndexFunc_heat_limit.b0 k f1 s0) k 0).bind fun r6 => match r6 with
 | .next _ => none
 | .ret v_ => some v_
 | .brk _ =>
  some (-1)
theorem slices_IndexFunc_heat_limit_ok (k : Nat) (s0 : (List heat_limit)) (f1_f : Nat) (f1_c : List AV) (f1_i : Ice f1_c) (f1 : heat_limit → Option (Bool)) (f1_h : ∀ q0 qr, f1 q0 = some qr → PCall Try.prog f1_f (.agg (heat_limit.c q0) :: f1_c) (fun y => y = .bool qr)) (r : Int) (h0 : slices_IndexFunc_heat_limit k s0 f1 = some r) : PCall Try.prog 82 [.sl 3 (List.map heat_limit.c s0), .fn (.func f1_f) [] f1_c] (fun y => y = .int .i64 r) := by
 refine PB (fn := Try.f82) (sc := F82.c) ?_
 refine rS ?_
 simp only [slices_IndexFunc_heat_limit] at h0
 try simp only [F82.c, f1_i.sh, f1_i.frz, f1_i.br, f1_i.refs, f1_i.imp, f1_i.ren, f1_i.un, go_sem]
 obtain ⟨r6, yr6, h0⟩ := bs h0
 refine AKev_loopS yr6 (slices_IndexFunc_heat_limit.h0 f1_f f1_c s0) (slices_IndexFunc_heat_limit.x0) ?_ ?_ ?_
 refine Weak.go [0, 1, 7, 8] [] rfl ?_
 try simp only [slices_IndexFunc_heat_limit.h0, f1_i.sh, f1_i.frz, f1_i.br, f1_i.refs, f1_i.imp, f1_i.ren, f1_i.un, go_sem]
 rintro i1 x_1 Bk1 Br1 h1 hnext1 hbrk1 hret1
 refine rS ?_
 simp only [slices_IndexFunc_heat_limit.b0] at h1
 try simp only [F82.s0, slices_IndexFunc_heat_limit.h0, f1_i.sh, f1_i.frz, f1_i.br, f1_i.refs, f1_i.imp, f1_i.ren, f1_i.un, go_sem]
 refine AKev_bif h1 ?_ ?_ <;> intro c2 h1
 try simp only [c2, f1_i.sh, f1_i.frz, f1_i.br, f1_i.refs, f1_i.imp, f1_i.ren, f1_i.un, go_sem]
 obtain ⟨x3, yx3, h1⟩ := bs h1
 try simp only [aa yx3, f1_i.sh, f1_i.frz, f1_i.br, f1_i.refs, f1_i.imp, f1_i.ren, f1_i.un, c2, go_sem]
 obtain ⟨x4, yx4, h1⟩ := bs h1
 refine zc0 (f1_h _ _ yx4) ?_ (by first | rfl | simp [AV.refsL, AV.refs, AV.scal, AV.leaf, f1_i.refs]) ?_
 try simp only [f1_i.sh, f1_i.frz, f1_i.br, f1_i.refs, f1_i.imp, f1_i.ren, f1_i.un, c2, aa yx3, go_sem]
 try simp only [f1_i.sh, f1_i.frz, f1_i.br, f1_i.refs, f1_i.imp, f1_i.ren, f1_i.un, c2, aa yx3, go_sem]
 refine AKev_bif h1 ?_ ?_ <;> intro c5 h1
 try simp only [c5, f1_i.sh, f1_i.frz, f1_i.br, f1_i.refs, f1_i.imp, f1_i.ren, f1_i.un, c2, aa yx3, go_sem]
 obtain rfl := hret1 _ (Option.some.inj h1).symm
 simp only at h0
 obtain rfl := Option.some.inj h0
 refine AKev_ret rfl ?_
 try simp only [F82.rs, f1_i.sh, f1_i.frz, f1_i.br, f1_i.refs, f1_i.imp, f1_i.ren, f1_i.un, c2, aa yx3, c5, go_sem]
 try simp only [c5, f1_i.sh, f1_i.frz, f1_i.br, f1_i.refs, f1_i.imp, f1_i.ren, f1_i.un, c2, aa yx3, go_sem]
 refine AKev_backB (hnext1 _ _ (Option.some.inj h1).symm ?_)
 refine Weak.go [0, 1, 7, 8] [] rfl ?_
 try simp only [slices_IndexFunc_heat_limit.h0, f1_i.sh, f1_i.frz, f1_i.br, f1_i.refs, f1_i.imp, f1_i.ren, f1_i.un, c2, aa yx3, c5, go_sem]
 try simp only [c2, f1_i.sh, f1_i.frz, f1_i.br, f1_i.refs, f1_i.imp, f1_i.ren, f1_i.un, go_sem]
 refine AKev_backB (hbrk1 _ _ (Option.some.inj h1).symm ?_)
 refine Weak.go [] [] rfl ?_
 try simp only [slices_IndexFunc_heat_limit.x0, f1_i.sh, f1_i.frz, f1_i.br, f1_i.refs, f1_i.imp, f1_i.ren, f1_i.un, c2, go_sem]
 rintro _ hr_
 subst hr_
 simp only at h0
 refine rS ?_
 try simp only [slices_IndexFunc_heat_limit.x0, f1_i.sh, f1_i.frz, f1_i.br, f1_i.refs, f1_i.imp, f1_i.ren, f1_i.un, go_sem]
 obtain rfl := Option.some.inj h0
 refine AKev_ret rfl ?_
 try simp only [F82.rs, f1_i.sh, f1_i.frz, f1_i.br, f1_i.refs, f1_i.imp, f1_i.ren, f1_i.un, go_sem]
def F108.c : SC :=
 (.seq
 (.reg [oq 2 (.box 136 (.tmp 0)) 0 [0],
 sb 3 false 4 [3]])
 (.seq
 (.reg [fa 4 136 2 2 [2],
 ld 5 3 4 [4],
 ld 6 3 1 [1],
 b2 7 .eql 3 5 6 3 4 [5, 6],
 sg 3 7 4 [7]])
 .ret))
theorem F108.rs : Try.f108.results.toList = [.tmp 3] := rfl
def heat_furnace_told_1 (k : Nat) (x0 : heat_limit) (c1 : Int) : Option (Bool) :=
 some (decide (x0.by_ = c1))
theorem heat_furnace_told_1_ok (k : Nat) (x0 : heat_limit) (c1 : Int) (r : Bool) (h0 : heat_furnace_told_1 k x0 c1 = some r) : PCall Try.prog 108 [.agg (heat_limit.c x0), .rptr 1 [eI c1] 0 0] (fun y => y = .bool r) := by
 refine PB (fn := Try.f108) (sc := F108.c) ?_
 refine rS ?_
 simp only [heat_furnace_told_1] at h0
 try simp only [F108.c, go_sem]
 obtain rfl := Option.some.inj h0
 refine AKev_ret rfl ?_
 try simp only [F108.rs, go_sem]
def F81.c : SC :=
 (.seq
 (.reg [oq 2 (.box 94 (.tmp 0)) 0 [0],
 oq 3 (.box 3 (.tmp 1)) 0 [1],
 oq 4 (.alloc 136) 0 [],
 sb 5 false 4 [5]])
 (.seq
 (.reg [fa 7 94 2 2 [],
 ld 8 92 7 [7],
 oq 9 (.makeFunc (.func 108) #[] #[.tmp 3]) 140 [3],
 cf2 10 82 8 9 92 140 3 [8, 9],
 sg 6 10 3 [10]])
 (.seq
 (.seq
 (.reg [mv 11 6 3 [],
 bn 12 .lss 3 11 0 3 4 [11]])
 (.cond (.tmp 12)
 (.seq
 (.reg [oq 13 (.build 136 #[]) 136 [],
 ⟨none, .store 136 (.tmp 4) (.tmp 13), 0, none, [13]⟩,
 sb 5 false 4 []])
 .ret)
 .skip))
 (.seq
 (.reg [fa 14 94 2 2 [2],
 ld 15 92 14 [14],
 mv 16 6 3 [6],
 ia 17 92 15 16 [15, 16],
 ld 18 136 17 [17],
 ⟨none, .store 136 (.tmp 4) (.tmp 18), 0, none, [18]⟩,
 sb 5 true 4 []])
 .ret))))
theorem F81.rs : Try.f81.results.toList = [.cell 4 136, .tmp 5] := rfl
def heat_furnace_told (k : Nat) (f0 : heat_furnace) (i1 : Int) : Option (heat_limit × Bool) :=
 (slices_IndexFunc_heat_limit k f0.most (fun q0 => heat_furnace_told_1 k q0 i1)).bind fun x1 =>
 bif decide (x1 < (0 : Int)) then
  some ((⟨0, 0, 0⟩ : heat_limit), false)
 else
  (at? f0.most x1).bind fun x3 =>
  some (x3, true)
theorem heat_furnace_told_ok (k : Nat) (f0 : heat_furnace) (i1 : Int) (r : heat_limit × Bool) (h0 : heat_furnace_told k f0 i1 = some r) : PCall Try.prog 81 [.agg (heat_furnace.c f0), .int .i64 i1] (fun y => y = .tup [.agg (heat_limit.c r.1), .bool r.2]) := by
 refine PB (fn := Try.f81) (sc := F81.c) ?_
 refine rS ?_
 simp only [heat_furnace_told] at h0
 try simp only [F81.c, go_sem]
 obtain ⟨x1, yx1, h0⟩ := bs h0
 refine zcL (slices_IndexFunc_heat_limit_ok k _ 108 [.rptr 1 [eI i1] 0 0] ⟨fun _ => rfl, fun _ => rfl, fun _ _ => rfl, rfl, fun _ => rfl, fun _ => rfl, fun _ => rfl⟩ (fun q0 => heat_furnace_told_1 k q0 i1) (fun q0 qr qh => heat_furnace_told_1_ok k q0 _ qr qh) _ yx1) ?_ (by first | rfl | simp [AV.refsL, AV.refs, AV.scal, AV.leaf]) ?_
 try simp only [go_sem]
 try simp only [go_sem]
 refine AKev_bif h0 ?_ ?_ <;> intro c2 h0
 try simp only [c2, go_sem]
 obtain rfl := Option.some.inj h0
 refine AKev_ret rfl ?_
 try simp only [F81.rs, c2, go_sem]
 try simp only [c2, go_sem]
 obtain ⟨x3, yx3, h0⟩ := bs h0
 try simp only [aa yx3, c2, go_sem]
 obtain rfl := Option.some.inj h0
 refine AKev_ret rfl ?_
 try simp only [F81.rs, c2, aa yx3, go_sem]
def F48.s0 : SC :=
 (.seq
 (.reg [b2 55 .lss 3 54 53 3 0 []])
 (.seq
 (.cond (.tmp 55)
 .skip
 (.exit 0))
 (.seq
 (.block 1
 (.seq
 (.reg [mv 56 54 3 [],
 ia 57 23 52 54 [],
 ld 58 3 57 [57],
 sg 11 56 3 [56],
 sg 12 58 3 [58]])
 (.seq
 (.reg [sn 13 3000 3 []])
 (.seq
 (.seq
 (.reg [mv 59 12 3 [],
 bn 60 .neq 3 59 (-1) 3 4 [59]])
 (.cond (.tmp 60)
 (.seq
 (.reg [ld 62 94 3 [],
 mv 63 12 3 [12],
 cf2 64 81 62 63 94 3 137 [62, 63],
 mv 61 64 137 [64],
 xt 65 61 0 136 [],
 xt 66 61 1 4 [61],
 oq 14 (.alloc 136) 0 [],
 ⟨none, .store 136 (.tmp 14) (.tmp 65), 0, none, [65]⟩,
 sg 15 66 4 [66]])
 (.seq
 (.seq
 (.reg [mv 67 15 4 [15],
 oq 68 (.unOp .not 4 (.tmp 67)) 4 [67]])
 (.cond (.tmp 68)
 (.seq
 (.reg [sn 6 0 3 [],
 sb 7 false 4 []])
 .ret)
 .skip))
 (.dreg [fa 69 136 14 1 [],
 ld 70 3 69 [],
 fa 71 94 3 0 [],
 fa 72 32 71 0 [],
 fa 73 29 72 0 [],
 ld 74 27 73 [],
 mv 75 11 3 [],
 ia 76 27 74 75 [],
 ld 77 40 76 [],
 fa 78 136 14 0 [],
 ld 79 3 78 [],
 ia 80 40 77 79 [],
 fa 81 39 80 1 [],
 ld 82 3 81 [],
 b2 83 .add 3 70 82 3 3 [],
 sg 13 83 3 []] [[], [0], [], [2], [2, 3], [2, 3, 4], [], [2, 3, 4, 5, 6], [2, 3, 4, 5, 6, 7], [], [9], [2, 3, 4, 5, 6, 7, 8, 9, 10], [2, 3, 4, 5, 6, 7, 8, 9, 10, 11], [2, 3, 4, 5, 6, 7, 8, 9, 10, 11, 12], [0, 1, 2, 3, 4, 5, 6, 7, 8, 9, 10, 11, 12, 13], [0, 1, 2, 3, 4, 5, 6, 7, 8, 9, 10, 11, 12, 13, 14]] [14, 69, 70, 71, 72, 73, 74, 75, 76, 77, 78, 79, 80, 81, 82, 83])))
 .skip))
 (.seq
 (.reg [mv 84 13 3 [13],
 fa 85 94 3 0 [],
 fa 86 32 85 0 [85],
 fa 87 29 86 0 [86],
 ld 88 27 87 [87],
 mv 89 11 3 [],
 ia 90 27 88 89 [88, 89],
 ld 91 40 90 [90],
 mv 92 1 3 [],
 ia 93 40 91 92 [91, 92],
 fa 94 39 93 0 [93],
 ld 95 3 94 [94],
 b2 96 .sub 3 84 95 3 3 [84, 95],
 sg 16 96 3 [96]])
 (.seq
 (.reg [mv 97 11 3 [11],
 bn 98 .eql 3 97 0 3 4 [97],
 mv 99 98 4 [98],
 og 100 (.move (.tmp 16)) 3 99 false [],
 og 101 (.move (.tmp 10)) 3 99 false [],
 og 102 (.binOp .gtr 3 (.tmp 100) (.tmp 101) 3) 4 99 false [100, 101],
 oq 103 (.pick (.tmp 99) (.const (.bool true)) (.tmp 102)) 4 [99, 102]])
 (.cond (.tmp 103)
 (.reg [mv 104 16 3 [16],
 sg 10 104 3 [104]])
 .skip)))))))
 (.reg [bn 105 .add 3 54 1 3 3 [54],
 mv 54 105 3 [105]]))))
def F48.c : SC :=
 (.seq
 (.reg [oq 3 (.box 94 (.tmp 0)) 0 [0],
 oq 5 (.box 51 (.tmp 2)) 0 [2],
 sn 6 0 3 [6],
 sb 7 false 4 [7]])
 (.seq
 (.seq
 (.reg [fa 17 51 5 0 [],
 ld 18 3 17 [17],
 bn 19 .neq 3 18 (-1) 3 4 [18]])
 (.cond (.tmp 19)
 (.seq
 (.reg [ld 21 94 3 [3],
 fa 22 51 5 0 [],
 ld 23 3 22 [22],
 cf2 24 81 21 23 94 3 137 [21, 23],
 mv 20 24 137 [24],
 xt 25 20 0 136 [],
 xt 26 20 1 4 [20],
 oq 8 (.alloc 136) 0 [],
 ⟨none, .store 136 (.tmp 8) (.tmp 25), 0, none, [25]⟩,
 sg 9 26 4 [26]])
 (.seq
 (.dreg [fa 27 136 8 1 [],
 ld 28 3 27 [],
 mv 29 9 4 [],
 mv 30 29 4 [],
 og 31 (.fieldAddr 136 (.tmp 8) 0) 0 30 true [],
 og 32 (.load 3 (.tmp 31)) 3 30 true [],
 og 33 (.move (.tmp 1)) 3 30 true [],
 og 34 (.binOp .eql 3 (.tmp 32) (.tmp 33) 3) 4 30 true [],
 oq 35 (.pick (.tmp 30) (.tmp 34) (.const (.bool false))) 4 [],
 mv 36 35 4 [],
 og 37 (.fieldAddr 51 (.tmp 5) 1) 0 36 true [],
 og 38 (.load 23 (.tmp 37)) 23 36 true [],
 og 39 (.call ⟨.builtin .len, #[.tmp 38], #[23]⟩) 3 36 true [],
 og 40 (.binOp .eql 3 (.tmp 39) (.const (.int .i64 0)) 3) 4 36 true [],
 oq 41 (.pick (.tmp 36) (.tmp 40) (.const (.bool false))) 4 [],
 sg 6 28 3 [],
 sg 7 41 4 []] [[], [0], [], [2], [2, 3], [2, 3, 4], [2, 3], [2, 3, 4, 5, 6], [2, 3, 4, 5, 6, 7], [2, 3, 4, 5, 6, 7, 8], [2, 3, 4, 5, 6, 7, 8, 9], [2, 3, 4, 5, 6, 7, 8, 9, 10], [2, 3, 4, 5, 6, 7, 8, 9, 10, 11], [2, 3, 4, 5, 6, 7, 8, 9, 10, 11, 12], [2, 3, 4, 5, 6, 7, 8, 9, 10, 11, 12, 13], [0, 1, 2, 3, 4, 5, 6, 7, 8, 9], [2, 3, 4, 5, 6, 7, 8, 9, 10, 11, 12, 13, 14, 0, 1, 15]] [1, 5, 8, 9, 27, 28, 29, 30, 31, 32, 33, 34, 35, 36, 37, 38, 39, 40, 41])
 .ret))
 .skip))
 (.seq
 (.seq
 (.reg [fa 42 51 5 1 [],
 ld 43 23 42 [42],
 ln 44 43 23 3 [43],
 fa 45 94 3 0 [],
 fa 46 32 45 0 [45],
 fa 47 29 46 0 [46],
 ld 48 27 47 [47],
 ln 49 48 27 3 [48],
 b2 50 .neq 3 44 49 3 4 [44, 49]])
 (.cond (.tmp 50)
 (.seq
 (.reg [sn 6 0 3 [],
 sb 7 false 4 []])
 .ret)
 .skip))
 (.seq
 (.reg [sn 10 (-3000) 3 []])
 (.seq
 (.seq
 (.reg [fa 51 51 5 1 [5],
 ld 52 23 51 [51],
 ln 53 52 23 3 [],
 oq 54 (.move (.const (.int .i64 0))) 3 []])
 (.block 0
 (.loop F48.s0)))
 (.seq
 (.reg [mv 106 10 3 [10],
 sg 6 106 3 [106],
 sb 7 true 4 []])
 .ret))))))
theorem F48.rs : Try.f48.results.toList = [.tmp 6, .tmp 7] := rfl
def heat_furnace_showsHigh.b0 (k : Nat) (f0 : heat_furnace) (place1 : Int) (p2 : HeatProof) : (Int × Int) → Option (Stp (Int × Int) (Int) (Int × Bool)) := fun (s : Int × Int) => match s with
 | (i6, i7) =>
   bif decide (i7 < (p2.By.length : Int)) then
    (at? p2.By i7).bind fun x10 =>
    bif (!decide (x10 = (-1 : Int))) then
     (heat_furnace_told k f0 x10).bind fun x12 =>
     bif (!x12.2) then
      some (.ret (0, false))
     else
      (at? f0.Firing.Kiln.Falls i7).bind fun x14 =>
      (at? x14 x12.1.place).bind fun x15 =>
      (at? x14 place1).bind fun x16 =>
      bif (!decide (i7 = (0 : Int))) then
       bif decide (i6 < w64 ((w64 (x12.1.heat + x15.Hi)) - x16.Lo)) then
        some (.next (w64 ((w64 (x12.1.heat + x15.Hi)) - x16.Lo), w64 (i7 + 1)))
       else
        some (.next (i6, w64 (i7 + 1)))
      else
       some (.next (w64 ((w64 (x12.1.heat + x15.Hi)) - x16.Lo), w64 (i7 + 1)))
    else
     (at? f0.Firing.Kiln.Falls i7).bind fun x19 =>
     (at? x19 place1).bind fun x20 =>
     bif (!decide (i7 = (0 : Int))) then
      bif decide (i6 < w64 (3000 - x20.Lo)) then
       some (.next (w64 (3000 - x20.Lo), w64 (i7 + 1)))
      else
       some (.next (i6, w64 (i7 + 1)))
     else
      some (.next (w64 (3000 - x20.Lo), w64 (i7 + 1)))
   else
    some (.brk i6)
noncomputable def heat_furnace_showsHigh.h0 (f0 : heat_furnace) (place1 : Int) (p2 : HeatProof) : (Int × Int) → St := fun (s : Int × Int) => match s with
 | (i6, i7) => ⟨[(1, .int .i64 place1), (3, .ptr 0 0 0), (10, .int .i64 i6), (52, .sl 1 (List.map eI p2.By)), (53, .int .i64 (p2.By.length : Int)), (54, .int .i64 i7)], [(0, .box [.sl 1 (List.map (eL 2 Range.c) f0.Firing.Kiln.Falls), .sl 6 (List.map Reading.c f0.Firing.Readings), .sl 3 (List.map heat_limit.c f0.least), .sl 3 (List.map heat_limit.c f0.most)])], [], 1, Try.f48.ntmps⟩
noncomputable def heat_furnace_showsHigh.x0 : Int → St := fun (i8 : Int) => ⟨[(10, .int .i64 i8)], [], [], 1, Try.f48.ntmps⟩
def heat_furnace_showsHigh (k : Nat) (f0 : heat_furnace) (place1 : Int) (p2 : HeatProof) : Option (Int × Bool) :=
 bif (!decide (p2.Reading = (-1 : Int))) then
  (heat_furnace_told k f0 p2.Reading).bind fun x2 =>
  bif x2.2 then
   bif decide (x2.1.place = place1) then
    some (x2.1.heat, decide ((p2.By.length : Int) = (0 : Int)))
   else
    some (x2.1.heat, false)
  else
   some (x2.1.heat, false)
 else
  bif (!decide ((p2.By.length : Int) = (f0.Firing.Kiln.Falls.length : Int))) then
   some (0, false)
  else
   (whl (heat_furnace_showsHigh.b0 k f0 place1 p2) k (-3000, 0)).bind fun r23 => match r23 with
   | .next _ => none
   | .ret v_ => some v_
   | .brk i8 =>
    some (i8, true)
theorem heat_furnace_showsHigh_ok (k : Nat) (f0 : heat_furnace) (place1 : Int) (p2 : HeatProof) (r : Int × Bool) (h0 : heat_furnace_showsHigh k f0 place1 p2 = some r) : PCall Try.prog 48 [.agg (heat_furnace.c f0), .int .i64 place1, .agg (HeatProof.c p2)] (fun y => y = .tup [.int .i64 r.1, .bool r.2]) := by
 refine PB (fn := Try.f48) (sc := F48.c) ?_
 refine rS ?_
 simp only [heat_furnace_showsHigh] at h0
 try simp only [F48.c, go_sem]
 refine AKev_bif h0 ?_ ?_ <;> intro c1 h0
 have c1 := bnot_t c1
 try simp only [c1, go_sem]
 obtain ⟨x2, yx2, h0⟩ := bs h0
 refine zc0 (heat_furnace_told_ok k _ _ _ yx2) ?_ (by first | rfl | simp [AV.refsL, AV.refs, AV.scal, AV.leaf]) ?_
 try simp only [c1, go_sem]
 try simp only [c1, go_sem]
 refine AKev_region T_ok follows_ok 1000 ?_
 try simp only [c1, go_sem]
 refine DG_bif h0 ?_ ?_ <;> intro c3 h0
 try simp only [c3, c1, go_sem]
 refine DG_bif h0 ?_ ?_ <;> intro c4 h0
 try simp only [c4, c1, c3, go_sem]
 refine DG_done ⟨calm_of (by simp only [skel, List.reverse_cons, List.reverse_nil, List.nil_append, List.cons_append, List.map_cons, List.map_nil, List.append_nil]; rfl) (by first | decide +kernel | rfl), run_sound T_ok 1000 _ _ ?_⟩
 try simp only [c1, c3, c4, go_sem]
 obtain rfl := Option.some.inj h0
 refine AKev_ret rfl ?_
 try simp only [F48.rs, c1, c3, c4, go_sem]
 try simp only [c4, c1, c3, go_sem]
 refine DG_done ⟨calm_of (by simp only [skel, List.reverse_cons, List.reverse_nil, List.nil_append, List.cons_append, List.map_cons, List.map_nil, List.append_nil]; rfl) (by first | decide +kernel | rfl), run_sound T_ok 1000 _ _ ?_⟩
 try simp only [c1, c3, c4, go_sem]
 obtain rfl := Option.some.inj h0
 refine AKev_ret rfl ?_
 try simp only [F48.rs, c1, c3, c4, go_sem]
 try simp only [c3, c1, go_sem]
 refine DG_done ⟨calm_of (by simp only [skel, List.reverse_cons, List.reverse_nil, List.nil_append, List.cons_append, List.map_cons, List.map_nil, List.append_nil]; rfl) (by first | decide +kernel | rfl), run_sound T_ok 1000 _ _ ?_⟩
 try simp only [c1, c3, go_sem]
 obtain rfl := Option.some.inj h0
 refine AKev_ret rfl ?_
 try simp only [F48.rs, c1, c3, go_sem]
 have c1 := bnot_f c1
 try simp only [c1, go_sem]
 refine AKev_bif h0 ?_ ?_ <;> intro c5 h0
 have c5 := bnot_t c5
 try simp only [c5, c1, go_sem]
 obtain rfl := Option.some.inj h0
 refine AKev_ret rfl ?_
 try simp only [F48.rs, c1, c5, go_sem]
 have c5 := bnot_f c5
 try simp only [c5, c1, go_sem]
 obtain ⟨r23, yr23, h0⟩ := bs h0
 refine AKev_loopS yr23 (heat_furnace_showsHigh.h0 f0 place1 p2) (heat_furnace_showsHigh.x0) ?_ ?_ ?_
 refine Weak.go [1, 3, 10, 52, 53, 54] [0] rfl ?_
 try simp only [heat_furnace_showsHigh.h0, c1, c5, go_sem]
 rintro ⟨i6, i7⟩ x_1 Bk1 Br1 h1 hnext1 hbrk1 hret1
 refine rS ?_
 simp only [heat_furnace_showsHigh.b0] at h1
 try simp only [F48.s0, heat_furnace_showsHigh.h0, c1, c5, go_sem]
 refine AKev_bif h1 ?_ ?_ <;> intro c9 h1
 try simp only [c9, c1, c5, go_sem]
 obtain ⟨x10, yx10, h1⟩ := bs h1
 try simp only [aa yx10, c1, c5, c9, go_sem]
 refine AKev_bif h1 ?_ ?_ <;> intro c11 h1
 have c11 := bnot_t c11
 try simp only [c11, c1, c5, c9, aa yx10, go_sem]
 obtain ⟨x12, yx12, h1⟩ := bs h1
 refine zc0 (heat_furnace_told_ok k _ _ _ yx12) ?_ (by first | rfl | simp [AV.refsL, AV.refs, AV.scal, AV.leaf]) ?_
 try simp only [c1, c5, c9, aa yx10, c11, go_sem]
 try simp only [c1, c5, c9, aa yx10, c11, go_sem]
 refine AKev_bif h1 ?_ ?_ <;> intro c13 h1
 have c13 := bnot_t c13
 try simp only [c13, c1, c5, c9, aa yx10, c11, go_sem]
 obtain rfl := hret1 _ (Option.some.inj h1).symm
 simp only at h0
 obtain rfl := Option.some.inj h0
 refine AKev_ret rfl ?_
 try simp only [F48.rs, c1, c5, c9, aa yx10, c11, c13, go_sem]
 have c13 := bnot_f c13
 try simp only [c13, c1, c5, c9, aa yx10, c11, go_sem]
 refine AKev_region T_ok follows_ok 1000 ?_
 try simp only [c1, c5, c9, aa yx10, c11, c13, go_sem]
 obtain ⟨x14, yx14, h1⟩ := bs h1
 try simp only [aa yx14, c1, c5, c9, aa yx10, c11, c13, go_sem]
 obtain ⟨x15, yx15, h1⟩ := bs h1
 try simp only [aa yx15, c1, c5, c9, aa yx10, c11, c13, aa yx14, go_sem]
 refine DG_done ⟨calm_of (by simp only [skel, List.reverse_cons, List.reverse_nil, List.nil_append, List.cons_append, List.map_cons, List.map_nil, List.append_nil]; rfl) (by first | decide +kernel | rfl), run_sound T_ok 1000 _ _ ?_⟩
 try simp only [aa yx14, c1, c5, c9, aa yx10, c11, c13, aa yx15, go_sem]
 obtain ⟨x16, yx16, h1⟩ := bs h1
 try simp only [aa yx16, c1, c5, c9, aa yx10, c11, c13, aa yx14, aa yx15, go_sem]
 refine AKev_bif h1 ?_ ?_ <;> intro c17 h1
 have c17 := bnot_t c17
 try simp only [c17, c1, c5, c9, aa yx10, c11, c13, aa yx14, aa yx15, aa yx16, go_sem]
 refine AKev_bif h1 ?_ ?_ <;> intro c18 h1
 try simp only [c18, c1, c5, c9, aa yx10, c11, c13, aa yx14, aa yx15, aa yx16, c17, go_sem]
 refine AKev_backB (hnext1 _ _ (Option.some.inj h1).symm ?_)
 refine Weak.go [1, 3, 10, 52, 53, 54] [0] rfl ?_
 try simp only [heat_furnace_showsHigh.h0, c1, c5, c9, aa yx10, c11, c13, aa yx14, aa yx15, aa yx16, c17, c18, go_sem]
 try simp only [c18, c1, c5, c9, aa yx10, c11, c13, aa yx14, aa yx15, aa yx16, c17, go_sem]
 refine AKev_backB (hnext1 _ _ (Option.some.inj h1).symm ?_)
 refine Weak.go [1, 3, 10, 52, 53, 54] [0] rfl ?_
 try simp only [heat_furnace_showsHigh.h0, c1, c5, c9, aa yx10, c11, c13, aa yx14, aa yx15, aa yx16, c17, c18, go_sem]
 have c17 := bnot_f c17
 try simp only [c17, c1, c5, c9, aa yx10, c11, c13, aa yx14, aa yx15, aa yx16, go_sem]
 refine AKev_backB (hnext1 _ _ (Option.some.inj h1).symm ?_)
 refine Weak.go [1, 3, 10, 52, 53, 54] [0] rfl ?_
 try simp only [heat_furnace_showsHigh.h0, c1, c5, c9, aa yx10, c11, c13, aa yx14, aa yx15, aa yx16, c17, go_sem]
 have c11 := bnot_f c11
 try simp only [c11, c1, c5, c9, aa yx10, go_sem]
 obtain ⟨x19, yx19, h1⟩ := bs h1
 try simp only [aa yx19, c1, c5, c9, aa yx10, c11, go_sem]
 obtain ⟨x20, yx20, h1⟩ := bs h1
 try simp only [aa yx20, c1, c5, c9, aa yx10, c11, aa yx19, go_sem]
 refine AKev_bif h1 ?_ ?_ <;> intro c21 h1
 have c21 := bnot_t c21
 try simp only [c21, c1, c5, c9, aa yx10, c11, aa yx19, aa yx20, go_sem]
 refine AKev_bif h1 ?_ ?_ <;> intro c22 h1
 try simp only [c22, c1, c5, c9, aa yx10, c11, aa yx19, aa yx20, c21, go_sem]
 refine AKev_backB (hnext1 _ _ (Option.some.inj h1).symm ?_)
 refine Weak.go [1, 3, 10, 52, 53, 54] [0] rfl ?_
 try simp only [heat_furnace_showsHigh.h0, c1, c5, c9, aa yx10, c11, aa yx19, aa yx20, c21, c22, go_sem]
 try simp only [c22, c1, c5, c9, aa yx10, c11, aa yx19, aa yx20, c21, go_sem]
 refine AKev_backB (hnext1 _ _ (Option.some.inj h1).symm ?_)
 refine Weak.go [1, 3, 10, 52, 53, 54] [0] rfl ?_
 try simp only [heat_furnace_showsHigh.h0, c1, c5, c9, aa yx10, c11, aa yx19, aa yx20, c21, c22, go_sem]
 have c21 := bnot_f c21
 try simp only [c21, c1, c5, c9, aa yx10, c11, aa yx19, aa yx20, go_sem]
 refine AKev_backB (hnext1 _ _ (Option.some.inj h1).symm ?_)
 refine Weak.go [1, 3, 10, 52, 53, 54] [0] rfl ?_
 try simp only [heat_furnace_showsHigh.h0, c1, c5, c9, aa yx10, c11, aa yx19, aa yx20, c21, go_sem]
 try simp only [c9, c1, c5, go_sem]
 refine AKev_backB (hbrk1 _ _ (Option.some.inj h1).symm ?_)
 refine Weak.go [10] [] rfl ?_
 try simp only [heat_furnace_showsHigh.x0, c1, c5, c9, go_sem]
 rintro i8 hr_
 subst hr_
 simp only at h0
 refine rS ?_
 try simp only [heat_furnace_showsHigh.x0, c1, c5, go_sem]
 obtain rfl := Option.some.inj h0
 refine AKev_ret rfl ?_
 try simp only [F48.rs, c1, c5, go_sem]
def F83.c : SC :=
 (.seq
 (.reg [oq 2 (.box 136 (.tmp 0)) 0 [0],
 sb 3 false 4 [3]])
 (.seq
 (.reg [fa 4 136 2 2 [2],
 ld 5 3 4 [4],
 fa 6 51 1 0 [1],
 ld 7 3 6 [6],
 b2 8 .eql 3 5 7 3 4 [5, 7],
 sg 3 8 4 [8]])
 .ret))
theorem F83.rs : Try.f83.results.toList = [.tmp 3] := rfl
def heat_furnace_showsLow_1 (k : Nat) (x0 : heat_limit) (c1 : HeatProof) : Option (Bool) :=
 some (decide (x0.by_ = c1.Reading))
theorem heat_furnace_showsLow_1_ok (k : Nat) (x0 : heat_limit) (c1 : HeatProof) (r : Bool) (h0 : heat_furnace_showsLow_1 k x0 c1 = some r) : PCall Try.prog 83 [.agg (heat_limit.c x0), .rptr 2 [HeatProof.c c1] 0 0] (fun y => y = .bool r) := by
 refine PB (fn := Try.f83) (sc := F83.c) ?_
 refine rS ?_
 simp only [heat_furnace_showsLow_1] at h0
 try simp only [F83.c, go_sem]
 obtain rfl := Option.some.inj h0
 refine AKev_ret rfl ?_
 try simp only [F83.rs, go_sem]
def F49.s0 : SC :=
 (.seq
 (.reg [b2 87 .lss 3 86 85 3 0 []])
 (.seq
 (.cond (.tmp 87)
 .skip
 (.exit 0))
 (.seq
 (.block 1
 (.seq
 (.reg [mv 88 86 3 [],
 ia 89 23 84 86 [],
 ld 90 3 89 [89],
 sg 11 88 3 [88],
 sg 12 90 3 [90]])
 (.seq
 (.dreg [fa 91 136 10 1 [],
 ld 92 3 91 [],
 fa 93 94 3 0 [],
 fa 94 32 93 0 [],
 fa 95 29 94 0 [],
 ld 96 27 95 [],
 mv 97 11 3 [],
 ia 98 27 96 97 [],
 ld 99 40 98 [],
 fa 100 136 10 0 [],
 ld 101 3 100 [],
 ia 102 40 99 101 [],
 fa 103 39 102 0 [],
 ld 104 3 103 [],
 b2 105 .add 3 92 104 3 3 [],
 sg 13 105 3 []] [[], [0], [], [2], [2, 3], [2, 3, 4], [], [2, 3, 4, 5, 6], [2, 3, 4, 5, 6, 7], [], [9], [2, 3, 4, 5, 6, 7, 8, 9, 10], [2, 3, 4, 5, 6, 7, 8, 9, 10, 11], [2, 3, 4, 5, 6, 7, 8, 9, 10, 11, 12], [0, 1, 2, 3, 4, 5, 6, 7, 8, 9, 10, 11, 12, 13], [0, 1, 2, 3, 4, 5, 6, 7, 8, 9, 10, 11, 12, 13, 14]] [91, 92, 93, 94, 95, 96, 97, 98, 99, 100, 101, 102, 103, 104, 105])
 (.seq
 (.reg [mv 106 12 3 []])
 (.block 2
 (.seq
 (.reg [bn 135 .eql 3 106 (-1) 3 4 [],
 sg 134 135 4 [135]])
 (.cond (.tmp 134)
 (.seq
 (.reg [mv 136 13 3 [13],
 fa 137 94 3 0 [],
 fa 138 32 137 0 [137],
 fa 139 29 138 0 [138],
 ld 140 27 139 [139],
 mv 141 11 3 [11],
 ia 142 27 140 141 [140, 141],
 ld 143 40 142 [142],
 mv 144 1 3 [],
 ia 145 40 143 144 [143, 144],
 fa 146 39 145 1 [145],
 ld 147 3 146 [146],
 b2 148 .sub 3 136 147 3 3 [136, 147],
 sg 14 148 3 [148]])
 (.seq
 (.reg [mv 149 7 4 [],
 mv 150 149 4 [149],
 og 151 (.move (.tmp 14)) 3 150 false [],
 og 152 (.move (.tmp 6)) 3 150 false [],
 og 153 (.binOp .lss 3 (.tmp 151) (.tmp 152) 3) 4 150 false [151, 152],
 oq 154 (.pick (.tmp 150) (.const (.bool true)) (.tmp 153)) 4 [150, 153]])
 (.cond (.tmp 154)
 (.reg [mv 155 14 3 [14],
 sg 6 155 3 [155],
 sb 7 false 4 []])
 .skip)))
 (.seq
 (.reg [bn 157 .eql 3 106 (-2) 3 4 [106],
 sg 156 157 4 [157]])
 (.cond (.tmp 156)
 (.seq
 (.reg [mv 158 13 3 [13],
 bn 159 .leq 3 158 3000 3 4 [158]])
 (.cond (.tmp 159)
 (.seq
 (.reg [sn 6 0 3 [],
 sb 7 false 4 [],
 sb 8 false 4 []])
 .ret)
 .skip))
 (.seq
 (.reg [ld 108 94 3 [],
 mv 109 12 3 [12],
 cf2 110 81 108 109 94 3 137 [108, 109],
 mv 107 110 137 [110],
 xt 111 107 0 136 [],
 xt 112 107 1 4 [107],
 oq 15 (.alloc 136) 0 [],
 ⟨none, .store 136 (.tmp 15) (.tmp 111), 0, none, [111]⟩,
 sg 16 112 4 [112]])
 (.seq
 (.dreg [mv 113 16 4 [],
 oq 114 (.unOp .not 4 (.tmp 113)) 4 [],
 mv 115 114 4 [],
 og 116 (.move (.tmp 13)) 3 115 false [],
 og 117 (.fieldAddr 136 (.tmp 15) 1) 0 115 false [],
 og 118 (.load 3 (.tmp 117)) 3 115 false [],
 og 119 (.fieldAddr 94 (.tmp 3) 0) 0 115 false [],
 og 120 (.fieldAddr 32 (.tmp 119) 0) 0 115 false [],
 og 121 (.fieldAddr 29 (.tmp 120) 0) 0 115 false [],
 og 122 (.load 27 (.tmp 121)) 27 115 false [],
 og 123 (.move (.tmp 11)) 3 115 false [],
 og 124 (.indexAddr 27 (.tmp 122) (.tmp 123)) 0 115 false [],
 og 125 (.load 40 (.tmp 124)) 40 115 false [],
 og 126 (.fieldAddr 136 (.tmp 15) 0) 0 115 false [],
 og 127 (.load 3 (.tmp 126)) 3 115 false [],
 og 128 (.indexAddr 40 (.tmp 125) (.tmp 127)) 0 115 false [],
 og 129 (.fieldAddr 39 (.tmp 128) 1) 0 115 false [],
 og 130 (.load 3 (.tmp 129)) 3 115 false [],
 og 131 (.binOp .add 3 (.tmp 118) (.tmp 130) 3) 3 115 false [],
 og 132 (.binOp .leq 3 (.tmp 116) (.tmp 131) 3) 4 115 false [],
 oq 133 (.pick (.tmp 115) (.const (.bool true)) (.tmp 132)) 4 []] [[], [0], [0, 1], [0, 1, 2], [0, 1, 2], [0, 1, 2, 4], [0, 1, 2], [0, 1, 2, 6], [0, 1, 2, 6, 7], [0, 1, 2, 6, 7, 8], [0, 1, 2], [0, 1, 2, 6, 7, 8, 9, 10], [0, 1, 2, 6, 7, 8, 9, 10, 11], [0, 1, 2], [0, 1, 2, 13], [0, 1, 2, 6, 7, 8, 9, 10, 11, 12, 13, 14], [0, 1, 2, 6, 7, 8, 9, 10, 11, 12, 13, 14, 15], [0, 1, 2, 6, 7, 8, 9, 10, 11, 12, 13, 14, 15, 16], [0, 1, 2, 4, 5, 6, 7, 8, 9, 10, 11, 12, 13, 14, 15, 16, 17], [0, 1, 2, 3, 4, 5, 6, 7, 8, 9, 10, 11, 12, 13, 14, 15, 16, 17, 18], [0, 1, 2, 3, 4, 5, 6, 7, 8, 9, 10, 11, 12, 13, 14, 15, 16, 17, 18, 19]] [11, 13, 15, 16, 113, 114, 115, 116, 117, 118, 119, 120, 121, 122, 123, 124, 125, 126, 127, 128, 129, 130, 131, 132])
 (.cond (.tmp 133)
 (.seq
 (.reg [sn 6 0 3 [],
 sb 7 false 4 [],
 sb 8 false 4 []])
 .ret)
 .skip))))))))))))
 (.reg [bn 160 .add 3 86 1 3 3 [86],
 mv 86 160 3 [160]]))))
def F49.c : SC :=
 (.seq
 (.reg [oq 3 (.box 94 (.tmp 0)) 0 [0],
 oq 5 (.box 51 (.tmp 2)) 0 [2],
 sn 6 0 3 [],
 sb 7 false 4 [7],
 sb 8 false 4 [8]])
 (.seq
 (.seq
 (.reg [fa 17 51 5 0 [],
 ld 18 3 17 [17],
 bn 19 .eql 3 18 (-2) 3 4 [18]])
 (.cond (.tmp 19)
 (.seq
 (.seq
 (.dreg [fa 20 51 5 1 [],
 ld 21 23 20 [],
 ln 22 21 23 3 [],
 bn 23 .neq 3 22 1 3 4 [],
 mv 24 23 4 [],
 og 25 (.fieldAddr 51 (.tmp 5) 1) 0 24 false [],
 og 26 (.load 23 (.tmp 25)) 23 24 false [],
 og 27 (.indexAddr 23 (.tmp 26) (.const (.int .i64 0))) 0 24 false [],
 og 28 (.load 3 (.tmp 27)) 3 24 false [],
 og 29 (.fieldAddr 94 (.tmp 3) 0) 0 24 false [],
 og 30 (.fieldAddr 32 (.tmp 29) 0) 0 24 false [],
 og 31 (.fieldAddr 29 (.tmp 30) 0) 0 24 false [],
 og 32 (.load 27 (.tmp 31)) 27 24 false [],
 og 33 (.call ⟨.builtin .len, #[.tmp 32], #[27]⟩) 3 24 false [],
 og 34 (.binOp .sub 3 (.tmp 33) (.const (.int .i64 1)) 3) 3 24 false [],
 og 35 (.call ⟨.value (.func 42), #[.tmp 28, .const (.int .i64 0), .tmp 34], #[3, 3, 3]⟩) 4 24 false [],
 og 36 (.unOp .not 4 (.tmp 35)) 4 24 false [],
 oq 37 (.pick (.tmp 24) (.const (.bool true)) (.tmp 36)) 4 []] [[], [0], [0, 1], [0, 1, 2], [0, 1, 2, 3], [0, 1, 2, 3, 4], [0, 1, 2, 3, 4, 5], [0, 1, 2, 3, 4, 5, 6], [0, 1, 2, 3, 4, 5, 6, 7], [0, 1, 2, 3, 4], [0, 1, 2, 3, 4, 9], [0, 1, 2, 3, 4, 9, 10], [0, 1, 2, 3, 4, 9, 10, 11], [0, 1, 2, 3, 4, 9, 10, 11, 12], [0, 1, 2, 3, 4, 9, 10, 11, 12, 13], [0, 1, 2, 3, 4, 5, 6, 7, 8, 9, 10, 11, 12, 13, 14], [0, 1, 2, 3, 4, 5, 6, 7, 8, 9, 10, 11, 12, 13, 14, 15], [0, 1, 2, 3, 4, 5, 6, 7, 8, 9, 10, 11, 12, 13, 14, 15, 16]] [20, 21, 22, 23, 24, 25, 26, 27, 28, 29, 30, 31, 32, 33, 34, 35, 36])
 (.cond (.tmp 37)
 (.seq
 (.reg [sn 6 0 3 [],
 sb 7 false 4 [],
 sb 8 false 4 []])
 .ret)
 .skip))
 (.seq
 (.dreg [fa 38 94 3 0 [],
 fa 39 32 38 0 [],
 fa 40 29 39 0 [],
 ld 41 27 40 [],
 fa 42 51 5 1 [],
 ld 43 23 42 [],
 oq 44 (.indexAddr 23 (.tmp 43) (.const (.int .i64 0))) 0 [],
 ld 45 3 44 [],
 ia 46 27 41 45 [],
 ld 47 40 46 [],
 mv 48 1 3 [],
 ia 49 40 47 48 [],
 fa 50 39 49 1 [],
 ld 51 3 50 [],
 oq 52 (.unOp .neg 3 (.tmp 51)) 3 [],
 sg 6 52 3 [],
 sb 7 false 4 [],
 sb 8 true 4 []] [[], [0], [0, 1], [0, 1, 2], [], [4], [4, 5], [4, 5, 6], [0, 1, 2, 3, 4, 5, 6, 7], [0, 1, 2, 3, 4, 5, 6, 7, 8], [], [0, 1, 2, 3, 4, 5, 6, 7, 8, 9, 10], [0, 1, 2, 3, 4, 5, 6, 7, 8, 9, 10, 11], [0, 1, 2, 3, 4, 5, 6, 7, 8, 9, 10, 11, 12], [0, 1, 2, 3, 4, 5, 6, 7, 8, 9, 10, 11, 12, 13], [0, 1, 2, 3, 4, 5, 6, 7, 8, 9, 10, 11, 12, 13, 14], [0, 1, 2, 3, 4, 5, 6, 7, 8, 9, 10, 11, 12, 13, 14, 15], [0, 1, 2, 3, 4, 5, 6, 7, 8, 9, 10, 11, 12, 13, 14, 15, 16]] [1, 3, 5, 38, 39, 40, 41, 42, 43, 44, 45, 46, 47, 48, 49, 50, 51, 52])
 .ret))
 .skip))
 (.seq
 (.reg [fa 53 94 3 1 [],
 ld 54 92 53 [53],
 oq 55 (.makeFunc (.func 83) #[] #[.tmp 5]) 140 [],
 cf2 56 82 54 55 92 140 3 [54, 55],
 sg 9 56 3 [56]])
 (.seq
 (.seq
 (.reg [mv 57 9 3 [],
 bn 58 .lss 3 57 0 3 4 [57]])
 (.cond (.tmp 58)
 (.seq
 (.reg [sn 6 0 3 [],
 sb 7 false 4 [],
 sb 8 false 4 []])
 .ret)
 .skip))
 (.seq
 (.reg [fa 59 94 3 1 [],
 ld 60 92 59 [59],
 mv 61 9 3 [9],
 ia 62 92 60 61 [60, 61],
 ld 63 136 62 [62],
 oq 10 (.alloc 136) 0 [],
 ⟨none, .store 136 (.tmp 10) (.tmp 63), 0, none, [63]⟩])
 (.seq
 (.seq
 (.reg [fa 64 136 10 0 [],
 ld 65 3 64 [64],
 mv 66 1 3 [],
 b2 67 .eql 3 65 66 3 4 [65, 66]])
 (.cond (.tmp 67)
 (.seq
 (.dreg [fa 68 136 10 1 [],
 ld 69 3 68 [],
 fa 70 51 5 1 [],
 ld 71 23 70 [],
 ln 72 71 23 3 [],
 bn 73 .eql 3 72 0 3 4 [],
 sg 6 69 3 [],
 sb 7 false 4 [],
 sg 8 73 4 []] [[], [0], [], [2], [2, 3], [2, 3, 4], [0, 1], [0, 1, 6], [2, 3, 4, 5, 0, 1, 6, 7]] [5, 10, 68, 69, 70, 71, 72, 73])
 .ret)
 .skip))
 (.seq
 (.seq
 (.reg [fa 74 51 5 1 [],
 ld 75 23 74 [74],
 ln 76 75 23 3 [75],
 fa 77 94 3 0 [],
 fa 78 32 77 0 [77],
 fa 79 29 78 0 [78],
 ld 80 27 79 [79],
 ln 81 80 27 3 [80],
 b2 82 .neq 3 76 81 3 4 [76, 81]])
 (.cond (.tmp 82)
 (.seq
 (.reg [sn 6 0 3 [],
 sb 7 false 4 [],
 sb 8 false 4 []])
 .ret)
 .skip))
 (.seq
 (.reg [sb 7 true 4 []])
 (.seq
 (.seq
 (.reg [fa 83 51 5 1 [5],
 ld 84 23 83 [83],
 ln 85 84 23 3 [],
 oq 86 (.move (.const (.int .i64 0))) 3 []])
 (.block 0
 (.loop F49.s0)))
 (.seq
 (.reg [mv 161 6 3 [6],
 mv 162 7 4 [7],
 sg 6 161 3 [161],
 sg 7 162 4 [162],
 sb 8 true 4 []])
 .ret))))))))))
theorem F49.rs : Try.f49.results.toList = [.tmp 6, .tmp 7, .tmp 8] := rfl
def heat_furnace_showsLow.b0 (k : Nat) (f0 : heat_furnace) (place1 : Int) (p2 : HeatProof) (x10 : heat_limit) : (Int × Bool × Int) → Option (Stp (Int × Bool × Int) (Int × Bool) (Int × Bool × Bool)) := fun (s : Int × Bool × Int) => match s with
 | (i13, b14, i15) =>
   bif decide (i15 < (p2.By.length : Int)) then
    (at? p2.By i15).bind fun x19 =>
    (at? f0.Firing.Kiln.Falls i15).bind fun x20 =>
    (at? x20 x10.place).bind fun x21 =>
    bif decide (x19 = (-1 : Int)) then
     (at? x20 place1).bind fun x23 =>
     bif (!b14) then
      bif decide (w64 ((w64 (x10.heat + x21.Lo)) - x23.Hi) < i13) then
       some (.next (w64 ((w64 (x10.heat + x21.Lo)) - x23.Hi), false, w64 (i15 + 1)))
      else
       some (.next (i13, b14, w64 (i15 + 1)))
     else
      some (.next (w64 ((w64 (x10.heat + x21.Lo)) - x23.Hi), false, w64 (i15 + 1)))
    else
     bif decide (x19 = (-2 : Int)) then
      bif decide (w64 (x10.heat + x21.Lo) ≤ (3000 : Int)) then
       some (.ret (0, false, false))
      else
       some (.next (i13, b14, w64 (i15 + 1)))
     else
      (heat_furnace_told k f0 x19).bind fun x28 =>
      bif x28.2 then
       (at? x20 x28.1.place).bind fun x30 =>
       bif decide (w64 (x10.heat + x21.Lo) ≤ w64 (x28.1.heat + x30.Hi)) then
        some (.ret (0, false, false))
       else
        some (.next (i13, b14, w64 (i15 + 1)))
      else
       some (.ret (0, false, false))
   else
    some (.brk (i13, b14))
noncomputable def heat_furnace_showsLow.h0 (f0 : heat_furnace) (place1 : Int) (p2 : HeatProof) (x10 : heat_limit) : (Int × Bool × Int) → St := fun (s : Int × Bool × Int) => match s with
 | (i13, b14, i15) => ⟨[(1, .int .i64 place1), (3, .ptr 0 0 0), (6, .int .i64 i13), (7, .bool b14), (10, .ptr 0 1 0), (84, .sl 1 (List.map eI p2.By)), (85, .int .i64 (p2.By.length : Int)), (86, .int .i64 i15)], [(0, .box [.sl 1 (List.map (eL 2 Range.c) f0.Firing.Kiln.Falls), .sl 6 (List.map Reading.c f0.Firing.Readings), .sl 3 (List.map heat_limit.c f0.least), .sl 3 (List.map heat_limit.c f0.most)]), (1, .box [.int .i64 x10.place, .int .i64 x10.heat, .int .i64 x10.by_])], [], 2, Try.f49.ntmps⟩
noncomputable def heat_furnace_showsLow.x0 : (Int × Bool) → St := fun (s : Int × Bool) => match s with
 | (i16, b17) => ⟨[(6, .int .i64 i16), (7, .bool b17)], [], [], 1, Try.f49.ntmps⟩
def heat_furnace_showsLow (k : Nat) (f0 : heat_furnace) (place1 : Int) (p2 : HeatProof) : Option (Int × Bool × Bool) :=
 bif decide (p2.Reading = (-2 : Int)) then
  bif decide ((p2.By.length : Int) = (1 : Int)) then
   (at? p2.By 0).bind fun x3 =>
   (heat_in k x3 0 (w64 ((f0.Firing.Kiln.Falls.length : Int) - 1))).bind fun x4 =>
   bif (!x4) then
    some (0, false, false)
   else
    (at? f0.Firing.Kiln.Falls x3).bind fun x6 =>
    (at? x6 place1).bind fun x7 =>
    some (w64 (0 - x7.Hi), false, true)
  else
   some (0, false, false)
 else
  (slices_IndexFunc_heat_limit k f0.least (fun q0 => heat_furnace_showsLow_1 k q0 p2)).bind fun x8 =>
  bif decide (x8 < (0 : Int)) then
   some (0, false, false)
  else
   (at? f0.least x8).bind fun x10 =>
   bif decide (x10.place = place1) then
    some (x10.heat, false, decide ((p2.By.length : Int) = (0 : Int)))
   else
    bif (!decide ((p2.By.length : Int) = (f0.Firing.Kiln.Falls.length : Int))) then
     some (0, false, false)
    else
     (whl (heat_furnace_showsLow.b0 k f0 place1 p2 x10) k (0, true, 0)).bind fun r32 => match r32 with
     | .next _ => none
     | .ret v_ => some v_
     | .brk (i16, b17) =>
      some (i16, b17, true)
theorem heat_furnace_showsLow_ok (k : Nat) (f0 : heat_furnace) (place1 : Int) (p2 : HeatProof) (r : Int × Bool × Bool) (h0 : heat_furnace_showsLow k f0 place1 p2 = some r) : PCall Try.prog 49 [.agg (heat_furnace.c f0), .int .i64 place1, .agg (HeatProof.c p2)] (fun y => y = .tup [.int .i64 r.1, .bool r.2.1, .bool r.2.2]) := by
 refine PB (fn := Try.f49) (sc := F49.c) ?_
 refine rS ?_
 simp only [heat_furnace_showsLow] at h0
 try simp only [F49.c, go_sem]
 refine AKev_bif h0 ?_ ?_ <;> intro c1 h0
 try simp only [c1, go_sem]
 refine AKev_region T_ok follows_ok 1000 ?_
 try simp only [c1, go_sem]
 refine DG_bif h0 ?_ ?_ <;> intro c2 h0
 try simp only [c2, c1, go_sem]
 obtain ⟨x3, yx3, h0⟩ := bs h0
 try simp only [aa yx3, c1, c2, go_sem]
 obtain ⟨x4, yx4, h0⟩ := bs h0
 refine DG_call0 1000 (heat_in_ok k _ _ _ _ yx4) ?_ (by first | rfl | simp [AV.refsL, AV.refs, AV.scal, AV.leaf]) ?_
 try simp only [c1, c2, aa yx3, go_sem]
 try simp only [c1, c2, aa yx3, go_sem]
 refine DG_done ⟨calm_of (by simp only [skel, List.reverse_cons, List.reverse_nil, List.nil_append, List.cons_append, List.map_cons, List.map_nil, List.append_nil]; rfl) (by first | decide +kernel | rfl), run_sound T_ok 1000 _ _ ?_⟩
 try simp only [c1, c2, aa yx3, go_sem]
 refine AKev_bif h0 ?_ ?_ <;> intro c5 h0
 have c5 := bnot_t c5
 try simp only [c5, c1, c2, aa yx3, go_sem]
 obtain rfl := Option.some.inj h0
 refine AKev_ret rfl ?_
 try simp only [F49.rs, c1, c2, aa yx3, c5, go_sem]
 have c5 := bnot_f c5
 try simp only [c5, c1, c2, aa yx3, go_sem]
 refine AKev_region T_ok follows_ok 1000 ?_
 try simp only [aa yx3, c1, c2, c5, go_sem]
 obtain ⟨x6, yx6, h0⟩ := bs h0
 try simp only [aa yx6, c1, c2, aa yx3, c5, go_sem]
 obtain ⟨x7, yx7, h0⟩ := bs h0
 try simp only [aa yx7, c1, c2, aa yx3, c5, aa yx6, go_sem]
 refine DG_done ⟨calm_of (by simp only [skel, List.reverse_cons, List.reverse_nil, List.nil_append, List.cons_append, List.map_cons, List.map_nil, List.append_nil]; rfl) (by first | decide +kernel | rfl), run_sound T_ok 1000 _ _ ?_⟩
 try simp only [c1, c2, aa yx3, c5, aa yx6, aa yx7, go_sem]
 obtain rfl := Option.some.inj h0
 refine AKev_ret rfl ?_
 try simp only [F49.rs, c1, c2, aa yx3, c5, aa yx6, aa yx7, go_sem]
 try simp only [c2, c1, go_sem]
 refine DG_done ⟨calm_of (by simp only [skel, List.reverse_cons, List.reverse_nil, List.nil_append, List.cons_append, List.map_cons, List.map_nil, List.append_nil]; rfl) (by first | decide +kernel | rfl), run_sound T_ok 1000 _ _ ?_⟩
 try simp only [c1, c2, go_sem]
 obtain rfl := Option.some.inj h0
 refine AKev_ret rfl ?_
 try simp only [F49.rs, c1, c2, go_sem]
 try simp only [c1, go_sem]
 obtain ⟨x8, yx8, h0⟩ := bs h0
 refine zcL (slices_IndexFunc_heat_limit_ok k _ 83 [.rptr 2 [HeatProof.c p2] 0 0] ⟨fun _ => rfl, fun _ => rfl, fun _ _ => rfl, rfl, fun _ => rfl, fun _ => rfl, fun _ => rfl⟩ (fun q0 => heat_furnace_showsLow_1 k q0 p2) (fun q0 qr qh => heat_furnace_showsLow_1_ok k q0 _ qr qh) _ yx8) ?_ (by first | rfl | simp [AV.refsL, AV.refs, AV.scal, AV.leaf]) ?_
 try simp only [c1, go_sem]
 try simp only [c1, go_sem]
 refine AKev_bif h0 ?_ ?_ <;> intro c9 h0
 try simp only [c9, c1, go_sem]
 obtain rfl := Option.some.inj h0
 refine AKev_ret rfl ?_
 try simp only [F49.rs, c1, c9, go_sem]
 try simp only [c9, c1, go_sem]
 obtain ⟨x10, yx10, h0⟩ := bs h0
 try simp only [aa yx10, c1, c9, go_sem]
 refine AKev_bif h0 ?_ ?_ <;> intro c11 h0
 try simp only [c11, c1, c9, aa yx10, go_sem]
 refine AKev_region T_ok follows_ok 1000 ?_
 try simp only [c1, c9, aa yx10, c11, go_sem]
 refine DG_done ⟨calm_of (by simp only [skel, List.reverse_cons, List.reverse_nil, List.nil_append, List.cons_append, List.map_cons, List.map_nil, List.append_nil]; rfl) (by first | decide +kernel | rfl), run_sound T_ok 1000 _ _ ?_⟩
 try simp only [c1, c9, aa yx10, c11, go_sem]
 obtain rfl := Option.some.inj h0
 refine AKev_ret rfl ?_
 try simp only [F49.rs, c1, c9, aa yx10, c11, go_sem]
 try simp only [c11, c1, c9, aa yx10, go_sem]
 refine AKev_bif h0 ?_ ?_ <;> intro c12 h0
 have c12 := bnot_t c12
 try simp only [c12, c1, c9, aa yx10, c11, go_sem]
 obtain rfl := Option.some.inj h0
 refine AKev_ret rfl ?_
 try simp only [F49.rs, c1, c9, aa yx10, c11, c12, go_sem]
 have c12 := bnot_f c12
 try simp only [c12, c1, c9, aa yx10, c11, go_sem]
 obtain ⟨r32, yr32, h0⟩ := bs h0
 refine AKev_loopS yr32 (heat_furnace_showsLow.h0 f0 place1 p2 x10) (heat_furnace_showsLow.x0) ?_ ?_ ?_
 refine Weak.go [1, 3, 6, 7, 10, 84, 85, 86] [0, 320] rfl ?_
 try simp only [heat_furnace_showsLow.h0, c1, c9, aa yx10, c11, c12, go_sem]
 rintro ⟨i13, b14, i15⟩ x_1 Bk1 Br1 h1 hnext1 hbrk1 hret1
 refine rS ?_
 simp only [heat_furnace_showsLow.b0] at h1
 try simp only [F49.s0, heat_furnace_showsLow.h0, c1, c9, aa yx10, c11, c12, go_sem]
 refine AKev_bif h1 ?_ ?_ <;> intro c18 h1
 try simp only [c18, c1, c9, aa yx10, c11, c12, go_sem]
 obtain ⟨x19, yx19, h1⟩ := bs h1
 try simp only [aa yx19, c1, c9, aa yx10, c11, c12, c18, go_sem]
 refine AKev_region T_ok follows_ok 1000 ?_
 try simp only [c1, c9, aa yx10, c11, c12, c18, aa yx19, go_sem]
 obtain ⟨x20, yx20, h1⟩ := bs h1
 try simp only [aa yx20, c1, c9, aa yx10, c11, c12, c18, aa yx19, go_sem]
 obtain ⟨x21, yx21, h1⟩ := bs h1
 try simp only [aa yx21, c1, c9, aa yx10, c11, c12, c18, aa yx19, aa yx20, go_sem]
 refine DG_done ⟨calm_of (by simp only [skel, List.reverse_cons, List.reverse_nil, List.nil_append, List.cons_append, List.map_cons, List.map_nil, List.append_nil]; rfl) (by first | decide +kernel | rfl), run_sound T_ok 1000 _ _ ?_⟩
 try simp only [c1, c9, aa yx10, c11, c12, c18, aa yx19, aa yx20, aa yx21, go_sem]
 refine AKev_bif h1 ?_ ?_ <;> intro c22 h1
 try simp only [c22, aa yx20, c1, c9, aa yx10, c11, c12, c18, aa yx19, aa yx21, go_sem]
 obtain ⟨x23, yx23, h1⟩ := bs h1
 try simp only [aa yx23, c1, c9, aa yx10, c11, c12, c18, aa yx19, aa yx20, aa yx21, c22, go_sem]
 refine AKev_bif h1 ?_ ?_ <;> intro c24 h1
 have c24 := bnot_t c24
 try simp only [c24, c1, c9, aa yx10, c11, c12, c18, aa yx19, aa yx20, aa yx21, c22, aa yx23, go_sem]
 refine AKev_bif h1 ?_ ?_ <;> intro c25 h1
 try simp only [c25, c1, c9, aa yx10, c11, c12, c18, aa yx19, aa yx20, aa yx21, c22, aa yx23, c24, go_sem]
 refine AKev_backB (hnext1 _ _ (Option.some.inj h1).symm ?_)
 refine Weak.go [1, 3, 6, 7, 10, 84, 85, 86] [0, 1] rfl ?_
 try simp only [heat_furnace_showsLow.h0, c1, c9, aa yx10, c11, c12, c18, aa yx19, aa yx20, aa yx21, c22, aa yx23, c24, c25, go_sem]
 try simp only [c25, c1, c9, aa yx10, c11, c12, c18, aa yx19, aa yx20, aa yx21, c22, aa yx23, c24, go_sem]
 refine AKev_backB (hnext1 _ _ (Option.some.inj h1).symm ?_)
 refine Weak.go [1, 3, 6, 7, 10, 84, 85, 86] [0, 1] rfl ?_
 try simp only [heat_furnace_showsLow.h0, c1, c9, aa yx10, c11, c12, c18, aa yx19, aa yx20, aa yx21, c22, aa yx23, c24, c25, go_sem]
 have c24 := bnot_f c24
 try simp only [c24, c1, c9, aa yx10, c11, c12, c18, aa yx19, aa yx20, aa yx21, c22, aa yx23, go_sem]
 refine AKev_backB (hnext1 _ _ (Option.some.inj h1).symm ?_)
 refine Weak.go [1, 3, 6, 7, 10, 84, 85, 86] [0, 1] rfl ?_
 try simp only [heat_furnace_showsLow.h0, c1, c9, aa yx10, c11, c12, c18, aa yx19, aa yx20, aa yx21, c22, aa yx23, c24, go_sem]
 try simp only [c22, c1, c9, aa yx10, c11, c12, c18, aa yx19, aa yx20, aa yx21, go_sem]
 refine AKev_bif h1 ?_ ?_ <;> intro c26 h1
 try simp only [c26, c1, c9, aa yx10, c11, c12, c18, aa yx19, aa yx20, aa yx21, c22, go_sem]
 refine AKev_bif h1 ?_ ?_ <;> intro c27 h1
 try simp only [c27, c1, c9, aa yx10, c11, c12, c18, aa yx19, aa yx20, aa yx21, c22, c26, go_sem]
 obtain rfl := hret1 _ (Option.some.inj h1).symm
 simp only at h0
 obtain rfl := Option.some.inj h0
 refine AKev_ret rfl ?_
 try simp only [F49.rs, c1, c9, aa yx10, c11, c12, c18, aa yx19, aa yx20, aa yx21, c22, c26, c27, go_sem]
 try simp only [c27, c1, c9, aa yx10, c11, c12, c18, aa yx19, aa yx20, aa yx21, c22, c26, go_sem]
 refine AKev_backB (hnext1 _ _ (Option.some.inj h1).symm ?_)
 refine Weak.go [1, 3, 6, 7, 10, 84, 85, 86] [0, 1] rfl ?_
 try simp only [heat_furnace_showsLow.h0, c1, c9, aa yx10, c11, c12, c18, aa yx19, aa yx20, aa yx21, c22, c26, c27, go_sem]
 try simp only [c26, c1, c9, aa yx10, c11, c12, c18, aa yx19, aa yx20, aa yx21, c22, go_sem]
 obtain ⟨x28, yx28, h1⟩ := bs h1
 refine zc0 (heat_furnace_told_ok k _ _ _ yx28) ?_ (by first | rfl | simp [AV.refsL, AV.refs, AV.scal, AV.leaf]) ?_
 try simp only [c1, c9, aa yx10, c11, c12, c18, aa yx19, aa yx20, aa yx21, c22, c26, go_sem]
 try simp only [c1, c9, aa yx10, c11, c12, c18, aa yx19, aa yx20, aa yx21, c22, c26, go_sem]
 refine AKev_region T_ok follows_ok 1000 ?_
 try simp only [c1, c9, aa yx10, c11, c12, c18, aa yx19, aa yx20, aa yx21, c22, c26, go_sem]
 refine DG_bif h1 ?_ ?_ <;> intro c29 h1
 try simp only [c29, aa yx20, c1, c9, aa yx10, c11, c12, c18, aa yx19, aa yx21, c22, c26, go_sem]
 obtain ⟨x30, yx30, h1⟩ := bs h1
 try simp only [aa yx30, c1, c9, aa yx10, c11, c12, c18, aa yx19, aa yx20, aa yx21, c22, c26, c29, go_sem]
 refine DG_done ⟨calm_of (by simp only [skel, List.reverse_cons, List.reverse_nil, List.nil_append, List.cons_append, List.map_cons, List.map_nil, List.append_nil]; rfl) (by first | decide +kernel | rfl), run_sound T_ok 1000 _ _ ?_⟩
 try simp only [c1, c9, aa yx10, c11, c12, c18, aa yx19, aa yx20, aa yx21, c22, c26, c29, aa yx30, go_sem]
 refine AKev_bif h1 ?_ ?_ <;> intro c31 h1
 try simp only [c31, c1, c9, aa yx10, c11, c12, c18, aa yx19, aa yx20, aa yx21, c22, c26, c29, aa yx30, go_sem]
 obtain rfl := hret1 _ (Option.some.inj h1).symm
 simp only at h0
 obtain rfl := Option.some.inj h0
 refine AKev_ret rfl ?_
 try simp only [F49.rs, c1, c9, aa yx10, c11, c12, c18, aa yx19, aa yx20, aa yx21, c22, c26, c29, aa yx30, c31, go_sem]
 try simp only [c31, c1, c9, aa yx10, c11, c12, c18, aa yx19, aa yx20, aa yx21, c22, c26, c29, aa yx30, go_sem]
 refine AKev_backB (hnext1 _ _ (Option.some.inj h1).symm ?_)
 refine Weak.go [1, 3, 6, 7, 10, 84, 85, 86] [0, 1] rfl ?_
 try simp only [heat_furnace_showsLow.h0, c1, c9, aa yx10, c11, c12, c18, aa yx19, aa yx20, aa yx21, c22, c26, c29, aa yx30, c31, go_sem]
 try simp only [c29, c1, c9, aa yx10, c11, c12, c18, aa yx19, aa yx20, aa yx21, c22, c26, go_sem]
 refine DG_done ⟨calm_of (by simp only [skel, List.reverse_cons, List.reverse_nil, List.nil_append, List.cons_append, List.map_cons, List.map_nil, List.append_nil]; rfl) (by first | decide +kernel | rfl), run_sound T_ok 1000 _ _ ?_⟩
 try simp only [c1, c9, aa yx10, c11, c12, c18, aa yx19, aa yx20, aa yx21, c22, c26, c29, go_sem]
 obtain rfl := hret1 _ (Option.some.inj h1).symm
 simp only at h0
 obtain rfl := Option.some.inj h0
 refine AKev_ret rfl ?_
 try simp only [F49.rs, c1, c9, aa yx10, c11, c12, c18, aa yx19, aa yx20, aa yx21, c22, c26, c29, go_sem]
 try simp only [c18, c1, c9, aa yx10, c11, c12, go_sem]
 refine AKev_backB (hbrk1 _ _ (Option.some.inj h1).symm ?_)
 refine Weak.go [6, 7] [] rfl ?_
 try simp only [heat_furnace_showsLow.x0, c1, c9, aa yx10, c11, c12, c18, go_sem]
 rintro ⟨i16, b17⟩ hr_
 subst hr_
 simp only at h0
 refine rS ?_
 try simp only [heat_furnace_showsLow.x0, c1, c9, aa yx10, c11, c12, go_sem]
 obtain rfl := Option.some.inj h0
 refine AKev_ret rfl ?_
 try simp only [F49.rs, c1, c9, aa yx10, c11, c12, go_sem]
def F17.c : SC :=
 (.seq
 (.reg [oq 5 (.box 32 (.tmp 0)) 0 [0],
 oq 9 (.box 51 (.tmp 4)) 0 [4],
 sn 10 0 43 [10]])
 (.seq
 (.block 0
 (.seq
 (.reg [ld 17 32 5 [],
 cf1 18 41 17 32 43 [17],
 bn 19 .neq 43 18 0 43 4 [18],
 sg 16 19 4 [19]])
 (.cond (.tmp 16)
 (.seq
 (.reg [sn 10 42 43 []])
 .ret)
 (.seq
 (.reg [mv 21 1 3 [],
 fa 22 32 5 0 [],
 fa 23 29 22 0 [22],
 ld 24 27 23 [23],
 oq 25 (.indexAddr 27 (.tmp 24) (.const (.int .i64 0))) 0 [24],
 ld 26 40 25 [25],
 ln 27 26 40 3 [26],
 bn 28 .sub 3 27 1 3 3 [27],
 oq 29 (.call ⟨.value (.func 42), #[.tmp 21, .const (.int .i64 0), .tmp 28], #[3, 3, 3]⟩) 4 [21, 28],
 oq 30 (.unOp .not 4 (.tmp 29)) 4 [29],
 sg 20 30 4 [30]])
 (.cond (.tmp 20)
 (.seq
 (.reg [sn 10 43 43 []])
 .ret)
 .skip)))))
 (.seq
 (.reg [ld 31 32 5 [5],
 cf1 32 47 31 32 94 [31],
 oq 11 (.alloc 94) 0 [],
 ⟨none, .store 94 (.tmp 11) (.tmp 32), 0, none, [32]⟩])
 (.seq
 (.reg [ld 34 94 11 [],
 mv 35 1 3 [],
 ld 36 51 9 [],
 oq 37 (.call ⟨.value (.func 48), #[.tmp 34, .tmp 35, .tmp 36], #[94, 3, 51]⟩) 106 [34, 35, 36],
 mv 33 37 106 [37],
 xt 38 33 0 3 [],
 xt 39 33 1 4 [33],
 sg 12 38 3 [38],
 sg 13 39 4 [39]])
 (.seq
 (.reg [mv 40 12 3 [12],
 mv 41 3 3 [],
 b2 42 .leq 3 40 41 3 4 [40, 41],
 sg 14 42 4 [42]])
 (.seq
 (.seq
 (.reg [mv 43 2 4 [2],
 oq 44 (.unOp .not 4 (.tmp 43)) 4 [43]])
 (.cond (.tmp 44)
 (.seq
 (.reg [sb 15 false 4 [15]])
 (.seq
 (.reg [ld 46 94 11 [11],
 mv 47 1 3 [1],
 ld 48 51 9 [9],
 oq 49 (.call ⟨.value (.func 49), #[.tmp 46, .tmp 47, .tmp 48], #[94, 3, 51]⟩) 108 [46, 47, 48],
 mv 45 49 108 [49],
 xt 50 45 0 3 [],
 xt 51 45 1 4 [],
 xt 52 45 2 4 [45],
 sg 12 50 3 [50],
 sg 15 51 4 [51],
 sg 13 52 4 [52]])
 (.reg [mv 53 15 4 [15],
 mv 54 53 4 [53],
 og 55 (.move (.tmp 12)) 3 54 false [12],
 og 56 (.move (.tmp 3)) 3 54 false [3],
 og 57 (.binOp .geq 3 (.tmp 55) (.tmp 56) 3) 4 54 false [55, 56],
 oq 58 (.pick (.tmp 54) (.const (.bool true)) (.tmp 57)) 4 [54, 57],
 sg 14 58 4 [58]])))
 .skip))
 (.seq
 (.block 1
 (.seq
 (.reg [mv 60 13 4 [13],
 oq 61 (.unOp .not 4 (.tmp 60)) 4 [60],
 sg 59 61 4 [61]])
 (.cond (.tmp 59)
 (.seq
 (.reg [sn 10 46 43 []])
 .ret)
 (.seq
 (.reg [mv 63 14 4 [14],
 oq 64 (.unOp .not 4 (.tmp 63)) 4 [63],
 sg 62 64 4 [64]])
 (.cond (.tmp 62)
 (.seq
 (.reg [sn 10 47 43 []])
 .ret)
 .skip)))))
 (.seq
 (.reg [sn 10 0 43 []])
 .ret))))))))
theorem F17.rs : Try.f17.results.toList = [.tmp 10] := rfl
def heat_CheckProof (k : Nat) (f0 : Firing) (place1 : Int) (high2 : Bool) (n3 : Int) (p4 : HeatProof) : Option (Int) :=
 (heat_Check k f0).bind fun x1 =>
 bif (!decide (x1 = (0 : Int))) then
  some 42
 else
  (at? f0.Kiln.Falls 0).bind fun x3 =>
  (heat_in k place1 0 (w64 ((x3.length : Int) - 1))).bind fun x4 =>
  bif (!x4) then
   some 43
  else
   (heat_newFurnace k f0).bind fun x6 =>
   (heat_furnace_showsHigh k x6 place1 p4).bind fun x7 =>
   bif (!high2) then
    (heat_furnace_showsLow k x6 place1 p4).bind fun x9 =>
    bif (!x9.2.1) then
     bif (!x9.2.2) then
      some 46
     else
      bif (!decide (n3 ≤ x9.1)) then
       some 47
      else
       some 0
    else
     bif (!x9.2.2) then
      some 46
     else
      some 0
   else
    bif (!x7.2) then
     some 46
    else
     bif (!decide (x7.1 ≤ n3)) then
      some 47
     else
      some 0
theorem heat_CheckProof_ok (k : Nat) (f0 : Firing) (place1 : Int) (high2 : Bool) (n3 : Int) (p4 : HeatProof) (r : Int) (h0 : heat_CheckProof k f0 place1 high2 n3 p4 = some r) : PCall Try.prog 17 [.agg (Firing.c f0), .int .i64 place1, .bool high2, .int .i64 n3, .agg (HeatProof.c p4)] (fun y => y = .int .i64 r) := by
 refine PB (fn := Try.f17) (sc := F17.c) ?_
 refine rS ?_
 simp only [heat_CheckProof] at h0
 try simp only [F17.c, go_sem]
 obtain ⟨x1, yx1, h0⟩ := bs h0
 refine zc0 (heat_Check_ok k _ _ yx1) ?_ (by first | rfl | simp [AV.refsL, AV.refs, AV.scal, AV.leaf]) ?_
 try simp only [go_sem]
 try simp only [go_sem]
 refine AKev_bif h0 ?_ ?_ <;> intro c2 h0
 have c2 := bnot_t c2
 try simp only [c2, go_sem]
 obtain rfl := Option.some.inj h0
 refine AKev_ret rfl ?_
 try simp only [F17.rs, c2, go_sem]
 have c2 := bnot_f c2
 try simp only [c2, go_sem]
 obtain ⟨x3, yx3, h0⟩ := bs h0
 try simp only [aa yx3, c2, go_sem]
 obtain ⟨x4, yx4, h0⟩ := bs h0
 refine zc0 (heat_in_ok k _ _ _ _ yx4) ?_ (by first | rfl | simp [AV.refsL, AV.refs, AV.scal, AV.leaf]) ?_
 try simp only [c2, aa yx3, go_sem]
 try simp only [c2, aa yx3, go_sem]
 refine AKev_bif h0 ?_ ?_ <;> intro c5 h0
 have c5 := bnot_t c5
 try simp only [c5, c2, aa yx3, go_sem]
 obtain rfl := Option.some.inj h0
 refine AKev_ret rfl ?_
 try simp only [F17.rs, c2, aa yx3, c5, go_sem]
 have c5 := bnot_f c5
 try simp only [c5, c2, aa yx3, go_sem]
 obtain ⟨x6, yx6, h0⟩ := bs h0
 refine zc0 (heat_newFurnace_ok k _ _ yx6) ?_ (by first | rfl | simp [AV.refsL, AV.refs, AV.scal, AV.leaf]) ?_
 try simp only [c2, aa yx3, c5, go_sem]
 try simp only [c2, aa yx3, c5, go_sem]
 obtain ⟨x7, yx7, h0⟩ := bs h0
 refine zc0 (heat_furnace_showsHigh_ok k _ _ _ _ yx7) ?_ (by first | rfl | simp [AV.refsL, AV.refs, AV.scal, AV.leaf]) ?_
 try simp only [c2, aa yx3, c5, go_sem]
 try simp only [c2, aa yx3, c5, go_sem]
 refine AKev_bif h0 ?_ ?_ <;> intro c8 h0
 have c8 := bnot_t c8
 try simp only [c8, c2, aa yx3, c5, go_sem]
 obtain ⟨x9, yx9, h0⟩ := bs h0
 refine zc0 (heat_furnace_showsLow_ok k _ _ _ _ yx9) ?_ (by first | rfl | simp [AV.refsL, AV.refs, AV.scal, AV.leaf]) ?_
 try simp only [c2, aa yx3, c5, c8, go_sem]
 try simp only [c2, aa yx3, c5, c8, go_sem]
 refine AKev_bif h0 ?_ ?_ <;> intro c10 h0
 have c10 := bnot_t c10
 try simp only [c10, c2, aa yx3, c5, c8, go_sem]
 refine AKev_bif h0 ?_ ?_ <;> intro c11 h0
 have c11 := bnot_t c11
 try simp only [c11, c2, aa yx3, c5, c8, c10, go_sem]
 obtain rfl := Option.some.inj h0
 refine AKev_ret rfl ?_
 try simp only [F17.rs, c2, aa yx3, c5, c8, c10, c11, go_sem]
 have c11 := bnot_f c11
 try simp only [c11, c2, aa yx3, c5, c8, c10, go_sem]
 refine AKev_bif h0 ?_ ?_ <;> intro c12 h0
 have c12 := bnot_t c12
 try simp only [c12, c2, aa yx3, c5, c8, c10, c11, go_sem]
 obtain rfl := Option.some.inj h0
 refine AKev_ret rfl ?_
 try simp only [F17.rs, c2, aa yx3, c5, c8, c10, c11, c12, go_sem]
 have c12 := bnot_f c12
 try simp only [c12, c2, aa yx3, c5, c8, c10, c11, go_sem]
 obtain rfl := Option.some.inj h0
 refine AKev_ret rfl ?_
 try simp only [F17.rs, c2, aa yx3, c5, c8, c10, c11, c12, go_sem]
 have c10 := bnot_f c10
 try simp only [c10, c2, aa yx3, c5, c8, go_sem]
 refine AKev_bif h0 ?_ ?_ <;> intro c13 h0
 have c13 := bnot_t c13
 try simp only [c13, c2, aa yx3, c5, c8, c10, go_sem]
 obtain rfl := Option.some.inj h0
 refine AKev_ret rfl ?_
 try simp only [F17.rs, c2, aa yx3, c5, c8, c10, c13, go_sem]
 have c13 := bnot_f c13
 try simp only [c13, c2, aa yx3, c5, c8, c10, go_sem]
 obtain rfl := Option.some.inj h0
 refine AKev_ret rfl ?_
 try simp only [F17.rs, c2, aa yx3, c5, c8, c10, c13, go_sem]
 have c8 := bnot_f c8
 try simp only [c8, c2, aa yx3, c5, go_sem]
 refine AKev_bif h0 ?_ ?_ <;> intro c14 h0
 have c14 := bnot_t c14
 try simp only [c14, c2, aa yx3, c5, c8, go_sem]
 obtain rfl := Option.some.inj h0
 refine AKev_ret rfl ?_
 try simp only [F17.rs, c2, aa yx3, c5, c8, c14, go_sem]
 have c14 := bnot_f c14
 try simp only [c14, c2, aa yx3, c5, c8, go_sem]
 refine AKev_bif h0 ?_ ?_ <;> intro c15 h0
 have c15 := bnot_t c15
 try simp only [c15, c2, aa yx3, c5, c8, c14, go_sem]
 obtain rfl := Option.some.inj h0
 refine AKev_ret rfl ?_
 try simp only [F17.rs, c2, aa yx3, c5, c8, c14, c15, go_sem]
 have c15 := bnot_f c15
 try simp only [c15, c2, aa yx3, c5, c8, c14, go_sem]
 obtain rfl := Option.some.inj h0
 refine AKev_ret rfl ?_
 try simp only [F17.rs, c2, aa yx3, c5, c8, c14, c15, go_sem]
def F19.s0 : SC :=
 (.seq
 (.seq
 (.reg [mv 11 5 3 [],
 mv 12 0 23 [],
 ln 13 12 23 3 [12],
 b2 14 .lss 3 11 13 3 4 [11, 13]])
 (.cond (.tmp 14)
 .skip
 (.exit 0)))
 (.seq
 (.block 1
 (.seq
 (.dreg [mv 17 0 23 [],
 mv 18 5 3 [],
 ia 19 23 17 18 [],
 ld 20 3 19 [],
 mv 21 1 23 [],
 mv 22 5 3 [],
 ia 23 23 21 22 [],
 ld 24 3 23 [],
 b2 25 .neq 3 20 24 3 4 []] [[], [], [0, 1], [0, 1, 2], [], [], [4, 5], [4, 5, 6], [0, 1, 2, 3, 4, 5, 6, 7]] [17, 18, 19, 20, 21, 22, 23, 24])
 (.cond (.tmp 25)
 (.seq
 (.reg [sb 4 false 4 []])
 .ret)
 .skip)))
 (.reg [mv 15 5 3 [5],
 bn 16 .add 3 15 1 3 3 [15],
 sg 5 16 3 [16]])))
def F19.c : SC :=
 (.seq
 (.reg [sb 4 false 4 [4]])
 (.seq
 (.seq
 (.reg [mv 6 0 23 [],
 ln 7 6 23 3 [6],
 mv 8 1 23 [],
 ln 9 8 23 3 [8],
 b2 10 .neq 3 7 9 3 4 [7, 9]])
 (.cond (.tmp 10)
 (.seq
 (.reg [sb 4 false 4 []])
 .ret)
 .skip))
 (.seq
 (.seq
 (.reg [sn 5 0 3 []])
 (.block 0
 (.loop F19.s0)))
 (.seq
 (.reg [sb 4 true 4 []])
 .ret))))
theorem F19.rs : Try.f19.results.toList = [.tmp 4] := rfl
def R01_Same.b0 (k : Nat) (a0 : (List Int)) (b1 : (List Int)) : Int → Option (Stp (Int) (Unit) (Bool)) := fun (i2 : Int) =>
 bif decide (i2 < (a0.length : Int)) then
  (at? a0 i2).bind fun x4 =>
  (at? b1 i2).bind fun x5 =>
  bif (!decide (x4 = x5)) then
   some (.ret false)
  else
   some (.next (w64 (i2 + 1)))
 else
  some (.brk ())
noncomputable def R01_Same.h0 (a0 : (List Int)) (b1 : (List Int)) : Int → St := fun (i2 : Int) => ⟨[(0, .sl 1 (List.map eI a0)), (1, .sl 1 (List.map eI b1)), (5, .int .i64 i2)], [], [], 1, Try.f19.ntmps⟩
noncomputable def R01_Same.x0 : Unit → St := fun (_ : Unit) => ⟨[], [], [], 1, Try.f19.ntmps⟩
def R01_Same (k : Nat) (a0 : (List Int)) (b1 : (List Int)) : Option (Bool) :=
 bif (!decide ((a0.length : Int) = (b1.length : Int))) then
  some false
 else
  (whl (R01_Same.b0 k a0 b1) k 0).bind fun r7 => match r7 with
  | .next _ => none
  | .ret v_ => some v_
  | .brk _ =>
   some true
theorem R01_Same_ok (k : Nat) (a0 : (List Int)) (b1 : (List Int)) (r : Bool) (h0 : R01_Same k a0 b1 = some r) : PCall Try.prog 19 [.sl 1 (List.map eI a0), .sl 1 (List.map eI b1)] (fun y => y = .bool r) := by
 refine PB (fn := Try.f19) (sc := F19.c) ?_
 refine rS ?_
 simp only [R01_Same] at h0
 try simp only [F19.c, go_sem]
 refine AKev_bif h0 ?_ ?_ <;> intro c1 h0
 have c1 := bnot_t c1
 try simp only [c1, go_sem]
 obtain rfl := Option.some.inj h0
 refine AKev_ret rfl ?_
 try simp only [F19.rs, c1, go_sem]
 have c1 := bnot_f c1
 try simp only [c1, go_sem]
 obtain ⟨r7, yr7, h0⟩ := bs h0
 refine AKev_loopS yr7 (R01_Same.h0 a0 b1) (R01_Same.x0) ?_ ?_ ?_
 refine Weak.go [0, 1, 5] [] rfl ?_
 try simp only [R01_Same.h0, c1, go_sem]
 rintro i2 x_1 Bk1 Br1 h1 hnext1 hbrk1 hret1
 refine rS ?_
 simp only [R01_Same.b0] at h1
 try simp only [F19.s0, R01_Same.h0, c1, go_sem]
 refine AKev_bif h1 ?_ ?_ <;> intro c3 h1
 try simp only [c3, c1, go_sem]
 refine AKev_region T_ok follows_ok 1000 ?_
 try simp only [c1, c3, go_sem]
 obtain ⟨x4, yx4, h1⟩ := bs h1
 try simp only [aa yx4, c1, c3, go_sem]
 obtain ⟨x5, yx5, h1⟩ := bs h1
 try simp only [aa yx5, c1, c3, aa yx4, go_sem]
 refine DG_done ⟨calm_of (by simp only [skel, List.reverse_cons, List.reverse_nil, List.nil_append, List.cons_append, List.map_cons, List.map_nil, List.append_nil]; rfl) (by first | decide +kernel | rfl), run_sound T_ok 1000 _ _ ?_⟩
 try simp only [c1, c3, aa yx4, aa yx5, go_sem]
 refine AKev_bif h1 ?_ ?_ <;> intro c6 h1
 have c6 := bnot_t c6
 try simp only [c6, c1, c3, aa yx4, aa yx5, go_sem]
 obtain rfl := hret1 _ (Option.some.inj h1).symm
 simp only at h0
 obtain rfl := Option.some.inj h0
 refine AKev_ret rfl ?_
 try simp only [F19.rs, c1, c3, aa yx4, aa yx5, c6, go_sem]
 have c6 := bnot_f c6
 try simp only [c6, c1, c3, aa yx4, aa yx5, go_sem]
 refine AKev_backB (hnext1 _ _ (Option.some.inj h1).symm ?_)
 refine Weak.go [0, 1, 5] [] rfl ?_
 try simp only [R01_Same.h0, c1, c3, aa yx4, aa yx5, c6, go_sem]
 try simp only [c3, c1, go_sem]
 refine AKev_backB (hbrk1 _ _ (Option.some.inj h1).symm ?_)
 refine Weak.go [] [] rfl ?_
 try simp only [R01_Same.x0, c1, c3, go_sem]
 rintro _ hr_
 subst hr_
 simp only at h0
 refine rS ?_
 try simp only [R01_Same.x0, c1, go_sem]
 obtain rfl := Option.some.inj h0
 refine AKev_ret rfl ?_
 try simp only [F19.rs, c1, go_sem]
def F77.s1 : SC :=
 (.seq
 (.seq
 (.reg [mv 29 5 3 [],
 mv 30 4 23 [],
 ln 31 30 23 3 [30],
 b2 32 .lss 3 29 31 3 4 [29, 31]])
 (.cond (.tmp 32)
 .skip
 (.exit 2)))
 (.seq
 (.block 3
 (.seq
 (.dreg [mv 35 4 23 [],
 mv 36 5 3 [],
 ia 37 23 35 36 [],
 ld 38 3 37 [],
 mv 39 4 23 [],
 mv 40 5 3 [],
 bn 41 .sub 3 40 1 3 3 [],
 ia 42 23 39 41 [],
 ld 43 3 42 [],
 b2 44 .neq 3 38 43 3 4 []] [[], [], [0, 1], [0, 1, 2], [], [], [5], [4, 5, 6], [4, 5, 6, 7], [0, 1, 2, 3, 4, 5, 6, 7, 8]] [35, 36, 37, 38, 39, 40, 41, 42, 43])
 (.cond (.tmp 44)
 (.seq
 (.reg [mv 45 0 23 [],
 mv 46 3 3 [],
 mv 47 4 23 [],
 mv 48 5 3 [],
 ia 49 23 47 48 [47, 48],
 ld 50 3 49 [49],
 ia 51 23 45 46 [45, 46],
 ⟨none, .store 3 (.tmp 51) (.tmp 50), 0, none, [50, 51]⟩])
 (.reg [mv 52 3 3 [3],
 bn 53 .add 3 52 1 3 3 [52],
 sg 3 53 3 [53]]))
 .skip)))
 (.reg [mv 33 5 3 [5],
 bn 34 .add 3 33 1 3 3 [33],
 sg 5 34 3 [34]])))
def F77.s0 : SC :=
 (.seq
 (.seq
 (.reg [mv 10 3 3 [],
 mv 11 0 23 [],
 ln 12 11 23 3 [11],
 b2 13 .lss 3 10 12 3 4 [10, 12]])
 (.cond (.tmp 13)
 .skip
 (.exit 0)))
 (.seq
 (.block 1
 (.seq
 (.dreg [mv 16 0 23 [],
 mv 17 3 3 [],
 ia 18 23 16 17 [],
 ld 19 3 18 [],
 mv 20 0 23 [],
 mv 21 3 3 [],
 bn 22 .sub 3 21 1 3 3 [],
 ia 23 23 20 22 [],
 ld 24 3 23 [],
 b2 25 .eql 3 19 24 3 4 []] [[], [], [0, 1], [0, 1, 2], [], [], [5], [4, 5, 6], [4, 5, 6, 7], [0, 1, 2, 3, 4, 5, 6, 7, 8]] [16, 17, 18, 19, 20, 21, 22, 23, 24])
 (.cond (.tmp 25)
 (.seq
 (.reg [mv 26 0 23 [],
 mv 27 3 3 [],
 oq 28 (.slice 23 (.tmp 26) (some (.tmp 27)) none none) 23 [26, 27],
 sg 4 28 23 [28]])
 (.seq
 (.seq
 (.reg [sn 5 1 3 []])
 (.block 2
 (.loop F77.s1)))
 (.seq
 (.reg [mv 54 0 23 [],
 mv 55 3 3 [],
 oq 56 (.slice 23 (.tmp 54) (some (.tmp 55)) none none) 23 [54, 55],
 ⟨none, .call ⟨.builtin .clear, #[.tmp 56], #[23]⟩, 0, none, [56]⟩])
 (.seq
 (.reg [mv 57 0 23 [0],
 mv 58 3 3 [3],
 oq 59 (.slice 23 (.tmp 57) none (some (.tmp 58)) none) 23 [57, 58],
 sg 2 59 23 [59]])
 .ret))))
 .skip)))
 (.reg [mv 14 3 3 [3],
 bn 15 .add 3 14 1 3 3 [14],
 sg 3 15 3 [15]])))
def F77.c : SC :=
 (.seq
 (.reg [oq 2 (.assign (.const (.slice none 0 0))) 23 [2]])
 (.seq
 (.seq
 (.reg [mv 6 0 23 [],
 ln 7 6 23 3 [6],
 bn 8 .lss 3 7 2 3 4 [7]])
 (.cond (.tmp 8)
 (.seq
 (.reg [mv 9 0 23 [0],
 sg 2 9 23 [9]])
 .ret)
 .skip))
 (.seq
 (.seq
 (.reg [sn 3 1 3 []])
 (.block 0
 (.loop F77.s0)))
 (.seq
 (.reg [mv 60 0 23 [0],
 sg 2 60 23 [60]])
 .ret))))
theorem F77.rs : Try.f77.results.toList = [.tmp 2] := rfl
def slices_Compact_int.b1 (k : Nat) (s0 : (List Int)) (i2 : Int) : (Int × Int × (List Int)) → Option (Stp (Int × Int × (List Int)) (Int × (List Int)) ((List Int))) := fun (s : Int × Int × (List Int)) => match s with
 | (i8, i9, l10) =>
   bif decide (i9 < ((s0.length - i2.toNat : Nat) : Int)) then
    (at? ((l10.drop i2.toNat).take (s0.length - i2.toNat)) i9).bind fun x14 =>
    (at? ((l10.drop i2.toNat).take (s0.length - i2.toNat)) (w64 (i9 - 1))).bind fun x15 =>
    bif (!decide (x14 = x15)) then
     (at? l10 i8).bind fun x17 =>
     (set? l10 i8 x14).bind fun l18 =>
     some (.next (w64 (i8 + 1), w64 (i9 + 1), l18))
    else
     some (.next (i8, w64 (i9 + 1), l10))
   else
    some (.brk (i8, l10))
def slices_Compact_int.b0 (k : Nat) (s0 : (List Int)) : Int → Option (Stp (Int) (Unit) ((List Int))) := fun (i2 : Int) =>
 bif decide (i2 < ((s0.length : Nat) : Int)) then
  (at? s0 i2).bind fun x4 =>
  (at? s0 (w64 (i2 - 1))).bind fun x5 =>
  bif decide (x4 = x5) then
   (ls? s0.length i2).bind fun _ =>
   (whl (slices_Compact_int.b1 k s0 i2) k (i2, 1, s0)).bind fun r19 => match r19 with
   | .next _ => none
   | .ret v_ => some (.ret v_)
   | .brk (i11, l12) =>
    (ls? l12.length i11).bind fun _ =>
    (hs? l12.length i11).bind fun _ =>
    some (.ret ((clr l12 i11.toNat (l12.length - i11.toNat) 0).take i11.toNat))
  else
   some (.next (w64 (i2 + 1)))
 else
  some (.brk ())
noncomputable def slices_Compact_int.h1 (H : Heap) (s0 : (List Int)) (i2 : Int) : (Int × Int × (List Int)) → St := fun (s : Int × Int × (List Int)) => match s with
 | (i8, i9, l10) => ⟨[(0, .loc 0 0 1 0 l10.length l10.length), (3, .int .i64 i8), (4, .loc 0 0 1 i2.toNat (s0.length - i2.toNat) l10.length), (5, .int .i64 i9)], [(0, .arr 3 1 (List.map eI l10))], H, 1, Try.f77.ntmps⟩
noncomputable def slices_Compact_int.x1 (H : Heap) : (Int × (List Int)) → St := fun (s : Int × (List Int)) => match s with
 | (i11, l12) => ⟨[(0, .loc 0 0 1 0 l12.length l12.length), (3, .int .i64 i11)], [(0, .arr 3 1 (List.map eI l12))], H, 1, Try.f77.ntmps⟩
noncomputable def slices_Compact_int.h0 (H : Heap) (s0 : (List Int)) : Int → St := fun (i2 : Int) => ⟨[(0, .loc 0 0 1 0 s0.length s0.length), (3, .int .i64 i2)], [(0, .arr 3 1 (List.map eI s0))], H, 1, Try.f77.ntmps⟩
noncomputable def slices_Compact_int.x0 (H : Heap) (s0 : (List Int)) : Unit → St := fun (_ : Unit) => ⟨[(0, .loc 0 0 1 0 s0.length s0.length)], [(0, .arr 3 1 (List.map eI s0))], H, 1, Try.f77.ntmps⟩
def slices_Compact_int (k : Nat) (s0 : (List Int)) : Option ((List Int)) :=
 bif decide (((s0.length : Nat) : Int) < (2 : Int)) then
  some s0
 else
  (whl (slices_Compact_int.b0 k s0) k 1).bind fun r23 => match r23 with
  | .next _ => none
  | .ret v_ => some v_
  | .brk _ =>
   some s0
theorem slices_Compact_int_ok (k : Nat) (s0 : (List Int)) (r : (List Int)) (h0 : slices_Compact_int k s0 = some r) : GCall Try.prog 77 [.loc 0 0 1 0 s0.length s0.length] [(0, .arr 3 1 (List.map eI s0))] (fun y fr => y = .loc 0 0 1 0 r.length r.length ∧ fr = [(0, .arr 3 1 (List.map eI r))]) := by
 have hr := GCall.own (et := 3) (sz := 1) (ls := List.map eI r) (GCall.of_body T_ok (f := 77) (fn := Try.f77) (sc := F77.c) (args := [.loc 0 0 1 0 s0.length s0.length]) (fr0 := [(0, .arr 3 1 (List.map eI s0))]) (by rfl) (by rfl) (by decide +kernel) (by rfl) (by decide +kernel) (Nat.le_of_ble_eq_true rfl) (fun H => ?_))
 simpa only [List.length_map] using hr
 refine rS ?_
 simp only [slices_Compact_int] at h0
 try simp only [F77.c, go_sem]
 refine AKev_bif h0 ?_ ?_ <;> intro c1 h0
 try simp only [c1, go_sem]
 obtain rfl := Option.some.inj h0
 refine AKev_gret rfl ?_
 try simp only [F77.rs, oOK, Option.map_some, tupOf, cut0_map, cut_map, Nat.le_refl, List.take_length, c1, go_sem]
 try simp only [c1, go_sem]
 obtain ⟨r23, yr23, h0⟩ := bs h0
 refine AKev_loopS yr23 (slices_Compact_int.h0 H s0) (slices_Compact_int.x0 H s0) ?_ ?_ ?_
 refine Weak.go [0, 3] [0] rfl ?_
 try simp only [slices_Compact_int.h0, c1, go_sem]
 rintro i2 x_1 Bk1 Br1 h1 hnext1 hbrk1 hret1
 refine rS ?_
 simp only [slices_Compact_int.b0] at h1
 try simp only [F77.s0, slices_Compact_int.h0, c1, go_sem]
 refine AKev_bif h1 ?_ ?_ <;> intro c3 h1
 try simp only [c3, c1, go_sem]
 refine AKev_region T_ok follows_ok 1000 ?_
 try simp only [c1, c3, go_sem]
 obtain ⟨x4, yx4, h1⟩ := bs h1
 try simp only [aa yx4, c1, c3, go_sem]
 obtain ⟨x5, yx5, h1⟩ := bs h1
 try simp only [aa yx5, c1, c3, aa yx4, go_sem]
 refine DG_done ⟨calm_of (by simp only [skel, List.reverse_cons, List.reverse_nil, List.nil_append, List.cons_append, List.map_cons, List.map_nil, List.append_nil]; rfl) (by first | decide +kernel | rfl), run_sound T_ok 1000 _ _ ?_⟩
 try simp only [c1, c3, aa yx4, aa yx5, go_sem]
 refine AKev_bif h1 ?_ ?_ <;> intro c6 h1
 try simp only [c6, c1, c3, aa yx4, aa yx5, go_sem]
 obtain ⟨u7, yu7, h1⟩ := bs h1
 have lyu7 := ls_le yu7
 try simp only [ls_bounds yu7, lyu7, c1, c3, aa yx4, aa yx5, c6, go_sem]
 obtain ⟨r19, yr19, h1⟩ := bs h1
 refine AKev_loopS yr19 (slices_Compact_int.h1 H s0 i2) (slices_Compact_int.x1 H) ?_ ?_ ?_
 refine Weak.go [0, 3, 4, 5] [0] rfl ?_
 try simp only [slices_Compact_int.h1, c1, c3, aa yx4, aa yx5, c6, lyu7, go_sem]
 rintro ⟨i8, i9, l10⟩ x_2 Bk2 Br2 h2 hnext2 hbrk2 hret2
 refine rS ?_
 simp only [slices_Compact_int.b1] at h2
 try simp only [F77.s1, slices_Compact_int.h1, c1, c3, aa yx4, aa yx5, c6, lyu7, go_sem]
 refine AKev_bif h2 ?_ ?_ <;> intro c13 h2
 try simp only [c13, c1, c3, aa yx4, aa yx5, c6, lyu7, go_sem]
 refine AKev_region T_ok follows_ok 1000 ?_
 try simp only [c1, c3, aa yx4, aa yx5, c6, lyu7, c13, go_sem]
 obtain ⟨x14, yx14, h2⟩ := bs h2
 try simp only [at_part_in yx14, at_part_get eI yx14, c1, c3, aa yx4, aa yx5, c6, lyu7, c13, go_sem]
 obtain ⟨x15, yx15, h2⟩ := bs h2
 try simp only [at_part_in yx15, at_part_get eI yx15, c1, c3, aa yx4, aa yx5, c6, lyu7, c13, at_part_in yx14, at_part_get eI yx14, go_sem]
 refine DG_done ⟨calm_of (by simp only [skel, List.reverse_cons, List.reverse_nil, List.nil_append, List.cons_append, List.map_cons, List.map_nil, List.append_nil]; rfl) (by first | decide +kernel | rfl), run_sound T_ok 1000 _ _ ?_⟩
 try simp only [c1, c3, aa yx4, aa yx5, c6, lyu7, c13, at_part_in yx14, at_part_get eI yx14, at_part_in yx15, at_part_get eI yx15, go_sem]
 refine AKev_bif h2 ?_ ?_ <;> intro c16 h2
 have c16 := bnot_t c16
 try simp only [c16, at_part_in yx14, at_part_get eI yx14, c1, c3, aa yx4, aa yx5, c6, lyu7, c13, at_part_in yx15, at_part_get eI yx15, go_sem]
 obtain ⟨x17, yx17, h2⟩ := bs h2
 try simp only [aa yx17, c1, c3, aa yx4, aa yx5, c6, lyu7, c13, at_part_in yx14, at_part_get eI yx14, at_part_in yx15, at_part_get eI yx15, c16, go_sem]
 obtain ⟨l18, yl18, h2⟩ := bs h2
 have eyl18 := set_map eI yl18
 simp only [go_sem] at eyl18
 try simp only [eyl18, c1, c3, aa yx4, aa yx5, c6, lyu7, c13, at_part_in yx14, at_part_get eI yx14, at_part_in yx15, at_part_get eI yx15, c16, aa yx17, set_len yl18, set_take eI yl18, go_sem]
 refine AKev_backB (hnext2 _ _ (Option.some.inj h2).symm ?_)
 refine Weak.go [0, 3, 4, 5] [0] rfl ?_
 try simp only [slices_Compact_int.h1, c1, c3, aa yx4, aa yx5, c6, lyu7, c13, at_part_in yx14, at_part_get eI yx14, at_part_in yx15, at_part_get eI yx15, c16, aa yx17, eyl18, set_len yl18, set_take eI yl18, go_sem]
 have c16 := bnot_f c16
 try simp only [c16, c1, c3, aa yx4, aa yx5, c6, lyu7, c13, at_part_in yx14, at_part_get eI yx14, at_part_in yx15, at_part_get eI yx15, go_sem]
 refine AKev_backB (hnext2 _ _ (Option.some.inj h2).symm ?_)
 refine Weak.go [0, 3, 4, 5] [0] rfl ?_
 try simp only [slices_Compact_int.h1, c1, c3, aa yx4, aa yx5, c6, lyu7, c13, at_part_in yx14, at_part_get eI yx14, at_part_in yx15, at_part_get eI yx15, c16, go_sem]
 try simp only [c13, c1, c3, aa yx4, aa yx5, c6, lyu7, go_sem]
 refine AKev_backB (hbrk2 _ _ (Option.some.inj h2).symm ?_)
 refine Weak.go [0, 3] [0] rfl ?_
 try simp only [slices_Compact_int.x1, c1, c3, aa yx4, aa yx5, c6, lyu7, c13, go_sem]
 rintro ⟨i11, l12⟩ hr_
 subst hr_
 simp only at h1
 refine rS ?_
 try simp only [slices_Compact_int.x1, c1, c3, aa yx4, aa yx5, c6, lyu7, go_sem]
 obtain ⟨u20, yu20, h1⟩ := bs h1
 have lyu20 := ls_le yu20
 have eq21 := clr_map eI l12 i11.toNat (l12.length - i11.toNat) 0
 have lq21 : (clr l12 i11.toNat (l12.length - i11.toNat) 0).length = l12.length := by rw [clr_len] <;> simp only [c1, c3, aa yx4, aa yx5, c6, lyu7, lyu20, go_sem]
 try simp only [go_sem] at eq21
 try simp only [ls_bounds yu20, lyu20, eq21, c1, c3, aa yx4, aa yx5, c6, lyu7, lq21, go_sem]
 obtain ⟨u22, yu22, h1⟩ := bs h1
 have lyu22 := hs_le yu22
 try simp only [hs_bounds yu22, lyu22, c1, c3, aa yx4, aa yx5, c6, lyu7, lyu20, lq21, go_sem]
 obtain rfl := hret1 _ (Option.some.inj h1).symm
 simp only at h0
 obtain rfl := Option.some.inj h0
 refine AKev_gret rfl ?_
 try simp only [F77.rs, oOK, Option.map_some, tupOf, cut0_map, cut_map, Nat.le_refl, List.take_length, c1, c3, aa yx4, aa yx5, c6, lyu7, lyu20, lq21, lyu22, go_sem]
 try simp only [c6, c1, c3, aa yx4, aa yx5, go_sem]
 refine AKev_backB (hnext1 _ _ (Option.some.inj h1).symm ?_)
 refine Weak.go [0, 3] [0] rfl ?_
 try simp only [slices_Compact_int.h0, c1, c3, aa yx4, aa yx5, c6, go_sem]
 try simp only [c3, c1, go_sem]
 refine AKev_backB (hbrk1 _ _ (Option.some.inj h1).symm ?_)
 refine Weak.go [0] [0] rfl ?_
 try simp only [slices_Compact_int.x0, c1, c3, go_sem]
 rintro _ hr_
 subst hr_
 simp only at h0
 refine rS ?_
 try simp only [slices_Compact_int.x0, c1, go_sem]
 obtain rfl := Option.some.inj h0
 refine AKev_gret rfl ?_
 try simp only [F77.rs, oOK, Option.map_some, tupOf, cut0_map, cut_map, Nat.le_refl, List.take_length, c1, go_sem]
def F43.s0 : SC :=
 (.seq
 (.reg [b2 9 .lss 3 8 7 3 0 []])
 (.seq
 (.cond (.tmp 9)
 .skip
 (.exit 0))
 (.seq
 (.block 1
 (.seq
 (.reg [ia 10 30 6 8 [],
 ld 11 60 10 [10],
 oq 5 (.alloc 60) 0 [],
 ⟨none, .store 60 (.tmp 5) (.tmp 11), 0, none, [11]⟩])
 (.reg [mv 12 3 23 [3],
 fa 13 60 5 0 [5],
 ld 14 3 13 [13],
 oq 15 (.buildSlice 23 1 #[(0, .tmp 14)]) 23 [14],
 oq 16 (.call ⟨.builtin .append, #[.tmp 12, .tmp 15], #[23, 23]⟩) 23 [12, 15],
 sg 3 16 23 [16]])))
 (.reg [bn 17 .add 3 8 1 3 3 [8],
 mv 8 17 3 [17]]))))
def F43.c : SC :=
 (.seq
 (.reg [oq 2 (.assign (.const (.slice none 0 0))) 23 [2]])
 (.seq
 (.reg [oq 3 (.assign (.const (.slice none 0 0))) 23 []])
 (.seq
 (.seq
 (.reg [mv 6 0 30 [0],
 ln 7 6 30 3 [],
 oq 8 (.move (.const (.int .i64 0))) 3 []])
 (.block 0
 (.loop F43.s0)))
 (.seq
 (.reg [mv 18 3 23 [],
 cf1 19 76 18 23 0 [18, 19]])
 (.seq
 (.reg [mv 20 3 23 [3],
 cf1 21 77 20 23 23 [20],
 sg 2 21 23 [21]])
 .ret)))))
theorem F43.rs : Try.f43.results.toList = [.tmp 2] := rfl
def heat_sources.b0 (k : Nat) (l0 : (List Reading)) : (Int × (List Int)) → Option (Stp (Int × (List Int)) ((List Int)) ((List Int))) := fun (s : Int × (List Int)) => match s with
 | (i1, l2) =>
   bif decide (i1 < (l0.length : Int)) then
    (at? l0 i1).bind fun x5 =>
    (push? 8 l2 x5.Source).bind fun l6 =>
    some (.next (w64 (i1 + 1), l6))
   else
    some (.brk l2)
noncomputable def heat_sources.h0 (l0 : (List Reading)) : (Int × (List Int)) → St := fun (s : Int × (List Int)) => match s with
 | (i1, l2) => ⟨[(3, .loc 0 0 1 0 l2.length l2.length), (6, .sl 6 (List.map Reading.c l0)), (7, .int .i64 (l0.length : Int)), (8, .int .i64 i1)], [(0, .arr 3 1 (List.map eI l2))], [], 1, Try.f43.ntmps⟩
noncomputable def heat_sources.x0 : (List Int) → St := fun (l3 : (List Int)) => ⟨[(3, .loc 0 0 1 0 l3.length l3.length)], [(0, .arr 3 1 (List.map eI l3))], [], 1, Try.f43.ntmps⟩
def heat_sources (k : Nat) (l0 : (List Reading)) : Option ((List Int)) :=
 (whl (heat_sources.b0 k l0) k (0, [])).bind fun r7 => match r7 with
 | .next _ => none
 | .ret v_ => some v_
 | .brk l3 =>
  (room? l3.length 8).bind fun _ =>
  (slices_Compact_int k (srt l3)).bind fun x11 =>
  some x11
theorem heat_sources_ok (k : Nat) (l0 : (List Reading)) (r : (List Int)) (h0 : heat_sources k l0 = some r) : PCall Try.prog 43 [.sl 6 (List.map Reading.c l0)] (fun y => y = .sl 1 (List.map eI r)) := by
 refine PB (fn := Try.f43) (sc := F43.c) ?_
 refine rS ?_
 simp only [heat_sources] at h0
 try simp only [F43.c, go_sem]
 obtain ⟨r7, yr7, h0⟩ := bs h0
 refine AKev_loopS yr7 (heat_sources.h0 l0) (heat_sources.x0) ?_ ?_ ?_
 refine Weak.go [3, 6, 7, 8] [16] rfl ?_
 try simp only [heat_sources.h0, go_sem]
 rintro ⟨i1, l2⟩ x_1 Bk1 Br1 h1 hnext1 hbrk1 hret1
 refine rS ?_
 simp only [heat_sources.b0] at h1
 try simp only [F43.s0, heat_sources.h0, go_sem]
 refine AKev_bif h1 ?_ ?_ <;> intro c4 h1
 try simp only [c4, go_sem]
 obtain ⟨x5, yx5, h1⟩ := bs h1
 try simp only [aa yx5, c4, go_sem]
 obtain ⟨l6, yl6, h1⟩ := bs h1
 have eyl6 := push_map eI yl6
 have tyl6 := push_take eI yl6
 have nyl6 := push_len yl6
 have myl6 := push_room yl6
 try simp only [c4, aa yx5, go_sem] at eyl6 tyl6 nyl6 myl6
 try simp only [myl6, eyl6, c4, aa yx5, nyl6, tyl6, go_sem]
 refine AKev_backB (hnext1 _ _ (Option.some.inj h1).symm ?_)
 refine Weak.go [3, 6, 7, 8] [0] rfl ?_
 try simp only [heat_sources.h0, c4, aa yx5, eyl6, nyl6, tyl6, go_sem]
 try simp only [c4, go_sem]
 refine AKev_backB (hbrk1 _ _ (Option.some.inj h1).symm ?_)
 refine Weak.go [3] [0] rfl ?_
 try simp only [heat_sources.x0, c4, go_sem]
 rintro l3 hr_
 subst hr_
 simp only at h0
 refine rS ?_
 try simp only [heat_sources.x0, go_sem]
 obtain ⟨u9, yu9, h0⟩ := bs h0
 have myu9 := room_some yu9
 refine AKev_sortI sort_ok (l := l3) (k := 0) (et := 3) (b := 8) ?_ ?_ ?_ ?_
 try simp only [go_sem]
 try simp only [go_sem]
 try simp only [myu9, go_sem]
 refine rS ?_
 try simp only [srt_len, go_sem]
 obtain ⟨x11, yx11, h0⟩ := bs h0
 refine AKev_give T_ok 1000 [] [0] (slices_Compact_int_ok k _ _ yx11) ?_ rfl ?_
 try simp only [gOK, List.length_map, srt_len, go_sem]
 try simp only [srt_len, go_sem]
 obtain rfl := Option.some.inj h0
 refine AKev_ret rfl ?_
 try simp only [F43.rs, srt_len, go_sem]
def heat_sources_o.b0 (k : Nat) (l0 : (List Reading)) : (Int × (List Int)) → Option (Stp (Int × (List Int)) ((List Int)) ((List Int))) := fun (s : Int × (List Int)) => match s with
 | (i1, l2) =>
   bif decide (i1 < (l0.length : Int)) then
    (at? l0 i1).bind fun x5 =>
    (push? 8 l2 x5.Source).bind fun l6 =>
    some (.next (w64 (i1 + 1), l6))
   else
    some (.brk l2)
noncomputable def heat_sources_o.h0 (H : Heap) (l0 : (List Reading)) : (Int × (List Int)) → St := fun (s : Int × (List Int)) => match s with
 | (i1, l2) => ⟨[(3, .loc 0 0 1 0 l2.length l2.length), (6, .sl 6 (List.map Reading.c l0)), (7, .int .i64 (l0.length : Int)), (8, .int .i64 i1)], [(0, .arr 3 1 (List.map eI l2))], H, 1, Try.f43.ntmps⟩
noncomputable def heat_sources_o.x0 (H : Heap) : (List Int) → St := fun (l3 : (List Int)) => ⟨[(3, .loc 0 0 1 0 l3.length l3.length)], [(0, .arr 3 1 (List.map eI l3))], H, 1, Try.f43.ntmps⟩
def heat_sources_o (k : Nat) (l0 : (List Reading)) : Option ((List Int)) :=
 (whl (heat_sources_o.b0 k l0) k (0, [])).bind fun r7 => match r7 with
 | .next _ => none
 | .ret v_ => some v_
 | .brk l3 =>
  (room? l3.length 8).bind fun _ =>
  (slices_Compact_int k (srt l3)).bind fun x11 =>
  some x11
def F57.c : SC :=
 (.seq
 (.reg [oq 6 (.assign (.const (.slice none 0 0))) 23 [6]])
 (.seq
 (.reg [mv 8 0 23 [],
 mv 9 1 3 [],
 mv 10 2 3 [],
 mv 11 0 23 [],
 ln 12 11 23 3 [11],
 oq 13 (.slice 23 (.tmp 8) (some (.tmp 9)) (some (.tmp 10)) (some (.tmp 12))) 23 [8, 9, 10, 12, 13]])
 (.seq
 (.seq
 (.reg [mv 14 1 3 [],
 mv 15 2 3 [],
 b2 16 .eql 3 14 15 3 4 [14, 15]])
 (.cond (.tmp 16)
 (.seq
 (.reg [mv 17 0 23 [0],
 sg 6 17 23 [17]])
 .ret)
 .skip))
 (.seq
 (.reg [mv 18 0 23 [],
 ln 19 18 23 3 [18],
 sg 7 19 3 [19]])
 (.seq
 (.dreg [mv 20 0 23 [],
 mv 21 1 3 [],
 oq 22 (.slice 23 (.tmp 20) none (some (.tmp 21)) none) 23 [],
 mv 23 0 23 [],
 mv 24 2 3 [],
 oq 25 (.slice 23 (.tmp 23) (some (.tmp 24)) none none) 23 [],
 oq 26 (.call ⟨.builtin .append, #[.tmp 22, .tmp 25], #[23, 23]⟩) 23 [],
 sg 0 26 23 []] [[], [], [0, 1], [], [], [3, 4], [0, 1, 2, 3, 4, 5], [0, 1, 2, 3, 4, 5, 6]] [1, 2, 20, 21, 22, 23, 24, 25, 26])
 (.seq
 (.reg [mv 27 0 23 [],
 mv 28 0 23 [],
 ln 29 28 23 3 [28],
 mv 30 7 3 [7],
 oq 31 (.slice 23 (.tmp 27) (some (.tmp 29)) (some (.tmp 30)) none) 23 [27, 29, 30],
 ⟨none, .call ⟨.builtin .clear, #[.tmp 31], #[23]⟩, 0, none, [31]⟩])
 (.seq
 (.reg [mv 32 0 23 [0],
 sg 6 32 23 [32]])
 .ret)))))))
theorem F57.rs : Try.f57.results.toList = [.tmp 6] := rfl
def slices_Delete_int (k : Nat) (s0 : (List Int)) (i1 : Int) (j2 : Int) : Option ((List Int)) :=
 (s3? s0.length i1 j2 ((s0.length : Nat) : Int)).bind fun _ =>
 bif decide (i1 = j2) then
  some s0
 else
  (hs? s0.length i1).bind fun _ =>
  (ls? s0.length j2).bind fun _ =>
  (ov? s0.length i1.toNat (((s0.drop j2.toNat).take (s0.length - j2.toNat)).length)).bind fun _ =>
  (rs? s0.length 0 ((i1.toNat + (((s0.drop j2.toNat).take (s0.length - j2.toNat)).length) : Nat) : Int) ((s0.length : Nat) : Int)).bind fun _ =>
  some ((clr (ovr s0 i1.toNat ((s0.drop j2.toNat).take (s0.length - j2.toNat))) (i1.toNat + (((s0.drop j2.toNat).take (s0.length - j2.toNat)).length)) (s0.length - (i1.toNat + (((s0.drop j2.toNat).take (s0.length - j2.toNat)).length))) 0).take (i1.toNat + (((s0.drop j2.toNat).take (s0.length - j2.toNat)).length)))
theorem slices_Delete_int_ok (k : Nat) (s0 : (List Int)) (i1 : Int) (j2 : Int) (r : (List Int)) (h0 : slices_Delete_int k s0 i1 j2 = some r) : GCall Try.prog 57 [.loc 0 0 1 0 s0.length s0.length, .int .i64 i1, .int .i64 j2] [(0, .arr 3 1 (List.map eI s0))] (fun y fr => y = .loc 0 0 1 0 r.length r.length ∧ fr = [(0, .arr 3 1 (List.map eI r))]) := by
 have hr := GCall.own (et := 3) (sz := 1) (ls := List.map eI r) (GCall.of_body T_ok (f := 57) (fn := Try.f57) (sc := F57.c) (args := [.loc 0 0 1 0 s0.length s0.length, .int .i64 i1, .int .i64 j2]) (fr0 := [(0, .arr 3 1 (List.map eI s0))]) (by rfl) (by rfl) (by decide +kernel) (by rfl) (by decide +kernel) (Nat.le_of_ble_eq_true rfl) (fun H => ?_))
 simpa only [List.length_map] using hr
 refine rS ?_
 simp only [slices_Delete_int] at h0
 try simp only [F57.c, go_sem]
 obtain ⟨u1, yu1, h0⟩ := bs h0
 have eyu1 := s3_some yu1
 try simp only [eyu1, go_sem]
 refine AKev_bif h0 ?_ ?_ <;> intro c2 h0
 try simp only [c2, go_sem]
 obtain rfl := Option.some.inj h0
 refine AKev_gret rfl ?_
 try simp only [F57.rs, oOK, Option.map_some, tupOf, cut0_map, cut_map, Nat.le_refl, List.take_length, c2, go_sem]
 try simp only [c2, go_sem]
 refine AKev_region T_ok follows_ok 1000 ?_
 try simp only [c2, go_sem]
 obtain ⟨u3, yu3, h0⟩ := bs h0
 have lyu3 := hs_le yu3
 try simp only [hs_bounds yu3, lyu3, c2, go_sem]
 obtain ⟨u4, yu4, h0⟩ := bs h0
 have lyu4 := ls_le yu4
 try simp only [ls_bounds yu4, lyu4, c2, lyu3, go_sem]
 obtain ⟨u5, yu5, h0⟩ := bs h0
 have e_yu5 := ovr_map eI s0 i1.toNat ((s0.drop j2.toNat).take (s0.length - j2.toNat))
 have l_yu5 : (ovr s0 i1.toNat ((s0.drop j2.toNat).take (s0.length - j2.toNat))).length = s0.length := by rw [ovr_len (by first | exact ov_le yu5 | (simp only [c2, lyu3, lyu4, go_sem]; exact ov_le yu5))] <;> simp only [c2, lyu3, lyu4, go_sem]
 try simp only [ov_ne yu5, ov_le yu5, cut_map eI s0 j2.toNat (s0.length - j2.toNat), e_yu5, l_yu5, c2, lyu3, lyu4, go_sem]
 refine DG_done ⟨calm_of (by simp only [skel, List.reverse_cons, List.reverse_nil, List.nil_append, List.cons_append, List.map_cons, List.map_nil, List.append_nil]; rfl) (by first | decide +kernel | rfl), run_sound T_ok 1000 _ _ ?_⟩
 try simp only [c2, lyu3, lyu4, ov_le yu5, l_yu5, go_sem]
 obtain ⟨u6, yu6, h0⟩ := bs h0
 have eyu6 := rs_some yu6
 have lyu6 := rs_le yu6
 try simp only [c2, lyu3, lyu4, ov_le yu5, l_yu5, go_sem] at eyu6 lyu6
 have eq7 := clr_map eI (ovr s0 i1.toNat ((s0.drop j2.toNat).take (s0.length - j2.toNat))) (i1.toNat + (((s0.drop j2.toNat).take (s0.length - j2.toNat)).length)) (s0.length - (i1.toNat + (((s0.drop j2.toNat).take (s0.length - j2.toNat)).length))) 0
 have lq7 : (clr (ovr s0 i1.toNat ((s0.drop j2.toNat).take (s0.length - j2.toNat))) (i1.toNat + (((s0.drop j2.toNat).take (s0.length - j2.toNat)).length)) (s0.length - (i1.toNat + (((s0.drop j2.toNat).take (s0.length - j2.toNat)).length))) 0).length = s0.length := by rw [clr_len] <;> simp only [c2, lyu3, lyu4, ov_le yu5, l_yu5, lyu6, go_sem]
 try simp only [go_sem] at eq7
 try simp only [eyu6, lyu6, eq7, c2, lyu3, lyu4, ov_le yu5, l_yu5, lq7, go_sem]
 obtain rfl := Option.some.inj h0
 refine AKev_gret rfl ?_
 try simp only [F57.rs, oOK, Option.map_some, tupOf, cut0_map, cut_map, Nat.le_refl, List.take_length, c2, lyu3, lyu4, ov_le yu5, l_yu5, lyu6, lq7, go_sem]
def F58.c : SC :=
 (.seq
 (.reg [oq 2 (.assign (.const (.slice none 0 0))) 23 [2]])
 (.seq
 (.seq
 (.reg [mv 3 0 23 [],
 oq 4 (.binOp .eql 23 (.tmp 3) (.const (.slice none 0 0)) 23) 4 [3]])
 (.cond (.tmp 4)
 (.seq
 (.reg [oq 2 (.assign (.const (.slice none 0 0))) 23 []])
 .ret)
 .skip))
 (.seq
 (.reg [oq 5 (.buildSlice 23 0 #[]) 23 [],
 mv 6 0 23 [0],
 oq 7 (.call ⟨.builtin .append, #[.tmp 5, .tmp 6], #[23, 23]⟩) 23 [5, 6],
 sg 2 7 23 [7]])
 .ret)))
theorem F58.rs : Try.f58.results.toList = [.tmp 2] := rfl
def slices_Clone_int (k : Nat) (s0 : (List Int)) : Option ((List Int)) :=
 (room? s0.length 8).bind fun _ =>
 some s0
theorem slices_Clone_int_ok (k : Nat) (s0 : (List Int)) (r : (List Int)) (h0 : slices_Clone_int k s0 = some r) : GCall Try.prog 58 [.sl 1 (List.map eI s0)] [] (fun y fr => y = .loc 0 0 1 0 r.length r.length ∧ fr = [(0, .arr 3 1 (List.map eI r))]) := by
 have hr := GCall.own (et := 3) (sz := 1) (ls := List.map eI r) (GCall.of_body T_ok (f := 58) (fn := Try.f58) (sc := F58.c) (args := [.sl 1 (List.map eI s0)]) (fr0 := []) (by rfl) (by rfl) (by decide +kernel) (by rfl) (by decide +kernel) (Nat.le_of_ble_eq_true rfl) (fun H => ?_))
 ·simpa only [List.length_map] using hr
 refine run_sound T_ok 1000 _ _ ?_
 simp only [slices_Clone_int] at h0
 try simp only [F58.c, go_sem]
 refine ⟨fun he => ?_, ?_⟩
 ·refine run_sound T_ok 1000 _ _ ?_
  try simp only [go_sem]
  obtain ⟨u_, hu_, h0⟩ := bind_some h0
  obtain rfl := Option.some.inj h0
  refine AKev_gret rfl ?_
  simp only [he, F58.rs, oOK, Option.map_some, tupOf, List.length_nil, List.take_nil, go_sem]
  try simp
 ·refine run_sound T_ok 1000 _ _ ?_
  try simp only [go_sem]
  obtain ⟨u1, yu1, h0⟩ := bind_some h0
  try simp only [room_some yu1, go_sem]
  obtain rfl := Option.some.inj h0
  refine AKev_gret rfl ?_
  try simp only [F58.rs, oOK, Option.map_some, tupOf, cut0_map, cut_map, Nat.le_refl, List.take_length, go_sem]
def F87.c : SC :=
 (.seq
 (.reg [oq 2 (.assign (.const (.slice none 0 0))) 40 [2]])
 (.seq
 (.seq
 (.reg [mv 3 0 40 [],
 oq 4 (.binOp .eql 40 (.tmp 3) (.const (.slice none 0 0)) 40) 4 [3]])
 (.cond (.tmp 4)
 (.seq
 (.reg [oq 2 (.assign (.const (.slice none 0 0))) 40 []])
 .ret)
 .skip))
 (.seq
 (.reg [oq 5 (.buildSlice 40 0 #[]) 40 [],
 mv 6 0 40 [0],
 oq 7 (.call ⟨.builtin .append, #[.tmp 5, .tmp 6], #[40, 40]⟩) 40 [5, 6],
 sg 2 7 40 [7]])
 .ret)))
theorem F87.rs : Try.f87.results.toList = [.tmp 2] := rfl
def slices_Clone_api_Range (k : Nat) (s0 : (List Range)) : Option ((List Range)) :=
 (room? s0.length 16).bind fun _ =>
 some s0
theorem slices_Clone_api_Range_ok (k : Nat) (s0 : (List Range)) (r : (List Range)) (h0 : slices_Clone_api_Range k s0 = some r) : GCall Try.prog 87 [.sl 2 (List.map Range.c s0)] [] (fun y fr => y = .loc 0 0 2 0 r.length r.length ∧ fr = [(0, .arr 39 2 (List.map Range.c r))]) := by
 have hr := GCall.own (et := 39) (sz := 2) (ls := List.map Range.c r) (GCall.of_body T_ok (f := 87) (fn := Try.f87) (sc := F87.c) (args := [.sl 2 (List.map Range.c s0)]) (fr0 := []) (by rfl) (by rfl) (by decide +kernel) (by rfl) (by decide +kernel) (Nat.le_of_ble_eq_true rfl) (fun H => ?_))
 ·simpa only [List.length_map] using hr
 refine run_sound T_ok 1000 _ _ ?_
 simp only [slices_Clone_api_Range] at h0
 try simp only [F87.c, go_sem]
 refine ⟨fun he => ?_, ?_⟩
 ·refine run_sound T_ok 1000 _ _ ?_
  try simp only [go_sem]
  obtain ⟨u_, hu_, h0⟩ := bind_some h0
  obtain rfl := Option.some.inj h0
  refine AKev_gret rfl ?_
  simp only [he, F87.rs, oOK, Option.map_some, tupOf, List.length_nil, List.take_nil, go_sem]
  try simp
 ·refine run_sound T_ok 1000 _ _ ?_
  try simp only [go_sem]
  obtain ⟨u1, yu1, h0⟩ := bind_some h0
  try simp only [room_some yu1, go_sem]
  obtain rfl := Option.some.inj h0
  refine AKev_gret rfl ?_
  try simp only [F87.rs, oOK, Option.map_some, tupOf, cut0_map, cut_map, Nat.le_refl, List.take_length, go_sem]
end Go.Abs
