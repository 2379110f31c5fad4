/-
  Part 4 of the proof: a machine over named blocks, what each function computes, and what follows. No condition.
-/
import Derived.Test.YtafmgcbfmifaeaaGreatProg
import Derived.Ground.Names2Prog
import Derived.Shelf.Lays
import Derived.Test.YtafmgcbfmifaeaaGreatHBoundsC
set_option linter.unusedVariables false
set_option linter.unusedSimpArgs false
set_option linter.all false
set_option maxRecDepth 20000
set_option maxHeartbeats 8000000
namespace Go.Abs
open Go.Proofs
set_option maxRecDepth 20000
section
open Go.Shelf
def Tryz_lays189_ren : Ren :=
  {
    f := fun x =>
      match x with
      | 189 => 116
      | 125 => 136
      | 257 => 135
      | 128 => 151
      | 129 => 152
      | 294 => 142
      | 295 => 143
      | 296 => 144
      | 297 => 145
      | 298 => 146
      | 299 => 147
      | 216 => 148
      | 300 => 149
      | 301 => 150
      | 328 => 153
      | 329 => 154
      | 330 => 155
      | 331 => 156
      | 332 => 157
      | 215 => 158
      | 343 => 159
      | n => n,
    t := fun x =>
      match x with
      | 28 => 37
      | 3 => 3
      | 46 => 162
      | 0 => 0
      | 51 => 174
      | 53 => 176
      | 4 => 4
      | 183 => 168
      | 182 => 167
      | 131 => 126
      | 5 => 5
      | 9 => 9
      | 218 => 177
      | 222 => 181
      | 228 => 183
      | 229 => 132
      | n => n,
    g := fun x => x }
theorem Tryz_lays189 : Lays.n189 Tryz.prog Tryz_lays189_ren :=
  { mixed := Eq.refl true, f125 := Eq.trans Tryz.func136 (congrArg some (Eq.refl (Body.n125 Tryz_lays189_ren))),
    f128 := Eq.trans Tryz.func151 (congrArg some (Eq.refl (Body.n128 Tryz_lays189_ren))),
    f129 := Eq.trans Tryz.func152 (congrArg some (Eq.refl (Body.n129 Tryz_lays189_ren))),
    f189 := Eq.trans Tryz.func116 (congrArg some (Eq.refl (Body.n189 Tryz_lays189_ren))),
    f215 := Eq.trans Tryz.func158 (congrArg some (Eq.refl (Body.n215 Tryz_lays189_ren))),
    f216 := Eq.trans Tryz.func148 (congrArg some (Eq.refl (Body.n216 Tryz_lays189_ren))),
    f257 := Eq.trans Tryz.func135 (congrArg some (Eq.refl (Body.n257 Tryz_lays189_ren))),
    f294 := Eq.trans Tryz.func142 (congrArg some (Eq.refl (Body.n294 Tryz_lays189_ren))),
    f295 := Eq.trans Tryz.func143 (congrArg some (Eq.refl (Body.n295 Tryz_lays189_ren))),
    f296 := Eq.trans Tryz.func144 (congrArg some (Eq.refl (Body.n296 Tryz_lays189_ren))),
    f297 := Eq.trans Tryz.func145 (congrArg some (Eq.refl (Body.n297 Tryz_lays189_ren))),
    f298 := Eq.trans Tryz.func146 (congrArg some (Eq.refl (Body.n298 Tryz_lays189_ren))),
    f299 := Eq.trans Tryz.func147 (congrArg some (Eq.refl (Body.n299 Tryz_lays189_ren))),
    f300 := Eq.trans Tryz.func149 (congrArg some (Eq.refl (Body.n300 Tryz_lays189_ren))),
    f301 := Eq.trans Tryz.func150 (congrArg some (Eq.refl (Body.n301 Tryz_lays189_ren))),
    f328 := Eq.trans Tryz.func153 (congrArg some (Eq.refl (Body.n328 Tryz_lays189_ren))),
    f329 := Eq.trans Tryz.func154 (congrArg some (Eq.refl (Body.n329 Tryz_lays189_ren))),
    f330 := Eq.trans Tryz.func155 (congrArg some (Eq.refl (Body.n330 Tryz_lays189_ren))),
    f331 := Eq.trans Tryz.func156 (congrArg some (Eq.refl (Body.n331 Tryz_lays189_ren))),
    f332 := Eq.trans Tryz.func157 (congrArg some (Eq.refl (Body.n332 Tryz_lays189_ren))),
    f343 := Eq.trans Tryz.func159 (congrArg some (Eq.refl (Body.n343 Tryz_lays189_ren))), t0 := Tryz.underlying0,
    a0 := Tryz.isAgg0, z0 := Tryz.sizeOf0, v0 := Tryz.zeroValue0, t3 := Tryz.underlying3, a3 := Tryz.isAgg3,
    z3 := Tryz.sizeOf3, v3 := Tryz.zeroValue3, t4 := Tryz.underlying4, a4 := Tryz.isAgg4, z4 := Tryz.sizeOf4,
    v4 := Tryz.zeroValue4, t5 := Tryz.underlying5, a5 := Tryz.isAgg5, z5 := Tryz.sizeOf5, v5 := Tryz.zeroValue5,
    t9 := Tryz.underlying9, a9 := Tryz.isAgg9, z9 := Tryz.sizeOf9, v9 := Tryz.zeroValue9, t28 := Tryz.underlying37,
    a28 := Tryz.isAgg37, z28 := Tryz.sizeOf37, v28 := Tryz.zeroValue37, t46 := Tryz.underlying162, a46 := Tryz.isAgg162,
    z46 := Tryz.sizeOf162, v46 := Tryz.zeroValue162, t51 := Tryz.underlying174, a51 := Tryz.isAgg174,
    z51 := Tryz.sizeOf174, v51 := Tryz.zeroValue174, t53 := Tryz.underlying176, a53 := Tryz.isAgg176,
    z53 := Tryz.sizeOf176, v53 := Tryz.zeroValue176, t131 := Tryz.underlying126, a131 := Tryz.isAgg126,
    z131 := Tryz.sizeOf126, v131 := Tryz.zeroValue126, t182 := Tryz.underlying167, a182 := Tryz.isAgg167,
    z182 := Tryz.sizeOf167, v182 := Tryz.zeroValue167, t183 := Tryz.underlying168, a183 := Tryz.isAgg168,
    z183 := Tryz.sizeOf168, v183 := Tryz.zeroValue168, t218 := Tryz.underlying177, a218 := Tryz.isAgg177,
    z218 := Tryz.sizeOf177, v218 := Tryz.zeroValue177, t222 := Tryz.underlying181, a222 := Tryz.isAgg181,
    z222 := Tryz.sizeOf181, v222 := Tryz.zeroValue181, t228 := Tryz.underlying183, a228 := Tryz.isAgg183,
    z228 := Tryz.sizeOf183, v228 := Tryz.zeroValue183, t229 := Tryz.underlying132, a229 := Tryz.isAgg132,
    z229 := Tryz.sizeOf132, v229 := Tryz.zeroValue132 }
theorem sort_ok : SortC Tryz.prog 116 := SortC.of ⟨_, rfl, by decide +kernel, by rfl⟩ (Any.slices_Sort_int_none Tryz_lays189) (Any.slices_Sort_int Tryz_lays189)
end
def TL : List (Nat × TI) := [
  (3, ⟨1, 8, [.int .i64 0], .int .i64, 0, 0, false, [], [], true, []⟩),
  (4, ⟨1, 1, [.bool false], .bool, 0, 0, false, [], [], true, []⟩),
  (22, ⟨1, 24, [.nil], .slice 89, 1, 24, false, [.nil], [], false, [(0, 89, 1)]⟩),
  (24, ⟨1, 24, [.nil], .struct, 0, 0, false, [], [(0, 1, false)], false, [(0, 89, 1)]⟩),
  (25, ⟨1, 24, [.nil], .slice 64, 6, 48, true, [.int .i64 0, .int .i64 0, .int .i64 0, .int .i64 0, .int .i64 0, .int .i64 0], [], false, [(0, 64, 6)]⟩),
  (27, ⟨2, 48, [.nil, .nil], .struct, 0, 0, false, [], [(0, 1, true), (1, 1, false)], false, [(0, 89, 1), (1, 64, 6)]⟩),
  (28, ⟨1, 24, [.nil], .slice 32, 3, 24, true, [.int .i64 0, .int .i64 0, .int .i64 0], [], false, [(0, 32, 3)]⟩),
  (30, ⟨2, 16, [.int .i64 0, .int .i64 0], .struct, 0, 0, false, [], [(0, 1, false), (1, 1, false)], true, []⟩),
  (32, ⟨3, 24, [.int .i64 0, .int .i64 0, .int .i64 0], .struct, 0, 0, false, [], [(0, 1, false), (1, 2, true)], true, []⟩),
  (33, ⟨1, 8, [.int .i64 0], .int .i64, 0, 0, false, [], [], true, []⟩),
  (37, ⟨1, 24, [.nil], .slice 3, 1, 8, false, [.int .i64 0], [], false, [(0, 3, 1)]⟩),
  (38, ⟨1, 24, [.nil], .slice 37, 1, 24, false, [.nil], [], false, [(0, 37, 1)]⟩),
  (40, ⟨2, 48, [.nil, .nil], .struct, 0, 0, false, [], [(0, 1, false), (1, 1, false)], false, [(0, 3, 1), (1, 37, 1)]⟩),
  (57, ⟨2, 32, [.int .i64 0, .nil], .struct, 0, 0, false, [], [(0, 1, false), (1, 1, false)], false, [(1, 3, 1)]⟩),
  (64, ⟨6, 48, [.int .i64 0, .int .i64 0, .int .i64 0, .int .i64 0, .int .i64 0, .int .i64 0], .struct, 0, 0, false, [], [(0, 1, false), (1, 1, false), (2, 1, false), (3, 1, false), (4, 2, true)], true, []⟩),
  (79, ⟨1, 24, [.nil], .slice 135, 3, 24, true, [.int .i64 0, .int .i64 0, .int .i64 0], [], false, [(0, 135, 3)]⟩),
  (81, ⟨4, 96, [.nil, .nil, .nil, .nil], .struct, 0, 0, false, [], [(0, 2, true), (2, 1, false), (3, 1, false)], false, [(0, 89, 1), (1, 64, 6), (2, 135, 3), (3, 135, 3)]⟩),
  (89, ⟨1, 24, [.nil], .slice 30, 2, 16, true, [.int .i64 0, .int .i64 0], [], false, [(0, 30, 2)]⟩),
  (109, ⟨1, 8, [.fnil], .func, 0, 0, false, [], [], false, []⟩),
  (111, ⟨1, 8, [.fnil], .func, 0, 0, false, [], [], false, []⟩),
  (114, ⟨2, 16, [.int .i64 0, .int .i64 0], .array 2 3, 1, 8, false, [.int .i64 0], [], true, []⟩),
  (128, ⟨6, 48, [.int .i64 0, .int .i64 0, .int .i64 0, .int .i64 0, .int .i64 0, .int .i64 0], .struct, 0, 0, false, [], [(0, 6, true)], true, []⟩),
  (130, ⟨1, 8, [.fnil], .func, 0, 0, false, [], [], false, []⟩),
  (135, ⟨3, 24, [.int .i64 0, .int .i64 0, .int .i64 0], .struct, 0, 0, false, [], [(0, 1, false), (1, 1, false), (2, 1, false)], true, []⟩)]
def T : Tys := look TL
theorem T_ok : TysOK Tryz.prog T := tysOK_of _ _ (by decide +kernel)
theorem follows_ok : Tryz.prog.follows .mixedOrders = true := by rfl
theorem T_3 : T 3 = some ⟨1, 8, [.int .i64 0], .int .i64, 0, 0, false, [], [], true, []⟩ := rfl
theorem T_4 : T 4 = some ⟨1, 1, [.bool false], .bool, 0, 0, false, [], [], true, []⟩ := rfl
theorem T_22 : T 22 = some ⟨1, 24, [.nil], .slice 89, 1, 24, false, [.nil], [], false, [(0, 89, 1)]⟩ := rfl
theorem T_24 : T 24 = some ⟨1, 24, [.nil], .struct, 0, 0, false, [], [(0, 1, false)], false, [(0, 89, 1)]⟩ := rfl
theorem T_25 : T 25 = some ⟨1, 24, [.nil], .slice 64, 6, 48, true, [.int .i64 0, .int .i64 0, .int .i64 0, .int .i64 0, .int .i64 0, .int .i64 0], [], false, [(0, 64, 6)]⟩ := rfl
theorem T_27 : T 27 = some ⟨2, 48, [.nil, .nil], .struct, 0, 0, false, [], [(0, 1, true), (1, 1, false)], false, [(0, 89, 1), (1, 64, 6)]⟩ := rfl
theorem T_28 : T 28 = some ⟨1, 24, [.nil], .slice 32, 3, 24, true, [.int .i64 0, .int .i64 0, .int .i64 0], [], false, [(0, 32, 3)]⟩ := rfl
theorem T_30 : T 30 = some ⟨2, 16, [.int .i64 0, .int .i64 0], .struct, 0, 0, false, [], [(0, 1, false), (1, 1, false)], true, []⟩ := rfl
theorem T_32 : T 32 = some ⟨3, 24, [.int .i64 0, .int .i64 0, .int .i64 0], .struct, 0, 0, false, [], [(0, 1, false), (1, 2, true)], true, []⟩ := rfl
theorem T_33 : T 33 = some ⟨1, 8, [.int .i64 0], .int .i64, 0, 0, false, [], [], true, []⟩ := rfl
theorem T_37 : T 37 = some ⟨1, 24, [.nil], .slice 3, 1, 8, false, [.int .i64 0], [], false, [(0, 3, 1)]⟩ := rfl
theorem T_38 : T 38 = some ⟨1, 24, [.nil], .slice 37, 1, 24, false, [.nil], [], false, [(0, 37, 1)]⟩ := rfl
theorem T_40 : T 40 = some ⟨2, 48, [.nil, .nil], .struct, 0, 0, false, [], [(0, 1, false), (1, 1, false)], false, [(0, 3, 1), (1, 37, 1)]⟩ := rfl
theorem T_57 : T 57 = some ⟨2, 32, [.int .i64 0, .nil], .struct, 0, 0, false, [], [(0, 1, false), (1, 1, false)], false, [(1, 3, 1)]⟩ := rfl
theorem T_64 : T 64 = some ⟨6, 48, [.int .i64 0, .int .i64 0, .int .i64 0, .int .i64 0, .int .i64 0, .int .i64 0], .struct, 0, 0, false, [], [(0, 1, false), (1, 1, false), (2, 1, false), (3, 1, false), (4, 2, true)], true, []⟩ := rfl
theorem T_79 : T 79 = some ⟨1, 24, [.nil], .slice 135, 3, 24, true, [.int .i64 0, .int .i64 0, .int .i64 0], [], false, [(0, 135, 3)]⟩ := rfl
theorem T_81 : T 81 = some ⟨4, 96, [.nil, .nil, .nil, .nil], .struct, 0, 0, false, [], [(0, 2, true), (2, 1, false), (3, 1, false)], false, [(0, 89, 1), (1, 64, 6), (2, 135, 3), (3, 135, 3)]⟩ := rfl
theorem T_89 : T 89 = some ⟨1, 24, [.nil], .slice 30, 2, 16, true, [.int .i64 0, .int .i64 0], [], false, [(0, 30, 2)]⟩ := rfl
theorem T_109 : T 109 = some ⟨1, 8, [.fnil], .func, 0, 0, false, [], [], false, []⟩ := rfl
theorem T_111 : T 111 = some ⟨1, 8, [.fnil], .func, 0, 0, false, [], [], false, []⟩ := rfl
theorem T_114 : T 114 = some ⟨2, 16, [.int .i64 0, .int .i64 0], .array 2 3, 1, 8, false, [.int .i64 0], [], true, []⟩ := rfl
theorem T_128 : T 128 = some ⟨6, 48, [.int .i64 0, .int .i64 0, .int .i64 0, .int .i64 0, .int .i64 0, .int .i64 0], .struct, 0, 0, false, [], [(0, 6, true)], true, []⟩ := rfl
theorem T_130 : T 130 = some ⟨1, 8, [.fnil], .func, 0, 0, false, [], [], false, []⟩ := rfl
theorem T_135 : T 135 = some ⟨3, 24, [.int .i64 0, .int .i64 0, .int .i64 0], .struct, 0, 0, false, [], [(0, 1, false), (1, 1, false), (2, 1, false)], true, []⟩ := rfl
attribute [go_sem] T_3 T_4 T_22 T_24 T_25 T_27 T_28 T_30 T_32 T_33 T_37 T_38 T_40 T_57 T_64 T_79 T_81 T_89 T_109 T_111 T_114 T_128 T_130 T_135
structure Range where
  Lo : Int
  Hi : Int
def Range.c (x : Range) : List AV := [.int .i64 x.Lo, .int .i64 x.Hi]
structure Kiln where
  Falls : (List (List Range))
def Kiln.c (x : Kiln) : List AV := [.sl 1 (List.map (eL 2 Range.c) x.Falls)]
structure Reading where
  Source : Int
  Place : Int
  Kind : Int
  Mark : Int
  Heat : Range
def Reading.c (x : Reading) : List AV := [.int .i64 x.Source, .int .i64 x.Place, .int .i64 x.Kind, .int .i64 x.Mark, .int .i64 x.Heat.Lo, .int .i64 x.Heat.Hi]
structure Firing where
  Kiln : Kiln
  Readings : (List Reading)
def Firing.c (x : Firing) : List AV := [.sl 1 (List.map (eL 2 Range.c) x.Kiln.Falls), .sl 6 (List.map Reading.c x.Readings)]
structure Want where
  Place : Int
  Heat : Range
def Want.c (x : Want) : List AV := [.int .i64 x.Place, .int .i64 x.Heat.Lo, .int .i64 x.Heat.Hi]
structure Field where
  Mouths : (List Int)
  Falls : (List (List Int))
def Field.c (x : Field) : List AV := [.sl 1 (List.map eI x.Mouths), .sl 1 (List.map (eL 1 eI) x.Falls)]
structure heat_limit where
  place : Int
  heat : Int
  by_ : Int
def heat_limit.c (x : heat_limit) : List AV := [.int .i64 x.place, .int .i64 x.heat, .int .i64 x.by_]
structure heat_furnace where
  Firing : Firing
  least : (List heat_limit)
  most : (List heat_limit)
def heat_furnace.c (x : heat_furnace) : List AV := [.sl 1 (List.map (eL 2 Range.c) x.Firing.Kiln.Falls), .sl 6 (List.map Reading.c x.Firing.Readings), .sl 3 (List.map heat_limit.c x.least), .sl 3 (List.map heat_limit.c x.most)]
structure heat_reading where
  Reading : Reading
def heat_reading.c (x : heat_reading) : List AV := [.int .i64 x.Reading.Source, .int .i64 x.Reading.Place, .int .i64 x.Reading.Kind, .int .i64 x.Reading.Mark, .int .i64 x.Reading.Heat.Lo, .int .i64 x.Reading.Heat.Hi]
structure HeatProof where
  Reading : Int
  By : (List Int)
def HeatProof.c (x : HeatProof) : List AV := [.int .i64 x.Reading, .sl 1 (List.map eI x.By)]
attribute [go_sem] Range.c Kiln.c Reading.c Firing.c Want.c Field.c heat_limit.c heat_furnace.c heat_reading.c HeatProof.c
theorem bnot_t {b : Bool} (h : (!b) = true) : b = false := by simpa using h
theorem bnot_f {b : Bool} (h : (!b) = false) : b = true := by simpa using h
theorem PB {f : FuncId} {fn : Func} {c : Code} {sc : SC} {args : List AV} {v : AV} (h : AK Tryz.prog fn.ntmps (PEnds T fn.results.toList fun y => NL y v) [.sc sc] (St.enter args [] fn.ntmps)) (hf : Tryz.prog.funcs[f]? = some fn := by rfl) (hb : fn.body = some c := by rfl) (hnm : (fn.name == "runtime.NumGoroutine") = false := by decide +kernel) (he : sc.bare = erase fn.ntmps c := by rfl) (hfit : (erase fn.ntmps c).fits fn.ntmps = true := by decide +kernel) (hargs : args.length ≤ fn.ntmps := by exact Nat.le_of_ble_eq_true rfl) : PCall Tryz.prog f args (fun y => y = v) := PCall.nlr (PCall.of_body T_ok hf hb hnm he hfit hargs h)
theorem rS {n : Nat} {Φ : Exit → St → Prop} {todo : List It} {st : St} (h : AKev Tryz.prog n Φ (run T 1000 todo st)) : AK Tryz.prog n Φ todo st := run_sound T_ok 1000 _ _ h
theorem zc0 {n : Nat} {Φ : Exit → St → Prop} {f : FuncId} {args fargs : List AV} {v : AV} {dst : Option Tmp} {drop : List Nat} {todo : List It} {st : St} (hp : PCall Tryz.prog f fargs (fun y => y = v)) (hz : zOK (AV.frzL (Heap.get ([] :: st.fr :: st.low)) args) fargs) (hr : (AV.refsL args).isEmpty || v.scal = true) (h : AKev Tryz.prog n Φ (run T 1000 todo (st.took dst drop v [] (st.fr :: st.low)))) : AKev Tryz.prog n Φ (.call f args dst drop todo st) := AKev_call0 T_ok 1000 hp hz hr h
theorem zcL {n : Nat} {Φ : Exit → St → Prop} {f : FuncId} {args fargs : List AV} {v : AV} {dst : Option Tmp} {drop : List Nat} {todo : List It} {st : St} (hp : PCall Tryz.prog f fargs (fun y => y = v)) (hz : zOK (AV.brL (Heap.get ([] :: st.fr :: st.low)) (boxF (Heap.get ([] :: st.fr :: st.low)) 5) args) fargs) (hr : v.scal = true) (h : AKev Tryz.prog n Φ (run T 1000 todo (st.took dst drop v [] (st.fr :: st.low)))) : AKev Tryz.prog n Φ (.call f args dst drop todo st) := AKev_callL T_ok 1000 hp hz hr h
theorem zcT {n : Nat} {Φ : Exit → St → Prop} {f : FuncId} {args fargs : List AV} {v : AV} {dst : Option Tmp} {drop : List Nat} {todo : List It} {st : St} (rs : List Nat) (hp : PCall Tryz.prog f fargs (fun y => y = v)) (hz : zOK (AV.brL (only (Heap.get ([] :: st.fr :: st.low)) (rs.map fun k => (1, k))) (boxF (only (Heap.get ([] :: st.fr :: st.low)) (rs.map fun k => (1, k))) 5) args) fargs) (h : AKev Tryz.prog n Φ (run T 1000 todo (st.took dst drop v [] (dels st.fr rs :: st.low)))) : AKev Tryz.prog n Φ (.call f args dst drop todo st) := AKev_take T_ok 1000 rs hp hz h
end Go.Abs

namespace Go.Abs
open Go.Proofs
def F14.c : SC :=
 (.seq
 (.reg [oq 1 (.box 40 (.tmp 0)) 0 [0],
 sb 2 false 4 [2]])
 (.seq
 (.reg [fa 3 40 1 0 [],
 ld 4 37 3 [3],
 ln 5 4 37 3 [4],
 bn 6 .eql 3 5 0 3 4 [5],
 mv 7 6 4 [6],
 og 8 (.fieldAddr 40 (.tmp 1) 1) 0 7 true [1],
 og 9 (.load 38 (.tmp 8)) 38 7 true [8],
 og 10 (.call ⟨.builtin .len, #[.tmp 9], #[38]⟩) 3 7 true [9],
 og 11 (.binOp .eql 3 (.tmp 10) (.const (.int .i64 0)) 3) 4 7 true [10],
 oq 12 (.pick (.tmp 7) (.tmp 11) (.const (.bool false))) 4 [7, 11],
 sg 2 12 4 [12]])
 .ret))
theorem F14.rs : Tryz.f14.results.toList = [.tmp 2] := rfl
def R04_Empty (k : Nat) (x0 : Field) : Option (Bool) :=
 bif decide ((x0.Mouths.length : Int) = (0 : Int)) then
  some (decide ((x0.Falls.length : Int) = (0 : Int)))
 else
  some false
theorem R04_Empty_ok (k : Nat) (x0 : Field) (r : Bool) (h0 : R04_Empty k x0 = some r) : PCall Tryz.prog 14 [.agg (Field.c x0)] (fun y => y = .bool r) := by
 refine PB (fn := Tryz.f14) (sc := F14.c) ?_
 refine rS ?_
 simp only [R04_Empty] at h0
 try simp only [F14.c, go_sem]
 refine AKev_bif h0 ?_ ?_ <;> intro c1 h0
 try simp only [c1, go_sem]
 obtain rfl := Option.some.inj h0
 refine AKev_ret rfl ?_
 try simp only [F14.rs, c1, go_sem]
 try simp only [c1, go_sem]
 obtain rfl := Option.some.inj h0
 refine AKev_ret rfl ?_
 try simp only [F14.rs, c1, go_sem]
def F58.c : SC :=
 (.seq
 (.reg [sb 6 false 4 [6]])
 (.seq
 (.reg [mv 7 0 3 [],
 mv 8 1 3 [1],
 b2 9 .geq 3 7 8 3 4 [7, 8],
 mv 10 9 4 [9],
 og 11 (.move (.tmp 0)) 3 10 true [0],
 og 12 (.move (.tmp 2)) 3 10 true [2],
 og 13 (.binOp .leq 3 (.tmp 11) (.tmp 12) 3) 4 10 true [11, 12],
 oq 14 (.pick (.tmp 10) (.tmp 13) (.const (.bool false))) 4 [10, 13],
 sg 6 14 4 [14]])
 .ret))
theorem F58.rs : Tryz.f58.results.toList = [.tmp 6] := rfl
def heat_in (k : Nat) (n0 : Int) (low1 : Int) (high2 : Int) : Option (Bool) :=
 bif decide (low1 ≤ n0) then
  some (decide (n0 ≤ high2))
 else
  some false
theorem heat_in_ok (k : Nat) (n0 : Int) (low1 : Int) (high2 : Int) (r : Bool) (h0 : heat_in k n0 low1 high2 = some r) : PCall Tryz.prog 58 [.int .i64 n0, .int .i64 low1, .int .i64 high2] (fun y => y = .bool r) := by
 refine PB (fn := Tryz.f58) (sc := F58.c) ?_
 refine rS ?_
 simp only [heat_in] at h0
 try simp only [F58.c, go_sem]
 refine AKev_bif h0 ?_ ?_ <;> intro c1 h0
 try simp only [c1, go_sem]
 obtain rfl := Option.some.inj h0
 refine AKev_ret rfl ?_
 try simp only [F58.rs, c1, go_sem]
 try simp only [c1, go_sem]
 obtain rfl := Option.some.inj h0
 refine AKev_ret rfl ?_
 try simp only [F58.rs, c1, go_sem]
def F130.s0 : SC :=
 (.seq
 (.reg [b2 9 .lss 3 8 7 3 0 []])
 (.seq
 (.cond (.tmp 9)
 .skip
 (.exit 0))
 (.seq
 (.block 1
 (.seq
 (.reg [mv 10 8 3 [],
 sg 5 10 3 [10]])
 (.seq
 (.reg [mv 11 1 121 [],
 mv 12 0 89 [],
 mv 13 5 3 [],
 ia 14 89 12 13 [12, 13],
 ld 15 30 14 [14],
 oq 16 (.call ⟨.value (.tmp 11), #[.tmp 15], #[30]⟩) 4 [11, 15]])
 (.cond (.tmp 16)
 (.seq
 (.reg [mv 17 5 3 [5],
 sg 4 17 3 [17]])
 .ret)
 .skip))))
 (.reg [bn 18 .add 3 8 1 3 3 [8],
 mv 8 18 3 [18]]))))
def F130.c : SC :=
 (.seq
 (.reg [sn 4 0 3 [4]])
 (.seq
 (.seq
 (.reg [mv 6 0 89 [],
 ln 7 6 89 3 [6],
 oq 8 (.move (.const (.int .i64 0))) 3 []])
 (.block 0
 (.loop F130.s0)))
 (.seq
 (.reg [sn 4 (-1) 3 []])
 .ret)))
theorem F130.rs : Tryz.f130.results.toList = [.tmp 4] := rfl
def slices_IndexFunc_api_Range.b0 (k : Nat) (f1 : Range → Option (Bool)) (s0 : (List Range)) : Int → Option (Stp (Int) (Unit) (Int)) := fun (i1 : Int) =>
 bif decide (i1 < (s0.length : Int)) then
  (at? s0 i1).bind fun x3 =>
  (f1 x3).bind fun x4 =>
  bif x4 then
   some (.ret i1)
  else
   some (.next (w64 (i1 + 1)))
 else
  some (.brk ())
noncomputable def slices_IndexFunc_api_Range.h0 (f1_f : Nat) (f1_c : List AV) (s0 : (List Range)) : Int → St := fun (i1 : Int) => ⟨[(0, .sl 2 (List.map Range.c s0)), (1, .fn (.func f1_f) [] f1_c), (7, .int .i64 (s0.length : Int)), (8, .int .i64 i1)], [], [], 1, Tryz.f130.ntmps⟩
noncomputable def slices_IndexFunc_api_Range.x0 : Unit → St := fun (_ : Unit) => ⟨[], [], [], 1, Tryz.f130.ntmps⟩
def slices_IndexFunc_api_Range (k : Nat) (s0 : (List Range)) (f1 : Range → Option (Bool)) : Option (Int) :=
 (whl (slices_IndexFunc_api_Range.b0 k f1 s0) k 0).bind fun r6 => match r6 with
 | .next _ => none
 | .ret v_ => some v_
 | .brk _ =>
  some (-1)
theorem slices_IndexFunc_api_Range_ok (k : Nat) (s0 : (List Range)) (f1_f : Nat) (f1_c : List AV) (f1_i : Ice f1_c) (f1 : Range → Option (Bool)) (f1_h : ∀ q0 qr, f1 q0 = some qr → PCall Tryz.prog f1_f (.agg (Range.c q0) :: f1_c) (fun y => y = .bool qr)) (r : Int) (h0 : slices_IndexFunc_api_Range k s0 f1 = some r) : PCall Tryz.prog 130 [.sl 2 (List.map Range.c s0), .fn (.func f1_f) [] f1_c] (fun y => y = .int .i64 r) := by
 refine PB (fn := Tryz.f130) (sc := F130.c) ?_
 refine rS ?_
 simp only [slices_IndexFunc_api_Range] at h0
 try simp only [F130.c, f1_i.sh, f1_i.frz, f1_i.br, f1_i.refs, f1_i.imp, f1_i.ren, f1_i.un, go_sem]
 obtain ⟨r6, yr6, h0⟩ := bs h0
 refine AKev_loopS yr6 (slices_IndexFunc_api_Range.h0 f1_f f1_c s0) (slices_IndexFunc_api_Range.x0) ?_ ?_ ?_
 refine Weak.go [0, 1, 7, 8] [] rfl ?_
 try simp only [slices_IndexFunc_api_Range.h0, f1_i.sh, f1_i.frz, f1_i.br, f1_i.refs, f1_i.imp, f1_i.ren, f1_i.un, go_sem]
 rintro i1 x_1 Bk1 Br1 h1 hnext1 hbrk1 hret1
 refine rS ?_
 simp only [slices_IndexFunc_api_Range.b0] at h1
 try simp only [F130.s0, slices_IndexFunc_api_Range.h0, f1_i.sh, f1_i.frz, f1_i.br, f1_i.refs, f1_i.imp, f1_i.ren, f1_i.un, go_sem]
 refine AKev_bif h1 ?_ ?_ <;> intro c2 h1
 try simp only [c2, f1_i.sh, f1_i.frz, f1_i.br, f1_i.refs, f1_i.imp, f1_i.ren, f1_i.un, go_sem]
 obtain ⟨x3, yx3, h1⟩ := bs h1
 try simp only [aa yx3, f1_i.sh, f1_i.frz, f1_i.br, f1_i.refs, f1_i.imp, f1_i.ren, f1_i.un, c2, go_sem]
 obtain ⟨x4, yx4, h1⟩ := bs h1
 refine zc0 (f1_h _ _ yx4) ?_ (by first | rfl | simp [AV.refsL, AV.refs, AV.scal, AV.leaf, f1_i.refs]) ?_
 try simp only [f1_i.sh, f1_i.frz, f1_i.br, f1_i.refs, f1_i.imp, f1_i.ren, f1_i.un, c2, aa yx3, go_sem]
 try simp only [f1_i.sh, f1_i.frz, f1_i.br, f1_i.refs, f1_i.imp, f1_i.ren, f1_i.un, c2, aa yx3, go_sem]
 refine AKev_bif h1 ?_ ?_ <;> intro c5 h1
 try simp only [c5, f1_i.sh, f1_i.frz, f1_i.br, f1_i.refs, f1_i.imp, f1_i.ren, f1_i.un, c2, aa yx3, go_sem]
 obtain rfl := hret1 _ (Option.some.inj h1).symm
 simp only at h0
 obtain rfl := Option.some.inj h0
 refine AKev_ret rfl ?_
 try simp only [F130.rs, f1_i.sh, f1_i.frz, f1_i.br, f1_i.refs, f1_i.imp, f1_i.ren, f1_i.un, c2, aa yx3, c5, go_sem]
 try simp only [c5, f1_i.sh, f1_i.frz, f1_i.br, f1_i.refs, f1_i.imp, f1_i.ren, f1_i.un, c2, aa yx3, go_sem]
 refine AKev_backB (hnext1 _ _ (Option.some.inj h1).symm ?_)
 refine Weak.go [0, 1, 7, 8] [] rfl ?_
 try simp only [slices_IndexFunc_api_Range.h0, f1_i.sh, f1_i.frz, f1_i.br, f1_i.refs, f1_i.imp, f1_i.ren, f1_i.un, c2, aa yx3, c5, go_sem]
 try simp only [c2, f1_i.sh, f1_i.frz, f1_i.br, f1_i.refs, f1_i.imp, f1_i.ren, f1_i.un, go_sem]
 refine AKev_backB (hbrk1 _ _ (Option.some.inj h1).symm ?_)
 refine Weak.go [] [] rfl ?_
 try simp only [slices_IndexFunc_api_Range.x0, f1_i.sh, f1_i.frz, f1_i.br, f1_i.refs, f1_i.imp, f1_i.ren, f1_i.un, c2, go_sem]
 rintro _ hr_
 subst hr_
 simp only at h0
 refine rS ?_
 try simp only [slices_IndexFunc_api_Range.x0, f1_i.sh, f1_i.frz, f1_i.br, f1_i.refs, f1_i.imp, f1_i.ren, f1_i.un, go_sem]
 obtain rfl := Option.some.inj h0
 refine AKev_ret rfl ?_
 try simp only [F130.rs, f1_i.sh, f1_i.frz, f1_i.br, f1_i.refs, f1_i.imp, f1_i.ren, f1_i.un, go_sem]
def F94.c : SC :=
 (.seq
 (.reg [sb 4 false 4 [4]])
 (.seq
 (.reg [mv 5 0 89 [0],
 mv 6 1 121 [1],
 cf2 7 130 5 6 89 121 3 [5, 6],
 bn 8 .geq 3 7 0 3 4 [7],
 sg 4 8 4 [8]])
 .ret))
theorem F94.rs : Tryz.f94.results.toList = [.tmp 4] := rfl
def slices_ContainsFunc_api_Range (k : Nat) (s0 : (List Range)) (f1 : Range → Option (Bool)) : Option (Bool) :=
 (slices_IndexFunc_api_Range k s0 f1).bind fun x1 =>
 some (decide ((0 : Int) ≤ x1))
theorem slices_ContainsFunc_api_Range_ok (k : Nat) (s0 : (List Range)) (f1_f : Nat) (f1_c : List AV) (f1_i : Ice f1_c) (f1 : Range → Option (Bool)) (f1_h : ∀ q0 qr, f1 q0 = some qr → PCall Tryz.prog f1_f (.agg (Range.c q0) :: f1_c) (fun y => y = .bool qr)) (r : Bool) (h0 : slices_ContainsFunc_api_Range k s0 f1 = some r) : PCall Tryz.prog 94 [.sl 2 (List.map Range.c s0), .fn (.func f1_f) [] f1_c] (fun y => y = .bool r) := by
 refine PB (fn := Tryz.f94) (sc := F94.c) ?_
 refine rS ?_
 simp only [slices_ContainsFunc_api_Range] at h0
 try simp only [F94.c, f1_i.sh, f1_i.frz, f1_i.br, f1_i.refs, f1_i.imp, f1_i.ren, f1_i.un, go_sem]
 obtain ⟨x1, yx1, h0⟩ := bs h0
 refine zc0 (slices_IndexFunc_api_Range_ok k _ f1_f f1_c f1_i f1 f1_h _ yx1) ?_ (by first | rfl | simp [AV.refsL, AV.refs, AV.scal, AV.leaf, f1_i.refs]) ?_
 try simp only [f1_i.sh, f1_i.frz, f1_i.br, f1_i.refs, f1_i.imp, f1_i.ren, f1_i.un, go_sem]
 try simp only [f1_i.sh, f1_i.frz, f1_i.br, f1_i.refs, f1_i.imp, f1_i.ren, f1_i.un, go_sem]
 obtain rfl := Option.some.inj h0
 refine AKev_ret rfl ?_
 try simp only [F94.rs, f1_i.sh, f1_i.frz, f1_i.br, f1_i.refs, f1_i.imp, f1_i.ren, f1_i.un, go_sem]
def F95.c : SC :=
 (.seq
 (.reg [oq 1 (.box 30 (.tmp 0)) 0 [0],
 sb 2 false 4 [2]])
 (.seq
 (.reg [fa 3 30 1 0 [],
 ld 4 3 3 [3],
 bn 5 .lss 3 4 0 3 4 [4],
 mv 6 5 4 [5],
 og 7 (.fieldAddr 30 (.tmp 1) 0) 0 6 false [],
 og 8 (.load 3 (.tmp 7)) 3 6 false [7],
 og 9 (.fieldAddr 30 (.tmp 1) 1) 0 6 false [],
 og 10 (.load 3 (.tmp 9)) 3 6 false [9],
 og 11 (.binOp .gtr 3 (.tmp 8) (.tmp 10) 3) 4 6 false [8, 10],
 oq 12 (.pick (.tmp 6) (.const (.bool true)) (.tmp 11)) 4 [6, 11],
 mv 13 12 4 [12],
 og 14 (.fieldAddr 30 (.tmp 1) 1) 0 13 false [1],
 og 15 (.load 3 (.tmp 14)) 3 13 false [14],
 og 16 (.binOp .gtr 3 (.tmp 15) (.const (.int .i64 3000)) 3) 4 13 false [15],
 oq 17 (.pick (.tmp 13) (.const (.bool true)) (.tmp 16)) 4 [13, 16],
 sg 2 17 4 [17]])
 .ret))
theorem F95.rs : Tryz.f95.results.toList = [.tmp 2] := rfl
def heat_CheckKiln_1 (k : Nat) (r0 : Range) : Option (Bool) :=
 bif (!decide (r0.Lo < (0 : Int))) then
  bif (!decide (r0.Hi < r0.Lo)) then
   some (decide ((3000 : Int) < r0.Hi))
  else
   some true
 else
  some true
theorem heat_CheckKiln_1_ok (k : Nat) (r0 : Range) (r : Bool) (h0 : heat_CheckKiln_1 k r0 = some r) : PCall Tryz.prog 95 [.agg (Range.c r0)] (fun y => y = .bool r) := by
 refine PB (fn := Tryz.f95) (sc := F95.c) ?_
 refine rS ?_
 simp only [heat_CheckKiln_1] at h0
 try simp only [F95.c, go_sem]
 refine AKev_bif h0 ?_ ?_ <;> intro c1 h0
 have c1 := bnot_t c1
 try simp only [c1, go_sem]
 refine AKev_bif h0 ?_ ?_ <;> intro c2 h0
 have c2 := bnot_t c2
 try simp only [c2, c1, go_sem]
 obtain rfl := Option.some.inj h0
 refine AKev_ret rfl ?_
 try simp only [F95.rs, c1, c2, go_sem]
 have c2 := bnot_f c2
 try simp only [c2, c1, go_sem]
 obtain rfl := Option.some.inj h0
 refine AKev_ret rfl ?_
 try simp only [F95.rs, c1, c2, go_sem]
 have c1 := bnot_f c1
 try simp only [c1, go_sem]
 obtain rfl := Option.some.inj h0
 refine AKev_ret rfl ?_
 try simp only [F95.rs, c1, go_sem]
def F36.s0 : SC :=
 (.seq
 (.reg [b2 23 .lss 3 22 21 3 0 []])
 (.seq
 (.cond (.tmp 23)
 .skip
 (.exit 0))
 (.seq
 (.block 1
 (.seq
 (.reg [ia 24 22 20 22 [],
 ld 25 89 24 [24],
 sg 4 25 89 [25]])
 (.seq
 (.reg [mv 26 4 89 [],
 ln 27 26 89 3 [26],
 fa 28 24 1 0 [],
 ld 29 22 28 [28],
 oq 30 (.indexAddr 22 (.tmp 29) (.const (.int .i64 0))) 0 [29],
 ld 31 89 30 [30],
 ln 32 31 89 3 [31],
 b2 33 .neq 3 27 32 3 4 [27, 32],
 mv 34 33 4 [33],
 og 35 (.move (.tmp 4)) 89 34 false [4],
 og 36 (.call ⟨.value (.func 94), #[.tmp 35, .func 95], #[89, 121]⟩) 4 34 false [35],
 oq 37 (.pick (.tmp 34) (.const (.bool true)) (.tmp 36)) 4 [34, 36]])
 (.cond (.tmp 37)
 (.seq
 (.reg [sn 2 40 33 []])
 .ret)
 .skip))))
 (.reg [bn 38 .add 3 22 1 3 3 [22],
 mv 22 38 3 [38]]))))
def F36.c : SC :=
 (.seq
 (.reg [oq 1 (.box 24 (.tmp 0)) 0 [0],
 sn 2 0 33 [2]])
 (.seq
 (.seq
 (.reg [fa 5 24 1 0 [],
 ld 6 22 5 [5],
 ln 7 6 22 3 [6],
 oq 8 (.call ⟨.value (.func 58), #[.tmp 7, .const (.int .i64 1), .const (.int .i64 6)], #[3, 3, 3]⟩) 4 [7],
 oq 9 (.unOp .not 4 (.tmp 8)) 4 [8],
 mv 10 9 4 [9],
 og 11 (.fieldAddr 24 (.tmp 1) 0) 0 10 false [],
 og 12 (.load 22 (.tmp 11)) 22 10 false [11],
 og 13 (.indexAddr 22 (.tmp 12) (.const (.int .i64 0))) 0 10 false [12],
 og 14 (.load 89 (.tmp 13)) 89 10 false [13],
 og 15 (.call ⟨.builtin .len, #[.tmp 14], #[89]⟩) 3 10 false [14],
 og 16 (.call ⟨.value (.func 58), #[.tmp 15, .const (.int .i64 1), .const (.int .i64 24)], #[3, 3, 3]⟩) 4 10 false [15],
 og 17 (.unOp .not 4 (.tmp 16)) 4 10 false [16],
 oq 18 (.pick (.tmp 10) (.const (.bool true)) (.tmp 17)) 4 [10, 17]])
 (.cond (.tmp 18)
 (.seq
 (.reg [sn 2 40 33 []])
 .ret)
 .skip))
 (.seq
 (.seq
 (.reg [fa 19 24 1 0 [],
 ld 20 22 19 [19],
 ln 21 20 22 3 [],
 oq 22 (.move (.const (.int .i64 0))) 3 []])
 (.block 0
 (.loop F36.s0)))
 (.seq
 (.reg [sn 2 0 33 []])
 .ret))))
theorem F36.rs : Tryz.f36.results.toList = [.tmp 2] := rfl
def heat_CheckKiln.b0 (k : Nat) (k0 : Kiln) (x3 : (List Range)) : Int → Option (Stp (Int) (Unit) (Int)) := fun (i6 : Int) =>
 bif decide (i6 < (k0.Falls.length : Int)) then
  (at? k0.Falls i6).bind fun x8 =>
  bif decide ((x8.length : Int) = (x3.length : Int)) then
   (slices_ContainsFunc_api_Range k x8 (fun q0 => heat_CheckKiln_1 k q0)).bind fun x10 =>
   bif x10 then
    some (.ret 40)
   else
    some (.next (w64 (i6 + 1)))
  else
   some (.ret 40)
 else
  some (.brk ())
noncomputable def heat_CheckKiln.h0 (k0 : Kiln) : Int → St := fun (i6 : Int) => ⟨[(1, .ptr 0 0 0), (20, .sl 1 (List.map (eL 2 Range.c) k0.Falls)), (21, .int .i64 (k0.Falls.length : Int)), (22, .int .i64 i6)], [(0, .box [.sl 1 (List.map (eL 2 Range.c) k0.Falls)])], [], 1, Tryz.f36.ntmps⟩
noncomputable def heat_CheckKiln.x0 : Unit → St := fun (_ : Unit) => ⟨[], [], [], 1, Tryz.f36.ntmps⟩
def heat_CheckKiln (k : Nat) (k0 : Kiln) : Option (Int) :=
 (heat_in k (k0.Falls.length : Int) 1 6).bind fun x1 =>
 bif x1 then
  (at? k0.Falls 0).bind fun x3 =>
  (heat_in k (x3.length : Int) 1 24).bind fun x4 =>
  bif (!x4) then
   some 40
  else
   (whl (heat_CheckKiln.b0 k k0 x3) k 0).bind fun r12 => match r12 with
   | .next _ => none
   | .ret v_ => some v_
   | .brk _ =>
    some 0
 else
  some 40
theorem heat_CheckKiln_ok (k : Nat) (k0 : Kiln) (r : Int) (h0 : heat_CheckKiln k k0 = some r) : PCall Tryz.prog 36 [.agg (Kiln.c k0)] (fun y => y = .int .i64 r) := by
 refine PB (fn := Tryz.f36) (sc := F36.c) ?_
 refine rS ?_
 simp only [heat_CheckKiln] at h0
 try simp only [F36.c, go_sem]
 obtain ⟨x1, yx1, h0⟩ := bs h0
 refine zc0 (heat_in_ok k _ _ _ _ yx1) ?_ (by first | rfl | simp [AV.refsL, AV.refs, AV.scal, AV.leaf]) ?_
 try simp only [go_sem]
 try simp only [go_sem]
 refine AKev_bif h0 ?_ ?_ <;> intro c2 h0
 try simp only [c2, go_sem]
 obtain ⟨x3, yx3, h0⟩ := bs h0
 try simp only [aa yx3, c2, go_sem]
 obtain ⟨x4, yx4, h0⟩ := bs h0
 refine zc0 (heat_in_ok k _ _ _ _ yx4) ?_ (by first | rfl | simp [AV.refsL, AV.refs, AV.scal, AV.leaf]) ?_
 try simp only [c2, aa yx3, go_sem]
 try simp only [c2, aa yx3, go_sem]
 refine AKev_bif h0 ?_ ?_ <;> intro c5 h0
 have c5 := bnot_t c5
 try simp only [c5, c2, aa yx3, go_sem]
 obtain rfl := Option.some.inj h0
 refine AKev_ret rfl ?_
 try simp only [F36.rs, c2, aa yx3, c5, go_sem]
 have c5 := bnot_f c5
 try simp only [c5, c2, aa yx3, go_sem]
 obtain ⟨r12, yr12, h0⟩ := bs h0
 refine AKev_loopS yr12 (heat_CheckKiln.h0 k0) (heat_CheckKiln.x0) ?_ ?_ ?_
 refine Weak.go [1, 20, 21, 22] [0] rfl ?_
 try simp only [heat_CheckKiln.h0, c2, aa yx3, c5, go_sem]
 rintro i6 x_1 Bk1 Br1 h1 hnext1 hbrk1 hret1
 refine rS ?_
 simp only [heat_CheckKiln.b0] at h1
 try simp only [F36.s0, heat_CheckKiln.h0, c2, aa yx3, c5, go_sem]
 refine AKev_bif h1 ?_ ?_ <;> intro c7 h1
 try simp only [c7, c2, aa yx3, c5, go_sem]
 obtain ⟨x8, yx8, h1⟩ := bs h1
 try simp only [aa yx8, aa yx3, c2, c5, c7, go_sem]
 refine AKev_bif h1 ?_ ?_ <;> intro c9 h1
 try simp only [c9, c2, aa yx3, c5, c7, aa yx8, go_sem]
 obtain ⟨x10, yx10, h1⟩ := bs h1
 refine zc0 (slices_ContainsFunc_api_Range_ok k _ 95 [] ⟨fun _ => rfl, fun _ => rfl, fun _ _ => rfl, rfl, fun _ => rfl, fun _ => rfl, fun _ => rfl⟩ (fun q0 => heat_CheckKiln_1 k q0) (fun q0 qr qh => heat_CheckKiln_1_ok k q0 qr qh) _ yx10) ?_ (by first | rfl | simp [AV.refsL, AV.refs, AV.scal, AV.leaf]) ?_
 try simp only [c2, aa yx3, c5, c7, aa yx8, c9, go_sem]
 try simp only [c2, aa yx3, c5, c7, aa yx8, c9, go_sem]
 refine AKev_bif h1 ?_ ?_ <;> intro c11 h1
 try simp only [c11, c2, aa yx3, c5, c7, aa yx8, c9, go_sem]
 obtain rfl := hret1 _ (Option.some.inj h1).symm
 simp only at h0
 obtain rfl := Option.some.inj h0
 refine AKev_ret rfl ?_
 try simp only [F36.rs, c2, aa yx3, c5, c7, aa yx8, c9, c11, go_sem]
 try simp only [c11, c2, aa yx3, c5, c7, aa yx8, c9, go_sem]
 refine AKev_backB (hnext1 _ _ (Option.some.inj h1).symm ?_)
 refine Weak.go [1, 20, 21, 22] [0] rfl ?_
 try simp only [heat_CheckKiln.h0, c2, aa yx3, c5, c7, aa yx8, c9, c11, go_sem]
 try simp only [c9, c2, aa yx3, c5, c7, aa yx8, go_sem]
 obtain rfl := hret1 _ (Option.some.inj h1).symm
 simp only at h0
 obtain rfl := Option.some.inj h0
 refine AKev_ret rfl ?_
 try simp only [F36.rs, c2, aa yx3, c5, c7, aa yx8, c9, go_sem]
 try simp only [c7, c2, aa yx3, c5, go_sem]
 refine AKev_backB (hbrk1 _ _ (Option.some.inj h1).symm ?_)
 refine Weak.go [] [] rfl ?_
 try simp only [heat_CheckKiln.x0, c2, aa yx3, c5, c7, go_sem]
 rintro _ hr_
 subst hr_
 simp only at h0
 refine rS ?_
 try simp only [heat_CheckKiln.x0, c2, aa yx3, c5, go_sem]
 obtain rfl := Option.some.inj h0
 refine AKev_ret rfl ?_
 try simp only [F36.rs, c2, aa yx3, c5, go_sem]
 try simp only [c2, go_sem]
 obtain rfl := Option.some.inj h0
 refine AKev_ret rfl ?_
 try simp only [F36.rs, c2, go_sem]
def F87.c : SC :=
 (.seq
 (.reg [oq 3 (.box 64 (.tmp 1)) 0 [1],
 sb 4 false 4 [4]])
 (.seq
 (.seq
 (.reg [fa 5 64 3 0 [],
 ld 6 3 5 [5],
 oq 7 (.call ⟨.value (.func 58), #[.tmp 6, .const (.int .i64 1), .const (.int .i64 99999)], #[3, 3, 3]⟩) 4 [6],
 oq 8 (.unOp .not 4 (.tmp 7)) 4 [7],
 mv 9 8 4 [8],
 og 10 (.fieldAddr 64 (.tmp 3) 1) 0 9 false [],
 og 11 (.load 3 (.tmp 10)) 3 9 false [10],
 og 12 (.move (.tmp 0)) 3 9 false [0],
 og 13 (.binOp .sub 3 (.tmp 12) (.const (.int .i64 1)) 3) 3 9 false [12],
 og 14 (.call ⟨.value (.func 58), #[.tmp 11, .const (.int .i64 0), .tmp 13], #[3, 3, 3]⟩) 4 9 false [11, 13],
 og 15 (.unOp .not 4 (.tmp 14)) 4 9 false [14],
 oq 16 (.pick (.tmp 9) (.const (.bool true)) (.tmp 15)) 4 [9, 15]])
 (.cond (.tmp 16)
 (.seq
 (.reg [sb 4 false 4 []])
 .ret)
 .skip))
 (.seq
 (.seq
 (.reg [fa 17 64 3 2 [],
 ld 18 3 17 [17]])
 (.block 0
 (.seq
 (.seq
 (.reg [bn 20 .eql 3 18 1 3 4 [],
 sg 19 20 4 [20]])
 (.cond (.tmp 19)
 .skip
 (.reg [bn 21 .eql 3 18 2 3 4 [],
 sg 19 21 4 [21]])))
 (.cond (.tmp 19)
 (.seq
 (.reg [fa 22 64 3 3 [],
 ld 23 3 22 [22],
 oq 24 (.call ⟨.value (.func 58), #[.tmp 23, .const (.int .i64 1), .const (.int .i64 2000)], #[3, 3, 3]⟩) 4 [23],
 mv 25 24 4 [24],
 og 26 (.fieldAddr 64 (.tmp 3) 4) 0 25 true [3],
 og 27 (.load 30 (.tmp 26)) 30 25 true [26],
 og 28 (.build 30 #[]) 30 25 true [],
 og 29 (.binOp .eql 30 (.tmp 27) (.tmp 28) 30) 4 25 true [27, 28],
 oq 30 (.pick (.tmp 25) (.tmp 29) (.const (.bool false))) 4 [25, 29],
 sg 4 30 4 [30]])
 .ret)
 (.seq
 (.reg [bn 32 .eql 3 18 3 3 4 [18],
 sg 31 32 4 [32]])
 (.cond (.tmp 31)
 (.seq
 (.reg [fa 33 64 3 3 [],
 ld 34 3 33 [33],
 bn 35 .eql 3 34 0 3 4 [34],
 mv 36 35 4 [35],
 og 37 (.fieldAddr 64 (.tmp 3) 4) 0 36 true [],
 og 38 (.fieldAddr 30 (.tmp 37) 0) 0 36 true [37],
 og 39 (.load 3 (.tmp 38)) 3 36 true [38],
 og 40 (.binOp .geq 3 (.tmp 39) (.const (.int .i64 1)) 3) 4 36 true [39],
 oq 41 (.pick (.tmp 36) (.tmp 40) (.const (.bool false))) 4 [36, 40],
 mv 42 41 4 [41],
 og 43 (.fieldAddr 64 (.tmp 3) 4) 0 42 true [],
 og 44 (.fieldAddr 30 (.tmp 43) 0) 0 42 true [43],
 og 45 (.load 3 (.tmp 44)) 3 42 true [44],
 og 46 (.fieldAddr 64 (.tmp 3) 4) 0 42 true [],
 og 47 (.fieldAddr 30 (.tmp 46) 1) 0 42 true [46],
 og 48 (.load 3 (.tmp 47)) 3 42 true [47],
 og 49 (.binOp .leq 3 (.tmp 45) (.tmp 48) 3) 4 42 true [45, 48],
 oq 50 (.pick (.tmp 42) (.tmp 49) (.const (.bool false))) 4 [42, 49],
 mv 51 50 4 [50],
 og 52 (.fieldAddr 64 (.tmp 3) 4) 0 51 true [3],
 og 53 (.fieldAddr 30 (.tmp 52) 1) 0 51 true [52],
 og 54 (.load 3 (.tmp 53)) 3 51 true [53],
 og 55 (.binOp .leq 3 (.tmp 54) (.const (.int .i64 2000)) 3) 4 51 true [54],
 oq 56 (.pick (.tmp 51) (.tmp 55) (.const (.bool false))) 4 [51, 55],
 sg 4 56 4 [56]])
 .ret)
 .skip))))))
 (.seq
 (.reg [sb 4 false 4 []])
 .ret))))
theorem F87.rs : Tryz.f87.results.toList = [.tmp 4] := rfl
def heat_isReading (k : Nat) (places0 : Int) (r1 : Reading) : Option (Bool) :=
 (heat_in k r1.Source 1 99999).bind fun x1 =>
 bif x1 then
  (heat_in k r1.Place 0 (w64 (places0 - 1))).bind fun x3 =>
  bif (!x3) then
   some false
  else
   bif decide (r1.Kind = (1 : Int)) then
    (heat_in k r1.Mark 1 2000).bind fun x6 =>
    bif x6 then
     some (decide (r1.Heat.Lo = (0 : Int)) && decide (r1.Heat.Hi = (0 : Int)))
    else
     some false
   else
    bif decide (r1.Kind = (2 : Int)) then
     (heat_in k r1.Mark 1 2000).bind fun x9 =>
     bif x9 then
      some (decide (r1.Heat.Lo = (0 : Int)) && decide (r1.Heat.Hi = (0 : Int)))
     else
      some false
    else
     bif decide (r1.Kind = (3 : Int)) then
      bif decide (r1.Mark = (0 : Int)) then
       bif decide ((1 : Int) ≤ r1.Heat.Lo) then
        bif decide (r1.Heat.Lo ≤ r1.Heat.Hi) then
         some (decide (r1.Heat.Hi ≤ (2000 : Int)))
        else
         some false
       else
        some false
      else
       some false
     else
      some false
 else
  some false
theorem heat_isReading_ok (k : Nat) (places0 : Int) (r1 : Reading) (r : Bool) (h0 : heat_isReading k places0 r1 = some r) : PCall Tryz.prog 87 [.int .i64 places0, .agg (Reading.c r1)] (fun y => y = .bool r) := by
 refine PB (fn := Tryz.f87) (sc := F87.c) ?_
 refine rS ?_
 simp only [heat_isReading] at h0
 try simp only [F87.c, go_sem]
 obtain ⟨x1, yx1, h0⟩ := bs h0
 refine zc0 (heat_in_ok k _ _ _ _ yx1) ?_ (by first | rfl | simp [AV.refsL, AV.refs, AV.scal, AV.leaf]) ?_
 try simp only [go_sem]
 try simp only [go_sem]
 refine AKev_bif h0 ?_ ?_ <;> intro c2 h0
 try simp only [c2, go_sem]
 obtain ⟨x3, yx3, h0⟩ := bs h0
 refine zc0 (heat_in_ok k _ _ _ _ yx3) ?_ (by first | rfl | simp [AV.refsL, AV.refs, AV.scal, AV.leaf]) ?_
 try simp only [c2, go_sem]
 try simp only [c2, go_sem]
 refine AKev_bif h0 ?_ ?_ <;> intro c4 h0
 have c4 := bnot_t c4
 try simp only [c4, c2, go_sem]
 obtain rfl := Option.some.inj h0
 refine AKev_ret rfl ?_
 try simp only [F87.rs, c2, c4, go_sem]
 have c4 := bnot_f c4
 try simp only [c4, c2, go_sem]
 refine AKev_bif h0 ?_ ?_ <;> intro c5 h0
 try simp only [c5, c2, c4, go_sem]
 obtain ⟨x6, yx6, h0⟩ := bs h0
 refine zc0 (heat_in_ok k _ _ _ _ yx6) ?_ (by first | rfl | simp [AV.refsL, AV.refs, AV.scal, AV.leaf]) ?_
 try simp only [c2, c4, c5, go_sem]
 try simp only [c2, c4, c5, go_sem]
 refine AKev_bif h0 ?_ ?_ <;> intro c7 h0
 try simp only [c7, c2, c4, c5, go_sem]
 obtain rfl := Option.some.inj h0
 refine AKev_ret rfl ?_
 try simp only [F87.rs, c2, c4, c5, c7, go_sem]
 try simp only [c7, c2, c4, c5, go_sem]
 obtain rfl := Option.some.inj h0
 refine AKev_ret rfl ?_
 try simp only [F87.rs, c2, c4, c5, c7, go_sem]
 try simp only [c5, c2, c4, go_sem]
 refine AKev_bif h0 ?_ ?_ <;> intro c8 h0
 try simp only [c8, c2, c4, c5, go_sem]
 obtain ⟨x9, yx9, h0⟩ := bs h0
 refine zc0 (heat_in_ok k _ _ _ _ yx9) ?_ (by first | rfl | simp [AV.refsL, AV.refs, AV.scal, AV.leaf]) ?_
 try simp only [c2, c4, c5, c8, go_sem]
 try simp only [c2, c4, c5, c8, go_sem]
 refine AKev_bif h0 ?_ ?_ <;> intro c10 h0
 try simp only [c10, c2, c4, c5, c8, go_sem]
 obtain rfl := Option.some.inj h0
 refine AKev_ret rfl ?_
 try simp only [F87.rs, c2, c4, c5, c8, c10, go_sem]
 try simp only [c10, c2, c4, c5, c8, go_sem]
 obtain rfl := Option.some.inj h0
 refine AKev_ret rfl ?_
 try simp only [F87.rs, c2, c4, c5, c8, c10, go_sem]
 try simp only [c8, c2, c4, c5, go_sem]
 refine AKev_bif h0 ?_ ?_ <;> intro c11 h0
 try simp only [c11, c2, c4, c5, c8, go_sem]
 refine AKev_bif h0 ?_ ?_ <;> intro c12 h0
 try simp only [c12, c2, c4, c5, c8, c11, go_sem]
 refine AKev_bif h0 ?_ ?_ <;> intro c13 h0
 try simp only [c13, c2, c4, c5, c8, c11, c12, go_sem]
 refine AKev_bif h0 ?_ ?_ <;> intro c14 h0
 try simp only [c14, c2, c4, c5, c8, c11, c12, c13, go_sem]
 obtain rfl := Option.some.inj h0
 refine AKev_ret rfl ?_
 try simp only [F87.rs, c2, c4, c5, c8, c11, c12, c13, c14, go_sem]
 try simp only [c14, c2, c4, c5, c8, c11, c12, c13, go_sem]
 obtain rfl := Option.some.inj h0
 refine AKev_ret rfl ?_
 try simp only [F87.rs, c2, c4, c5, c8, c11, c12, c13, c14, go_sem]
 try simp only [c13, c2, c4, c5, c8, c11, c12, go_sem]
 obtain rfl := Option.some.inj h0
 refine AKev_ret rfl ?_
 try simp only [F87.rs, c2, c4, c5, c8, c11, c12, c13, go_sem]
 try simp only [c12, c2, c4, c5, c8, c11, go_sem]
 obtain rfl := Option.some.inj h0
 refine AKev_ret rfl ?_
 try simp only [F87.rs, c2, c4, c5, c8, c11, c12, go_sem]
 try simp only [c11, c2, c4, c5, c8, go_sem]
 obtain rfl := Option.some.inj h0
 refine AKev_ret rfl ?_
 try simp only [F87.rs, c2, c4, c5, c8, c11, go_sem]
 try simp only [c2, go_sem]
 obtain rfl := Option.some.inj h0
 refine AKev_ret rfl ?_
 try simp only [F87.rs, c2, go_sem]
def F42.s0 : SC :=
 (.seq
 (.reg [b2 20 .lss 3 19 18 3 0 []])
 (.seq
 (.cond (.tmp 20)
 .skip
 (.exit 0))
 (.seq
 (.block 1
 (.seq
 (.reg [ia 21 25 17 19 [],
 ld 22 64 21 [21],
 oq 5 (.alloc 64) 0 [],
 ⟨none, .store 64 (.tmp 5) (.tmp 22), 0, none, [22]⟩])
 (.seq
 (.dreg [fa 23 27 1 0 [],
 fa 24 24 23 0 [],
 ld 25 22 24 [],
 oq 26 (.indexAddr 22 (.tmp 25) (.const (.int .i64 0))) 0 [],
 ld 27 89 26 [],
 ln 28 27 89 3 [],
 ld 29 64 5 [],
 cf2 30 87 28 29 3 64 4 [],
 oq 31 (.unOp .not 4 (.tmp 30)) 4 []] [[], [0], [0, 1], [0, 1, 2], [0, 1, 2, 3], [0, 1, 2, 3, 4], [], [0, 1, 2, 3, 4, 5, 6], [0, 1, 2, 3, 4, 5, 6, 7]] [5, 23, 24, 25, 26, 27, 28, 29, 30])
 (.cond (.tmp 31)
 (.seq
 (.reg [sn 2 41 33 []])
 .ret)
 .skip))))
 (.reg [bn 32 .add 3 19 1 3 3 [19],
 mv 19 32 3 [32]]))))
def F42.c : SC :=
 (.seq
 (.reg [oq 1 (.box 27 (.tmp 0)) 0 [0],
 sn 2 0 33 [2]])
 (.seq
 (.seq
 (.reg [fa 6 27 1 0 [],
 ld 7 24 6 [6],
 cf1 8 36 7 24 33 [7],
 sg 3 8 33 [8]])
 (.seq
 (.reg [mv 9 3 33 [],
 bn 10 .neq 33 9 0 33 4 [9]])
 (.cond (.tmp 10)
 (.seq
 (.reg [mv 11 3 33 [3],
 sg 2 11 33 [11]])
 .ret)
 .skip)))
 (.seq
 (.seq
 (.reg [fa 12 27 1 1 [],
 ld 13 25 12 [12],
 ln 14 13 25 3 [13],
 bn 15 .gtr 3 14 60 3 4 [14]])
 (.cond (.tmp 15)
 (.seq
 (.reg [sn 2 2 33 []])
 .ret)
 .skip))
 (.seq
 (.seq
 (.reg [fa 16 27 1 1 [],
 ld 17 25 16 [16],
 ln 18 17 25 3 [],
 oq 19 (.move (.const (.int .i64 0))) 3 []])
 (.block 0
 (.loop F42.s0)))
 (.seq
 (.reg [sn 2 0 33 []])
 .ret)))))
theorem F42.rs : Tryz.f42.results.toList = [.tmp 2] := rfl
def heat_Check.b0 (k : Nat) (f0 : Firing) : Int → Option (Stp (Int) (Unit) (Int)) := fun (i4 : Int) =>
 bif decide (i4 < (f0.Readings.length : Int)) then
  (at? f0.Readings i4).bind fun x6 =>
  (at? f0.Kiln.Falls 0).bind fun x7 =>
  (heat_isReading k (x7.length : Int) x6).bind fun x8 =>
  bif (!x8) then
   some (.ret 41)
  else
   some (.next (w64 (i4 + 1)))
 else
  some (.brk ())
noncomputable def heat_Check.h0 (f0 : Firing) : Int → St := fun (i4 : Int) => ⟨[(1, .ptr 0 0 0), (17, .sl 6 (List.map Reading.c f0.Readings)), (18, .int .i64 (f0.Readings.length : Int)), (19, .int .i64 i4)], [(0, .box [.sl 1 (List.map (eL 2 Range.c) f0.Kiln.Falls), .sl 6 (List.map Reading.c f0.Readings)])], [], 1, Tryz.f42.ntmps⟩
noncomputable def heat_Check.x0 : Unit → St := fun (_ : Unit) => ⟨[], [], [], 1, Tryz.f42.ntmps⟩
def heat_Check (k : Nat) (f0 : Firing) : Option (Int) :=
 (heat_CheckKiln k f0.Kiln).bind fun x1 =>
 bif (!decide (x1 = (0 : Int))) then
  some x1
 else
  bif decide ((60 : Int) < (f0.Readings.length : Int)) then
   some 2
  else
   (whl (heat_Check.b0 k f0) k 0).bind fun r10 => match r10 with
   | .next _ => none
   | .ret v_ => some v_
   | .brk _ =>
    some 0
theorem heat_Check_ok (k : Nat) (f0 : Firing) (r : Int) (h0 : heat_Check k f0 = some r) : PCall Tryz.prog 42 [.agg (Firing.c f0)] (fun y => y = .int .i64 r) := by
 refine PB (fn := Tryz.f42) (sc := F42.c) ?_
 refine rS ?_
 simp only [heat_Check] at h0
 try simp only [F42.c, go_sem]
 obtain ⟨x1, yx1, h0⟩ := bs h0
 refine zc0 (heat_CheckKiln_ok k _ _ yx1) ?_ (by first | rfl | simp [AV.refsL, AV.refs, AV.scal, AV.leaf]) ?_
 try simp only [go_sem]
 try simp only [go_sem]
 refine AKev_bif h0 ?_ ?_ <;> intro c2 h0
 have c2 := bnot_t c2
 try simp only [c2, go_sem]
 obtain rfl := Option.some.inj h0
 refine AKev_ret rfl ?_
 try simp only [F42.rs, c2, go_sem]
 have c2 := bnot_f c2
 try simp only [c2, go_sem]
 refine AKev_bif h0 ?_ ?_ <;> intro c3 h0
 try simp only [c3, c2, go_sem]
 obtain rfl := Option.some.inj h0
 refine AKev_ret rfl ?_
 try simp only [F42.rs, c2, c3, go_sem]
 try simp only [c3, c2, go_sem]
 obtain ⟨r10, yr10, h0⟩ := bs h0
 refine AKev_loopS yr10 (heat_Check.h0 f0) (heat_Check.x0) ?_ ?_ ?_
 refine Weak.go [1, 17, 18, 19] [0] rfl ?_
 try simp only [heat_Check.h0, c2, c3, go_sem]
 rintro i4 x_1 Bk1 Br1 h1 hnext1 hbrk1 hret1
 refine rS ?_
 simp only [heat_Check.b0] at h1
 try simp only [F42.s0, heat_Check.h0, c2, c3, go_sem]
 refine AKev_bif h1 ?_ ?_ <;> intro c5 h1
 try simp only [c5, c2, c3, go_sem]
 obtain ⟨x6, yx6, h1⟩ := bs h1
 try simp only [aa yx6, c2, c3, c5, go_sem]
 refine AKev_region T_ok follows_ok 1000 ?_
 try simp only [c2, c3, c5, aa yx6, go_sem]
 obtain ⟨x7, yx7, h1⟩ := bs h1
 try simp only [aa yx7, c2, c3, c5, aa yx6, go_sem]
 obtain ⟨x8, yx8, h1⟩ := bs h1
 refine DG_call0 1000 (heat_isReading_ok k _ _ _ yx8) ?_ (by first | rfl | simp [AV.refsL, AV.refs, AV.scal, AV.leaf]) ?_
 try simp only [c2, c3, c5, aa yx6, aa yx7, go_sem]
 try simp only [c2, c3, c5, aa yx6, aa yx7, go_sem]
 refine DG_done ⟨rfl, run_sound T_ok 1000 _ _ ?_⟩
 try simp only [c2, c3, c5, aa yx6, aa yx7, go_sem]
 refine AKev_bif h1 ?_ ?_ <;> intro c9 h1
 have c9 := bnot_t c9
 try simp only [c9, c2, c3, c5, aa yx6, aa yx7, go_sem]
 obtain rfl := hret1 _ (Option.some.inj h1).symm
 simp only at h0
 obtain rfl := Option.some.inj h0
 refine AKev_ret rfl ?_
 try simp only [F42.rs, c2, c3, c5, aa yx6, aa yx7, c9, go_sem]
 have c9 := bnot_f c9
 try simp only [c9, c2, c3, c5, aa yx6, aa yx7, go_sem]
 refine AKev_backB (hnext1 _ _ (Option.some.inj h1).symm ?_)
 refine Weak.go [1, 17, 18, 19] [0] rfl ?_
 try simp only [heat_Check.h0, c2, c3, c5, aa yx6, aa yx7, c9, go_sem]
 try simp only [c5, c2, c3, go_sem]
 refine AKev_backB (hbrk1 _ _ (Option.some.inj h1).symm ?_)
 refine Weak.go [] [] rfl ?_
 try simp only [heat_Check.x0, c2, c3, c5, go_sem]
 rintro _ hr_
 subst hr_
 simp only at h0
 refine rS ?_
 try simp only [heat_Check.x0, c2, c3, go_sem]
 obtain rfl := Option.some.inj h0
 refine AKev_ret rfl ?_
 try simp only [F42.rs, c2, c3, go_sem]
def F107.s0 : SC :=
 (.seq
 (.reg [b2 15 .lss 3 14 13 3 0 []])
 (.seq
 (.cond (.tmp 15)
 .skip
 (.exit 0))
 (.seq
 (.block 1
 (.seq
 (.reg [ia 16 79 12 14 [],
 ld 17 135 16 [16],
 oq 9 (.alloc 135) 0 [],
 ⟨none, .store 135 (.tmp 9) (.tmp 17), 0, none, [17]⟩])
 (.seq
 (.dreg [fa 18 135 9 1 [],
 ld 19 3 18 [],
 fa 20 81 2 0 [],
 fa 21 27 20 0 [],
 fa 22 24 21 0 [],
 ld 23 22 22 [],
 mv 24 1 3 [],
 ia 25 22 23 24 [],
 ld 26 89 25 [],
 fa 27 135 9 0 [],
 ld 28 3 27 [],
 ia 29 89 26 28 [],
 fa 30 30 29 1 [],
 ld 31 3 30 [],
 b2 32 .add 3 19 31 3 3 [],
 sg 10 32 3 []] [[], [0], [], [2], [2, 3], [2, 3, 4], [], [2, 3, 4, 5, 6], [2, 3, 4, 5, 6, 7], [], [9], [2, 3, 4, 5, 6, 7, 8, 9, 10], [2, 3, 4, 5, 6, 7, 8, 9, 10, 11], [2, 3, 4, 5, 6, 7, 8, 9, 10, 11, 12], [0, 1, 2, 3, 4, 5, 6, 7, 8, 9, 10, 11, 12, 13], [0, 1, 2, 3, 4, 5, 6, 7, 8, 9, 10, 11, 12, 13, 14]] [18, 19, 20, 21, 22, 23, 24, 25, 26, 27, 28, 29, 30, 31, 32])
 (.seq
 (.reg [mv 33 10 3 [],
 mv 34 6 3 [],
 b2 35 .lss 3 33 34 3 4 [33, 34]])
 (.cond (.tmp 35)
 (.dreg [mv 36 10 3 [],
 fa 37 135 9 2 [],
 ld 38 3 37 [],
 sg 6 36 3 [],
 sg 7 38 3 []] [[], [], [1], [0], [1, 2, 0, 3]] [9, 10, 36, 37, 38])
 .skip)))))
 (.reg [bn 39 .add 3 14 1 3 3 [14],
 mv 14 39 3 [39]]))))
def F107.c : SC :=
 (.seq
 (.reg [oq 2 (.box 81 (.tmp 0)) 0 [0],
 sn 4 0 3 [4],
 sn 5 0 3 [5]])
 (.seq
 (.reg [sn 6 3000 3 [],
 sn 7 (-1) 3 []])
 (.seq
 (.seq
 (.reg [fa 11 81 2 2 [],
 ld 12 79 11 [11],
 ln 13 12 79 3 [],
 oq 14 (.move (.const (.int .i64 0))) 3 []])
 (.block 0
 (.loop F107.s0)))
 (.seq
 (.reg [mv 40 6 3 [6],
 mv 41 7 3 [7],
 sg 4 40 3 [40],
 sg 5 41 3 [41]])
 .ret))))
theorem F107.rs : Tryz.f107.results.toList = [.tmp 4, .tmp 5] := rfl
def heat_furnace_hottest.b0 (k : Nat) (f0 : heat_furnace) (mouth1 : Int) : (Int × Int × Int) → Option (Stp (Int × Int × Int) (Int × Int) (Int × Int)) := fun (s : Int × Int × Int) => match s with
 | (i1, i2, i3) =>
   bif decide (i3 < (f0.most.length : Int)) then
    (at? f0.most i3).bind fun x7 =>
    (at? f0.Firing.Kiln.Falls mouth1).bind fun x8 =>
    (at? x8 x7.place).bind fun x9 =>
    bif decide (w64 (x7.heat + x9.Hi) < i1) then
     some (.next (w64 (x7.heat + x9.Hi), x7.by_, w64 (i3 + 1)))
    else
     some (.next (i1, i2, w64 (i3 + 1)))
   else
    some (.brk (i1, i2))
noncomputable def heat_furnace_hottest.h0 (f0 : heat_furnace) (mouth1 : Int) : (Int × Int × Int) → St := fun (s : Int × Int × Int) => match s with
 | (i1, i2, i3) => ⟨[(1, .int .i64 mouth1), (2, .ptr 0 0 0), (6, .int .i64 i1), (7, .int .i64 i2), (12, .sl 3 (List.map heat_limit.c f0.most)), (13, .int .i64 (f0.most.length : Int)), (14, .int .i64 i3)], [(0, .box [.sl 1 (List.map (eL 2 Range.c) f0.Firing.Kiln.Falls), .sl 6 (List.map Reading.c f0.Firing.Readings), .sl 3 (List.map heat_limit.c f0.least), .sl 3 (List.map heat_limit.c f0.most)])], [], 1, Tryz.f107.ntmps⟩
noncomputable def heat_furnace_hottest.x0 : (Int × Int) → St := fun (s : Int × Int) => match s with
 | (i4, i5) => ⟨[(6, .int .i64 i4), (7, .int .i64 i5)], [], [], 1, Tryz.f107.ntmps⟩
def heat_furnace_hottest (k : Nat) (f0 : heat_furnace) (mouth1 : Int) : Option (Int × Int) :=
 (whl (heat_furnace_hottest.b0 k f0 mouth1) k (3000, -1, 0)).bind fun r11 => match r11 with
 | .next _ => none
 | .ret v_ => some v_
 | .brk (i4, i5) =>
  some (i4, i5)
theorem heat_furnace_hottest_ok (k : Nat) (f0 : heat_furnace) (mouth1 : Int) (r : Int × Int) (h0 : heat_furnace_hottest k f0 mouth1 = some r) : PCall Tryz.prog 107 [.agg (heat_furnace.c f0), .int .i64 mouth1] (fun y => y = .tup [.int .i64 r.1, .int .i64 r.2]) := by
 refine PB (fn := Tryz.f107) (sc := F107.c) ?_
 refine rS ?_
 simp only [heat_furnace_hottest] at h0
 try simp only [F107.c, go_sem]
 obtain ⟨r11, yr11, h0⟩ := bs h0
 refine AKev_loopS yr11 (heat_furnace_hottest.h0 f0 mouth1) (heat_furnace_hottest.x0) ?_ ?_ ?_
 refine Weak.go [1, 2, 6, 7, 12, 13, 14] [0] rfl ?_
 try simp only [heat_furnace_hottest.h0, go_sem]
 rintro ⟨i1, i2, i3⟩ x_1 Bk1 Br1 h1 hnext1 hbrk1 hret1
 refine rS ?_
 simp only [heat_furnace_hottest.b0] at h1
 try simp only [F107.s0, heat_furnace_hottest.h0, go_sem]
 refine AKev_bif h1 ?_ ?_ <;> intro c6 h1
 try simp only [c6, go_sem]
 obtain ⟨x7, yx7, h1⟩ := bs h1
 try simp only [aa yx7, c6, go_sem]
 refine AKev_region T_ok follows_ok 1000 ?_
 try simp only [c6, aa yx7, go_sem]
 obtain ⟨x8, yx8, h1⟩ := bs h1
 try simp only [aa yx8, c6, aa yx7, go_sem]
 obtain ⟨x9, yx9, h1⟩ := bs h1
 try simp only [aa yx9, c6, aa yx7, aa yx8, go_sem]
 refine DG_done ⟨rfl, run_sound T_ok 1000 _ _ ?_⟩
 try simp only [c6, aa yx7, aa yx8, aa yx9, go_sem]
 refine AKev_bif h1 ?_ ?_ <;> intro c10 h1
 try simp only [c10, c6, aa yx7, aa yx8, aa yx9, go_sem]
 refine AKev_region T_ok follows_ok 1000 ?_
 try simp only [c6, aa yx7, aa yx8, aa yx9, c10, go_sem]
 refine DG_done ⟨rfl, run_sound T_ok 1000 _ _ ?_⟩
 try simp only [c6, aa yx7, aa yx8, aa yx9, c10, go_sem]
 refine AKev_backB (hnext1 _ _ (Option.some.inj h1).symm ?_)
 refine Weak.go [1, 2, 6, 7, 12, 13, 14] [0] rfl ?_
 try simp only [heat_furnace_hottest.h0, c6, aa yx7, aa yx8, aa yx9, c10, go_sem]
 try simp only [c10, c6, aa yx7, aa yx8, aa yx9, go_sem]
 refine AKev_backB (hnext1 _ _ (Option.some.inj h1).symm ?_)
 refine Weak.go [1, 2, 6, 7, 12, 13, 14] [0] rfl ?_
 try simp only [heat_furnace_hottest.h0, c6, aa yx7, aa yx8, aa yx9, c10, go_sem]
 try simp only [c6, go_sem]
 refine AKev_backB (hbrk1 _ _ (Option.some.inj h1).symm ?_)
 refine Weak.go [6, 7] [] rfl ?_
 try simp only [heat_furnace_hottest.x0, c6, go_sem]
 rintro ⟨i4, i5⟩ hr_
 subst hr_
 simp only at h0
 refine rS ?_
 try simp only [heat_furnace_hottest.x0, go_sem]
 obtain rfl := Option.some.inj h0
 refine AKev_ret rfl ?_
 try simp only [F107.rs, go_sem]
def F108.s0 : SC :=
 (.seq
 (.reg [b2 15 .lss 3 14 13 3 0 []])
 (.seq
 (.cond (.tmp 15)
 .skip
 (.exit 0))
 (.seq
 (.block 1
 (.seq
 (.reg [ia 16 79 12 14 [],
 ld 17 135 16 [16],
 oq 11 (.alloc 135) 0 [],
 ⟨none, .store 135 (.tmp 11) (.tmp 17), 0, none, [17]⟩])
 (.seq
 (.reg [fa 18 135 11 0 [],
 ld 19 3 18 [18],
 mv 20 1 3 [],
 b2 21 .eql 3 19 20 3 4 [19, 20],
 mv 22 21 4 [21],
 og 23 (.move (.tmp 9)) 4 22 true [],
 og 24 (.unOp .not 4 (.tmp 23)) 4 22 true [23],
 og 25 (.move (.tmp 24)) 4 22 true [24],
 og 26 (.move (.tmp 2)) 138 25 false [],
 og 27 (.fieldAddr 135 (.tmp 11) 1) 0 25 false [],
 og 28 (.load 3 (.tmp 27)) 3 25 false [27],
 og 29 (.fieldAddr 135 (.tmp 8) 1) 0 25 false [],
 og 30 (.load 3 (.tmp 29)) 3 25 false [29],
 og 31 (.call ⟨.value (.tmp 26), #[.tmp 28, .tmp 30], #[3, 3]⟩) 4 25 false [26, 28, 30],
 og 32 (.pick (.tmp 25) (.const (.bool true)) (.tmp 31)) 4 22 true [25, 31],
 oq 33 (.pick (.tmp 22) (.tmp 32) (.const (.bool false))) 4 [22, 32]])
 (.cond (.tmp 33)
 (.reg [ld 34 135 11 [11],
 ⟨none, .store 135 (.tmp 8) (.tmp 34), 0, none, [34]⟩,
 sb 9 true 4 []])
 .skip))))
 (.reg [bn 35 .add 3 14 1 3 3 [14],
 mv 14 35 3 [35]]))))
def F108.c : SC :=
 (.seq
 (.reg [oq 6 (.alloc 135) 0 [],
 sb 7 false 4 [7]])
 (.seq
 (.reg [oq 8 (.alloc 135) 0 []])
 (.seq
 (.reg [sb 9 false 4 []])
 (.seq
 (.seq
 (.reg [mv 12 0 79 [0],
 ln 13 12 79 3 [],
 oq 14 (.move (.const (.int .i64 0))) 3 []])
 (.block 0
 (.loop F108.s0)))
 (.seq
 (.reg [ld 36 135 8 [8],
 mv 37 9 4 [9],
 ⟨none, .store 135 (.tmp 6) (.tmp 36), 0, none, [36]⟩,
 sg 7 37 4 [37]])
 .ret)))))
theorem F108.rs : Tryz.f108.results.toList = [.cell 6 135, .tmp 7] := rfl
def heat_best.b0 (k : Nat) (better2 : Int → Int → Option (Bool)) (l0 : (List heat_limit)) (place1 : Int) : (heat_limit × Bool × Int) → Option (Stp (heat_limit × Bool × Int) (heat_limit × Bool) (heat_limit × Bool)) := fun (s : heat_limit × Bool × Int) => match s with
 | (s1, b2, i3) =>
   bif decide (i3 < (l0.length : Int)) then
    (at? l0 i3).bind fun x7 =>
    bif decide (x7.place = place1) then
     bif b2 then
      (better2 x7.heat s1.heat).bind fun x10 =>
      bif x10 then
       some (.next (x7, true, w64 (i3 + 1)))
      else
       some (.next (s1, b2, w64 (i3 + 1)))
     else
      some (.next (x7, true, w64 (i3 + 1)))
    else
     some (.next (s1, b2, w64 (i3 + 1)))
   else
    some (.brk (s1, b2))
noncomputable def heat_best.h0 (better2_f : Nat) (better2_c : List AV) (l0 : (List heat_limit)) (place1 : Int) : (heat_limit × Bool × Int) → St := fun (s : heat_limit × Bool × Int) => match s with
 | (s1, b2, i3) => ⟨[(1, .int .i64 place1), (2, .fn (.func better2_f) [] better2_c), (6, .ptr 0 0 0), (8, .ptr 0 1 0), (9, .bool b2), (12, .sl 3 (List.map heat_limit.c l0)), (13, .int .i64 (l0.length : Int)), (14, .int .i64 i3)], [(0, .box [.int .i64 0, .int .i64 0, .int .i64 0]), (1, .box [.int .i64 s1.place, .int .i64 s1.heat, .int .i64 s1.by_])], [], 2, Tryz.f108.ntmps⟩
noncomputable def heat_best.x0 : (heat_limit × Bool) → St := fun (s : heat_limit × Bool) => match s with
 | (s4, b5) => ⟨[(6, .ptr 0 0 0), (8, .ptr 0 1 0), (9, .bool b5)], [(0, .box [.int .i64 0, .int .i64 0, .int .i64 0]), (1, .box [.int .i64 s4.place, .int .i64 s4.heat, .int .i64 s4.by_])], [], 2, Tryz.f108.ntmps⟩
def heat_best (k : Nat) (l0 : (List heat_limit)) (place1 : Int) (better2 : Int → Int → Option (Bool)) : Option (heat_limit × Bool) :=
 (whl (heat_best.b0 k better2 l0 place1) k ((⟨0, 0, 0⟩ : heat_limit), false, 0)).bind fun r12 => match r12 with
 | .next _ => none
 | .ret v_ => some v_
 | .brk (s4, b5) =>
  some (s4, b5)
theorem heat_best_ok (k : Nat) (l0 : (List heat_limit)) (place1 : Int) (better2_f : Nat) (better2_c : List AV) (better2_i : Ice better2_c) (better2 : Int → Int → Option (Bool)) (better2_h : ∀ q0 q1 qr, better2 q0 q1 = some qr → PCall Tryz.prog better2_f (.int .i64 q0 :: .int .i64 q1 :: better2_c) (fun y => y = .bool qr)) (r : heat_limit × Bool) (h0 : heat_best k l0 place1 better2 = some r) : PCall Tryz.prog 108 [.sl 3 (List.map heat_limit.c l0), .int .i64 place1, .fn (.func better2_f) [] better2_c] (fun y => y = .tup [.agg (heat_limit.c r.1), .bool r.2]) := by
 refine PB (fn := Tryz.f108) (sc := F108.c) ?_
 refine rS ?_
 simp only [heat_best] at h0
 try simp only [F108.c, better2_i.sh, better2_i.frz, better2_i.br, better2_i.refs, better2_i.imp, better2_i.ren, better2_i.un, go_sem]
 obtain ⟨r12, yr12, h0⟩ := bs h0
 refine AKev_loopS yr12 (heat_best.h0 better2_f better2_c l0 place1) (heat_best.x0) ?_ ?_ ?_
 refine Weak.go [1, 2, 6, 8, 9, 12, 13, 14] [0, 32] rfl ?_
 try simp only [heat_best.h0, better2_i.sh, better2_i.frz, better2_i.br, better2_i.refs, better2_i.imp, better2_i.ren, better2_i.un, go_sem]
 rintro ⟨s1, b2, i3⟩ x_1 Bk1 Br1 h1 hnext1 hbrk1 hret1
 refine rS ?_
 simp only [heat_best.b0] at h1
 try simp only [F108.s0, heat_best.h0, better2_i.sh, better2_i.frz, better2_i.br, better2_i.refs, better2_i.imp, better2_i.ren, better2_i.un, go_sem]
 refine AKev_bif h1 ?_ ?_ <;> intro c6 h1
 try simp only [c6, better2_i.sh, better2_i.frz, better2_i.br, better2_i.refs, better2_i.imp, better2_i.ren, better2_i.un, go_sem]
 obtain ⟨x7, yx7, h1⟩ := bs h1
 try simp only [aa yx7, better2_i.sh, better2_i.frz, better2_i.br, better2_i.refs, better2_i.imp, better2_i.ren, better2_i.un, c6, go_sem]
 refine AKev_bif h1 ?_ ?_ <;> intro c8 h1
 try simp only [c8, better2_i.sh, better2_i.frz, better2_i.br, better2_i.refs, better2_i.imp, better2_i.ren, better2_i.un, c6, aa yx7, go_sem]
 refine AKev_bif h1 ?_ ?_ <;> intro c9 h1
 try simp only [c9, better2_i.sh, better2_i.frz, better2_i.br, better2_i.refs, better2_i.imp, better2_i.ren, better2_i.un, c6, aa yx7, c8, go_sem]
 obtain ⟨x10, yx10, h1⟩ := bs h1
 refine zc0 (better2_h _ _ _ yx10) ?_ (by first | rfl | simp [AV.refsL, AV.refs, AV.scal, AV.leaf, better2_i.refs]) ?_
 try simp only [better2_i.sh, better2_i.frz, better2_i.br, better2_i.refs, better2_i.imp, better2_i.ren, better2_i.un, c6, aa yx7, c8, c9, go_sem]
 try simp only [better2_i.sh, better2_i.frz, better2_i.br, better2_i.refs, better2_i.imp, better2_i.ren, better2_i.un, c6, aa yx7, c8, c9, go_sem]
 refine AKev_bif h1 ?_ ?_ <;> intro c11 h1
 try simp only [c11, better2_i.sh, better2_i.frz, better2_i.br, better2_i.refs, better2_i.imp, better2_i.ren, better2_i.un, c6, aa yx7, c8, c9, go_sem]
 refine AKev_backB (hnext1 _ _ (Option.some.inj h1).symm ?_)
 refine Weak.go [1, 2, 6, 8, 9, 12, 13, 14] [0, 1] rfl ?_
 try simp only [heat_best.h0, better2_i.sh, better2_i.frz, better2_i.br, better2_i.refs, better2_i.imp, better2_i.ren, better2_i.un, c6, aa yx7, c8, c9, c11, go_sem]
 try simp only [c11, better2_i.sh, better2_i.frz, better2_i.br, better2_i.refs, better2_i.imp, better2_i.ren, better2_i.un, c6, aa yx7, c8, c9, go_sem]
 refine AKev_backB (hnext1 _ _ (Option.some.inj h1).symm ?_)
 refine Weak.go [1, 2, 6, 8, 9, 12, 13, 14] [0, 1] rfl ?_
 try simp only [heat_best.h0, better2_i.sh, better2_i.frz, better2_i.br, better2_i.refs, better2_i.imp, better2_i.ren, better2_i.un, c6, aa yx7, c8, c9, c11, go_sem]
 try simp only [c9, better2_i.sh, better2_i.frz, better2_i.br, better2_i.refs, better2_i.imp, better2_i.ren, better2_i.un, c6, aa yx7, c8, go_sem]
 refine AKev_backB (hnext1 _ _ (Option.some.inj h1).symm ?_)
 refine Weak.go [1, 2, 6, 8, 9, 12, 13, 14] [0, 1] rfl ?_
 try simp only [heat_best.h0, better2_i.sh, better2_i.frz, better2_i.br, better2_i.refs, better2_i.imp, better2_i.ren, better2_i.un, c6, aa yx7, c8, c9, go_sem]
 try simp only [c8, better2_i.sh, better2_i.frz, better2_i.br, better2_i.refs, better2_i.imp, better2_i.ren, better2_i.un, c6, aa yx7, go_sem]
 refine AKev_backB (hnext1 _ _ (Option.some.inj h1).symm ?_)
 refine Weak.go [1, 2, 6, 8, 9, 12, 13, 14] [0, 1] rfl ?_
 try simp only [heat_best.h0, better2_i.sh, better2_i.frz, better2_i.br, better2_i.refs, better2_i.imp, better2_i.ren, better2_i.un, c6, aa yx7, c8, go_sem]
 try simp only [c6, better2_i.sh, better2_i.frz, better2_i.br, better2_i.refs, better2_i.imp, better2_i.ren, better2_i.un, go_sem]
 refine AKev_backB (hbrk1 _ _ (Option.some.inj h1).symm ?_)
 refine Weak.go [6, 8, 9] [0, 1] rfl ?_
 try simp only [heat_best.x0, better2_i.sh, better2_i.frz, better2_i.br, better2_i.refs, better2_i.imp, better2_i.ren, better2_i.un, c6, go_sem]
 rintro ⟨s4, b5⟩ hr_
 subst hr_
 simp only at h0
 refine rS ?_
 try simp only [heat_best.x0, better2_i.sh, better2_i.frz, better2_i.br, better2_i.refs, better2_i.imp, better2_i.ren, better2_i.un, go_sem]
 obtain rfl := Option.some.inj h0
 refine AKev_ret rfl ?_
 try simp only [F108.rs, better2_i.sh, better2_i.frz, better2_i.br, better2_i.refs, better2_i.imp, better2_i.ren, better2_i.un, go_sem]
def F109.c : SC :=
 (.seq
 (.reg [sb 4 false 4 [4]])
 (.seq
 (.reg [mv 5 0 3 [0],
 mv 6 1 3 [1],
 b2 7 .lss 3 5 6 3 4 [5, 6],
 sg 4 7 4 [7]])
 .ret))
theorem F109.rs : Tryz.f109.results.toList = [.tmp 4] := rfl
def heat_less (k : Nat) (a0 : Int) (b1 : Int) : Option (Bool) :=
 some (decide (a0 < b1))
theorem heat_less_ok (k : Nat) (a0 : Int) (b1 : Int) (r : Bool) (h0 : heat_less k a0 b1 = some r) : PCall Tryz.prog 109 [.int .i64 a0, .int .i64 b1] (fun y => y = .bool r) := by
 refine PB (fn := Tryz.f109) (sc := F109.c) ?_
 refine rS ?_
 simp only [heat_less] at h0
 try simp only [F109.c, go_sem]
 obtain rfl := Option.some.inj h0
 refine AKev_ret rfl ?_
 try simp only [F109.rs, go_sem]
def F110.s0 : SC :=
 (.seq
 (.reg [b2 16 .lss 3 15 14 3 4 []])
 (.seq
 (.cond (.tmp 16)
 .skip
 (.exit 0))
 (.seq
 (.block 1
 (.seq
 (.reg [mv 17 15 3 [],
 sg 7 17 3 [17]])
 (.seq
 (.seq
 (.reg [ld 19 81 3 [],
 mv 20 7 3 [],
 cf2 21 107 19 20 81 3 132 [19, 20],
 mv 18 21 132 [21],
 xt 22 18 0 3 [],
 xt 23 18 1 3 [18],
 sg 8 22 3 [22],
 sg 9 23 3 [9, 23]])
 (.seq
 (.reg [mv 24 8 3 [],
 bn 25 .lss 3 24 0 3 4 [24],
 mv 26 25 4 [25],
 og 27 (.move (.tmp 8)) 3 26 false [8],
 og 28 (.fieldAddr 81 (.tmp 3) 0) 0 26 false [],
 og 29 (.fieldAddr 27 (.tmp 28) 0) 0 26 false [28],
 og 30 (.fieldAddr 24 (.tmp 29) 0) 0 26 false [29],
 og 31 (.load 22 (.tmp 30)) 22 26 false [30],
 og 32 (.move (.tmp 7)) 3 26 false [7],
 og 33 (.indexAddr 22 (.tmp 31) (.tmp 32)) 0 26 false [31, 32],
 og 34 (.load 89 (.tmp 33)) 89 26 false [33],
 og 35 (.move (.tmp 1)) 3 26 false [],
 og 36 (.indexAddr 89 (.tmp 34) (.tmp 35)) 0 26 false [34, 35],
 og 37 (.fieldAddr 30 (.tmp 36) 0) 0 26 false [36],
 og 38 (.load 3 (.tmp 37)) 3 26 false [37],
 og 39 (.binOp .sub 3 (.tmp 27) (.tmp 38) 3) 3 26 false [27, 38],
 og 40 (.move (.tmp 2)) 3 26 false [],
 og 41 (.binOp .lss 3 (.tmp 39) (.tmp 40) 3) 4 26 false [39, 40],
 oq 42 (.pick (.tmp 26) (.const (.bool true)) (.tmp 41)) 4 [26, 41]])
 (.cond (.tmp 42)
 (.exit 1)
 .skip)))
 (.seq
 (.reg [sb 6 true 4 []])
 .ret))))
 (.reg [bn 43 .add 3 15 1 3 3 [15],
 mv 15 43 3 [43]]))))
def F110.c : SC :=
 (.seq
 (.reg [oq 3 (.box 81 (.tmp 0)) 0 [0],
 sb 6 false 4 [6]])
 (.seq
 .skip
 (.seq
 (.seq
 (.reg [fa 10 81 3 0 [],
 fa 11 27 10 0 [10],
 fa 12 24 11 0 [11],
 ld 13 22 12 [12],
 ln 14 13 22 3 [13],
 oq 15 (.move (.const (.int .i64 0))) 3 []])
 (.block 0
 (.loop F110.s0)))
 (.seq
 (.reg [sb 6 false 4 []])
 .ret))))
theorem F110.rs : Tryz.f110.results.toList = [.tmp 6] := rfl
def heat_furnace_reaches.b0 (k : Nat) (f0 : heat_furnace) (place1 : Int) (heat2 : Int) : Int → Option (Stp (Int) (Unit) (Bool)) := fun (i1 : Int) =>
 bif decide (i1 < (f0.Firing.Kiln.Falls.length : Int)) then
  (heat_furnace_hottest k f0 i1).bind fun x3 =>
  bif (!decide (x3.1 < (0 : Int))) then
   (at? f0.Firing.Kiln.Falls i1).bind fun x5 =>
   (at? x5 place1).bind fun x6 =>
   bif decide (w64 (x3.1 - x6.Lo) < heat2) then
    some (.next (w64 (i1 + 1)))
   else
    some (.ret true)
  else
   some (.next (w64 (i1 + 1)))
 else
  some (.brk ())
noncomputable def heat_furnace_reaches.h0 (f0 : heat_furnace) (place1 : Int) (heat2 : Int) : Int → St := fun (i1 : Int) => ⟨[(1, .int .i64 place1), (2, .int .i64 heat2), (3, .ptr 0 0 0), (14, .int .i64 (f0.Firing.Kiln.Falls.length : Int)), (15, .int .i64 i1)], [(0, .box [.sl 1 (List.map (eL 2 Range.c) f0.Firing.Kiln.Falls), .sl 6 (List.map Reading.c f0.Firing.Readings), .sl 3 (List.map heat_limit.c f0.least), .sl 3 (List.map heat_limit.c f0.most)])], [], 1, Tryz.f110.ntmps⟩
noncomputable def heat_furnace_reaches.x0 : Unit → St := fun (_ : Unit) => ⟨[], [], [], 1, Tryz.f110.ntmps⟩
def heat_furnace_reaches (k : Nat) (f0 : heat_furnace) (place1 : Int) (heat2 : Int) : Option (Bool) :=
 (whl (heat_furnace_reaches.b0 k f0 place1 heat2) k 0).bind fun r8 => match r8 with
 | .next _ => none
 | .ret v_ => some v_
 | .brk _ =>
  some false
theorem heat_furnace_reaches_ok (k : Nat) (f0 : heat_furnace) (place1 : Int) (heat2 : Int) (r : Bool) (h0 : heat_furnace_reaches k f0 place1 heat2 = some r) : PCall Tryz.prog 110 [.agg (heat_furnace.c f0), .int .i64 place1, .int .i64 heat2] (fun y => y = .bool r) := by
 refine PB (fn := Tryz.f110) (sc := F110.c) ?_
 refine rS ?_
 simp only [heat_furnace_reaches] at h0
 try simp only [F110.c, go_sem]
 obtain ⟨r8, yr8, h0⟩ := bs h0
 refine AKev_loopS yr8 (heat_furnace_reaches.h0 f0 place1 heat2) (heat_furnace_reaches.x0) ?_ ?_ ?_
 refine Weak.go [1, 2, 3, 14, 15] [0] rfl ?_
 try simp only [heat_furnace_reaches.h0, go_sem]
 rintro i1 x_1 Bk1 Br1 h1 hnext1 hbrk1 hret1
 refine rS ?_
 simp only [heat_furnace_reaches.b0] at h1
 try simp only [F110.s0, heat_furnace_reaches.h0, go_sem]
 refine AKev_bif h1 ?_ ?_ <;> intro c2 h1
 try simp only [c2, go_sem]
 obtain ⟨x3, yx3, h1⟩ := bs h1
 refine zc0 (heat_furnace_hottest_ok k _ _ _ yx3) ?_ (by first | rfl | simp [AV.refsL, AV.refs, AV.scal, AV.leaf]) ?_
 try simp only [c2, go_sem]
 try simp only [c2, go_sem]
 refine AKev_bif h1 ?_ ?_ <;> intro c4 h1
 have c4 := bnot_t c4
 try simp only [c4, c2, go_sem]
 obtain ⟨x5, yx5, h1⟩ := bs h1
 try simp only [aa yx5, c2, c4, go_sem]
 obtain ⟨x6, yx6, h1⟩ := bs h1
 try simp only [aa yx6, c2, c4, aa yx5, go_sem]
 refine AKev_bif h1 ?_ ?_ <;> intro c7 h1
 try simp only [c7, c2, c4, aa yx5, aa yx6, go_sem]
 refine AKev_backB (hnext1 _ _ (Option.some.inj h1).symm ?_)
 refine Weak.go [1, 2, 3, 14, 15] [0] rfl ?_
 try simp only [heat_furnace_reaches.h0, c2, c4, aa yx5, aa yx6, c7, go_sem]
 try simp only [c7, c2, c4, aa yx5, aa yx6, go_sem]
 obtain rfl := hret1 _ (Option.some.inj h1).symm
 simp only at h0
 obtain rfl := Option.some.inj h0
 refine AKev_ret rfl ?_
 try simp only [F110.rs, c2, c4, aa yx5, aa yx6, c7, go_sem]
 have c4 := bnot_f c4
 try simp only [c4, c2, go_sem]
 refine AKev_backB (hnext1 _ _ (Option.some.inj h1).symm ?_)
 refine Weak.go [1, 2, 3, 14, 15] [0] rfl ?_
 try simp only [heat_furnace_reaches.h0, c2, c4, go_sem]
 try simp only [c2, go_sem]
 refine AKev_backB (hbrk1 _ _ (Option.some.inj h1).symm ?_)
 refine Weak.go [] [] rfl ?_
 try simp only [heat_furnace_reaches.x0, c2, go_sem]
 rintro _ hr_
 subst hr_
 simp only at h0
 refine rS ?_
 try simp only [heat_furnace_reaches.x0, go_sem]
 obtain rfl := Option.some.inj h0
 refine AKev_ret rfl ?_
 try simp only [F110.rs, go_sem]
def F53.s1 : SC :=
 (.seq
 (.reg [b2 31 .lss 3 30 29 3 0 []])
 (.seq
 (.cond (.tmp 31)
 .skip
 (.exit 2))
 (.seq
 (.block 3
 (.seq
 (.reg [ia 32 79 28 30 [],
 ld 33 135 32 [32],
 oq 7 (.alloc 135) 0 [],
 ⟨none, .store 135 (.tmp 7) (.tmp 33), 0, none, [33]⟩])
 (.seq
 (.reg [fa 35 81 1 2 [],
 ld 36 79 35 [35],
 fa 37 135 7 0 [],
 ld 38 3 37 [37],
 oq 39 (.call ⟨.value (.func 108), #[.tmp 36, .tmp 38, .func 109], #[79, 3, 138]⟩) 136 [36, 38],
 mv 34 39 136 [39],
 xt 40 34 0 135 [],
 xt 41 34 1 4 [34],
 oq 8 (.alloc 135) 0 [],
 ⟨none, .store 135 (.tmp 8) (.tmp 40), 0, none, [40]⟩,
 sg 9 41 4 [41]])
 (.seq
 (.reg [mv 42 9 4 [9],
 mv 43 42 4 [42],
 og 44 (.fieldAddr 135 (.tmp 8) 1) 0 43 true [8],
 og 45 (.load 3 (.tmp 44)) 3 43 true [44],
 og 46 (.fieldAddr 135 (.tmp 7) 1) 0 43 true [],
 og 47 (.load 3 (.tmp 46)) 3 43 true [46],
 og 48 (.binOp .lss 3 (.tmp 45) (.tmp 47) 3) 4 43 true [45, 47],
 oq 49 (.pick (.tmp 43) (.tmp 48) (.const (.bool false))) 4 [43, 48],
 mv 50 49 4 [49],
 og 51 (.load 81 (.tmp 1)) 81 50 false [],
 og 52 (.fieldAddr 135 (.tmp 7) 0) 0 50 false [],
 og 53 (.load 3 (.tmp 52)) 3 50 false [52],
 og 54 (.fieldAddr 135 (.tmp 7) 1) 0 50 false [7],
 og 55 (.load 3 (.tmp 54)) 3 50 false [54],
 og 56 (.call ⟨.value (.func 110), #[.tmp 51, .tmp 53, .tmp 55], #[81, 3, 3]⟩) 4 50 false [51, 53, 55],
 og 57 (.unOp .not 4 (.tmp 56)) 4 50 false [56],
 oq 58 (.pick (.tmp 50) (.const (.bool true)) (.tmp 57)) 4 [50, 57]])
 (.cond (.tmp 58)
 (.seq
 (.reg [sb 2 false 4 []])
 .ret)
 .skip)))))
 (.reg [bn 59 .add 3 30 1 3 3 [30],
 mv 30 59 3 [59]]))))
def F53.s0 : SC :=
 (.seq
 (.reg [b2 16 .lss 3 15 14 3 4 []])
 (.seq
 (.cond (.tmp 16)
 .skip
 (.exit 0))
 (.seq
 (.block 1
 (.seq
 (.reg [mv 17 15 3 [],
 sg 3 17 3 [17]])
 (.seq
 (.reg [ld 19 81 1 [],
 mv 20 3 3 [3],
 cf2 21 107 19 20 81 3 132 [19, 20],
 mv 18 21 132 [21],
 xt 22 18 0 3 [],
 xt 23 18 1 3 [18],
 sg 4 22 3 [22],
 sg 5 23 3 [5, 23]])
 (.seq
 (.reg [mv 24 4 3 [4],
 bn 25 .lss 3 24 0 3 4 [24]])
 (.cond (.tmp 25)
 (.seq
 (.reg [sb 2 false 4 []])
 .ret)
 .skip)))))
 (.reg [bn 26 .add 3 15 1 3 3 [15],
 mv 15 26 3 [26]]))))
def F53.c : SC :=
 (.seq
 (.reg [oq 1 (.box 81 (.tmp 0)) 0 [0],
 sb 2 false 4 [2]])
 (.seq
 (.seq
 (.reg [fa 10 81 1 0 [],
 fa 11 27 10 0 [10],
 fa 12 24 11 0 [11],
 ld 13 22 12 [12],
 ln 14 13 22 3 [13],
 oq 15 (.move (.const (.int .i64 0))) 3 []])
 (.block 0
 (.loop F53.s0)))
 (.seq
 (.seq
 (.reg [fa 27 81 1 1 [],
 ld 28 79 27 [27],
 ln 29 28 79 3 [],
 oq 30 (.move (.const (.int .i64 0))) 3 []])
 (.block 2
 (.loop F53.s1)))
 (.seq
 (.reg [sb 2 true 4 []])
 .ret))))
theorem F53.rs : Tryz.f53.results.toList = [.tmp 2] := rfl
def heat_furnace_sound.b0 (k : Nat) (f0 : heat_furnace) : Int → Option (Stp (Int) (Unit) (Bool)) := fun (i1 : Int) =>
 bif decide (i1 < (f0.Firing.Kiln.Falls.length : Int)) then
  (heat_furnace_hottest k f0 i1).bind fun x3 =>
  bif decide (x3.1 < (0 : Int)) then
   some (.ret false)
  else
   some (.next (w64 (i1 + 1)))
 else
  some (.brk ())
def heat_furnace_sound.b1 (k : Nat) (f0 : heat_furnace) : Int → Option (Stp (Int) (Unit) (Bool)) := fun (i6 : Int) =>
 bif decide (i6 < (f0.least.length : Int)) then
  (at? f0.least i6).bind fun x8 =>
  (heat_best k f0.most x8.place (fun q0 q1 => heat_less k q0 q1)).bind fun x9 =>
  bif x9.2 then
   bif (!decide (x9.1.heat < x8.heat)) then
    (heat_furnace_reaches k f0 x8.place x8.heat).bind fun x12 =>
    bif (!x12) then
     some (.ret false)
    else
     some (.next (w64 (i6 + 1)))
   else
    some (.ret false)
  else
   (heat_furnace_reaches k f0 x8.place x8.heat).bind fun x14 =>
   bif (!x14) then
    some (.ret false)
   else
    some (.next (w64 (i6 + 1)))
 else
  some (.brk ())
noncomputable def heat_furnace_sound.h0 (f0 : heat_furnace) : Int → St := fun (i1 : Int) => ⟨[(1, .ptr 0 0 0), (14, .int .i64 (f0.Firing.Kiln.Falls.length : Int)), (15, .int .i64 i1)], [(0, .box [.sl 1 (List.map (eL 2 Range.c) f0.Firing.Kiln.Falls), .sl 6 (List.map Reading.c f0.Firing.Readings), .sl 3 (List.map heat_limit.c f0.least), .sl 3 (List.map heat_limit.c f0.most)])], [], 1, Tryz.f53.ntmps⟩
noncomputable def heat_furnace_sound.x0 (f0 : heat_furnace) : Unit → St := fun (_ : Unit) => ⟨[(1, .ptr 0 0 0)], [(0, .box [.sl 1 (List.map (eL 2 Range.c) f0.Firing.Kiln.Falls), .sl 6 (List.map Reading.c f0.Firing.Readings), .sl 3 (List.map heat_limit.c f0.least), .sl 3 (List.map heat_limit.c f0.most)])], [], 1, Tryz.f53.ntmps⟩
noncomputable def heat_furnace_sound.h1 (f0 : heat_furnace) : Int → St := fun (i6 : Int) => ⟨[(1, .ptr 0 0 0), (28, .sl 3 (List.map heat_limit.c f0.least)), (29, .int .i64 (f0.least.length : Int)), (30, .int .i64 i6)], [(0, .box [.sl 1 (List.map (eL 2 Range.c) f0.Firing.Kiln.Falls), .sl 6 (List.map Reading.c f0.Firing.Readings), .sl 3 (List.map heat_limit.c f0.least), .sl 3 (List.map heat_limit.c f0.most)])], [], 1, Tryz.f53.ntmps⟩
noncomputable def heat_furnace_sound.x1 : Unit → St := fun (_ : Unit) => ⟨[], [], [], 1, Tryz.f53.ntmps⟩
def heat_furnace_sound (k : Nat) (f0 : heat_furnace) : Option (Bool) :=
 (whl (heat_furnace_sound.b0 k f0) k 0).bind fun r5 => match r5 with
 | .next _ => none
 | .ret v_ => some v_
 | .brk _ =>
  (whl (heat_furnace_sound.b1 k f0) k 0).bind fun r16 => match r16 with
  | .next _ => none
  | .ret v_ => some v_
  | .brk _ =>
   some true
theorem heat_furnace_sound_ok (k : Nat) (f0 : heat_furnace) (r : Bool) (h0 : heat_furnace_sound k f0 = some r) : PCall Tryz.prog 53 [.agg (heat_furnace.c f0)] (fun y => y = .bool r) := by
 refine PB (fn := Tryz.f53) (sc := F53.c) ?_
 refine rS ?_
 simp only [heat_furnace_sound] at h0
 try simp only [F53.c, go_sem]
 obtain ⟨r5, yr5, h0⟩ := bs h0
 refine AKev_loopS yr5 (heat_furnace_sound.h0 f0) (heat_furnace_sound.x0 f0) ?_ ?_ ?_
 refine Weak.go [1, 14, 15] [0] rfl ?_
 try simp only [heat_furnace_sound.h0, go_sem]
 rintro i1 x_1 Bk1 Br1 h1 hnext1 hbrk1 hret1
 refine rS ?_
 simp only [heat_furnace_sound.b0] at h1
 try simp only [F53.s0, heat_furnace_sound.h0, go_sem]
 refine AKev_bif h1 ?_ ?_ <;> intro c2 h1
 try simp only [c2, go_sem]
 obtain ⟨x3, yx3, h1⟩ := bs h1
 refine zc0 (heat_furnace_hottest_ok k _ _ _ yx3) ?_ (by first | rfl | simp [AV.refsL, AV.refs, AV.scal, AV.leaf]) ?_
 try simp only [c2, go_sem]
 try simp only [c2, go_sem]
 refine AKev_bif h1 ?_ ?_ <;> intro c4 h1
 try simp only [c4, c2, go_sem]
 obtain rfl := hret1 _ (Option.some.inj h1).symm
 simp only at h0
 obtain rfl := Option.some.inj h0
 refine AKev_ret rfl ?_
 try simp only [F53.rs, c2, c4, go_sem]
 try simp only [c4, c2, go_sem]
 refine AKev_backB (hnext1 _ _ (Option.some.inj h1).symm ?_)
 refine Weak.go [1, 14, 15] [0] rfl ?_
 try simp only [heat_furnace_sound.h0, c2, c4, go_sem]
 try simp only [c2, go_sem]
 refine AKev_backB (hbrk1 _ _ (Option.some.inj h1).symm ?_)
 refine Weak.go [1] [0] rfl ?_
 try simp only [heat_furnace_sound.x0, c2, go_sem]
 rintro _ hr_
 subst hr_
 simp only at h0
 refine rS ?_
 try simp only [heat_furnace_sound.x0, go_sem]
 obtain ⟨r16, yr16, h0⟩ := bs h0
 refine AKev_loopS yr16 (heat_furnace_sound.h1 f0) (heat_furnace_sound.x1) ?_ ?_ ?_
 refine Weak.go [1, 28, 29, 30] [0] rfl ?_
 try simp only [heat_furnace_sound.h1, go_sem]
 rintro i6 x_1 Bk1 Br1 h1 hnext1 hbrk1 hret1
 refine rS ?_
 simp only [heat_furnace_sound.b1] at h1
 try simp only [F53.s1, heat_furnace_sound.h1, go_sem]
 refine AKev_bif h1 ?_ ?_ <;> intro c7 h1
 try simp only [c7, go_sem]
 obtain ⟨x8, yx8, h1⟩ := bs h1
 try simp only [aa yx8, c7, go_sem]
 obtain ⟨x9, yx9, h1⟩ := bs h1
 refine zc0 (heat_best_ok k _ _ 109 [] ⟨fun _ => rfl, fun _ => rfl, fun _ _ => rfl, rfl, fun _ => rfl, fun _ => rfl, fun _ => rfl⟩ (fun q0 q1 => heat_less k q0 q1) (fun q0 q1 qr qh => heat_less_ok k q0 q1 qr qh) _ yx9) ?_ (by first | rfl | simp [AV.refsL, AV.refs, AV.scal, AV.leaf]) ?_
 try simp only [c7, aa yx8, go_sem]
 try simp only [c7, aa yx8, go_sem]
 refine AKev_bif h1 ?_ ?_ <;> intro c10 h1
 try simp only [c10, c7, aa yx8, go_sem]
 refine AKev_bif h1 ?_ ?_ <;> intro c11 h1
 have c11 := bnot_t c11
 try simp only [c11, c7, aa yx8, c10, go_sem]
 obtain ⟨x12, yx12, h1⟩ := bs h1
 refine zc0 (heat_furnace_reaches_ok k _ _ _ _ yx12) ?_ (by first | rfl | simp [AV.refsL, AV.refs, AV.scal, AV.leaf]) ?_
 try simp only [c7, aa yx8, c10, c11, go_sem]
 try simp only [c7, aa yx8, c10, c11, go_sem]
 refine AKev_bif h1 ?_ ?_ <;> intro c13 h1
 have c13 := bnot_t c13
 try simp only [c13, c7, aa yx8, c10, c11, go_sem]
 obtain rfl := hret1 _ (Option.some.inj h1).symm
 simp only at h0
 obtain rfl := Option.some.inj h0
 refine AKev_ret rfl ?_
 try simp only [F53.rs, c7, aa yx8, c10, c11, c13, go_sem]
 have c13 := bnot_f c13
 try simp only [c13, c7, aa yx8, c10, c11, go_sem]
 refine AKev_backB (hnext1 _ _ (Option.some.inj h1).symm ?_)
 refine Weak.go [1, 28, 29, 30] [0] rfl ?_
 try simp only [heat_furnace_sound.h1, c7, aa yx8, c10, c11, c13, go_sem]
 have c11 := bnot_f c11
 try simp only [c11, c7, aa yx8, c10, go_sem]
 obtain rfl := hret1 _ (Option.some.inj h1).symm
 simp only at h0
 obtain rfl := Option.some.inj h0
 refine AKev_ret rfl ?_
 try simp only [F53.rs, c7, aa yx8, c10, c11, go_sem]
 try simp only [c10, c7, aa yx8, go_sem]
 obtain ⟨x14, yx14, h1⟩ := bs h1
 refine zc0 (heat_furnace_reaches_ok k _ _ _ _ yx14) ?_ (by first | rfl | simp [AV.refsL, AV.refs, AV.scal, AV.leaf]) ?_
 try simp only [c7, aa yx8, c10, go_sem]
 try simp only [c7, aa yx8, c10, go_sem]
 refine AKev_bif h1 ?_ ?_ <;> intro c15 h1
 have c15 := bnot_t c15
 try simp only [c15, c7, aa yx8, c10, go_sem]
 obtain rfl := hret1 _ (Option.some.inj h1).symm
 simp only at h0
 obtain rfl := Option.some.inj h0
 refine AKev_ret rfl ?_
 try simp only [F53.rs, c7, aa yx8, c10, c15, go_sem]
 have c15 := bnot_f c15
 try simp only [c15, c7, aa yx8, c10, go_sem]
 refine AKev_backB (hnext1 _ _ (Option.some.inj h1).symm ?_)
 refine Weak.go [1, 28, 29, 30] [0] rfl ?_
 try simp only [heat_furnace_sound.h1, c7, aa yx8, c10, c15, go_sem]
 try simp only [c7, go_sem]
 refine AKev_backB (hbrk1 _ _ (Option.some.inj h1).symm ?_)
 refine Weak.go [] [] rfl ?_
 try simp only [heat_furnace_sound.x1, c7, go_sem]
 rintro _ hr_
 subst hr_
 simp only at h0
 refine rS ?_
 try simp only [heat_furnace_sound.x1, go_sem]
 obtain rfl := Option.some.inj h0
 refine AKev_ret rfl ?_
 try simp only [F53.rs, go_sem]
def F102.c : SC :=
 (.seq
 (.reg [oq 1 (.box 128 (.tmp 0)) 0 [0],
 sn 2 0 3 [2],
 sb 3 false 4 [3]])
 (.seq
 (.seq
 (.reg [fa 4 128 1 0 [],
 fa 5 64 4 2 [4],
 ld 6 3 5 [5]])
 (.block 0
 (.seq
 (.reg [bn 8 .eql 3 6 1 3 4 [],
 sg 7 8 4 [8]])
 (.cond (.tmp 7)
 (.seq
 (.reg [fa 9 128 1 0 [1],
 fa 10 64 9 3 [9],
 ld 11 3 10 [10],
 sg 2 11 3 [11],
 sb 3 true 4 []])
 .ret)
 (.seq
 (.reg [bn 13 .eql 3 6 3 3 4 [6],
 sg 12 13 4 [13]])
 (.cond (.tmp 12)
 (.seq
 (.reg [fa 14 128 1 0 [1],
 fa 15 64 14 4 [14],
 fa 16 30 15 0 [15],
 ld 17 3 16 [16],
 sg 2 17 3 [17],
 sb 3 true 4 []])
 .ret)
 .skip))))))
 (.seq
 (.reg [sn 2 0 3 [],
 sb 3 false 4 []])
 .ret)))
theorem F102.rs : Tryz.f102.results.toList = [.tmp 2, .tmp 3] := rfl
def heat_reading_least (k : Nat) (r0 : heat_reading) : Option (Int × Bool) :=
 bif decide (r0.Reading.Kind = (1 : Int)) then
  some (r0.Reading.Mark, true)
 else
  bif decide (r0.Reading.Kind = (3 : Int)) then
   some (r0.Reading.Heat.Lo, true)
  else
   some (0, false)
theorem heat_reading_least_ok (k : Nat) (r0 : heat_reading) (r : Int × Bool) (h0 : heat_reading_least k r0 = some r) : PCall Tryz.prog 102 [.agg (heat_reading.c r0)] (fun y => y = .tup [.int .i64 r.1, .bool r.2]) := by
 refine PB (fn := Tryz.f102) (sc := F102.c) ?_
 refine rS ?_
 simp only [heat_reading_least] at h0
 try simp only [F102.c, go_sem]
 refine AKev_bif h0 ?_ ?_ <;> intro c1 h0
 try simp only [c1, go_sem]
 obtain rfl := Option.some.inj h0
 refine AKev_ret rfl ?_
 try simp only [F102.rs, c1, go_sem]
 try simp only [c1, go_sem]
 refine AKev_bif h0 ?_ ?_ <;> intro c2 h0
 try simp only [c2, c1, go_sem]
 obtain rfl := Option.some.inj h0
 refine AKev_ret rfl ?_
 try simp only [F102.rs, c1, c2, go_sem]
 try simp only [c2, c1, go_sem]
 obtain rfl := Option.some.inj h0
 refine AKev_ret rfl ?_
 try simp only [F102.rs, c1, c2, go_sem]
def F103.c : SC :=
 (.seq
 (.reg [oq 1 (.box 128 (.tmp 0)) 0 [0],
 sn 2 0 3 [2],
 sb 3 false 4 [3]])
 (.seq
 (.seq
 (.reg [fa 4 128 1 0 [],
 fa 5 64 4 2 [4],
 ld 6 3 5 [5]])
 (.block 0
 (.seq
 (.reg [bn 8 .eql 3 6 2 3 4 [],
 sg 7 8 4 [8]])
 (.cond (.tmp 7)
 (.seq
 (.reg [fa 9 128 1 0 [1],
 fa 10 64 9 3 [9],
 ld 11 3 10 [10],
 bn 12 .sub 3 11 1 3 3 [11],
 sg 2 12 3 [12],
 sb 3 true 4 []])
 .ret)
 (.seq
 (.reg [bn 14 .eql 3 6 3 3 4 [6],
 sg 13 14 4 [14]])
 (.cond (.tmp 13)
 (.seq
 (.reg [fa 15 128 1 0 [1],
 fa 16 64 15 4 [15],
 fa 17 30 16 1 [16],
 ld 18 3 17 [17],
 sg 2 18 3 [18],
 sb 3 true 4 []])
 .ret)
 .skip))))))
 (.seq
 (.reg [sn 2 0 3 [],
 sb 3 false 4 []])
 .ret)))
theorem F103.rs : Tryz.f103.results.toList = [.tmp 2, .tmp 3] := rfl
def heat_reading_most (k : Nat) (r0 : heat_reading) : Option (Int × Bool) :=
 bif decide (r0.Reading.Kind = (2 : Int)) then
  some (w64 (r0.Reading.Mark - 1), true)
 else
  bif decide (r0.Reading.Kind = (3 : Int)) then
   some (r0.Reading.Heat.Hi, true)
  else
   some (0, false)
theorem heat_reading_most_ok (k : Nat) (r0 : heat_reading) (r : Int × Bool) (h0 : heat_reading_most k r0 = some r) : PCall Tryz.prog 103 [.agg (heat_reading.c r0)] (fun y => y = .tup [.int .i64 r.1, .bool r.2]) := by
 refine PB (fn := Tryz.f103) (sc := F103.c) ?_
 refine rS ?_
 simp only [heat_reading_most] at h0
 try simp only [F103.c, go_sem]
 refine AKev_bif h0 ?_ ?_ <;> intro c1 h0
 try simp only [c1, go_sem]
 obtain rfl := Option.some.inj h0
 refine AKev_ret rfl ?_
 try simp only [F103.rs, c1, go_sem]
 try simp only [c1, go_sem]
 refine AKev_bif h0 ?_ ?_ <;> intro c2 h0
 try simp only [c2, c1, go_sem]
 obtain rfl := Option.some.inj h0
 refine AKev_ret rfl ?_
 try simp only [F103.rs, c1, c2, go_sem]
 try simp only [c2, c1, go_sem]
 obtain rfl := Option.some.inj h0
 refine AKev_ret rfl ?_
 try simp only [F103.rs, c1, c2, go_sem]
def F66.s0 : SC :=
 (.seq
 (.reg [b2 16 .lss 3 15 14 3 0 []])
 (.seq
 (.cond (.tmp 16)
 .skip
 (.exit 0))
 (.seq
 (.block 1
 (.seq
 (.reg [mv 17 15 3 [],
 ia 18 25 13 15 [],
 ld 19 64 18 [18],
 oq 5 (.alloc 64) 0 [],
 sg 4 17 3 [17],
 ⟨none, .store 64 (.tmp 5) (.tmp 19), 0, none, [19]⟩])
 (.seq
 (.seq
 (.reg [ld 21 64 5 [],
 oq 22 (.build 128 #[(0, .tmp 21)]) 128 [21],
 cf1 23 102 22 128 126 [22],
 mv 20 23 126 [23],
 xt 24 20 0 3 [],
 xt 25 20 1 4 [20],
 sg 6 24 3 [24],
 sg 7 25 4 [25]])
 (.seq
 (.reg [mv 26 7 4 [7]])
 (.cond (.tmp 26)
 (.reg [fa 27 81 3 1 [],
 ld 28 79 27 [27],
 fa 29 64 5 1 [],
 ld 30 3 29 [29],
 mv 31 6 3 [6],
 mv 32 4 3 [],
 oq 33 (.build 135 #[(0, .tmp 30), (1, .tmp 31), (2, .tmp 32)]) 135 [30, 31, 32],
 oq 34 (.buildSlice 79 1 #[(0, .tmp 33)]) 79 [33],
 oq 35 (.call ⟨.builtin .append, #[.tmp 28, .tmp 34], #[79, 79]⟩) 79 [28, 34],
 fa 36 81 3 1 [],
 ⟨none, .store 79 (.tmp 36) (.tmp 35), 0, none, [35, 36]⟩])
 .skip)))
 (.seq
 (.reg [ld 38 64 5 [],
 oq 39 (.build 128 #[(0, .tmp 38)]) 128 [38],
 cf1 40 103 39 128 126 [39],
 mv 37 40 126 [40],
 xt 41 37 0 3 [],
 xt 42 37 1 4 [37],
 sg 8 41 3 [41],
 sg 9 42 4 [42]])
 (.seq
 (.reg [mv 43 9 4 [9]])
 (.cond (.tmp 43)
 (.reg [fa 44 81 3 2 [],
 ld 45 79 44 [44],
 fa 46 64 5 1 [5],
 ld 47 3 46 [46],
 mv 48 8 3 [8],
 mv 49 4 3 [4],
 oq 50 (.build 135 #[(0, .tmp 47), (1, .tmp 48), (2, .tmp 49)]) 135 [47, 48, 49],
 oq 51 (.buildSlice 79 1 #[(0, .tmp 50)]) 79 [50],
 oq 52 (.call ⟨.builtin .append, #[.tmp 45, .tmp 51], #[79, 79]⟩) 79 [45, 51],
 fa 53 81 3 2 [],
 ⟨none, .store 79 (.tmp 53) (.tmp 52), 0, none, [52, 53]⟩])
 .skip))))))
 (.reg [bn 54 .add 3 15 1 3 3 [15],
 mv 15 54 3 [54]]))))
def F66.c : SC :=
 (.seq
 (.reg [oq 1 (.box 27 (.tmp 0)) 0 [0],
 oq 2 (.alloc 81) 0 []])
 (.seq
 (.reg [ld 10 27 1 [],
 oq 11 (.build 81 #[(0, .tmp 10)]) 81 [10],
 oq 3 (.alloc 81) 0 [],
 ⟨none, .store 81 (.tmp 3) (.tmp 11), 0, none, [11]⟩])
 (.seq
 (.seq
 (.reg [fa 12 27 1 1 [1],
 ld 13 25 12 [12],
 ln 14 13 25 3 [],
 oq 15 (.move (.const (.int .i64 0))) 3 []])
 (.block 0
 (.loop F66.s0)))
 (.seq
 (.reg [ld 55 81 3 [3],
 ⟨none, .store 81 (.tmp 2) (.tmp 55), 0, none, [55]⟩])
 .ret))))
theorem F66.rs : Tryz.f66.results.toList = [.cell 2 81] := rfl
def heat_newFurnace.b0 (k : Nat) (f0 : Firing) : (Int × (List heat_limit) × (List heat_limit)) → Option (Stp (Int × (List heat_limit) × (List heat_limit)) ((List heat_limit) × (List heat_limit)) (heat_furnace)) := fun (s : Int × (List heat_limit) × (List heat_limit)) => match s with
 | (i1, l2, l3) =>
   bif decide (i1 < (f0.Readings.length : Int)) then
    (at? f0.Readings i1).bind fun x7 =>
    (heat_reading_least k (⟨x7⟩ : heat_reading)).bind fun x8 =>
    bif x8.2 then
     (push? 24 l2 (⟨x7.Place, x8.1, i1⟩ : heat_limit)).bind fun l10 =>
     (heat_reading_most k (⟨x7⟩ : heat_reading)).bind fun x11 =>
     bif x11.2 then
      (push? 24 l3 (⟨x7.Place, x11.1, i1⟩ : heat_limit)).bind fun l13 =>
      some (.next (w64 (i1 + 1), l10, l13))
     else
      some (.next (w64 (i1 + 1), l10, l3))
    else
     (heat_reading_most k (⟨x7⟩ : heat_reading)).bind fun x14 =>
     bif x14.2 then
      (push? 24 l3 (⟨x7.Place, x14.1, i1⟩ : heat_limit)).bind fun l16 =>
      some (.next (w64 (i1 + 1), l2, l16))
     else
      some (.next (w64 (i1 + 1), l2, l3))
   else
    some (.brk (l2, l3))
noncomputable def heat_newFurnace.h0 (f0 : Firing) : (Int × (List heat_limit) × (List heat_limit)) → St := fun (s : Int × (List heat_limit) × (List heat_limit)) => match s with
 | (i1, l2, l3) => ⟨[(2, .ptr 0 0 0), (3, .ptr 0 5 0), (13, .sl 6 (List.map Reading.c f0.Readings)), (14, .int .i64 (f0.Readings.length : Int)), (15, .int .i64 i1)], [(0, .box [.loc 0 1 1 0 0 0, .loc 0 2 6 0 0 0, .loc 0 3 3 0 0 0, .loc 0 4 3 0 0 0]), (1, .arr 89 1 (List.map (eL 2 Range.c) [])), (2, .arr 64 6 (List.map Reading.c [])), (3, .arr 135 3 (List.map heat_limit.c [])), (4, .arr 135 3 (List.map heat_limit.c [])), (5, .box [.sl 1 (List.map (eL 2 Range.c) f0.Kiln.Falls), .sl 6 (List.map Reading.c f0.Readings), .loc 0 6 3 0 l2.length l2.length, .loc 0 7 3 0 l3.length l3.length]), (6, .arr 135 3 (List.map heat_limit.c l2)), (7, .arr 135 3 (List.map heat_limit.c l3))], [], 8, Tryz.f66.ntmps⟩
noncomputable def heat_newFurnace.x0 (f0 : Firing) : ((List heat_limit) × (List heat_limit)) → St := fun (s : (List heat_limit) × (List heat_limit)) => match s with
 | (l4, l5) => ⟨[(2, .ptr 0 0 0), (3, .ptr 0 5 0)], [(0, .box [.loc 0 1 1 0 0 0, .loc 0 2 6 0 0 0, .loc 0 3 3 0 0 0, .loc 0 4 3 0 0 0]), (1, .arr 89 1 (List.map (eL 2 Range.c) [])), (2, .arr 64 6 (List.map Reading.c [])), (3, .arr 135 3 (List.map heat_limit.c [])), (4, .arr 135 3 (List.map heat_limit.c [])), (5, .box [.sl 1 (List.map (eL 2 Range.c) f0.Kiln.Falls), .sl 6 (List.map Reading.c f0.Readings), .loc 0 6 3 0 l4.length l4.length, .loc 0 7 3 0 l5.length l5.length]), (6, .arr 135 3 (List.map heat_limit.c l4)), (7, .arr 135 3 (List.map heat_limit.c l5))], [], 8, Tryz.f66.ntmps⟩
def heat_newFurnace (k : Nat) (f0 : Firing) : Option (heat_furnace) :=
 (whl (heat_newFurnace.b0 k f0) k (0, [], [])).bind fun r17 => match r17 with
 | .next _ => none
 | .ret v_ => some v_
 | .brk (l4, l5) =>
  some (⟨f0, l4, l5⟩ : heat_furnace)
theorem heat_newFurnace_ok (k : Nat) (f0 : Firing) (r : heat_furnace) (h0 : heat_newFurnace k f0 = some r) : PCall Tryz.prog 66 [.agg (Firing.c f0)] (fun y => y = .agg (heat_furnace.c r)) := by
 refine PB (fn := Tryz.f66) (sc := F66.c) ?_
 refine rS ?_
 simp only [heat_newFurnace] at h0
 try simp only [F66.c, go_sem]
 obtain ⟨r17, yr17, h0⟩ := bs h0
 refine AKev_loopS yr17 (heat_newFurnace.h0 f0) (heat_newFurnace.x0 f0) ?_ ?_ ?_
 refine Weak.go [2, 3, 13, 14, 15] [16, 17, 18, 19, 20, 64, 80, 81] rfl ?_
 try simp only [heat_newFurnace.h0, go_sem]
 rintro ⟨i1, l2, l3⟩ x_1 Bk1 Br1 h1 hnext1 hbrk1 hret1
 refine rS ?_
 simp only [heat_newFurnace.b0] at h1
 try simp only [F66.s0, heat_newFurnace.h0, go_sem]
 refine AKev_bif h1 ?_ ?_ <;> intro c6 h1
 try simp only [c6, go_sem]
 obtain ⟨x7, yx7, h1⟩ := bs h1
 try simp only [aa yx7, c6, go_sem]
 obtain ⟨x8, yx8, h1⟩ := bs h1
 refine zc0 (heat_reading_least_ok k _ _ yx8) ?_ (by first | rfl | simp [AV.refsL, AV.refs, AV.scal, AV.leaf]) ?_
 try simp only [c6, aa yx7, go_sem]
 try simp only [c6, aa yx7, go_sem]
 refine AKev_bif h1 ?_ ?_ <;> intro c9 h1
 try simp only [c9, c6, aa yx7, go_sem]
 obtain ⟨l10, yl10, h1⟩ := bs h1
 have eyl10 := push_map heat_limit.c yl10
 have tyl10 := push_take heat_limit.c yl10
 have nyl10 := push_len yl10
 have myl10 := push_room yl10
 try simp only [c6, aa yx7, c9, go_sem] at eyl10 tyl10 nyl10 myl10
 try simp only [myl10, eyl10, c6, aa yx7, c9, nyl10, tyl10, go_sem]
 obtain ⟨x11, yx11, h1⟩ := bs h1
 refine zc0 (heat_reading_most_ok k _ _ yx11) ?_ (by first | rfl | simp [AV.refsL, AV.refs, AV.scal, AV.leaf]) ?_
 try simp only [c6, aa yx7, c9, eyl10, nyl10, tyl10, go_sem]
 try simp only [c6, aa yx7, c9, eyl10, nyl10, tyl10, go_sem]
 refine AKev_bif h1 ?_ ?_ <;> intro c12 h1
 try simp only [c12, c6, aa yx7, c9, eyl10, nyl10, tyl10, go_sem]
 obtain ⟨l13, yl13, h1⟩ := bs h1
 have eyl13 := push_map heat_limit.c yl13
 have tyl13 := push_take heat_limit.c yl13
 have nyl13 := push_len yl13
 have myl13 := push_room yl13
 try simp only [c6, aa yx7, c9, eyl10, nyl10, tyl10, c12, go_sem] at eyl13 tyl13 nyl13 myl13
 try simp only [myl13, eyl13, c6, aa yx7, c9, eyl10, nyl10, tyl10, c12, nyl13, tyl13, go_sem]
 refine AKev_backB (hnext1 _ _ (Option.some.inj h1).symm ?_)
 refine Weak.go [2, 3, 13, 14, 15] [0, 1, 2, 3, 4, 5, 6, 7] rfl ?_
 try simp only [heat_newFurnace.h0, c6, aa yx7, c9, eyl10, nyl10, tyl10, c12, eyl13, nyl13, tyl13, go_sem]
 try simp only [c12, c6, aa yx7, c9, eyl10, nyl10, tyl10, go_sem]
 refine AKev_backB (hnext1 _ _ (Option.some.inj h1).symm ?_)
 refine Weak.go [2, 3, 13, 14, 15] [0, 1, 2, 3, 4, 5, 6, 7] rfl ?_
 try simp only [heat_newFurnace.h0, c6, aa yx7, c9, eyl10, nyl10, tyl10, c12, go_sem]
 try simp only [c9, c6, aa yx7, go_sem]
 obtain ⟨x14, yx14, h1⟩ := bs h1
 refine zc0 (heat_reading_most_ok k _ _ yx14) ?_ (by first | rfl | simp [AV.refsL, AV.refs, AV.scal, AV.leaf]) ?_
 try simp only [c6, aa yx7, c9, go_sem]
 try simp only [c6, aa yx7, c9, go_sem]
 refine AKev_bif h1 ?_ ?_ <;> intro c15 h1
 try simp only [c15, c6, aa yx7, c9, go_sem]
 obtain ⟨l16, yl16, h1⟩ := bs h1
 have eyl16 := push_map heat_limit.c yl16
 have tyl16 := push_take heat_limit.c yl16
 have nyl16 := push_len yl16
 have myl16 := push_room yl16
 try simp only [c6, aa yx7, c9, c15, go_sem] at eyl16 tyl16 nyl16 myl16
 try simp only [myl16, eyl16, c6, aa yx7, c9, c15, nyl16, tyl16, go_sem]
 refine AKev_backB (hnext1 _ _ (Option.some.inj h1).symm ?_)
 refine Weak.go [2, 3, 13, 14, 15] [0, 1, 2, 3, 4, 5, 6, 7] rfl ?_
 try simp only [heat_newFurnace.h0, c6, aa yx7, c9, c15, eyl16, nyl16, tyl16, go_sem]
 try simp only [c15, c6, aa yx7, c9, go_sem]
 refine AKev_backB (hnext1 _ _ (Option.some.inj h1).symm ?_)
 refine Weak.go [2, 3, 13, 14, 15] [0, 1, 2, 3, 4, 5, 6, 7] rfl ?_
 try simp only [heat_newFurnace.h0, c6, aa yx7, c9, c15, go_sem]
 try simp only [c6, go_sem]
 refine AKev_backB (hbrk1 _ _ (Option.some.inj h1).symm ?_)
 refine Weak.go [2, 3] [0, 1, 2, 3, 4, 5, 6, 7] rfl ?_
 try simp only [heat_newFurnace.x0, c6, go_sem]
 rintro ⟨l4, l5⟩ hr_
 subst hr_
 simp only at h0
 refine rS ?_
 try simp only [heat_newFurnace.x0, go_sem]
 obtain rfl := Option.some.inj h0
 refine AKev_ret rfl ?_
 try simp only [F66.rs, go_sem]
def F76.c : SC :=
 (.seq
 (.reg [oq 2 (.box 27 (.tmp 0)) 0 [0],
 oq 4 (.alloc 81) 0 [],
 sn 5 0 33 [5]])
 (.seq
 (.reg [ld 7 27 2 [],
 cf1 8 66 7 27 81 [7],
 oq 6 (.alloc 81) 0 [],
 ⟨none, .store 81 (.tmp 6) (.tmp 8), 0, none, [8]⟩])
 (.seq
 (.block 0
 (.seq
 (.reg [ld 10 27 2 [],
 cf1 11 42 10 27 33 [10],
 bn 12 .neq 33 11 0 33 4 [11],
 sg 9 12 4 [12]])
 (.cond (.tmp 9)
 (.seq
 (.reg [oq 13 (.build 81 #[]) 81 [],
 ⟨none, .store 81 (.tmp 4) (.tmp 13), 0, none, [13]⟩,
 sn 5 42 33 []])
 .ret)
 (.seq
 (.reg [mv 15 1 3 [1],
 fa 16 27 2 0 [2],
 fa 17 24 16 0 [16],
 ld 18 22 17 [17],
 oq 19 (.indexAddr 22 (.tmp 18) (.const (.int .i64 0))) 0 [18],
 ld 20 89 19 [19],
 ln 21 20 89 3 [20],
 bn 22 .sub 3 21 1 3 3 [21],
 oq 23 (.call ⟨.value (.func 58), #[.tmp 15, .const (.int .i64 0), .tmp 22], #[3, 3, 3]⟩) 4 [15, 22],
 oq 24 (.unOp .not 4 (.tmp 23)) 4 [23],
 sg 14 24 4 [24]])
 (.cond (.tmp 14)
 (.seq
 (.reg [oq 25 (.build 81 #[]) 81 [],
 ⟨none, .store 81 (.tmp 4) (.tmp 25), 0, none, [25]⟩,
 sn 5 43 33 []])
 .ret)
 (.seq
 (.reg [ld 27 81 6 [],
 cf1 28 53 27 81 4 [27],
 oq 29 (.unOp .not 4 (.tmp 28)) 4 [28],
 sg 26 29 4 [29]])
 (.cond (.tmp 26)
 (.seq
 (.reg [oq 30 (.build 81 #[]) 81 [],
 ⟨none, .store 81 (.tmp 4) (.tmp 30), 0, none, [30]⟩,
 sn 5 44 33 []])
 .ret)
 .skip)))))))
 (.seq
 (.reg [ld 31 81 6 [6],
 ⟨none, .store 81 (.tmp 4) (.tmp 31), 0, none, [31]⟩,
 sn 5 0 33 []])
 .ret))))
theorem F76.rs : Tryz.f76.results.toList = [.cell 4 81, .tmp 5] := rfl
def heat_asks (k : Nat) (f0 : Firing) (place1 : Int) : Option (heat_furnace × Int) :=
 (heat_newFurnace k f0).bind fun x1 =>
 (heat_Check k f0).bind fun x2 =>
 bif (!decide (x2 = (0 : Int))) then
  some ((⟨(⟨(⟨[]⟩ : Kiln), []⟩ : Firing), [], []⟩ : heat_furnace), 42)
 else
  (at? f0.Kiln.Falls 0).bind fun x4 =>
  (heat_in k place1 0 (w64 ((x4.length : Int) - 1))).bind fun x5 =>
  bif (!x5) then
   some ((⟨(⟨(⟨[]⟩ : Kiln), []⟩ : Firing), [], []⟩ : heat_furnace), 43)
  else
   (heat_furnace_sound k x1).bind fun x7 =>
   bif (!x7) then
    some ((⟨(⟨(⟨[]⟩ : Kiln), []⟩ : Firing), [], []⟩ : heat_furnace), 44)
   else
    some (x1, 0)
theorem heat_asks_ok (k : Nat) (f0 : Firing) (place1 : Int) (r : heat_furnace × Int) (h0 : heat_asks k f0 place1 = some r) : PCall Tryz.prog 76 [.agg (Firing.c f0), .int .i64 place1] (fun y => y = .tup [.agg (heat_furnace.c r.1), .int .i64 r.2]) := by
 refine PB (fn := Tryz.f76) (sc := F76.c) ?_
 refine rS ?_
 simp only [heat_asks] at h0
 try simp only [F76.c, go_sem]
 obtain ⟨x1, yx1, h0⟩ := bs h0
 refine zc0 (heat_newFurnace_ok k _ _ yx1) ?_ (by first | rfl | simp [AV.refsL, AV.refs, AV.scal, AV.leaf]) ?_
 try simp only [go_sem]
 try simp only [go_sem]
 obtain ⟨x2, yx2, h0⟩ := bs h0
 refine zc0 (heat_Check_ok k _ _ yx2) ?_ (by first | rfl | simp [AV.refsL, AV.refs, AV.scal, AV.leaf]) ?_
 try simp only [go_sem]
 try simp only [go_sem]
 refine AKev_bif h0 ?_ ?_ <;> intro c3 h0
 have c3 := bnot_t c3
 try simp only [c3, go_sem]
 obtain rfl := Option.some.inj h0
 refine AKev_ret rfl ?_
 try simp only [F76.rs, c3, go_sem]
 have c3 := bnot_f c3
 try simp only [c3, go_sem]
 obtain ⟨x4, yx4, h0⟩ := bs h0
 try simp only [aa yx4, c3, go_sem]
 obtain ⟨x5, yx5, h0⟩ := bs h0
 refine zc0 (heat_in_ok k _ _ _ _ yx5) ?_ (by first | rfl | simp [AV.refsL, AV.refs, AV.scal, AV.leaf]) ?_
 try simp only [c3, aa yx4, go_sem]
 try simp only [c3, aa yx4, go_sem]
 refine AKev_bif h0 ?_ ?_ <;> intro c6 h0
 have c6 := bnot_t c6
 try simp only [c6, c3, aa yx4, go_sem]
 obtain rfl := Option.some.inj h0
 refine AKev_ret rfl ?_
 try simp only [F76.rs, c3, aa yx4, c6, go_sem]
 have c6 := bnot_f c6
 try simp only [c6, c3, aa yx4, go_sem]
 obtain ⟨x7, yx7, h0⟩ := bs h0
 refine zc0 (heat_furnace_sound_ok k _ _ yx7) ?_ (by first | rfl | simp [AV.refsL, AV.refs, AV.scal, AV.leaf]) ?_
 try simp only [c3, aa yx4, c6, go_sem]
 try simp only [c3, aa yx4, c6, go_sem]
 refine AKev_bif h0 ?_ ?_ <;> intro c8 h0
 have c8 := bnot_t c8
 try simp only [c8, c3, aa yx4, c6, go_sem]
 obtain rfl := Option.some.inj h0
 refine AKev_ret rfl ?_
 try simp only [F76.rs, c3, aa yx4, c6, c8, go_sem]
 have c8 := bnot_f c8
 try simp only [c8, c3, aa yx4, c6, go_sem]
 obtain rfl := Option.some.inj h0
 refine AKev_ret rfl ?_
 try simp only [F76.rs, c3, aa yx4, c6, c8, go_sem]
def F126.c : SC :=
 (.seq
 (.reg [oq 2 (.assign (.const (.slice none 0 0))) 79 [2]])
 (.seq
 (.seq
 (.reg [mv 3 0 79 [],
 oq 4 (.binOp .eql 79 (.tmp 3) (.const (.slice none 0 0)) 79) 4 [3]])
 (.cond (.tmp 4)
 (.seq
 (.reg [oq 2 (.assign (.const (.slice none 0 0))) 79 []])
 .ret)
 .skip))
 (.seq
 (.reg [oq 5 (.buildSlice 79 0 #[]) 79 [],
 mv 6 0 79 [0],
 oq 7 (.call ⟨.builtin .append, #[.tmp 5, .tmp 6], #[79, 79]⟩) 79 [5, 6],
 sg 2 7 79 [7]])
 .ret)))
theorem F126.rs : Tryz.f126.results.toList = [.tmp 2] := rfl
def slices_Clone_heat_limit (k : Nat) (s0 : (List heat_limit)) : Option ((List heat_limit)) :=
 (room? s0.length 24).bind fun _ =>
 some s0
theorem slices_Clone_heat_limit_ok (k : Nat) (s0 : (List heat_limit)) (r : (List heat_limit)) (h0 : slices_Clone_heat_limit k s0 = some r) : GCall Tryz.prog 126 [.sl 3 (List.map heat_limit.c s0)] [] (fun y fr => y = .loc 0 0 3 0 r.length r.length ∧ fr = [(0, .arr 135 3 (List.map heat_limit.c r))]) := by
 have hr := GCall.own (et := 135) (sz := 3) (ls := List.map heat_limit.c r) (GCall.of_body T_ok (f := 126) (fn := Tryz.f126) (sc := F126.c) (args := [.sl 3 (List.map heat_limit.c s0)]) (fr0 := []) (by rfl) (by rfl) (by decide +kernel) (by rfl) (by decide +kernel) (Nat.le_of_ble_eq_true rfl) (fun H => ?_))
 ·simpa only [List.length_map] using hr
 refine run_sound T_ok 1000 _ _ ?_
 simp only [slices_Clone_heat_limit] at h0
 try simp only [F126.c, go_sem]
 refine ⟨fun he => ?_, ?_⟩
 ·refine run_sound T_ok 1000 _ _ ?_
  try simp only [go_sem]
  obtain ⟨u_, hu_, h0⟩ := bind_some h0
  obtain rfl := Option.some.inj h0
  refine AKev_gret rfl ?_
  simp only [he, F126.rs, oOK, Option.map_some, tupOf, List.length_nil, List.take_nil, go_sem]
  try simp
 ·refine run_sound T_ok 1000 _ _ ?_
  try simp only [go_sem]
  obtain ⟨u1, yu1, h0⟩ := bind_some h0
  try simp only [room_some yu1, go_sem]
  obtain rfl := Option.some.inj h0
  refine AKev_gret rfl ?_
  try simp only [F126.rs, oOK, Option.map_some, tupOf, cut0_map, cut_map, Nat.le_refl, List.take_length, go_sem]
def F83.c : SC :=
 (.seq
 (.reg [oq 3 (.box 81 (.tmp 0)) 0 [0],
 oq 5 (.box 30 (.tmp 2)) 0 [2],
 oq 6 (.alloc 81) 0 []])
 (.seq
 (.dreg [fa 7 81 3 1 [],
 ld 8 79 7 [],
 cf1 9 126 8 79 79 [],
 mv 10 1 3 [],
 fa 11 30 5 0 [],
 ld 12 3 11 [],
 oq 13 (.build 135 #[(0, .tmp 10), (1, .tmp 12), (2, .const (.int .i64 (-1)))]) 135 [],
 oq 14 (.buildSlice 79 1 #[(0, .tmp 13)]) 79 [],
 oq 15 (.call ⟨.builtin .append, #[.tmp 9, .tmp 14], #[79, 79]⟩) 79 [],
 fa 16 81 3 1 [],
 ⟨none, .store 79 (.tmp 16) (.tmp 15), 0, none, []⟩] [[], [0], [0, 1], [], [], [4], [3, 4, 5], [3, 4, 5, 6], [0, 1, 2, 3, 4, 5, 6, 7], [0, 1, 2, 3, 4, 5, 6, 7, 8], [0, 1, 2, 3, 4, 5, 6, 7, 8, 9]] [7, 8, 9, 10, 11, 12, 13, 14, 15, 16])
 (.seq
 (.dreg [fa 17 81 3 2 [],
 ld 18 79 17 [],
 cf1 19 126 18 79 79 [],
 mv 20 1 3 [],
 fa 21 30 5 1 [],
 ld 22 3 21 [],
 oq 23 (.build 135 #[(0, .tmp 20), (1, .tmp 22), (2, .const (.int .i64 (-1)))]) 135 [],
 oq 24 (.buildSlice 79 1 #[(0, .tmp 23)]) 79 [],
 oq 25 (.call ⟨.builtin .append, #[.tmp 19, .tmp 24], #[79, 79]⟩) 79 [],
 fa 26 81 3 2 [],
 ⟨none, .store 79 (.tmp 26) (.tmp 25), 0, none, []⟩] [[], [0], [0, 1], [], [], [4], [3, 4, 5], [3, 4, 5, 6], [0, 1, 2, 3, 4, 5, 6, 7], [0, 1, 2, 3, 4, 5, 6, 7, 8], [0, 1, 2, 3, 4, 5, 6, 7, 8, 9]] [1, 5, 17, 18, 19, 20, 21, 22, 23, 24, 25, 26])
 (.seq
 (.reg [ld 27 81 3 [3],
 ⟨none, .store 81 (.tmp 6) (.tmp 27), 0, none, [27]⟩])
 .ret))))
theorem F83.rs : Tryz.f83.results.toList = [.cell 6 81] := rfl
def heat_furnace_asked (k : Nat) (f0 : heat_furnace) (place1 : Int) (heat2 : Range) : Option (heat_furnace) :=
 (slices_Clone_heat_limit k f0.least).bind fun x2 =>
 (push? 24 x2 (⟨place1, heat2.Lo, -1⟩ : heat_limit)).bind fun l3 =>
 (slices_Clone_heat_limit k f0.most).bind fun x5 =>
 (push? 24 x5 (⟨place1, heat2.Hi, -1⟩ : heat_limit)).bind fun l6 =>
 some (⟨f0.Firing, l3, l6⟩ : heat_furnace)
theorem heat_furnace_asked_ok (k : Nat) (f0 : heat_furnace) (place1 : Int) (heat2 : Range) (r : heat_furnace) (h0 : heat_furnace_asked k f0 place1 heat2 = some r) : PCall Tryz.prog 83 [.agg (heat_furnace.c f0), .int .i64 place1, .agg (Range.c heat2)] (fun y => y = .agg (heat_furnace.c r)) := by
 refine PB (fn := Tryz.f83) (sc := F83.c) ?_
 refine rS ?_
 simp only [heat_furnace_asked] at h0
 try simp only [F83.c, go_sem]
 refine AKev_region T_ok follows_ok 1000 ?_
 try simp only [go_sem]
 obtain ⟨x2, yx2, h0⟩ := bs h0
 refine DG_give 1000 [] [] (slices_Clone_heat_limit_ok k _ _ yx2) ?_ rfl ?_
 try simp only [gOK, List.length_map, go_sem]
 try simp only [go_sem]
 obtain ⟨l3, yl3, h0⟩ := bs h0
 have eyl3 := push_map heat_limit.c yl3
 have tyl3 := push_take heat_limit.c yl3
 have nyl3 := push_len yl3
 have myl3 := push_room yl3
 try simp only [go_sem] at eyl3 tyl3 nyl3 myl3
 try simp only [myl3, eyl3, nyl3, tyl3, go_sem]
 refine DG_done ⟨rfl, run_sound T_ok 1000 _ _ ?_⟩
 try simp only [eyl3, nyl3, tyl3, go_sem]
 refine AKev_region T_ok follows_ok 1000 ?_
 try simp only [eyl3, nyl3, tyl3, go_sem]
 obtain ⟨x5, yx5, h0⟩ := bs h0
 refine DG_give 1000 [] [] (slices_Clone_heat_limit_ok k _ _ yx5) ?_ rfl ?_
 try simp only [gOK, List.length_map, eyl3, nyl3, tyl3, go_sem]
 try simp only [eyl3, nyl3, tyl3, go_sem]
 obtain ⟨l6, yl6, h0⟩ := bs h0
 have eyl6 := push_map heat_limit.c yl6
 have tyl6 := push_take heat_limit.c yl6
 have nyl6 := push_len yl6
 have myl6 := push_room yl6
 try simp only [eyl3, nyl3, tyl3, go_sem] at eyl6 tyl6 nyl6 myl6
 try simp only [myl6, eyl6, eyl3, nyl3, tyl3, nyl6, tyl6, go_sem]
 refine DG_done ⟨rfl, run_sound T_ok 1000 _ _ ?_⟩
 try simp only [eyl3, nyl3, tyl3, eyl6, nyl6, tyl6, go_sem]
 obtain rfl := Option.some.inj h0
 refine AKev_ret rfl ?_
 try simp only [F83.rs, eyl3, nyl3, tyl3, eyl6, nyl6, tyl6, go_sem]
def F104.c : SC :=
 (.seq
 (.reg [oq 2 (.box 32 (.tmp 0)) 0 [0],
 sb 3 false 4 [3]])
 (.seq
 (.dreg [fa 4 32 2 0 [],
 ld 5 3 4 [],
 fa 6 27 1 0 [],
 fa 7 24 6 0 [],
 ld 8 22 7 [],
 oq 9 (.indexAddr 22 (.tmp 8) (.const (.int .i64 0))) 0 [],
 ld 10 89 9 [],
 ln 11 10 89 3 [],
 bn 12 .sub 3 11 1 3 3 [],
 oq 13 (.call ⟨.value (.func 58), #[.tmp 5, .const (.int .i64 0), .tmp 12], #[3, 3, 3]⟩) 4 [],
 mv 14 13 4 [],
 og 15 (.fieldAddr 32 (.tmp 2) 1) 0 14 true [],
 og 16 (.fieldAddr 30 (.tmp 15) 0) 0 14 true [],
 og 17 (.load 3 (.tmp 16)) 3 14 true [],
 og 18 (.binOp .geq 3 (.tmp 17) (.const (.int .i64 (-3000))) 3) 4 14 true [],
 oq 19 (.pick (.tmp 14) (.tmp 18) (.const (.bool false))) 4 [],
 mv 20 19 4 [],
 og 21 (.fieldAddr 32 (.tmp 2) 1) 0 20 true [],
 og 22 (.fieldAddr 30 (.tmp 21) 0) 0 20 true [],
 og 23 (.load 3 (.tmp 22)) 3 20 true [],
 og 24 (.fieldAddr 32 (.tmp 2) 1) 0 20 true [],
 og 25 (.fieldAddr 30 (.tmp 24) 1) 0 20 true [],
 og 26 (.load 3 (.tmp 25)) 3 20 true [],
 og 27 (.binOp .leq 3 (.tmp 23) (.tmp 26) 3) 4 20 true [],
 oq 28 (.pick (.tmp 20) (.tmp 27) (.const (.bool false))) 4 [],
 mv 29 28 4 [],
 og 30 (.fieldAddr 32 (.tmp 2) 1) 0 29 true [],
 og 31 (.fieldAddr 30 (.tmp 30) 1) 0 29 true [],
 og 32 (.load 3 (.tmp 31)) 3 29 true [],
 og 33 (.binOp .leq 3 (.tmp 32) (.const (.int .i64 3000)) 3) 4 29 true [],
 oq 34 (.pick (.tmp 29) (.tmp 33) (.const (.bool false))) 4 [],
 sg 3 34 4 []] [[], [0], [], [2], [2, 3], [2, 3, 4], [2, 3, 4, 5], [2, 3, 4, 5, 6], [2, 3, 4, 5, 6, 7], [0, 1, 2, 3, 4, 5, 6, 7, 8], [0, 1, 2, 3, 4, 5, 6, 7, 8, 9], [0, 1, 2, 3, 4, 5, 6, 7, 8, 9, 10], [0, 1, 2, 3, 4, 5, 6, 7, 8, 9, 10, 11], [0, 1, 2, 3, 4, 5, 6, 7, 8, 9, 10, 11, 12], [0, 1, 2, 3, 4, 5, 6, 7, 8, 9, 10, 11, 12, 13], [0, 1, 2, 3, 4, 5, 6, 7, 8, 9, 10, 11, 12, 13, 14], [0, 1, 2, 3, 4, 5, 6, 7, 8, 9, 10, 11, 12, 13, 14, 15], [0, 1, 2, 3, 4, 5, 6, 7, 8, 9, 10, 11, 12, 13, 14, 15, 16], [0, 1, 2, 3, 4, 5, 6, 7, 8, 9, 10, 11, 12, 13, 14, 15, 16, 17], [0, 1, 2, 3, 4, 5, 6, 7, 8, 9, 10, 11, 12, 13, 14, 15, 16, 17, 18], [0, 1, 2, 3, 4, 5, 6, 7, 8, 9, 10, 11, 12, 13, 14, 15, 16], [0, 1, 2, 3, 4, 5, 6, 7, 8, 9, 10, 11, 12, 13, 14, 15, 16, 20], [0, 1, 2, 3, 4, 5, 6, 7, 8, 9, 10, 11, 12, 13, 14, 15, 16, 20, 21], [0, 1, 2, 3, 4, 5, 6, 7, 8, 9, 10, 11, 12, 13, 14, 15, 16, 17, 18, 19, 20, 21, 22], [0, 1, 2, 3, 4, 5, 6, 7, 8, 9, 10, 11, 12, 13, 14, 15, 16, 17, 18, 19, 20, 21, 22, 23], [0, 1, 2, 3, 4, 5, 6, 7, 8, 9, 10, 11, 12, 13, 14, 15, 16, 17, 18, 19, 20, 21, 22, 23, 24], [0, 1, 2, 3, 4, 5, 6, 7, 8, 9, 10, 11, 12, 13, 14, 15, 16, 17, 18, 19, 20, 21, 22, 23, 24, 25], [0, 1, 2, 3, 4, 5, 6, 7, 8, 9, 10, 11, 12, 13, 14, 15, 16, 17, 18, 19, 20, 21, 22, 23, 24, 25, 26], [0, 1, 2, 3, 4, 5, 6, 7, 8, 9, 10, 11, 12, 13, 14, 15, 16, 17, 18, 19, 20, 21, 22, 23, 24, 25, 26, 27], [0, 1, 2, 3, 4, 5, 6, 7, 8, 9, 10, 11, 12, 13, 14, 15, 16, 17, 18, 19, 20, 21, 22, 23, 24, 25, 26, 27, 28], [0, 1, 2, 3, 4, 5, 6, 7, 8, 9, 10, 11, 12, 13, 14, 15, 16, 17, 18, 19, 20, 21, 22, 23, 24, 25, 26, 27, 28, 29], [0, 1, 2, 3, 4, 5, 6, 7, 8, 9, 10, 11, 12, 13, 14, 15, 16, 17, 18, 19, 20, 21, 22, 23, 24, 25, 26, 27, 28, 29, 30]] [1, 2, 4, 5, 6, 7, 8, 9, 10, 11, 12, 13, 14, 15, 16, 17, 18, 19, 20, 21, 22, 23, 24, 25, 26, 27, 28, 29, 30, 31, 32, 33, 34])
 .ret))
theorem F104.rs : Tryz.f104.results.toList = [.tmp 3] := rfl
def heat_wanted_1 (k : Nat) (w0 : Want) (c1 : Firing) : Option (Bool) :=
 (at? c1.Kiln.Falls 0).bind fun x1 =>
 (heat_in k w0.Place 0 (w64 ((x1.length : Int) - 1))).bind fun x2 =>
 bif x2 then
  bif decide ((-3000 : Int) ≤ w0.Heat.Lo) then
   bif decide (w0.Heat.Lo ≤ w0.Heat.Hi) then
    some (decide (w0.Heat.Hi ≤ (3000 : Int)))
   else
    some false
  else
   some false
 else
  some false
theorem heat_wanted_1_ok (k : Nat) (w0 : Want) (c1 : Firing) (r : Bool) (h0 : heat_wanted_1 k w0 c1 = some r) : PCall Tryz.prog 104 [.agg (Want.c w0), .rptr 2 [Firing.c c1] 0 0] (fun y => y = .bool r) := by
 refine PB (fn := Tryz.f104) (sc := F104.c) ?_
 refine rS ?_
 simp only [heat_wanted_1] at h0
 try simp only [F104.c, go_sem]
 refine AKev_region T_ok follows_ok 1000 ?_
 try simp only [go_sem]
 obtain ⟨x1, yx1, h0⟩ := bs h0
 try simp only [aa yx1, go_sem]
 obtain ⟨x2, yx2, h0⟩ := bs h0
 refine DG_call0 1000 (heat_in_ok k _ _ _ _ yx2) ?_ (by first | rfl | simp [AV.refsL, AV.refs, AV.scal, AV.leaf]) ?_
 try simp only [aa yx1, go_sem]
 try simp only [aa yx1, go_sem]
 refine DG_bif h0 ?_ ?_ <;> intro c3 h0
 try simp only [c3, aa yx1, go_sem]
 refine DG_bif h0 ?_ ?_ <;> intro c4 h0
 try simp only [c4, aa yx1, c3, go_sem]
 refine DG_bif h0 ?_ ?_ <;> intro c5 h0
 try simp only [c5, aa yx1, c3, c4, go_sem]
 refine DG_done ⟨rfl, run_sound T_ok 1000 _ _ ?_⟩
 try simp only [aa yx1, c3, c4, c5, go_sem]
 obtain rfl := Option.some.inj h0
 refine AKev_ret rfl ?_
 try simp only [F104.rs, aa yx1, c3, c4, c5, go_sem]
 try simp only [c5, aa yx1, c3, c4, go_sem]
 refine DG_done ⟨rfl, run_sound T_ok 1000 _ _ ?_⟩
 try simp only [aa yx1, c3, c4, c5, go_sem]
 obtain rfl := Option.some.inj h0
 refine AKev_ret rfl ?_
 try simp only [F104.rs, aa yx1, c3, c4, c5, go_sem]
 try simp only [c4, aa yx1, c3, go_sem]
 refine DG_done ⟨rfl, run_sound T_ok 1000 _ _ ?_⟩
 try simp only [aa yx1, c3, c4, go_sem]
 obtain rfl := Option.some.inj h0
 refine AKev_ret rfl ?_
 try simp only [F104.rs, aa yx1, c3, c4, go_sem]
 try simp only [c3, aa yx1, go_sem]
 refine DG_done ⟨rfl, run_sound T_ok 1000 _ _ ?_⟩
 try simp only [aa yx1, c3, go_sem]
 obtain rfl := Option.some.inj h0
 refine AKev_ret rfl ?_
 try simp only [F104.rs, aa yx1, c3, go_sem]
def F131.s0 : SC :=
 (.seq
 (.reg [b2 9 .lss 3 8 7 3 0 []])
 (.seq
 (.cond (.tmp 9)
 .skip
 (.exit 0))
 (.seq
 (.block 1
 (.seq
 (.reg [mv 10 8 3 [],
 sg 5 10 3 [10]])
 (.seq
 (.reg [mv 11 1 130 [],
 mv 12 0 28 [],
 mv 13 5 3 [],
 ia 14 28 12 13 [12, 13],
 ld 15 32 14 [14],
 oq 16 (.call ⟨.value (.tmp 11), #[.tmp 15], #[32]⟩) 4 [11, 15]])
 (.cond (.tmp 16)
 (.seq
 (.reg [mv 17 5 3 [5],
 sg 4 17 3 [17]])
 .ret)
 .skip))))
 (.reg [bn 18 .add 3 8 1 3 3 [8],
 mv 8 18 3 [18]]))))
def F131.c : SC :=
 (.seq
 (.reg [sn 4 0 3 [4]])
 (.seq
 (.seq
 (.reg [mv 6 0 28 [],
 ln 7 6 28 3 [6],
 oq 8 (.move (.const (.int .i64 0))) 3 []])
 (.block 0
 (.loop F131.s0)))
 (.seq
 (.reg [sn 4 (-1) 3 []])
 .ret)))
theorem F131.rs : Tryz.f131.results.toList = [.tmp 4] := rfl
def slices_IndexFunc_api_Want.b0 (k : Nat) (f1 : Want → Option (Bool)) (s0 : (List Want)) : Int → Option (Stp (Int) (Unit) (Int)) := fun (i1 : Int) =>
 bif decide (i1 < (s0.length : Int)) then
  (at? s0 i1).bind fun x3 =>
  (f1 x3).bind fun x4 =>
  bif x4 then
   some (.ret i1)
  else
   some (.next (w64 (i1 + 1)))
 else
  some (.brk ())
noncomputable def slices_IndexFunc_api_Want.h0 (f1_f : Nat) (f1_c : List AV) (s0 : (List Want)) : Int → St := fun (i1 : Int) => ⟨[(0, .sl 3 (List.map Want.c s0)), (1, .fn (.func f1_f) [] f1_c), (7, .int .i64 (s0.length : Int)), (8, .int .i64 i1)], [], [], 1, Tryz.f131.ntmps⟩
noncomputable def slices_IndexFunc_api_Want.x0 : Unit → St := fun (_ : Unit) => ⟨[], [], [], 1, Tryz.f131.ntmps⟩
def slices_IndexFunc_api_Want (k : Nat) (s0 : (List Want)) (f1 : Want → Option (Bool)) : Option (Int) :=
 (whl (slices_IndexFunc_api_Want.b0 k f1 s0) k 0).bind fun r6 => match r6 with
 | .next _ => none
 | .ret v_ => some v_
 | .brk _ =>
  some (-1)
theorem slices_IndexFunc_api_Want_ok (k : Nat) (s0 : (List Want)) (f1_f : Nat) (f1_c : List AV) (f1_i : Ice f1_c) (f1 : Want → Option (Bool)) (f1_h : ∀ q0 qr, f1 q0 = some qr → PCall Tryz.prog f1_f (.agg (Want.c q0) :: f1_c) (fun y => y = .bool qr)) (r : Int) (h0 : slices_IndexFunc_api_Want k s0 f1 = some r) : PCall Tryz.prog 131 [.sl 3 (List.map Want.c s0), .fn (.func f1_f) [] f1_c] (fun y => y = .int .i64 r) := by
 refine PB (fn := Tryz.f131) (sc := F131.c) ?_
 refine rS ?_
 simp only [slices_IndexFunc_api_Want] at h0
 try simp only [F131.c, f1_i.sh, f1_i.frz, f1_i.br, f1_i.refs, f1_i.imp, f1_i.ren, f1_i.un, go_sem]
 obtain ⟨r6, yr6, h0⟩ := bs h0
 refine AKev_loopS yr6 (slices_IndexFunc_api_Want.h0 f1_f f1_c s0) (slices_IndexFunc_api_Want.x0) ?_ ?_ ?_
 refine Weak.go [0, 1, 7, 8] [] rfl ?_
 try simp only [slices_IndexFunc_api_Want.h0, f1_i.sh, f1_i.frz, f1_i.br, f1_i.refs, f1_i.imp, f1_i.ren, f1_i.un, go_sem]
 rintro i1 x_1 Bk1 Br1 h1 hnext1 hbrk1 hret1
 refine rS ?_
 simp only [slices_IndexFunc_api_Want.b0] at h1
 try simp only [F131.s0, slices_IndexFunc_api_Want.h0, f1_i.sh, f1_i.frz, f1_i.br, f1_i.refs, f1_i.imp, f1_i.ren, f1_i.un, go_sem]
 refine AKev_bif h1 ?_ ?_ <;> intro c2 h1
 try simp only [c2, f1_i.sh, f1_i.frz, f1_i.br, f1_i.refs, f1_i.imp, f1_i.ren, f1_i.un, go_sem]
 obtain ⟨x3, yx3, h1⟩ := bs h1
 try simp only [aa yx3, f1_i.sh, f1_i.frz, f1_i.br, f1_i.refs, f1_i.imp, f1_i.ren, f1_i.un, c2, go_sem]
 obtain ⟨x4, yx4, h1⟩ := bs h1
 refine zc0 (f1_h _ _ yx4) ?_ (by first | rfl | simp [AV.refsL, AV.refs, AV.scal, AV.leaf, f1_i.refs]) ?_
 try simp only [f1_i.sh, f1_i.frz, f1_i.br, f1_i.refs, f1_i.imp, f1_i.ren, f1_i.un, c2, aa yx3, go_sem]
 try simp only [f1_i.sh, f1_i.frz, f1_i.br, f1_i.refs, f1_i.imp, f1_i.ren, f1_i.un, c2, aa yx3, go_sem]
 refine AKev_bif h1 ?_ ?_ <;> intro c5 h1
 try simp only [c5, f1_i.sh, f1_i.frz, f1_i.br, f1_i.refs, f1_i.imp, f1_i.ren, f1_i.un, c2, aa yx3, go_sem]
 obtain rfl := hret1 _ (Option.some.inj h1).symm
 simp only at h0
 obtain rfl := Option.some.inj h0
 refine AKev_ret rfl ?_
 try simp only [F131.rs, f1_i.sh, f1_i.frz, f1_i.br, f1_i.refs, f1_i.imp, f1_i.ren, f1_i.un, c2, aa yx3, c5, go_sem]
 try simp only [c5, f1_i.sh, f1_i.frz, f1_i.br, f1_i.refs, f1_i.imp, f1_i.ren, f1_i.un, c2, aa yx3, go_sem]
 refine AKev_backB (hnext1 _ _ (Option.some.inj h1).symm ?_)
 refine Weak.go [0, 1, 7, 8] [] rfl ?_
 try simp only [slices_IndexFunc_api_Want.h0, f1_i.sh, f1_i.frz, f1_i.br, f1_i.refs, f1_i.imp, f1_i.ren, f1_i.un, c2, aa yx3, c5, go_sem]
 try simp only [c2, f1_i.sh, f1_i.frz, f1_i.br, f1_i.refs, f1_i.imp, f1_i.ren, f1_i.un, go_sem]
 refine AKev_backB (hbrk1 _ _ (Option.some.inj h1).symm ?_)
 refine Weak.go [] [] rfl ?_
 try simp only [slices_IndexFunc_api_Want.x0, f1_i.sh, f1_i.frz, f1_i.br, f1_i.refs, f1_i.imp, f1_i.ren, f1_i.un, c2, go_sem]
 rintro _ hr_
 subst hr_
 simp only at h0
 refine rS ?_
 try simp only [slices_IndexFunc_api_Want.x0, f1_i.sh, f1_i.frz, f1_i.br, f1_i.refs, f1_i.imp, f1_i.ren, f1_i.un, go_sem]
 obtain rfl := Option.some.inj h0
 refine AKev_ret rfl ?_
 try simp only [F131.rs, f1_i.sh, f1_i.frz, f1_i.br, f1_i.refs, f1_i.imp, f1_i.ren, f1_i.un, go_sem]
def F105.c : SC :=
 (.seq
 (.reg [sb 4 false 4 [4]])
 (.seq
 (.reg [mv 5 0 28 [0],
 mv 6 1 130 [1],
 cf2 7 131 5 6 28 130 3 [5, 6],
 bn 8 .geq 3 7 0 3 4 [7],
 sg 4 8 4 [8]])
 .ret))
theorem F105.rs : Tryz.f105.results.toList = [.tmp 4] := rfl
def slices_ContainsFunc_api_Want (k : Nat) (s0 : (List Want)) (f1 : Want → Option (Bool)) : Option (Bool) :=
 (slices_IndexFunc_api_Want k s0 f1).bind fun x1 =>
 some (decide ((0 : Int) ≤ x1))
theorem slices_ContainsFunc_api_Want_ok (k : Nat) (s0 : (List Want)) (f1_f : Nat) (f1_c : List AV) (f1_i : Ice f1_c) (f1 : Want → Option (Bool)) (f1_h : ∀ q0 qr, f1 q0 = some qr → PCall Tryz.prog f1_f (.agg (Want.c q0) :: f1_c) (fun y => y = .bool qr)) (r : Bool) (h0 : slices_ContainsFunc_api_Want k s0 f1 = some r) : PCall Tryz.prog 105 [.sl 3 (List.map Want.c s0), .fn (.func f1_f) [] f1_c] (fun y => y = .bool r) := by
 refine PB (fn := Tryz.f105) (sc := F105.c) ?_
 refine rS ?_
 simp only [slices_ContainsFunc_api_Want] at h0
 try simp only [F105.c, f1_i.sh, f1_i.frz, f1_i.br, f1_i.refs, f1_i.imp, f1_i.ren, f1_i.un, go_sem]
 obtain ⟨x1, yx1, h0⟩ := bs h0
 refine zc0 (slices_IndexFunc_api_Want_ok k _ f1_f f1_c f1_i f1 f1_h _ yx1) ?_ (by first | rfl | simp [AV.refsL, AV.refs, AV.scal, AV.leaf, f1_i.refs]) ?_
 try simp only [f1_i.sh, f1_i.frz, f1_i.br, f1_i.refs, f1_i.imp, f1_i.ren, f1_i.un, go_sem]
 try simp only [f1_i.sh, f1_i.frz, f1_i.br, f1_i.refs, f1_i.imp, f1_i.ren, f1_i.un, go_sem]
 obtain rfl := Option.some.inj h0
 refine AKev_ret rfl ?_
 try simp only [F105.rs, f1_i.sh, f1_i.frz, f1_i.br, f1_i.refs, f1_i.imp, f1_i.ren, f1_i.un, go_sem]
def F106.c : SC :=
 (.seq
 (.reg [oq 2 (.box 32 (.tmp 0)) 0 [0],
 sb 3 false 4 [3]])
 (.seq
 (.reg [ld 4 130 1 [1],
 ld 5 32 2 [2],
 oq 6 (.call ⟨.value (.tmp 4), #[.tmp 5], #[32]⟩) 4 [4, 5],
 oq 7 (.unOp .not 4 (.tmp 6)) 4 [6],
 sg 3 7 4 [7]])
 .ret))
theorem F106.rs : Tryz.f106.results.toList = [.tmp 3] := rfl
def heat_wanted_2 (k : Nat) (w0 : Want) (c1 : Want → Option (Bool)) : Option (Bool) :=
 (c1 w0).bind fun x1 =>
 some (!x1)
theorem heat_wanted_2_ok (k : Nat) (w0 : Want) (c1_f : Nat) (c1_c : List AV) (c1_i : Ice c1_c) (c1 : Want → Option (Bool)) (c1_h : ∀ q0 qr, c1 q0 = some qr → PCall Tryz.prog c1_f (.agg (Want.c q0) :: c1_c) (fun y => y = .bool qr)) (r : Bool) (h0 : heat_wanted_2 k w0 c1 = some r) : PCall Tryz.prog 106 [.agg (Want.c w0), .rptr 1 [[.fn (.func c1_f) [] c1_c]] 0 0] (fun y => y = .bool r) := by
 refine PB (fn := Tryz.f106) (sc := F106.c) ?_
 refine rS ?_
 simp only [heat_wanted_2] at h0
 try simp only [F106.c, c1_i.sh, c1_i.frz, c1_i.br, c1_i.refs, c1_i.imp, c1_i.ren, c1_i.un, go_sem]
 obtain ⟨x1, yx1, h0⟩ := bs h0
 refine zc0 (c1_h _ _ yx1) ?_ (by first | rfl | simp [AV.refsL, AV.refs, AV.scal, AV.leaf, c1_i.refs]) ?_
 try simp only [c1_i.sh, c1_i.frz, c1_i.br, c1_i.refs, c1_i.imp, c1_i.ren, c1_i.un, go_sem]
 try simp only [c1_i.sh, c1_i.frz, c1_i.br, c1_i.refs, c1_i.imp, c1_i.ren, c1_i.un, go_sem]
 obtain rfl := Option.some.inj h0
 refine AKev_ret rfl ?_
 try simp only [F106.rs, c1_i.sh, c1_i.frz, c1_i.br, c1_i.refs, c1_i.imp, c1_i.ren, c1_i.un, go_sem]
def F52.s0 : SC :=
 (.seq
 (.reg [b2 43 .lss 3 42 41 3 0 []])
 (.seq
 (.cond (.tmp 43)
 .skip
 (.exit 0))
 (.seq
 (.block 1
 (.seq
 (.reg [ia 44 28 40 42 [],
 ld 45 32 44 [44],
 oq 12 (.alloc 32) 0 [],
 ⟨none, .store 32 (.tmp 12) (.tmp 45), 0, none, [45]⟩])
 (.reg [ld 46 81 10 [],
 fa 47 32 12 0 [],
 ld 48 3 47 [47],
 fa 49 32 12 1 [12],
 ld 50 30 49 [49],
 oq 51 (.call ⟨.value (.func 83), #[.tmp 46, .tmp 48, .tmp 50], #[81, 3, 30]⟩) 81 [46, 48, 50],
 ⟨none, .store 81 (.tmp 10) (.tmp 51), 0, none, [51]⟩])))
 (.reg [bn 52 .add 3 42 1 3 3 [42],
 mv 42 52 3 [52]]))))
def F52.c : SC :=
 (.seq
 (.reg [oq 2 (.box 27 (.tmp 0)) 0 [0],
 oq 4 (.alloc 81) 0 [],
 oq 5 (.alloc 81) 0 [],
 sn 6 0 33 [6]])
 (.seq
 (.seq
 (.reg [ld 13 27 2 [],
 cf1 14 42 13 27 33 [13],
 bn 15 .neq 33 14 0 33 4 [14]])
 (.cond (.tmp 15)
 (.seq
 (.reg [oq 16 (.build 81 #[]) 81 [],
 oq 17 (.build 81 #[]) 81 [],
 ⟨none, .store 81 (.tmp 4) (.tmp 16), 0, none, [16]⟩,
 ⟨none, .store 81 (.tmp 5) (.tmp 17), 0, none, [17]⟩,
 sn 6 42 33 []])
 .ret)
 .skip))
 (.seq
 (.reg [oq 18 (.makeFunc (.func 104) #[] #[.tmp 2]) 130 [],
 oq 7 (.alloc 130) 0 [],
 ⟨none, .store 130 (.tmp 7) (.tmp 18), 0, none, [18]⟩])
 (.seq
 (.seq
 (.reg [mv 19 1 28 [],
 ln 20 19 28 3 [19],
 bn 21 .gtr 3 20 24 3 4 [20],
 mv 22 21 4 [21],
 og 23 (.move (.tmp 1)) 28 22 false [],
 og 24 (.makeFunc (.func 106) #[] #[.tmp 7]) 130 22 false [7],
 og 25 (.call ⟨.value (.func 105), #[.tmp 23, .tmp 24], #[28, 130]⟩) 4 22 false [23, 24],
 oq 26 (.pick (.tmp 22) (.const (.bool true)) (.tmp 25)) 4 [22, 25]])
 (.cond (.tmp 26)
 (.seq
 (.reg [oq 27 (.build 81 #[]) 81 [],
 oq 28 (.build 81 #[]) 81 [],
 ⟨none, .store 81 (.tmp 4) (.tmp 27), 0, none, [27]⟩,
 ⟨none, .store 81 (.tmp 5) (.tmp 28), 0, none, [28]⟩,
 sn 6 49 33 []])
 .ret)
 .skip))
 (.seq
 (.reg [ld 30 27 2 [2],
 oq 31 (.call ⟨.value (.func 76), #[.tmp 30, .const (.int .i64 0)], #[27, 3]⟩) 104 [30],
 mv 29 31 104 [31],
 xt 32 29 0 81 [],
 xt 33 29 1 33 [29],
 oq 8 (.alloc 81) 0 [],
 ⟨none, .store 81 (.tmp 8) (.tmp 32), 0, none, [32]⟩,
 sg 9 33 33 [33]])
 (.seq
 (.seq
 (.reg [mv 34 9 33 [],
 bn 35 .neq 33 34 0 33 4 [34]])
 (.cond (.tmp 35)
 (.seq
 (.reg [oq 36 (.build 81 #[]) 81 [],
 oq 37 (.build 81 #[]) 81 [],
 mv 38 9 33 [9],
 ⟨none, .store 81 (.tmp 4) (.tmp 36), 0, none, [36]⟩,
 ⟨none, .store 81 (.tmp 5) (.tmp 37), 0, none, [37]⟩,
 sg 6 38 33 [38]])
 .ret)
 .skip))
 (.seq
 (.reg [ld 39 81 8 [],
 oq 10 (.alloc 81) 0 [],
 ⟨none, .store 81 (.tmp 10) (.tmp 39), 0, none, [39]⟩])
 (.seq
 (.seq
 (.reg [mv 40 1 28 [1],
 ln 41 40 28 3 [],
 oq 42 (.move (.const (.int .i64 0))) 3 []])
 (.block 0
 (.loop F52.s0)))
 (.seq
 (.dreg [ld 53 81 8 [],
 ld 54 81 10 [],
 ⟨none, .store 81 (.tmp 4) (.tmp 53), 0, none, []⟩,
 ⟨none, .store 81 (.tmp 5) (.tmp 54), 0, none, []⟩,
 sn 6 0 33 []] [[], [], [0], [1, 0, 2], [1, 0, 2, 3]] [8, 10, 53, 54])
 .ret)))))))))
theorem F52.rs : Tryz.f52.results.toList = [.cell 4 81, .cell 5 81, .tmp 6] := rfl
def heat_wanted.b0 (k : Nat) (l1 : (List Want)) : (heat_furnace × Int) → Option (Stp (heat_furnace × Int) (heat_furnace) (heat_furnace × heat_furnace × Int)) := fun (s : heat_furnace × Int) => match s with
 | (s8, i9) =>
   bif decide (i9 < (l1.length : Int)) then
    (at? l1 i9).bind fun x12 =>
    (heat_furnace_asked k s8 x12.Place x12.Heat).bind fun x13 =>
    some (.next (x13, w64 (i9 + 1)))
   else
    some (.brk s8)
noncomputable def heat_wanted.h0 (l1 : (List Want)) (x6 : heat_furnace × Int) : (heat_furnace × Int) → St := fun (s : heat_furnace × Int) => match s with
 | (s8, i9) => ⟨[(4, .ptr 0 0 0), (5, .ptr 0 5 0), (8, .ptr 0 10 0), (10, .ptr 0 11 0), (40, .sl 3 (List.map Want.c l1)), (41, .int .i64 (l1.length : Int)), (42, .int .i64 i9)], [(0, .box [.loc 0 1 1 0 0 0, .loc 0 2 6 0 0 0, .loc 0 3 3 0 0 0, .loc 0 4 3 0 0 0]), (1, .arr 89 1 (List.map (eL 2 Range.c) [])), (2, .arr 64 6 (List.map Reading.c [])), (3, .arr 135 3 (List.map heat_limit.c [])), (4, .arr 135 3 (List.map heat_limit.c [])), (5, .box [.loc 0 6 1 0 0 0, .loc 0 7 6 0 0 0, .loc 0 8 3 0 0 0, .loc 0 9 3 0 0 0]), (6, .arr 89 1 (List.map (eL 2 Range.c) [])), (7, .arr 64 6 (List.map Reading.c [])), (8, .arr 135 3 (List.map heat_limit.c [])), (9, .arr 135 3 (List.map heat_limit.c [])), (10, .box [.sl 1 (List.map (eL 2 Range.c) x6.1.Firing.Kiln.Falls), .sl 6 (List.map Reading.c x6.1.Firing.Readings), .sl 3 (List.map heat_limit.c x6.1.least), .sl 3 (List.map heat_limit.c x6.1.most)]), (11, .box [.sl 1 (List.map (eL 2 Range.c) s8.Firing.Kiln.Falls), .sl 6 (List.map Reading.c s8.Firing.Readings), .sl 3 (List.map heat_limit.c s8.least), .sl 3 (List.map heat_limit.c s8.most)])], [], 12, Tryz.f52.ntmps⟩
noncomputable def heat_wanted.x0 (x6 : heat_furnace × Int) : heat_furnace → St := fun (s10 : heat_furnace) => ⟨[(4, .ptr 0 0 0), (5, .ptr 0 5 0), (8, .ptr 0 10 0), (10, .ptr 0 11 0)], [(0, .box [.loc 0 1 1 0 0 0, .loc 0 2 6 0 0 0, .loc 0 3 3 0 0 0, .loc 0 4 3 0 0 0]), (1, .arr 89 1 (List.map (eL 2 Range.c) [])), (2, .arr 64 6 (List.map Reading.c [])), (3, .arr 135 3 (List.map heat_limit.c [])), (4, .arr 135 3 (List.map heat_limit.c [])), (5, .box [.loc 0 6 1 0 0 0, .loc 0 7 6 0 0 0, .loc 0 8 3 0 0 0, .loc 0 9 3 0 0 0]), (6, .arr 89 1 (List.map (eL 2 Range.c) [])), (7, .arr 64 6 (List.map Reading.c [])), (8, .arr 135 3 (List.map heat_limit.c [])), (9, .arr 135 3 (List.map heat_limit.c [])), (10, .box [.sl 1 (List.map (eL 2 Range.c) x6.1.Firing.Kiln.Falls), .sl 6 (List.map Reading.c x6.1.Firing.Readings), .sl 3 (List.map heat_limit.c x6.1.least), .sl 3 (List.map heat_limit.c x6.1.most)]), (11, .box [.sl 1 (List.map (eL 2 Range.c) s10.Firing.Kiln.Falls), .sl 6 (List.map Reading.c s10.Firing.Readings), .sl 3 (List.map heat_limit.c s10.least), .sl 3 (List.map heat_limit.c s10.most)])], [], 12, Tryz.f52.ntmps⟩
def heat_wanted (k : Nat) (f0 : Firing) (l1 : (List Want)) : Option (heat_furnace × heat_furnace × Int) :=
 (heat_Check k f0).bind fun x1 =>
 bif (!decide (x1 = (0 : Int))) then
  some ((⟨(⟨(⟨[]⟩ : Kiln), []⟩ : Firing), [], []⟩ : heat_furnace), (⟨(⟨(⟨[]⟩ : Kiln), []⟩ : Firing), [], []⟩ : heat_furnace), 42)
 else
  bif (!decide ((24 : Int) < (l1.length : Int))) then
   (slices_ContainsFunc_api_Want k l1 (fun q0 => heat_wanted_2 k q0 (fun q0 => heat_wanted_1 k q0 f0))).bind fun x4 =>
   bif x4 then
    some ((⟨(⟨(⟨[]⟩ : Kiln), []⟩ : Firing), [], []⟩ : heat_furnace), (⟨(⟨(⟨[]⟩ : Kiln), []⟩ : Firing), [], []⟩ : heat_furnace), 49)
   else
    (heat_asks k f0 0).bind fun x6 =>
    bif (!decide (x6.2 = (0 : Int))) then
     some ((⟨(⟨(⟨[]⟩ : Kiln), []⟩ : Firing), [], []⟩ : heat_furnace), (⟨(⟨(⟨[]⟩ : Kiln), []⟩ : Firing), [], []⟩ : heat_furnace), x6.2)
    else
     (whl (heat_wanted.b0 k l1) k (x6.1, 0)).bind fun r14 => match r14 with
     | .next _ => none
     | .ret v_ => some v_
     | .brk s10 =>
      some (x6.1, s10, 0)
  else
   some ((⟨(⟨(⟨[]⟩ : Kiln), []⟩ : Firing), [], []⟩ : heat_furnace), (⟨(⟨(⟨[]⟩ : Kiln), []⟩ : Firing), [], []⟩ : heat_furnace), 49)
theorem heat_wanted_ok (k : Nat) (f0 : Firing) (l1 : (List Want)) (r : heat_furnace × heat_furnace × Int) (h0 : heat_wanted k f0 l1 = some r) : PCall Tryz.prog 52 [.agg (Firing.c f0), .sl 3 (List.map Want.c l1)] (fun y => y = .tup [.agg (heat_furnace.c r.1), .agg (heat_furnace.c r.2.1), .int .i64 r.2.2]) := by
 refine PB (fn := Tryz.f52) (sc := F52.c) ?_
 refine rS ?_
 simp only [heat_wanted] at h0
 try simp only [F52.c, go_sem]
 obtain ⟨x1, yx1, h0⟩ := bs h0
 refine zc0 (heat_Check_ok k _ _ yx1) ?_ (by first | rfl | simp [AV.refsL, AV.refs, AV.scal, AV.leaf]) ?_
 try simp only [go_sem]
 try simp only [go_sem]
 refine AKev_bif h0 ?_ ?_ <;> intro c2 h0
 have c2 := bnot_t c2
 try simp only [c2, go_sem]
 obtain rfl := Option.some.inj h0
 refine AKev_ret rfl ?_
 try simp only [F52.rs, c2, go_sem]
 have c2 := bnot_f c2
 try simp only [c2, go_sem]
 refine AKev_bif h0 ?_ ?_ <;> intro c3 h0
 have c3 := bnot_t c3
 try simp only [c3, c2, go_sem]
 obtain ⟨x4, yx4, h0⟩ := bs h0
 refine zcL (slices_ContainsFunc_api_Want_ok k _ 106 [.rptr 1 [[.fn (.func 104) [] [.rptr 2 [Firing.c f0] 0 0]]] 0 0] ⟨fun _ => rfl, fun _ => rfl, fun _ _ => rfl, rfl, fun _ => rfl, fun _ => rfl, fun _ => rfl⟩ (fun q0 => heat_wanted_2 k q0 (fun q0 => heat_wanted_1 k q0 f0)) (fun q0 qr qh => heat_wanted_2_ok k q0 104 [.rptr 2 [Firing.c f0] 0 0] ⟨fun _ => rfl, fun _ => rfl, fun _ _ => rfl, rfl, fun _ => rfl, fun _ => rfl, fun _ => rfl⟩ (fun q0 => heat_wanted_1 k q0 f0) (fun q0 qr qh => heat_wanted_1_ok k q0 _ qr qh) qr qh) _ yx4) ?_ (by first | rfl | simp [AV.refsL, AV.refs, AV.scal, AV.leaf]) ?_
 try simp only [c2, c3, go_sem]
 try simp only [c2, c3, go_sem]
 refine AKev_bif h0 ?_ ?_ <;> intro c5 h0
 try simp only [c5, c2, c3, go_sem]
 obtain rfl := Option.some.inj h0
 refine AKev_ret rfl ?_
 try simp only [F52.rs, c2, c3, c5, go_sem]
 try simp only [c5, c2, c3, go_sem]
 obtain ⟨x6, yx6, h0⟩ := bs h0
 refine zc0 (heat_asks_ok k _ _ _ yx6) ?_ (by first | rfl | simp [AV.refsL, AV.refs, AV.scal, AV.leaf]) ?_
 try simp only [c2, c3, c5, go_sem]
 try simp only [c2, c3, c5, go_sem]
 refine AKev_bif h0 ?_ ?_ <;> intro c7 h0
 have c7 := bnot_t c7
 try simp only [c7, c2, c3, c5, go_sem]
 obtain rfl := Option.some.inj h0
 refine AKev_ret rfl ?_
 try simp only [F52.rs, c2, c3, c5, c7, go_sem]
 have c7 := bnot_f c7
 try simp only [c7, c2, c3, c5, go_sem]
 obtain ⟨r14, yr14, h0⟩ := bs h0
 refine AKev_loopS yr14 (heat_wanted.h0 l1 x6) (heat_wanted.x0 x6) ?_ ?_ ?_
 refine Weak.go [4, 5, 8, 10, 40, 41, 42] [16, 17, 18, 19, 20, 32, 33, 34, 35, 36, 368, 464] rfl ?_
 try simp only [heat_wanted.h0, c2, c3, c5, c7, go_sem]
 rintro ⟨s8, i9⟩ x_1 Bk1 Br1 h1 hnext1 hbrk1 hret1
 refine rS ?_
 simp only [heat_wanted.b0] at h1
 try simp only [F52.s0, heat_wanted.h0, c2, c3, c5, c7, go_sem]
 refine AKev_bif h1 ?_ ?_ <;> intro c11 h1
 try simp only [c11, c2, c3, c5, c7, go_sem]
 obtain ⟨x12, yx12, h1⟩ := bs h1
 try simp only [aa yx12, c2, c3, c5, c7, c11, go_sem]
 obtain ⟨x13, yx13, h1⟩ := bs h1
 refine zc0 (heat_furnace_asked_ok k _ _ _ _ yx13) ?_ (by first | rfl | simp [AV.refsL, AV.refs, AV.scal, AV.leaf]) ?_
 try simp only [c2, c3, c5, c7, c11, aa yx12, go_sem]
 try simp only [c2, c3, c5, c7, c11, aa yx12, go_sem]
 refine AKev_backB (hnext1 _ _ (Option.some.inj h1).symm ?_)
 refine Weak.go [4, 5, 8, 10, 40, 41, 42] [0, 1, 2, 3, 4, 5, 6, 7, 8, 9, 10, 11] rfl ?_
 try simp only [heat_wanted.h0, c2, c3, c5, c7, c11, aa yx12, go_sem]
 try simp only [c11, c2, c3, c5, c7, go_sem]
 refine AKev_backB (hbrk1 _ _ (Option.some.inj h1).symm ?_)
 refine Weak.go [4, 5, 8, 10] [0, 1, 2, 3, 4, 5, 6, 7, 8, 9, 10, 11] rfl ?_
 try simp only [heat_wanted.x0, c2, c3, c5, c7, c11, go_sem]
 rintro s10 hr_
 subst hr_
 simp only at h0
 refine rS ?_
 try simp only [heat_wanted.x0, c2, c3, c5, c7, go_sem]
 refine AKev_region T_ok follows_ok 1000 ?_
 try simp only [c2, c3, c5, c7, go_sem]
 refine DG_done ⟨rfl, run_sound T_ok 1000 _ _ ?_⟩
 try simp only [c2, c3, c5, c7, go_sem]
 obtain rfl := Option.some.inj h0
 refine AKev_ret rfl ?_
 try simp only [F52.rs, c2, c3, c5, c7, go_sem]
 have c3 := bnot_f c3
 try simp only [c3, c2, go_sem]
 obtain rfl := Option.some.inj h0
 refine AKev_ret rfl ?_
 try simp only [F52.rs, c2, c3, go_sem]
def F124.s0 : SC :=
 (.seq
 (.reg [b2 21 .lss 3 20 19 3 4 []])
 (.seq
 (.cond (.tmp 21)
 .skip
 (.exit 0))
 (.seq
 (.block 1
 (.seq
 (.reg [mv 22 20 3 [],
 sg 10 22 3 [22]])
 (.seq
 (.dreg [fa 23 135 4 1 [],
 ld 24 3 23 [],
 fa 25 81 3 0 [],
 fa 26 27 25 0 [],
 fa 27 24 26 0 [],
 ld 28 22 27 [],
 mv 29 10 3 [],
 ia 30 22 28 29 [],
 ld 31 89 30 [],
 fa 32 135 4 0 [],
 ld 33 3 32 [],
 ia 34 89 31 33 [],
 fa 35 30 34 0 [],
 ld 36 3 35 [],
 b2 37 .add 3 24 36 3 3 [],
 sg 11 37 3 []] [[], [0], [], [2], [2, 3], [2, 3, 4], [], [2, 3, 4, 5, 6], [2, 3, 4, 5, 6, 7], [], [9], [2, 3, 4, 5, 6, 7, 8, 9, 10], [2, 3, 4, 5, 6, 7, 8, 9, 10, 11], [2, 3, 4, 5, 6, 7, 8, 9, 10, 11, 12], [0, 1, 2, 3, 4, 5, 6, 7, 8, 9, 10, 11, 12, 13], [0, 1, 2, 3, 4, 5, 6, 7, 8, 9, 10, 11, 12, 13, 14]] [23, 24, 25, 26, 27, 28, 29, 30, 31, 32, 33, 34, 35, 36, 37])
 (.seq
 (.reg [ld 39 81 3 [],
 mv 40 10 3 [],
 cf2 41 107 39 40 81 3 132 [39, 40],
 mv 38 41 132 [41],
 xt 42 38 0 3 [],
 xt 43 38 1 3 [38],
 sg 12 42 3 [42],
 sg 13 43 3 [13, 43]])
 (.seq
 (.reg [mv 44 11 3 [],
 mv 45 12 3 [12],
 b2 46 .leq 3 44 45 3 4 [44, 45]])
 (.cond (.tmp 46)
 (.seq
 (.reg [mv 47 11 3 [11],
 fa 48 81 3 0 [],
 fa 49 27 48 0 [48],
 fa 50 24 49 0 [49],
 ld 51 22 50 [50],
 mv 52 10 3 [10],
 ia 53 22 51 52 [51, 52],
 ld 54 89 53 [53],
 mv 55 2 3 [],
 ia 56 89 54 55 [54, 55],
 fa 57 30 56 1 [56],
 ld 58 3 57 [57],
 b2 59 .sub 3 47 58 3 3 [47, 58],
 sg 14 59 3 [59]])
 (.seq
 (.reg [mv 60 9 4 [],
 oq 61 (.unOp .not 4 (.tmp 60)) 4 [60],
 mv 62 61 4 [61],
 og 63 (.move (.tmp 14)) 3 62 false [],
 og 64 (.move (.tmp 8)) 3 62 false [],
 og 65 (.binOp .lss 3 (.tmp 63) (.tmp 64) 3) 4 62 false [63, 64],
 oq 66 (.pick (.tmp 62) (.const (.bool true)) (.tmp 65)) 4 [62, 65]])
 (.cond (.tmp 66)
 (.reg [mv 67 14 3 [14],
 sg 8 67 3 [67],
 sb 9 true 4 []])
 .skip)))
 .skip))))))
 (.reg [bn 68 .add 3 20 1 3 3 [20],
 mv 20 68 3 [68]]))))
def F124.c : SC :=
 (.seq
 (.reg [oq 3 (.box 81 (.tmp 0)) 0 [0],
 oq 4 (.box 135 (.tmp 1)) 0 [1],
 sn 6 0 3 [6],
 sb 7 false 4 [7]])
 (.seq
 (.reg [sn 8 0 3 [],
 sb 9 false 4 []])
 (.seq
 (.seq
 (.reg [fa 15 81 3 0 [],
 fa 16 27 15 0 [15],
 fa 17 24 16 0 [16],
 ld 18 22 17 [17],
 ln 19 18 22 3 [18],
 oq 20 (.move (.const (.int .i64 0))) 3 []])
 (.block 0
 (.loop F124.s0)))
 (.seq
 (.reg [mv 69 8 3 [8],
 mv 70 9 4 [9],
 sg 6 69 3 [69],
 sg 7 70 4 [70]])
 .ret))))
theorem F124.rs : Tryz.f124.results.toList = [.tmp 6, .tmp 7] := rfl
def heat_furnace_shownLow.b0 (k : Nat) (f0 : heat_furnace) (x1 : heat_limit) (place2 : Int) : (Int × Bool × Int) → Option (Stp (Int × Bool × Int) (Int × Bool) (Int × Bool)) := fun (s : Int × Bool × Int) => match s with
 | (i1, b2, i3) =>
   bif decide (i3 < (f0.Firing.Kiln.Falls.length : Int)) then
    (at? f0.Firing.Kiln.Falls i3).bind fun x7 =>
    (at? x7 x1.place).bind fun x8 =>
    (heat_furnace_hottest k f0 i3).bind fun x9 =>
    bif decide (w64 (x1.heat + x8.Lo) ≤ x9.1) then
     (at? x7 place2).bind fun x11 =>
     bif b2 then
      bif decide (w64 ((w64 (x1.heat + x8.Lo)) - x11.Hi) < i1) then
       some (.next (w64 ((w64 (x1.heat + x8.Lo)) - x11.Hi), true, w64 (i3 + 1)))
      else
       some (.next (i1, b2, w64 (i3 + 1)))
     else
      some (.next (w64 ((w64 (x1.heat + x8.Lo)) - x11.Hi), true, w64 (i3 + 1)))
    else
     some (.next (i1, b2, w64 (i3 + 1)))
   else
    some (.brk (i1, b2))
noncomputable def heat_furnace_shownLow.h0 (f0 : heat_furnace) (x1 : heat_limit) (place2 : Int) : (Int × Bool × Int) → St := fun (s : Int × Bool × Int) => match s with
 | (i1, b2, i3) => ⟨[(2, .int .i64 place2), (3, .ptr 0 0 0), (4, .ptr 0 1 0), (8, .int .i64 i1), (9, .bool b2), (19, .int .i64 (f0.Firing.Kiln.Falls.length : Int)), (20, .int .i64 i3)], [(0, .box [.sl 1 (List.map (eL 2 Range.c) f0.Firing.Kiln.Falls), .sl 6 (List.map Reading.c f0.Firing.Readings), .sl 3 (List.map heat_limit.c f0.least), .sl 3 (List.map heat_limit.c f0.most)]), (1, .box [.int .i64 x1.place, .int .i64 x1.heat, .int .i64 x1.by_])], [], 2, Tryz.f124.ntmps⟩
noncomputable def heat_furnace_shownLow.x0 : (Int × Bool) → St := fun (s : Int × Bool) => match s with
 | (i4, b5) => ⟨[(8, .int .i64 i4), (9, .bool b5)], [], [], 1, Tryz.f124.ntmps⟩
def heat_furnace_shownLow (k : Nat) (f0 : heat_furnace) (x1 : heat_limit) (place2 : Int) : Option (Int × Bool) :=
 (whl (heat_furnace_shownLow.b0 k f0 x1 place2) k (0, false, 0)).bind fun r14 => match r14 with
 | .next _ => none
 | .ret v_ => some v_
 | .brk (i4, b5) =>
  some (i4, b5)
theorem heat_furnace_shownLow_ok (k : Nat) (f0 : heat_furnace) (x1 : heat_limit) (place2 : Int) (r : Int × Bool) (h0 : heat_furnace_shownLow k f0 x1 place2 = some r) : PCall Tryz.prog 124 [.agg (heat_furnace.c f0), .agg (heat_limit.c x1), .int .i64 place2] (fun y => y = .tup [.int .i64 r.1, .bool r.2]) := by
 refine PB (fn := Tryz.f124) (sc := F124.c) ?_
 refine rS ?_
 simp only [heat_furnace_shownLow] at h0
 try simp only [F124.c, go_sem]
 obtain ⟨r14, yr14, h0⟩ := bs h0
 refine AKev_loopS yr14 (heat_furnace_shownLow.h0 f0 x1 place2) (heat_furnace_shownLow.x0) ?_ ?_ ?_
 refine Weak.go [2, 3, 4, 8, 9, 19, 20] [0, 16] rfl ?_
 try simp only [heat_furnace_shownLow.h0, go_sem]
 rintro ⟨i1, b2, i3⟩ x_1 Bk1 Br1 h1 hnext1 hbrk1 hret1
 refine rS ?_
 simp only [heat_furnace_shownLow.b0] at h1
 try simp only [F124.s0, heat_furnace_shownLow.h0, go_sem]
 refine AKev_bif h1 ?_ ?_ <;> intro c6 h1
 try simp only [c6, go_sem]
 refine AKev_region T_ok follows_ok 1000 ?_
 try simp only [c6, go_sem]
 obtain ⟨x7, yx7, h1⟩ := bs h1
 try simp only [aa yx7, c6, go_sem]
 obtain ⟨x8, yx8, h1⟩ := bs h1
 try simp only [aa yx8, c6, aa yx7, go_sem]
 refine DG_done ⟨rfl, run_sound T_ok 1000 _ _ ?_⟩
 try simp only [c6, aa yx7, aa yx8, go_sem]
 obtain ⟨x9, yx9, h1⟩ := bs h1
 refine zc0 (heat_furnace_hottest_ok k _ _ _ yx9) ?_ (by first | rfl | simp [AV.refsL, AV.refs, AV.scal, AV.leaf]) ?_
 try simp only [c6, aa yx7, aa yx8, go_sem]
 try simp only [c6, aa yx7, aa yx8, go_sem]
 refine AKev_bif h1 ?_ ?_ <;> intro c10 h1
 try simp only [c10, aa yx7, c6, aa yx8, go_sem]
 obtain ⟨x11, yx11, h1⟩ := bs h1
 try simp only [aa yx11, c6, aa yx7, aa yx8, c10, go_sem]
 refine AKev_bif h1 ?_ ?_ <;> intro c12 h1
 try simp only [c12, c6, aa yx7, aa yx8, c10, aa yx11, go_sem]
 refine AKev_bif h1 ?_ ?_ <;> intro c13 h1
 try simp only [c13, c6, aa yx7, aa yx8, c10, aa yx11, c12, go_sem]
 refine AKev_backB (hnext1 _ _ (Option.some.inj h1).symm ?_)
 refine Weak.go [2, 3, 4, 8, 9, 19, 20] [0, 1] rfl ?_
 try simp only [heat_furnace_shownLow.h0, c6, aa yx7, aa yx8, c10, aa yx11, c12, c13, go_sem]
 try simp only [c13, c6, aa yx7, aa yx8, c10, aa yx11, c12, go_sem]
 refine AKev_backB (hnext1 _ _ (Option.some.inj h1).symm ?_)
 refine Weak.go [2, 3, 4, 8, 9, 19, 20] [0, 1] rfl ?_
 try simp only [heat_furnace_shownLow.h0, c6, aa yx7, aa yx8, c10, aa yx11, c12, c13, go_sem]
 try simp only [c12, c6, aa yx7, aa yx8, c10, aa yx11, go_sem]
 refine AKev_backB (hnext1 _ _ (Option.some.inj h1).symm ?_)
 refine Weak.go [2, 3, 4, 8, 9, 19, 20] [0, 1] rfl ?_
 try simp only [heat_furnace_shownLow.h0, c6, aa yx7, aa yx8, c10, aa yx11, c12, go_sem]
 try simp only [c10, c6, aa yx7, aa yx8, go_sem]
 refine AKev_backB (hnext1 _ _ (Option.some.inj h1).symm ?_)
 refine Weak.go [2, 3, 4, 8, 9, 19, 20] [0, 1] rfl ?_
 try simp only [heat_furnace_shownLow.h0, c6, aa yx7, aa yx8, c10, go_sem]
 try simp only [c6, go_sem]
 refine AKev_backB (hbrk1 _ _ (Option.some.inj h1).symm ?_)
 refine Weak.go [8, 9] [] rfl ?_
 try simp only [heat_furnace_shownLow.x0, c6, go_sem]
 rintro ⟨i4, b5⟩ hr_
 subst hr_
 simp only at h0
 refine rS ?_
 try simp only [heat_furnace_shownLow.x0, go_sem]
 obtain rfl := Option.some.inj h0
 refine AKev_ret rfl ?_
 try simp only [F124.rs, go_sem]
def F125.s0 : SC :=
 (.seq
 (.reg [b2 16 .lss 3 15 14 3 4 []])
 (.seq
 (.cond (.tmp 16)
 .skip
 (.exit 0))
 (.seq
 (.block 1
 (.seq
 (.reg [mv 17 15 3 [],
 sg 6 17 3 [17]])
 (.seq
 (.dreg [fa 18 135 3 1 [],
 ld 19 3 18 [],
 fa 20 81 2 0 [],
 fa 21 27 20 0 [],
 fa 22 24 21 0 [],
 ld 23 22 22 [],
 mv 24 6 3 [],
 ia 25 22 23 24 [],
 ld 26 89 25 [],
 fa 27 135 3 0 [],
 ld 28 3 27 [],
 ia 29 89 26 28 [],
 fa 30 30 29 0 [],
 ld 31 3 30 [],
 b2 32 .add 3 19 31 3 3 [],
 sg 7 32 3 []] [[], [0], [], [2], [2, 3], [2, 3, 4], [], [2, 3, 4, 5, 6], [2, 3, 4, 5, 6, 7], [], [9], [2, 3, 4, 5, 6, 7, 8, 9, 10], [2, 3, 4, 5, 6, 7, 8, 9, 10, 11], [2, 3, 4, 5, 6, 7, 8, 9, 10, 11, 12], [0, 1, 2, 3, 4, 5, 6, 7, 8, 9, 10, 11, 12, 13], [0, 1, 2, 3, 4, 5, 6, 7, 8, 9, 10, 11, 12, 13, 14]] [18, 19, 20, 21, 22, 23, 24, 25, 26, 27, 28, 29, 30, 31, 32])
 (.seq
 (.reg [ld 34 81 2 [],
 mv 35 6 3 [6],
 cf2 36 107 34 35 81 3 132 [34, 35],
 mv 33 36 132 [36],
 xt 37 33 0 3 [],
 xt 38 33 1 3 [33],
 sg 8 37 3 [37],
 sg 9 38 3 [38]])
 (.seq
 (.block 2
 (.seq
 (.reg [mv 40 7 3 [],
 mv 41 8 3 [8],
 b2 42 .leq 3 40 41 3 4 [40, 41],
 sg 39 42 4 [42]])
 (.cond (.tmp 39)
 (.reg [sn 9 (-1) 3 []])
 (.seq
 (.reg [mv 44 7 3 [7],
 bn 45 .gtr 3 44 3000 3 4 [44],
 sg 43 45 4 [45]])
 (.cond (.tmp 43)
 (.reg [sn 9 (-2) 3 []])
 .skip)))))
 (.reg [mv 46 5 37 [5],
 mv 47 9 3 [9],
 oq 48 (.buildSlice 37 1 #[(0, .tmp 47)]) 37 [47],
 oq 49 (.call ⟨.builtin .append, #[.tmp 46, .tmp 48], #[37, 37]⟩) 37 [46, 48],
 sg 5 49 37 [49]]))))))
 (.reg [bn 50 .add 3 15 1 3 3 [15],
 mv 15 50 3 [50]]))))
def F125.c : SC :=
 (.seq
 (.reg [oq 2 (.box 81 (.tmp 0)) 0 [0],
 oq 3 (.box 135 (.tmp 1)) 0 [1],
 oq 4 (.assign (.const (.slice none 0 0))) 37 [4]])
 (.seq
 (.reg [oq 5 (.assign (.const (.slice none 0 0))) 37 []])
 (.seq
 (.seq
 (.reg [fa 10 81 2 0 [],
 fa 11 27 10 0 [10],
 fa 12 24 11 0 [11],
 ld 13 22 12 [12],
 ln 14 13 22 3 [13],
 oq 15 (.move (.const (.int .i64 0))) 3 []])
 (.block 0
 (.loop F125.s0)))
 (.seq
 (.reg [mv 51 5 37 [5],
 sg 4 51 37 [51]])
 .ret))))
theorem F125.rs : Tryz.f125.results.toList = [.tmp 4] := rfl
def heat_furnace_cannot.b0 (k : Nat) (f0 : heat_furnace) (x1 : heat_limit) : (Int × (List Int)) → Option (Stp (Int × (List Int)) ((List Int)) ((List Int))) := fun (s : Int × (List Int)) => match s with
 | (i1, l2) =>
   bif decide (i1 < (f0.Firing.Kiln.Falls.length : Int)) then
    (at? f0.Firing.Kiln.Falls i1).bind fun x5 =>
    (at? x5 x1.place).bind fun x6 =>
    (heat_furnace_hottest k f0 i1).bind fun x7 =>
    bif decide (w64 (x1.heat + x6.Lo) ≤ x7.1) then
     (push? 8 l2 (-1)).bind fun l9 =>
     some (.next (w64 (i1 + 1), l9))
    else
     bif decide ((3000 : Int) < w64 (x1.heat + x6.Lo)) then
      (push? 8 l2 (-2)).bind fun l11 =>
      some (.next (w64 (i1 + 1), l11))
     else
      (push? 8 l2 x7.2).bind fun l12 =>
      some (.next (w64 (i1 + 1), l12))
   else
    some (.brk l2)
noncomputable def heat_furnace_cannot.h0 (f0 : heat_furnace) (x1 : heat_limit) : (Int × (List Int)) → St := fun (s : Int × (List Int)) => match s with
 | (i1, l2) => ⟨[(2, .ptr 0 0 0), (3, .ptr 0 1 0), (5, .loc 0 2 1 0 l2.length l2.length), (14, .int .i64 (f0.Firing.Kiln.Falls.length : Int)), (15, .int .i64 i1)], [(0, .box [.sl 1 (List.map (eL 2 Range.c) f0.Firing.Kiln.Falls), .sl 6 (List.map Reading.c f0.Firing.Readings), .sl 3 (List.map heat_limit.c f0.least), .sl 3 (List.map heat_limit.c f0.most)]), (1, .box [.int .i64 x1.place, .int .i64 x1.heat, .int .i64 x1.by_]), (2, .arr 3 1 (List.map eI l2))], [], 3, Tryz.f125.ntmps⟩
noncomputable def heat_furnace_cannot.x0 : (List Int) → St := fun (l3 : (List Int)) => ⟨[(5, .loc 0 0 1 0 l3.length l3.length)], [(0, .arr 3 1 (List.map eI l3))], [], 1, Tryz.f125.ntmps⟩
def heat_furnace_cannot (k : Nat) (f0 : heat_furnace) (x1 : heat_limit) : Option ((List Int)) :=
 (whl (heat_furnace_cannot.b0 k f0 x1) k (0, [])).bind fun r13 => match r13 with
 | .next _ => none
 | .ret v_ => some v_
 | .brk l3 =>
  some l3
theorem heat_furnace_cannot_ok (k : Nat) (f0 : heat_furnace) (x1 : heat_limit) (r : (List Int)) (h0 : heat_furnace_cannot k f0 x1 = some r) : PCall Tryz.prog 125 [.agg (heat_furnace.c f0), .agg (heat_limit.c x1)] (fun y => y = .sl 1 (List.map eI r)) := by
 refine PB (fn := Tryz.f125) (sc := F125.c) ?_
 refine rS ?_
 simp only [heat_furnace_cannot] at h0
 try simp only [F125.c, go_sem]
 obtain ⟨r13, yr13, h0⟩ := bs h0
 refine AKev_loopS yr13 (heat_furnace_cannot.h0 f0 x1) (heat_furnace_cannot.x0) ?_ ?_ ?_
 refine Weak.go [2, 3, 5, 14, 15] [0, 16, 48] rfl ?_
 try simp only [heat_furnace_cannot.h0, go_sem]
 rintro ⟨i1, l2⟩ x_1 Bk1 Br1 h1 hnext1 hbrk1 hret1
 refine rS ?_
 simp only [heat_furnace_cannot.b0] at h1
 try simp only [F125.s0, heat_furnace_cannot.h0, go_sem]
 refine AKev_bif h1 ?_ ?_ <;> intro c4 h1
 try simp only [c4, go_sem]
 refine AKev_region T_ok follows_ok 1000 ?_
 try simp only [c4, go_sem]
 obtain ⟨x5, yx5, h1⟩ := bs h1
 try simp only [aa yx5, c4, go_sem]
 obtain ⟨x6, yx6, h1⟩ := bs h1
 try simp only [aa yx6, c4, aa yx5, go_sem]
 refine DG_done ⟨rfl, run_sound T_ok 1000 _ _ ?_⟩
 try simp only [c4, aa yx5, aa yx6, go_sem]
 obtain ⟨x7, yx7, h1⟩ := bs h1
 refine zc0 (heat_furnace_hottest_ok k _ _ _ yx7) ?_ (by first | rfl | simp [AV.refsL, AV.refs, AV.scal, AV.leaf]) ?_
 try simp only [c4, aa yx5, aa yx6, go_sem]
 try simp only [c4, aa yx5, aa yx6, go_sem]
 refine AKev_bif h1 ?_ ?_ <;> intro c8 h1
 try simp only [c8, c4, aa yx5, aa yx6, go_sem]
 obtain ⟨l9, yl9, h1⟩ := bs h1
 have eyl9 := push_map eI yl9
 have tyl9 := push_take eI yl9
 have nyl9 := push_len yl9
 have myl9 := push_room yl9
 try simp only [c4, aa yx5, aa yx6, c8, go_sem] at eyl9 tyl9 nyl9 myl9
 try simp only [myl9, eyl9, c4, aa yx5, aa yx6, c8, nyl9, tyl9, go_sem]
 refine AKev_backB (hnext1 _ _ (Option.some.inj h1).symm ?_)
 refine Weak.go [2, 3, 5, 14, 15] [0, 1, 2] rfl ?_
 try simp only [heat_furnace_cannot.h0, c4, aa yx5, aa yx6, c8, eyl9, nyl9, tyl9, go_sem]
 try simp only [c8, c4, aa yx5, aa yx6, go_sem]
 refine AKev_bif h1 ?_ ?_ <;> intro c10 h1
 try simp only [c10, c4, aa yx5, aa yx6, c8, go_sem]
 obtain ⟨l11, yl11, h1⟩ := bs h1
 have eyl11 := push_map eI yl11
 have tyl11 := push_take eI yl11
 have nyl11 := push_len yl11
 have myl11 := push_room yl11
 try simp only [c4, aa yx5, aa yx6, c8, c10, go_sem] at eyl11 tyl11 nyl11 myl11
 try simp only [myl11, eyl11, c4, aa yx5, aa yx6, c8, c10, nyl11, tyl11, go_sem]
 refine AKev_backB (hnext1 _ _ (Option.some.inj h1).symm ?_)
 refine Weak.go [2, 3, 5, 14, 15] [0, 1, 2] rfl ?_
 try simp only [heat_furnace_cannot.h0, c4, aa yx5, aa yx6, c8, c10, eyl11, nyl11, tyl11, go_sem]
 try simp only [c10, c4, aa yx5, aa yx6, c8, go_sem]
 obtain ⟨l12, yl12, h1⟩ := bs h1
 have eyl12 := push_map eI yl12
 have tyl12 := push_take eI yl12
 have nyl12 := push_len yl12
 have myl12 := push_room yl12
 try simp only [c4, aa yx5, aa yx6, c8, c10, go_sem] at eyl12 tyl12 nyl12 myl12
 try simp only [myl12, eyl12, c4, aa yx5, aa yx6, c8, c10, nyl12, tyl12, go_sem]
 refine AKev_backB (hnext1 _ _ (Option.some.inj h1).symm ?_)
 refine Weak.go [2, 3, 5, 14, 15] [0, 1, 2] rfl ?_
 try simp only [heat_furnace_cannot.h0, c4, aa yx5, aa yx6, c8, c10, eyl12, nyl12, tyl12, go_sem]
 try simp only [c4, go_sem]
 refine AKev_backB (hbrk1 _ _ (Option.some.inj h1).symm ?_)
 refine Weak.go [5] [2] rfl ?_
 try simp only [heat_furnace_cannot.x0, c4, go_sem]
 rintro l3 hr_
 subst hr_
 simp only at h0
 refine rS ?_
 try simp only [heat_furnace_cannot.x0, go_sem]
 obtain rfl := Option.some.inj h0
 refine AKev_ret rfl ?_
 try simp only [F125.rs, go_sem]
def F82.s1 : SC :=
 (.seq
 (.reg [b2 51 .lss 3 50 49 3 0 []])
 (.seq
 (.cond (.tmp 51)
 .skip
 (.exit 2))
 (.seq
 (.block 3
 (.seq
 (.reg [ia 52 79 48 50 [],
 ld 53 135 52 [52],
 oq 11 (.alloc 135) 0 [],
 ⟨none, .store 135 (.tmp 11) (.tmp 53), 0, none, [53]⟩])
 (.seq
 (.seq
 (.reg [fa 54 135 11 0 [],
 ld 55 3 54 [54],
 mv 56 1 3 [],
 b2 57 .eql 3 55 56 3 4 [55, 56]])
 (.cond (.tmp 57)
 (.seq
 (.seq
 (.reg [fa 58 135 11 1 [],
 ld 59 3 58 [58],
 mv 60 6 3 [],
 b2 61 .gtr 3 59 60 3 4 [59, 60]])
 (.cond (.tmp 61)
 (.dreg [fa 62 135 11 1 [],
 ld 63 3 62 [],
 fa 64 135 11 2 [],
 ld 65 3 64 [],
 oq 66 (.build 57 #[(0, .tmp 65)]) 57 [],
 sg 6 63 3 [],
 ⟨none, .store 57 (.tmp 7) (.tmp 66), 0, none, []⟩] [[], [0], [], [2], [2, 3], [0, 1], [2, 3, 4, 0, 1, 5]] [11, 62, 63, 64, 65, 66])
 .skip))
 (.exit 3))
 .skip))
 (.seq
 (.reg [ld 68 81 2 [],
 ld 69 135 11 [],
 mv 70 1 3 [],
 oq 71 (.call ⟨.value (.func 124), #[.tmp 68, .tmp 69, .tmp 70], #[81, 135, 3]⟩) 126 [68, 69, 70],
 mv 67 71 126 [71],
 xt 72 67 0 3 [],
 xt 73 67 1 4 [67],
 sg 12 72 3 [72],
 sg 13 73 4 [73]])
 (.seq
 (.reg [mv 74 13 4 [13],
 mv 75 74 4 [74],
 og 76 (.move (.tmp 12)) 3 75 true [],
 og 77 (.move (.tmp 6)) 3 75 true [],
 og 78 (.binOp .gtr 3 (.tmp 76) (.tmp 77) 3) 4 75 true [76, 77],
 oq 79 (.pick (.tmp 75) (.tmp 78) (.const (.bool false))) 4 [75, 78]])
 (.cond (.tmp 79)
 (.dreg [mv 80 12 3 [],
 fa 81 135 11 2 [],
 ld 82 3 81 [],
 ld 83 81 2 [],
 ld 84 135 11 [],
 cf2 85 125 83 84 81 135 37 [],
 oq 86 (.build 57 #[(0, .tmp 82), (1, .tmp 85)]) 57 [],
 sg 6 80 3 [],
 ⟨none, .store 57 (.tmp 7) (.tmp 86), 0, none, []⟩] [[], [], [1], [], [], [3, 4], [1, 2, 3, 4, 5], [0, 3, 4, 5], [1, 2, 3, 4, 5, 6, 0, 7]] [11, 12, 80, 81, 82, 83, 84, 85, 86])
 .skip))))))
 (.reg [bn 87 .add 3 50 1 3 3 [50],
 mv 50 87 3 [87]]))))
def F82.s0 : SC :=
 (.seq
 (.reg [b2 21 .lss 3 20 19 3 4 []])
 (.seq
 (.cond (.tmp 21)
 .skip
 (.exit 0))
 (.seq
 (.block 1
 (.seq
 (.reg [mv 22 20 3 [],
 sg 8 22 3 [22]])
 (.seq
 (.reg [fa 23 81 2 0 [],
 fa 24 27 23 0 [23],
 fa 25 24 24 0 [24],
 ld 26 22 25 [25],
 mv 27 8 3 [],
 ia 28 22 26 27 [26, 27],
 ld 29 89 28 [28],
 mv 30 1 3 [],
 ia 31 89 29 30 [29, 30],
 fa 32 30 31 1 [31],
 ld 33 3 32 [32],
 oq 34 (.unOp .neg 3 (.tmp 33)) 3 [33],
 sg 9 34 3 [34]])
 (.seq
 (.reg [mv 35 8 3 [],
 bn 36 .eql 3 35 0 3 4 [35],
 mv 37 36 4 [36],
 og 38 (.move (.tmp 9)) 3 37 false [],
 og 39 (.move (.tmp 6)) 3 37 false [],
 og 40 (.binOp .gtr 3 (.tmp 38) (.tmp 39) 3) 4 37 false [38, 39],
 oq 41 (.pick (.tmp 37) (.const (.bool true)) (.tmp 40)) 4 [37, 40]])
 (.cond (.tmp 41)
 (.reg [mv 42 9 3 [9],
 mv 43 8 3 [8],
 oq 44 (.buildSlice 37 1 #[(0, .tmp 43)]) 37 [43],
 oq 45 (.build 57 #[(0, .const (.int .i64 (-2))), (1, .tmp 44)]) 57 [44],
 sg 6 42 3 [42],
 ⟨none, .store 57 (.tmp 7) (.tmp 45), 0, none, [45]⟩])
 .skip)))))
 (.reg [bn 46 .add 3 20 1 3 3 [20],
 mv 20 46 3 [46]]))))
def F82.c : SC :=
 (.seq
 (.reg [oq 2 (.box 81 (.tmp 0)) 0 [0],
 sn 4 0 3 [4],
 oq 5 (.alloc 57) 0 []])
 (.seq
 (.reg [oq 14 (.build 57 #[]) 57 [],
 oq 7 (.alloc 57) 0 [],
 sn 6 (-3000) 3 [],
 ⟨none, .store 57 (.tmp 7) (.tmp 14), 0, none, [14]⟩])
 (.seq
 (.seq
 (.reg [fa 15 81 2 0 [],
 fa 16 27 15 0 [15],
 fa 17 24 16 0 [16],
 ld 18 22 17 [17],
 ln 19 18 22 3 [18],
 oq 20 (.move (.const (.int .i64 0))) 3 []])
 (.block 0
 (.loop F82.s0)))
 (.seq
 (.seq
 (.reg [fa 47 81 2 1 [],
 ld 48 79 47 [47],
 ln 49 48 79 3 [],
 oq 50 (.move (.const (.int .i64 0))) 3 []])
 (.block 2
 (.loop F82.s1)))
 (.seq
 (.dreg [mv 88 6 3 [],
 ld 89 57 7 [],
 sg 4 88 3 [],
 ⟨none, .store 57 (.tmp 5) (.tmp 89), 0, none, []⟩] [[], [], [0], [1, 0, 2]] [6, 7, 88, 89])
 .ret)))))
theorem F82.rs : Tryz.f82.results.toList = [.tmp 4, .cell 5 57] := rfl
def heat_furnace_lowest.b0 (k : Nat) (f0 : heat_furnace) (place1 : Int) : (Int × Int × Int × (List Int)) → Option (Stp (Int × Int × Int × (List Int)) (Int × Int × (List Int)) (Int × HeatProof)) := fun (s : Int × Int × Int × (List Int)) => match s with
 | (i1, i2, i3, l4) =>
   bif decide (i2 < (f0.Firing.Kiln.Falls.length : Int)) then
    (at? f0.Firing.Kiln.Falls i2).bind fun x9 =>
    (at? x9 place1).bind fun x10 =>
    bif (!decide (i2 = (0 : Int))) then
     bif decide (i1 < w64 (0 - x10.Hi)) then
      some (.next (w64 (0 - x10.Hi), w64 (i2 + 1), -2, [i2]))
     else
      some (.next (i1, w64 (i2 + 1), i3, l4))
    else
     some (.next (w64 (0 - x10.Hi), w64 (i2 + 1), -2, [i2]))
   else
    some (.brk (i1, i3, l4))
def heat_furnace_lowest.b1 (k : Nat) (f0 : heat_furnace) (place1 : Int) : (HeatProof × Int × Int) → Option (Stp (HeatProof × Int × Int) (HeatProof × Int) (Int × HeatProof)) := fun (s : HeatProof × Int × Int) => match s with
 | (s14, i15, i16) =>
   bif decide (i16 < (f0.least.length : Int)) then
    (at? f0.least i16).bind fun x20 =>
    bif decide (x20.place = place1) then
     bif decide (i15 < x20.heat) then
      some (.next ((⟨x20.by_, []⟩ : HeatProof), x20.heat, w64 (i16 + 1)))
     else
      some (.next (s14, i15, w64 (i16 + 1)))
    else
     (heat_furnace_shownLow k f0 x20 place1).bind fun x23 =>
     bif x23.2 then
      bif decide (i15 < x23.1) then
       (heat_furnace_cannot k f0 x20).bind fun x26 =>
       some (.next ((⟨x20.by_, x26⟩ : HeatProof), x23.1, w64 (i16 + 1)))
      else
       some (.next (s14, i15, w64 (i16 + 1)))
     else
      some (.next (s14, i15, w64 (i16 + 1)))
   else
    some (.brk (s14, i15))
noncomputable def heat_furnace_lowest.h0 (f0 : heat_furnace) (place1 : Int) : (Int × Int × Int × (List Int)) → St := fun (s : Int × Int × Int × (List Int)) => match s with
 | (i1, i2, i3, l4) => ⟨[(1, .int .i64 place1), (2, .ptr 0 0 0), (5, .ptr 0 1 0), (6, .int .i64 i1), (7, .ptr 0 3 0), (19, .int .i64 (f0.Firing.Kiln.Falls.length : Int)), (20, .int .i64 i2)], [(0, .box [.sl 1 (List.map (eL 2 Range.c) f0.Firing.Kiln.Falls), .sl 6 (List.map Reading.c f0.Firing.Readings), .sl 3 (List.map heat_limit.c f0.least), .sl 3 (List.map heat_limit.c f0.most)]), (1, .box [.int .i64 0, .loc 0 2 1 0 0 0]), (2, .arr 3 1 (List.map eI [])), (3, .box [.int .i64 i3, .loc 0 4 1 0 l4.length l4.length]), (4, .arr 3 1 (List.map eI l4))], [], 5, Tryz.f82.ntmps⟩
noncomputable def heat_furnace_lowest.x0 (f0 : heat_furnace) (place1 : Int) : (Int × Int × (List Int)) → St := fun (s : Int × Int × (List Int)) => match s with
 | (i5, i6, l7) => ⟨[(1, .int .i64 place1), (2, .ptr 0 0 0), (5, .ptr 0 1 0), (6, .int .i64 i5), (7, .ptr 0 3 0)], [(0, .box [.sl 1 (List.map (eL 2 Range.c) f0.Firing.Kiln.Falls), .sl 6 (List.map Reading.c f0.Firing.Readings), .sl 3 (List.map heat_limit.c f0.least), .sl 3 (List.map heat_limit.c f0.most)]), (1, .box [.int .i64 0, .loc 0 2 1 0 0 0]), (2, .arr 3 1 (List.map eI [])), (3, .box [.int .i64 i6, .loc 0 4 1 0 l7.length l7.length]), (4, .arr 3 1 (List.map eI l7))], [], 5, Tryz.f82.ntmps⟩
noncomputable def heat_furnace_lowest.h1 (f0 : heat_furnace) (place1 : Int) : (HeatProof × Int × Int) → St := fun (s : HeatProof × Int × Int) => match s with
 | (s14, i15, i16) => ⟨[(1, .int .i64 place1), (2, .ptr 0 0 0), (5, .ptr 0 1 0), (6, .int .i64 i15), (7, .ptr 0 3 0), (48, .sl 3 (List.map heat_limit.c f0.least)), (49, .int .i64 (f0.least.length : Int)), (50, .int .i64 i16)], [(0, .box [.sl 1 (List.map (eL 2 Range.c) f0.Firing.Kiln.Falls), .sl 6 (List.map Reading.c f0.Firing.Readings), .sl 3 (List.map heat_limit.c f0.least), .sl 3 (List.map heat_limit.c f0.most)]), (1, .box [.int .i64 0, .loc 0 2 1 0 0 0]), (2, .arr 3 1 (List.map eI [])), (3, .box [.int .i64 s14.Reading, .sl 1 (List.map eI s14.By)])], [], 4, Tryz.f82.ntmps⟩
noncomputable def heat_furnace_lowest.x1 : (HeatProof × Int) → St := fun (s : HeatProof × Int) => match s with
 | (s17, i18) => ⟨[(5, .ptr 0 0 0), (6, .int .i64 i18), (7, .ptr 0 2 0)], [(0, .box [.int .i64 0, .loc 0 1 1 0 0 0]), (1, .arr 3 1 (List.map eI [])), (2, .box [.int .i64 s17.Reading, .sl 1 (List.map eI s17.By)])], [], 3, Tryz.f82.ntmps⟩
def heat_furnace_lowest (k : Nat) (f0 : heat_furnace) (place1 : Int) : Option (Int × HeatProof) :=
 (whl (heat_furnace_lowest.b0 k f0 place1) k (-3000, 0, 0, [])).bind fun r13 => match r13 with
 | .next _ => none
 | .ret v_ => some v_
 | .brk (i5, i6, l7) =>
  (whl (heat_furnace_lowest.b1 k f0 place1) k ((⟨i6, l7⟩ : HeatProof), i5, 0)).bind fun r27 => match r27 with
  | .next _ => none
  | .ret v_ => some v_
  | .brk (s17, i18) =>
   some (i18, s17)
theorem heat_furnace_lowest_ok (k : Nat) (f0 : heat_furnace) (place1 : Int) (r : Int × HeatProof) (h0 : heat_furnace_lowest k f0 place1 = some r) : PCall Tryz.prog 82 [.agg (heat_furnace.c f0), .int .i64 place1] (fun y => y = .tup [.int .i64 r.1, .agg (HeatProof.c r.2)]) := by
 refine PB (fn := Tryz.f82) (sc := F82.c) ?_
 refine rS ?_
 simp only [heat_furnace_lowest] at h0
 try simp only [F82.c, go_sem]
 obtain ⟨r13, yr13, h0⟩ := bs h0
 refine AKev_loopS yr13 (heat_furnace_lowest.h0 f0 place1) (heat_furnace_lowest.x0 f0 place1) ?_ ?_ ?_
 refine Weak.go [1, 2, 5, 6, 7, 19, 20] [0, 32, 33, 64, 96] rfl ?_
 try simp only [heat_furnace_lowest.h0, go_sem]
 rintro ⟨i1, i2, i3, l4⟩ x_1 Bk1 Br1 h1 hnext1 hbrk1 hret1
 refine rS ?_
 simp only [heat_furnace_lowest.b0] at h1
 try simp only [F82.s0, heat_furnace_lowest.h0, go_sem]
 refine AKev_bif h1 ?_ ?_ <;> intro c8 h1
 try simp only [c8, go_sem]
 obtain ⟨x9, yx9, h1⟩ := bs h1
 try simp only [aa yx9, c8, go_sem]
 obtain ⟨x10, yx10, h1⟩ := bs h1
 try simp only [aa yx10, c8, aa yx9, go_sem]
 refine AKev_bif h1 ?_ ?_ <;> intro c11 h1
 have c11 := bnot_t c11
 try simp only [c11, c8, aa yx9, aa yx10, go_sem]
 refine AKev_bif h1 ?_ ?_ <;> intro c12 h1
 try simp only [c12, c8, aa yx9, aa yx10, c11, go_sem]
 refine AKev_backB (hnext1 _ _ (Option.some.inj h1).symm ?_)
 refine Weak.go [1, 2, 5, 6, 7, 19, 20] [0, 1, 2, 3, 405] rfl ?_
 try simp only [heat_furnace_lowest.h0, c8, aa yx9, aa yx10, c11, c12, go_sem]
 try simp only [c12, c8, aa yx9, aa yx10, c11, go_sem]
 refine AKev_backB (hnext1 _ _ (Option.some.inj h1).symm ?_)
 refine Weak.go [1, 2, 5, 6, 7, 19, 20] [0, 1, 2, 3, 4] rfl ?_
 try simp only [heat_furnace_lowest.h0, c8, aa yx9, aa yx10, c11, c12, go_sem]
 have c11 := bnot_f c11
 try simp only [c11, c8, aa yx9, aa yx10, go_sem]
 refine AKev_backB (hnext1 _ _ (Option.some.inj h1).symm ?_)
 refine Weak.go [1, 2, 5, 6, 7, 19, 20] [0, 1, 2, 3, 405] rfl ?_
 try simp only [heat_furnace_lowest.h0, c8, aa yx9, aa yx10, c11, go_sem]
 try simp only [c8, go_sem]
 refine AKev_backB (hbrk1 _ _ (Option.some.inj h1).symm ?_)
 refine Weak.go [1, 2, 5, 6, 7] [0, 1, 2, 3, 4] rfl ?_
 try simp only [heat_furnace_lowest.x0, c8, go_sem]
 rintro ⟨i5, i6, l7⟩ hr_
 subst hr_
 simp only at h0
 refine rS ?_
 try simp only [heat_furnace_lowest.x0, go_sem]
 obtain ⟨r27, yr27, h0⟩ := bs h0
 refine AKev_loopS yr27 (heat_furnace_lowest.h1 f0 place1) (heat_furnace_lowest.x1) ?_ ?_ ?_
 refine Weak.trans (Weak.fz 4 rfl (fun _ h => by cases h)) ?_
 refine Weak.go [1, 2, 5, 6, 7, 48, 49, 50] [0, 1, 2, 3] rfl ?_
 try simp only [heat_furnace_lowest.h1, go_sem]
 rintro ⟨s14, i15, i16⟩ x_1 Bk1 Br1 h1 hnext1 hbrk1 hret1
 refine rS ?_
 simp only [heat_furnace_lowest.b1] at h1
 try simp only [F82.s1, heat_furnace_lowest.h1, go_sem]
 refine AKev_bif h1 ?_ ?_ <;> intro c19 h1
 try simp only [c19, go_sem]
 obtain ⟨x20, yx20, h1⟩ := bs h1
 try simp only [aa yx20, c19, go_sem]
 refine AKev_bif h1 ?_ ?_ <;> intro c21 h1
 try simp only [c21, c19, aa yx20, go_sem]
 refine AKev_bif h1 ?_ ?_ <;> intro c22 h1
 try simp only [c22, c19, aa yx20, c21, go_sem]
 refine AKev_region T_ok follows_ok 1000 ?_
 try simp only [c19, aa yx20, c21, c22, go_sem]
 refine DG_done ⟨rfl, run_sound T_ok 1000 _ _ ?_⟩
 try simp only [c19, aa yx20, c21, c22, go_sem]
 refine AKev_backB (hnext1 _ _ (Option.some.inj h1).symm ?_)
 refine Weak.trans (Weak.fz 308 rfl (fun _ h => by cases h)) ?_
 refine Weak.go [1, 2, 5, 6, 7, 48, 49, 50] [0, 1, 2, 3] rfl ?_
 try simp only [heat_furnace_lowest.h1, c19, aa yx20, c21, c22, go_sem]
 try simp only [c22, c19, aa yx20, c21, go_sem]
 refine AKev_backB (hnext1 _ _ (Option.some.inj h1).symm ?_)
 refine Weak.go [1, 2, 5, 6, 7, 48, 49, 50] [0, 1, 2, 3] rfl ?_
 try simp only [heat_furnace_lowest.h1, c19, aa yx20, c21, c22, go_sem]
 try simp only [c21, c19, aa yx20, go_sem]
 obtain ⟨x23, yx23, h1⟩ := bs h1
 refine zc0 (heat_furnace_shownLow_ok k _ _ _ _ yx23) ?_ (by first | rfl | simp [AV.refsL, AV.refs, AV.scal, AV.leaf]) ?_
 try simp only [c19, aa yx20, c21, go_sem]
 try simp only [c19, aa yx20, c21, go_sem]
 refine AKev_bif h1 ?_ ?_ <;> intro c24 h1
 try simp only [c24, c19, aa yx20, c21, go_sem]
 refine AKev_bif h1 ?_ ?_ <;> intro c25 h1
 try simp only [c25, c19, aa yx20, c21, c24, go_sem]
 refine AKev_region T_ok follows_ok 1000 ?_
 try simp only [c19, aa yx20, c21, c24, c25, go_sem]
 obtain ⟨x26, yx26, h1⟩ := bs h1
 refine DG_call0 1000 (heat_furnace_cannot_ok k _ _ _ yx26) ?_ (by first | rfl | simp [AV.refsL, AV.refs, AV.scal, AV.leaf]) ?_
 try simp only [c19, aa yx20, c21, c24, c25, go_sem]
 try simp only [c19, aa yx20, c21, c24, c25, go_sem]
 refine DG_done ⟨rfl, run_sound T_ok 1000 _ _ ?_⟩
 try simp only [c19, aa yx20, c21, c24, c25, go_sem]
 refine AKev_backB (hnext1 _ _ (Option.some.inj h1).symm ?_)
 refine Weak.go [1, 2, 5, 6, 7, 48, 49, 50] [0, 1, 2, 3] rfl ?_
 try simp only [heat_furnace_lowest.h1, c19, aa yx20, c21, c24, c25, go_sem]
 try simp only [c25, c19, aa yx20, c21, c24, go_sem]
 refine AKev_backB (hnext1 _ _ (Option.some.inj h1).symm ?_)
 refine Weak.go [1, 2, 5, 6, 7, 48, 49, 50] [0, 1, 2, 3] rfl ?_
 try simp only [heat_furnace_lowest.h1, c19, aa yx20, c21, c24, c25, go_sem]
 try simp only [c24, c19, aa yx20, c21, go_sem]
 refine AKev_backB (hnext1 _ _ (Option.some.inj h1).symm ?_)
 refine Weak.go [1, 2, 5, 6, 7, 48, 49, 50] [0, 1, 2, 3] rfl ?_
 try simp only [heat_furnace_lowest.h1, c19, aa yx20, c21, c24, go_sem]
 try simp only [c19, go_sem]
 refine AKev_backB (hbrk1 _ _ (Option.some.inj h1).symm ?_)
 refine Weak.go [5, 6, 7] [1, 2, 3] rfl ?_
 try simp only [heat_furnace_lowest.x1, c19, go_sem]
 rintro ⟨s17, i18⟩ hr_
 subst hr_
 simp only at h0
 refine rS ?_
 try simp only [heat_furnace_lowest.x1, go_sem]
 refine AKev_region T_ok follows_ok 1000 ?_
 try simp only [go_sem]
 refine DG_done ⟨rfl, run_sound T_ok 1000 _ _ ?_⟩
 try simp only [go_sem]
 obtain rfl := Option.some.inj h0
 refine AKev_ret rfl ?_
 try simp only [F82.rs, go_sem]
def F84.s0 : SC :=
 (.seq
 (.reg [b2 20 .lss 3 19 18 3 4 []])
 (.seq
 (.cond (.tmp 20)
 .skip
 (.exit 0))
 (.seq
 (.block 1
 (.seq
 (.reg [mv 21 19 3 [],
 sg 8 21 3 [21]])
 (.seq
 (.reg [ld 23 81 2 [],
 mv 24 8 3 [],
 cf2 25 107 23 24 81 3 132 [23, 24],
 mv 22 25 132 [25],
 xt 26 22 0 3 [],
 xt 27 22 1 3 [22],
 sg 9 26 3 [26],
 sg 10 27 3 [27]])
 (.seq
 (.reg [mv 28 6 3 [6],
 mv 29 9 3 [9],
 fa 30 81 2 0 [],
 fa 31 27 30 0 [30],
 fa 32 24 31 0 [31],
 ld 33 22 32 [32],
 mv 34 8 3 [8],
 ia 35 22 33 34 [33, 34],
 ld 36 89 35 [35],
 mv 37 1 3 [],
 ia 38 89 36 37 [36, 37],
 fa 39 30 38 0 [38],
 ld 40 3 39 [39],
 b2 41 .sub 3 29 40 3 3 [29, 40],
 oq 42 (.call ⟨.builtin .max, #[.tmp 28, .tmp 41], #[3, 3]⟩) 3 [28, 41],
 sg 6 42 3 [42]])
 (.reg [fa 43 57 7 1 [],
 ld 44 37 43 [43],
 mv 45 10 3 [10],
 oq 46 (.buildSlice 37 1 #[(0, .tmp 45)]) 37 [45],
 oq 47 (.call ⟨.builtin .append, #[.tmp 44, .tmp 46], #[37, 37]⟩) 37 [44, 46],
 fa 48 57 7 1 [],
 ⟨none, .store 37 (.tmp 48) (.tmp 47), 0, none, [47, 48]⟩])))))
 (.reg [bn 49 .add 3 19 1 3 3 [19],
 mv 19 49 3 [49]]))))
def F84.c : SC :=
 (.seq
 (.reg [oq 2 (.box 81 (.tmp 0)) 0 [0],
 sn 4 0 3 [4],
 oq 5 (.alloc 57) 0 []])
 (.seq
 (.reg [oq 13 (.build 57 #[(0, .const (.int .i64 (-1)))]) 57 [],
 oq 7 (.alloc 57) 0 [],
 sn 6 (-3000) 3 [],
 ⟨none, .store 57 (.tmp 7) (.tmp 13), 0, none, [13]⟩])
 (.seq
 (.seq
 (.reg [fa 14 81 2 0 [],
 fa 15 27 14 0 [14],
 fa 16 24 15 0 [15],
 ld 17 22 16 [16],
 ln 18 17 22 3 [17],
 oq 19 (.move (.const (.int .i64 0))) 3 []])
 (.block 0
 (.loop F84.s0)))
 (.seq
 (.seq
 (.reg [fa 51 81 2 2 [2],
 ld 52 79 51 [51],
 mv 53 1 3 [1],
 oq 54 (.call ⟨.value (.func 108), #[.tmp 52, .tmp 53, .func 109], #[79, 3, 138]⟩) 136 [52, 53],
 mv 50 54 136 [54],
 xt 55 50 0 135 [],
 xt 56 50 1 4 [50],
 oq 11 (.alloc 135) 0 [],
 ⟨none, .store 135 (.tmp 11) (.tmp 55), 0, none, [55]⟩,
 sg 12 56 4 [56]])
 (.seq
 (.reg [mv 57 12 4 [12],
 mv 58 57 4 [57],
 og 59 (.fieldAddr 135 (.tmp 11) 1) 0 58 true [],
 og 60 (.load 3 (.tmp 59)) 3 58 true [59],
 og 61 (.move (.tmp 6)) 3 58 true [],
 og 62 (.binOp .leq 3 (.tmp 60) (.tmp 61) 3) 4 58 true [60, 61],
 oq 63 (.pick (.tmp 58) (.tmp 62) (.const (.bool false))) 4 [58, 62]])
 (.cond (.tmp 63)
 (.seq
 (.dreg [fa 64 135 11 1 [],
 ld 65 3 64 [],
 fa 66 135 11 2 [],
 ld 67 3 66 [],
 oq 68 (.build 57 #[(0, .tmp 67)]) 57 [],
 sg 4 65 3 [],
 ⟨none, .store 57 (.tmp 5) (.tmp 68), 0, none, []⟩] [[], [0], [], [2], [2, 3], [0, 1], [2, 3, 4, 0, 1, 5]] [11, 64, 65, 66, 67, 68])
 .ret)
 .skip)))
 (.seq
 (.dreg [mv 69 6 3 [],
 ld 70 57 7 [],
 sg 4 69 3 [],
 ⟨none, .store 57 (.tmp 5) (.tmp 70), 0, none, []⟩] [[], [], [0], [1, 0, 2]] [6, 7, 69, 70])
 .ret)))))
theorem F84.rs : Tryz.f84.results.toList = [.tmp 4, .cell 5 57] := rfl
def heat_furnace_highest.b0 (k : Nat) (f0 : heat_furnace) (place1 : Int) : (Int × Int × (List Int)) → Option (Stp (Int × Int × (List Int)) (Int × (List Int)) (Int × HeatProof)) := fun (s : Int × Int × (List Int)) => match s with
 | (i1, i2, l3) =>
   bif decide (i2 < (f0.Firing.Kiln.Falls.length : Int)) then
    (heat_furnace_hottest k f0 i2).bind fun x7 =>
    (at? f0.Firing.Kiln.Falls i2).bind fun x8 =>
    (at? x8 place1).bind fun x9 =>
    (push? 8 l3 x7.2).bind fun l10 =>
    some (.next (max i1 (w64 (x7.1 - x9.Lo)), w64 (i2 + 1), l10))
   else
    some (.brk (i1, l3))
noncomputable def heat_furnace_highest.h0 (f0 : heat_furnace) (place1 : Int) : (Int × Int × (List Int)) → St := fun (s : Int × Int × (List Int)) => match s with
 | (i1, i2, l3) => ⟨[(1, .int .i64 place1), (2, .ptr 0 0 0), (5, .ptr 0 1 0), (6, .int .i64 i1), (7, .ptr 0 3 0), (18, .int .i64 (f0.Firing.Kiln.Falls.length : Int)), (19, .int .i64 i2)], [(0, .box [.sl 1 (List.map (eL 2 Range.c) f0.Firing.Kiln.Falls), .sl 6 (List.map Reading.c f0.Firing.Readings), .sl 3 (List.map heat_limit.c f0.least), .sl 3 (List.map heat_limit.c f0.most)]), (1, .box [.int .i64 0, .loc 0 2 1 0 0 0]), (2, .arr 3 1 (List.map eI [])), (3, .box [.int .i64 (-1), .loc 0 4 1 0 l3.length l3.length]), (4, .arr 3 1 (List.map eI l3))], [], 5, Tryz.f84.ntmps⟩
noncomputable def heat_furnace_highest.x0 (f0 : heat_furnace) (place1 : Int) : (Int × (List Int)) → St := fun (s : Int × (List Int)) => match s with
 | (i4, l5) => ⟨[(1, .int .i64 place1), (2, .ptr 0 0 0), (5, .ptr 0 1 0), (6, .int .i64 i4), (7, .ptr 0 3 0)], [(0, .box [.sl 1 (List.map (eL 2 Range.c) f0.Firing.Kiln.Falls), .sl 6 (List.map Reading.c f0.Firing.Readings), .sl 3 (List.map heat_limit.c f0.least), .sl 3 (List.map heat_limit.c f0.most)]), (1, .box [.int .i64 0, .loc 0 2 1 0 0 0]), (2, .arr 3 1 (List.map eI [])), (3, .box [.int .i64 (-1), .loc 0 4 1 0 l5.length l5.length]), (4, .arr 3 1 (List.map eI l5))], [], 5, Tryz.f84.ntmps⟩
def heat_furnace_highest (k : Nat) (f0 : heat_furnace) (place1 : Int) : Option (Int × HeatProof) :=
 (whl (heat_furnace_highest.b0 k f0 place1) k (-3000, 0, [])).bind fun r11 => match r11 with
 | .next _ => none
 | .ret v_ => some v_
 | .brk (i4, l5) =>
  (heat_best k f0.most place1 (fun q0 q1 => heat_less k q0 q1)).bind fun x12 =>
  bif x12.2 then
   bif decide (x12.1.heat ≤ i4) then
    some (x12.1.heat, (⟨x12.1.by_, []⟩ : HeatProof))
   else
    some (i4, (⟨-1, l5⟩ : HeatProof))
  else
   some (i4, (⟨-1, l5⟩ : HeatProof))
theorem heat_furnace_highest_ok (k : Nat) (f0 : heat_furnace) (place1 : Int) (r : Int × HeatProof) (h0 : heat_furnace_highest k f0 place1 = some r) : PCall Tryz.prog 84 [.agg (heat_furnace.c f0), .int .i64 place1] (fun y => y = .tup [.int .i64 r.1, .agg (HeatProof.c r.2)]) := by
 refine PB (fn := Tryz.f84) (sc := F84.c) ?_
 refine rS ?_
 simp only [heat_furnace_highest] at h0
 try simp only [F84.c, go_sem]
 obtain ⟨r11, yr11, h0⟩ := bs h0
 refine AKev_loopS yr11 (heat_furnace_highest.h0 f0 place1) (heat_furnace_highest.x0 f0 place1) ?_ ?_ ?_
 refine Weak.go [1, 2, 5, 6, 7, 18, 19] [0, 32, 33, 64, 96] rfl ?_
 try simp only [heat_furnace_highest.h0, go_sem]
 rintro ⟨i1, i2, l3⟩ x_1 Bk1 Br1 h1 hnext1 hbrk1 hret1
 refine rS ?_
 simp only [heat_furnace_highest.b0] at h1
 try simp only [F84.s0, heat_furnace_highest.h0, go_sem]
 refine AKev_bif h1 ?_ ?_ <;> intro c6 h1
 try simp only [c6, go_sem]
 obtain ⟨x7, yx7, h1⟩ := bs h1
 refine zc0 (heat_furnace_hottest_ok k _ _ _ yx7) ?_ (by first | rfl | simp [AV.refsL, AV.refs, AV.scal, AV.leaf]) ?_
 try simp only [c6, go_sem]
 try simp only [c6, go_sem]
 obtain ⟨x8, yx8, h1⟩ := bs h1
 try simp only [aa yx8, c6, go_sem]
 obtain ⟨x9, yx9, h1⟩ := bs h1
 try simp only [aa yx9, c6, aa yx8, go_sem]
 obtain ⟨l10, yl10, h1⟩ := bs h1
 have eyl10 := push_map eI yl10
 have tyl10 := push_take eI yl10
 have nyl10 := push_len yl10
 have myl10 := push_room yl10
 try simp only [c6, aa yx8, aa yx9, go_sem] at eyl10 tyl10 nyl10 myl10
 try simp only [myl10, eyl10, c6, aa yx8, aa yx9, nyl10, tyl10, go_sem]
 refine AKev_backB (hnext1 _ _ (Option.some.inj h1).symm ?_)
 refine Weak.go [1, 2, 5, 6, 7, 18, 19] [0, 1, 2, 3, 4] rfl ?_
 try simp only [heat_furnace_highest.h0, c6, aa yx8, aa yx9, eyl10, nyl10, tyl10, go_sem]
 try simp only [c6, go_sem]
 refine AKev_backB (hbrk1 _ _ (Option.some.inj h1).symm ?_)
 refine Weak.go [1, 2, 5, 6, 7] [0, 1, 2, 3, 4] rfl ?_
 try simp only [heat_furnace_highest.x0, c6, go_sem]
 rintro ⟨i4, l5⟩ hr_
 subst hr_
 simp only at h0
 refine rS ?_
 try simp only [heat_furnace_highest.x0, go_sem]
 obtain ⟨x12, yx12, h0⟩ := bs h0
 refine zc0 (heat_best_ok k _ _ 109 [] ⟨fun _ => rfl, fun _ => rfl, fun _ _ => rfl, rfl, fun _ => rfl, fun _ => rfl, fun _ => rfl⟩ (fun q0 q1 => heat_less k q0 q1) (fun q0 q1 qr qh => heat_less_ok k q0 q1 qr qh) _ yx12) ?_ (by first | rfl | simp [AV.refsL, AV.refs, AV.scal, AV.leaf]) ?_
 try simp only [go_sem]
 try simp only [go_sem]
 refine AKev_bif h0 ?_ ?_ <;> intro c13 h0
 try simp only [c13, go_sem]
 refine AKev_bif h0 ?_ ?_ <;> intro c14 h0
 try simp only [c14, c13, go_sem]
 refine AKev_region T_ok follows_ok 1000 ?_
 try simp only [c13, c14, go_sem]
 refine DG_done ⟨rfl, run_sound T_ok 1000 _ _ ?_⟩
 try simp only [c13, c14, go_sem]
 obtain rfl := Option.some.inj h0
 refine AKev_ret rfl ?_
 try simp only [F84.rs, c13, c14, go_sem]
 try simp only [c14, c13, go_sem]
 refine AKev_region T_ok follows_ok 1000 ?_
 try simp only [c13, c14, go_sem]
 refine DG_done ⟨rfl, run_sound T_ok 1000 _ _ ?_⟩
 try simp only [c13, c14, go_sem]
 obtain rfl := Option.some.inj h0
 refine AKev_ret rfl ?_
 try simp only [F84.rs, c13, c14, go_sem]
 try simp only [c13, go_sem]
 refine AKev_region T_ok follows_ok 1000 ?_
 try simp only [c13, go_sem]
 refine DG_done ⟨rfl, run_sound T_ok 1000 _ _ ?_⟩
 try simp only [c13, go_sem]
 obtain rfl := Option.some.inj h0
 refine AKev_ret rfl ?_
 try simp only [F84.rs, c13, go_sem]
def F54.c : SC :=
 (.seq
 (.reg [oq 2 (.box 81 (.tmp 0)) 0 [0],
 oq 4 (.alloc 30) 0 []])
 (.seq
 (.reg [ld 10 81 2 [],
 mv 11 1 3 [],
 cf2 12 82 10 11 81 3 110 [10, 11],
 mv 9 12 110 [12],
 xt 13 9 0 3 [],
 xt 14 9 1 57 [9],
 oq 6 (.alloc 57) 0 [],
 sg 5 13 3 [13],
 ⟨none, .store 57 (.tmp 6) (.tmp 14), 0, none, [6, 14]⟩])
 (.seq
 (.reg [ld 16 81 2 [2],
 mv 17 1 3 [1],
 cf2 18 84 16 17 81 3 110 [16, 17],
 mv 15 18 110 [18],
 xt 19 15 0 3 [],
 xt 20 15 1 57 [15],
 oq 8 (.alloc 57) 0 [],
 sg 7 19 3 [19],
 ⟨none, .store 57 (.tmp 8) (.tmp 20), 0, none, [8, 20]⟩])
 (.seq
 (.reg [mv 21 5 3 [5],
 mv 22 7 3 [7],
 oq 23 (.build 30 #[(0, .tmp 21), (1, .tmp 22)]) 30 [21, 22],
 ⟨none, .store 30 (.tmp 4) (.tmp 23), 0, none, [23]⟩])
 .ret))))
theorem F54.rs : Tryz.f54.results.toList = [.cell 4 30] := rfl
def heat_furnace_bound (k : Nat) (f0 : heat_furnace) (place1 : Int) : Option (Range) :=
 (heat_furnace_lowest k f0 place1).bind fun x1 =>
 (heat_furnace_highest k f0 place1).bind fun x2 =>
 some (⟨x1.1, x2.1⟩ : Range)
theorem heat_furnace_bound_ok (k : Nat) (f0 : heat_furnace) (place1 : Int) (r : Range) (h0 : heat_furnace_bound k f0 place1 = some r) : PCall Tryz.prog 54 [.agg (heat_furnace.c f0), .int .i64 place1] (fun y => y = .agg (Range.c r)) := by
 refine PB (fn := Tryz.f54) (sc := F54.c) ?_
 refine rS ?_
 simp only [heat_furnace_bound] at h0
 try simp only [F54.c, go_sem]
 obtain ⟨x1, yx1, h0⟩ := bs h0
 refine zc0 (heat_furnace_lowest_ok k _ _ _ yx1) ?_ (by first | rfl | simp [AV.refsL, AV.refs, AV.scal, AV.leaf]) ?_
 try simp only [go_sem]
 try simp only [go_sem]
 obtain ⟨x2, yx2, h0⟩ := bs h0
 refine zc0 (heat_furnace_highest_ok k _ _ _ yx2) ?_ (by first | rfl | simp [AV.refsL, AV.refs, AV.scal, AV.leaf]) ?_
 try simp only [go_sem]
 try simp only [go_sem]
 obtain rfl := Option.some.inj h0
 refine AKev_ret rfl ?_
 try simp only [F54.rs, go_sem]
def F8.s0 : SC :=
 (.seq
 (.reg [b2 28 .lss 3 27 26 3 0 []])
 (.seq
 (.cond (.tmp 28)
 .skip
 (.exit 0))
 (.seq
 (.block 1
 (.seq
 (.reg [ia 29 28 25 27 [],
 ld 30 32 29 [29],
 oq 10 (.alloc 32) 0 [],
 ⟨none, .store 32 (.tmp 10) (.tmp 30), 0, none, [30]⟩])
 (.seq
 (.reg [ld 31 81 6 [],
 fa 32 32 10 0 [],
 ld 33 3 32 [32],
 cf2 34 54 31 33 81 3 30 [31, 33],
 oq 11 (.alloc 30) 0 [],
 ⟨none, .store 30 (.tmp 11) (.tmp 34), 0, none, [34]⟩])
 (.seq
 (.reg [fa 35 30 11 0 [],
 ld 36 3 35 [35],
 fa 37 32 10 1 [],
 fa 38 30 37 0 [37],
 ld 39 3 38 [38],
 b2 40 .lss 3 36 39 3 4 [36, 39],
 mv 41 40 4 [40],
 og 42 (.fieldAddr 30 (.tmp 11) 1) 0 41 false [11],
 og 43 (.load 3 (.tmp 42)) 3 41 false [42],
 og 44 (.fieldAddr 32 (.tmp 10) 1) 0 41 false [10],
 og 45 (.fieldAddr 30 (.tmp 44) 1) 0 41 false [44],
 og 46 (.load 3 (.tmp 45)) 3 41 false [45],
 og 47 (.binOp .gtr 3 (.tmp 43) (.tmp 46) 3) 4 41 false [43, 46],
 oq 48 (.pick (.tmp 41) (.const (.bool true)) (.tmp 47)) 4 [41, 47]])
 (.cond (.tmp 48)
 (.seq
 (.reg [sn 4 2 3 [],
 sn 5 0 33 []])
 .ret)
 .skip)))))
 (.reg [bn 49 .add 3 27 1 3 3 [27],
 mv 27 49 3 [49]]))))
def F8.c : SC :=
 (.seq
 (.reg [oq 2 (.box 27 (.tmp 0)) 0 [0],
 sn 4 0 3 [4],
 sn 5 0 33 [5]])
 (.seq
 (.reg [ld 13 27 2 [2],
 mv 14 1 28 [],
 cf2 15 52 13 14 27 28 82 [13, 14],
 mv 12 15 82 [15],
 xt 16 12 0 81 [],
 xt 17 12 1 81 [],
 xt 18 12 2 33 [12],
 oq 6 (.alloc 81) 0 [],
 oq 7 (.alloc 81) 0 [],
 ⟨none, .store 81 (.tmp 6) (.tmp 16), 0, none, [16]⟩,
 ⟨none, .store 81 (.tmp 7) (.tmp 17), 0, none, [17]⟩,
 sg 8 18 33 [18]])
 (.seq
 (.seq
 (.reg [mv 19 8 33 [],
 bn 20 .neq 33 19 0 33 4 [19]])
 (.cond (.tmp 20)
 (.seq
 (.reg [mv 21 8 33 [8],
 sn 4 0 3 [],
 sg 5 21 33 [21]])
 .ret)
 .skip))
 (.seq
 (.seq
 (.reg [ld 22 81 7 [7],
 cf1 23 53 22 81 4 [22],
 oq 24 (.unOp .not 4 (.tmp 23)) 4 [23]])
 (.cond (.tmp 24)
 (.seq
 (.reg [sn 4 0 3 [],
 sn 5 0 33 []])
 .ret)
 .skip))
 (.seq
 (.seq
 (.reg [mv 25 1 28 [1],
 ln 26 25 28 3 [],
 oq 27 (.move (.const (.int .i64 0))) 3 []])
 (.block 0
 (.loop F8.s0)))
 (.seq
 (.reg [sn 4 1 3 [],
 sn 5 0 33 []])
 .ret))))))
theorem F8.rs : Tryz.f8.results.toList = [.tmp 4, .tmp 5] := rfl
def heat_Together.b0 (k : Nat) (l1 : (List Want)) (x1 : heat_furnace × heat_furnace × Int) : Int → Option (Stp (Int) (Unit) (Int × Int)) := fun (i5 : Int) =>
 bif decide (i5 < (l1.length : Int)) then
  (at? l1 i5).bind fun x7 =>
  (heat_furnace_bound k x1.1 x7.Place).bind fun x8 =>
  bif (!decide (x8.Lo < x7.Heat.Lo)) then
   bif decide (x7.Heat.Hi < x8.Hi) then
    some (.ret (2, 0))
   else
    some (.next (w64 (i5 + 1)))
  else
   some (.ret (2, 0))
 else
  some (.brk ())
noncomputable def heat_Together.h0 (l1 : (List Want)) (x1 : heat_furnace × heat_furnace × Int) : Int → St := fun (i5 : Int) => ⟨[(6, .ptr 0 0 0), (25, .sl 3 (List.map Want.c l1)), (26, .int .i64 (l1.length : Int)), (27, .int .i64 i5)], [(0, .box [.sl 1 (List.map (eL 2 Range.c) x1.1.Firing.Kiln.Falls), .sl 6 (List.map Reading.c x1.1.Firing.Readings), .sl 3 (List.map heat_limit.c x1.1.least), .sl 3 (List.map heat_limit.c x1.1.most)])], [], 1, Tryz.f8.ntmps⟩
noncomputable def heat_Together.x0 : Unit → St := fun (_ : Unit) => ⟨[], [], [], 1, Tryz.f8.ntmps⟩
def heat_Together (k : Nat) (f0 : Firing) (l1 : (List Want)) : Option (Int × Int) :=
 (heat_wanted k f0 l1).bind fun x1 =>
 bif (!decide (x1.2.2 = (0 : Int))) then
  some (0, x1.2.2)
 else
  (heat_furnace_sound k x1.2.1).bind fun x3 =>
  bif (!x3) then
   some (0, 0)
  else
   (whl (heat_Together.b0 k l1 x1) k 0).bind fun r11 => match r11 with
   | .next _ => none
   | .ret v_ => some v_
   | .brk _ =>
    some (1, 0)
theorem heat_Together_ok (k : Nat) (f0 : Firing) (l1 : (List Want)) (r : Int × Int) (h0 : heat_Together k f0 l1 = some r) : PCall Tryz.prog 8 [.agg (Firing.c f0), .sl 3 (List.map Want.c l1)] (fun y => y = .tup [.int .i64 r.1, .int .i64 r.2]) := by
 refine PB (fn := Tryz.f8) (sc := F8.c) ?_
 refine rS ?_
 simp only [heat_Together] at h0
 try simp only [F8.c, go_sem]
 obtain ⟨x1, yx1, h0⟩ := bs h0
 refine zc0 (heat_wanted_ok k _ _ _ yx1) ?_ (by first | rfl | simp [AV.refsL, AV.refs, AV.scal, AV.leaf]) ?_
 try simp only [go_sem]
 try simp only [go_sem]
 refine AKev_bif h0 ?_ ?_ <;> intro c2 h0
 have c2 := bnot_t c2
 try simp only [c2, go_sem]
 obtain rfl := Option.some.inj h0
 refine AKev_ret rfl ?_
 try simp only [F8.rs, c2, go_sem]
 have c2 := bnot_f c2
 try simp only [c2, go_sem]
 obtain ⟨x3, yx3, h0⟩ := bs h0
 refine zc0 (heat_furnace_sound_ok k _ _ yx3) ?_ (by first | rfl | simp [AV.refsL, AV.refs, AV.scal, AV.leaf]) ?_
 try simp only [c2, go_sem]
 try simp only [c2, go_sem]
 refine AKev_bif h0 ?_ ?_ <;> intro c4 h0
 have c4 := bnot_t c4
 try simp only [c4, c2, go_sem]
 obtain rfl := Option.some.inj h0
 refine AKev_ret rfl ?_
 try simp only [F8.rs, c2, c4, go_sem]
 have c4 := bnot_f c4
 try simp only [c4, c2, go_sem]
 obtain ⟨r11, yr11, h0⟩ := bs h0
 refine AKev_loopS yr11 (heat_Together.h0 l1 x1) (heat_Together.x0) ?_ ?_ ?_
 refine Weak.go [6, 25, 26, 27] [160] rfl ?_
 try simp only [heat_Together.h0, c2, c4, go_sem]
 rintro i5 x_1 Bk1 Br1 h1 hnext1 hbrk1 hret1
 refine rS ?_
 simp only [heat_Together.b0] at h1
 try simp only [F8.s0, heat_Together.h0, c2, c4, go_sem]
 refine AKev_bif h1 ?_ ?_ <;> intro c6 h1
 try simp only [c6, c2, c4, go_sem]
 obtain ⟨x7, yx7, h1⟩ := bs h1
 try simp only [aa yx7, c2, c4, c6, go_sem]
 obtain ⟨x8, yx8, h1⟩ := bs h1
 refine zc0 (heat_furnace_bound_ok k _ _ _ yx8) ?_ (by first | rfl | simp [AV.refsL, AV.refs, AV.scal, AV.leaf]) ?_
 try simp only [c2, c4, c6, aa yx7, go_sem]
 try simp only [c2, c4, c6, aa yx7, go_sem]
 refine AKev_bif h1 ?_ ?_ <;> intro c9 h1
 have c9 := bnot_t c9
 try simp only [c9, c2, c4, c6, aa yx7, go_sem]
 refine AKev_bif h1 ?_ ?_ <;> intro c10 h1
 try simp only [c10, c2, c4, c6, aa yx7, c9, go_sem]
 obtain rfl := hret1 _ (Option.some.inj h1).symm
 simp only at h0
 obtain rfl := Option.some.inj h0
 refine AKev_ret rfl ?_
 try simp only [F8.rs, c2, c4, c6, aa yx7, c9, c10, go_sem]
 try simp only [c10, c2, c4, c6, aa yx7, c9, go_sem]
 refine AKev_backB (hnext1 _ _ (Option.some.inj h1).symm ?_)
 refine Weak.go [6, 25, 26, 27] [0] rfl ?_
 try simp only [heat_Together.h0, c2, c4, c6, aa yx7, c9, c10, go_sem]
 have c9 := bnot_f c9
 try simp only [c9, c2, c4, c6, aa yx7, go_sem]
 obtain rfl := hret1 _ (Option.some.inj h1).symm
 simp only at h0
 obtain rfl := Option.some.inj h0
 refine AKev_ret rfl ?_
 try simp only [F8.rs, c2, c4, c6, aa yx7, c9, go_sem]
 try simp only [c6, c2, c4, go_sem]
 refine AKev_backB (hbrk1 _ _ (Option.some.inj h1).symm ?_)
 refine Weak.go [] [] rfl ?_
 try simp only [heat_Together.x0, c2, c4, c6, go_sem]
 rintro _ hr_
 subst hr_
 simp only at h0
 refine rS ?_
 try simp only [heat_Together.x0, c2, c4, go_sem]
 obtain rfl := Option.some.inj h0
 refine AKev_ret rfl ?_
 try simp only [F8.rs, c2, c4, go_sem]
def F10.c : SC :=
 (.seq
 (.reg [oq 3 (.box 27 (.tmp 0)) 0 [0],
 oq 5 (.box 30 (.tmp 2)) 0 [2],
 sn 6 0 3 [6],
 sn 7 0 33 [7]])
 (.seq
 (.block 0
 (.seq
 (.reg [ld 9 27 3 [],
 cf1 10 42 9 27 33 [9],
 bn 11 .neq 33 10 0 33 4 [10],
 sg 8 11 4 [11]])
 (.cond (.tmp 8)
 (.seq
 (.reg [sn 6 0 3 [],
 sn 7 42 33 []])
 .ret)
 (.seq
 (.reg [mv 13 1 3 [],
 fa 14 27 3 0 [],
 fa 15 24 14 0 [14],
 ld 16 22 15 [15],
 oq 17 (.indexAddr 22 (.tmp 16) (.const (.int .i64 0))) 0 [16],
 ld 18 89 17 [17],
 ln 19 18 89 3 [18],
 bn 20 .sub 3 19 1 3 3 [19],
 oq 21 (.call ⟨.value (.func 58), #[.tmp 13, .const (.int .i64 0), .tmp 20], #[3, 3, 3]⟩) 4 [13, 20],
 oq 22 (.unOp .not 4 (.tmp 21)) 4 [21],
 sg 12 22 4 [22]])
 (.cond (.tmp 12)
 (.seq
 (.reg [sn 6 0 3 [],
 sn 7 43 33 []])
 .ret)
 .skip)))))
 (.seq
 (.reg [ld 23 27 3 [3],
 mv 24 1 3 [1],
 ld 25 30 5 [5],
 oq 26 (.build 32 #[(0, .tmp 24), (1, .tmp 25)]) 32 [24, 25],
 oq 27 (.buildSlice 28 1 #[(0, .tmp 26)]) 28 [26],
 cf2 28 8 23 27 27 28 34 [23, 27],
 xt 29 28 0 3 [],
 xt 30 28 1 33 [28],
 sg 6 29 3 [29],
 sg 7 30 33 [30]])
 .ret)))
theorem F10.rs : Tryz.f10.results.toList = [.tmp 6, .tmp 7] := rfl
def heat_Verdict (k : Nat) (f0 : Firing) (place1 : Int) (want2 : Range) : Option (Int × Int) :=
 (heat_Check k f0).bind fun x1 =>
 bif (!decide (x1 = (0 : Int))) then
  some (0, 42)
 else
  (at? f0.Kiln.Falls 0).bind fun x3 =>
  (heat_in k place1 0 (w64 ((x3.length : Int) - 1))).bind fun x4 =>
  bif (!x4) then
   some (0, 43)
  else
   (heat_Together k f0 [(⟨place1, want2⟩ : Want)]).bind fun x6 =>
   some (x6.1, x6.2)
theorem heat_Verdict_ok (k : Nat) (f0 : Firing) (place1 : Int) (want2 : Range) (r : Int × Int) (h0 : heat_Verdict k f0 place1 want2 = some r) : PCall Tryz.prog 10 [.agg (Firing.c f0), .int .i64 place1, .agg (Range.c want2)] (fun y => y = .tup [.int .i64 r.1, .int .i64 r.2]) := by
 refine PB (fn := Tryz.f10) (sc := F10.c) ?_
 refine rS ?_
 simp only [heat_Verdict] at h0
 try simp only [F10.c, go_sem]
 obtain ⟨x1, yx1, h0⟩ := bs h0
 refine zc0 (heat_Check_ok k _ _ yx1) ?_ (by first | rfl | simp [AV.refsL, AV.refs, AV.scal, AV.leaf]) ?_
 try simp only [go_sem]
 try simp only [go_sem]
 refine AKev_bif h0 ?_ ?_ <;> intro c2 h0
 have c2 := bnot_t c2
 try simp only [c2, go_sem]
 obtain rfl := Option.some.inj h0
 refine AKev_ret rfl ?_
 try simp only [F10.rs, c2, go_sem]
 have c2 := bnot_f c2
 try simp only [c2, go_sem]
 obtain ⟨x3, yx3, h0⟩ := bs h0
 try simp only [aa yx3, c2, go_sem]
 obtain ⟨x4, yx4, h0⟩ := bs h0
 refine zc0 (heat_in_ok k _ _ _ _ yx4) ?_ (by first | rfl | simp [AV.refsL, AV.refs, AV.scal, AV.leaf]) ?_
 try simp only [c2, aa yx3, go_sem]
 try simp only [c2, aa yx3, go_sem]
 refine AKev_bif h0 ?_ ?_ <;> intro c5 h0
 have c5 := bnot_t c5
 try simp only [c5, c2, aa yx3, go_sem]
 obtain rfl := Option.some.inj h0
 refine AKev_ret rfl ?_
 try simp only [F10.rs, c2, aa yx3, c5, go_sem]
 have c5 := bnot_f c5
 try simp only [c5, c2, aa yx3, go_sem]
 obtain ⟨x6, yx6, h0⟩ := bs h0
 refine zc0 (heat_Together_ok k _ _ _ yx6) ?_ (by first | rfl | simp [AV.refsL, AV.refs, AV.scal, AV.leaf]) ?_
 try simp only [c2, aa yx3, c5, go_sem]
 try simp only [c2, aa yx3, c5, go_sem]
 obtain rfl := Option.some.inj h0
 refine AKev_ret rfl ?_
 try simp only [F10.rs, c2, aa yx3, c5, go_sem]
def F117.s1 : SC :=
 (.seq
 (.seq
 (.reg [mv 29 5 3 [],
 mv 30 4 37 [],
 ln 31 30 37 3 [30],
 b2 32 .lss 3 29 31 3 4 [29, 31]])
 (.cond (.tmp 32)
 .skip
 (.exit 2)))
 (.seq
 (.block 3
 (.seq
 (.dreg [mv 35 4 37 [],
 mv 36 5 3 [],
 ia 37 37 35 36 [],
 ld 38 3 37 [],
 mv 39 4 37 [],
 mv 40 5 3 [],
 bn 41 .sub 3 40 1 3 3 [],
 ia 42 37 39 41 [],
 ld 43 3 42 [],
 b2 44 .neq 3 38 43 3 4 []] [[], [], [0, 1], [0, 1, 2], [], [], [5], [4, 5, 6], [4, 5, 6, 7], [0, 1, 2, 3, 4, 5, 6, 7, 8]] [35, 36, 37, 38, 39, 40, 41, 42, 43])
 (.cond (.tmp 44)
 (.seq
 (.reg [mv 45 0 37 [],
 mv 46 3 3 [],
 mv 47 4 37 [],
 mv 48 5 3 [],
 ia 49 37 47 48 [47, 48],
 ld 50 3 49 [49],
 ia 51 37 45 46 [45, 46],
 ⟨none, .store 3 (.tmp 51) (.tmp 50), 0, none, [50, 51]⟩])
 (.reg [mv 52 3 3 [3],
 bn 53 .add 3 52 1 3 3 [52],
 sg 3 53 3 [53]]))
 .skip)))
 (.reg [mv 33 5 3 [5],
 bn 34 .add 3 33 1 3 3 [33],
 sg 5 34 3 [34]])))
def F117.s0 : SC :=
 (.seq
 (.seq
 (.reg [mv 10 3 3 [],
 mv 11 0 37 [],
 ln 12 11 37 3 [11],
 b2 13 .lss 3 10 12 3 4 [10, 12]])
 (.cond (.tmp 13)
 .skip
 (.exit 0)))
 (.seq
 (.block 1
 (.seq
 (.dreg [mv 16 0 37 [],
 mv 17 3 3 [],
 ia 18 37 16 17 [],
 ld 19 3 18 [],
 mv 20 0 37 [],
 mv 21 3 3 [],
 bn 22 .sub 3 21 1 3 3 [],
 ia 23 37 20 22 [],
 ld 24 3 23 [],
 b2 25 .eql 3 19 24 3 4 []] [[], [], [0, 1], [0, 1, 2], [], [], [5], [4, 5, 6], [4, 5, 6, 7], [0, 1, 2, 3, 4, 5, 6, 7, 8]] [16, 17, 18, 19, 20, 21, 22, 23, 24])
 (.cond (.tmp 25)
 (.seq
 (.reg [mv 26 0 37 [],
 mv 27 3 3 [],
 oq 28 (.slice 37 (.tmp 26) (some (.tmp 27)) none none) 37 [26, 27],
 sg 4 28 37 [28]])
 (.seq
 (.seq
 (.reg [sn 5 1 3 []])
 (.block 2
 (.loop F117.s1)))
 (.seq
 (.reg [mv 54 0 37 [],
 mv 55 3 3 [],
 oq 56 (.slice 37 (.tmp 54) (some (.tmp 55)) none none) 37 [54, 55],
 ⟨none, .call ⟨.builtin .clear, #[.tmp 56], #[37]⟩, 0, none, [56]⟩])
 (.seq
 (.reg [mv 57 0 37 [0],
 mv 58 3 3 [3],
 oq 59 (.slice 37 (.tmp 57) none (some (.tmp 58)) none) 37 [57, 58],
 sg 2 59 37 [59]])
 .ret))))
 .skip)))
 (.reg [mv 14 3 3 [3],
 bn 15 .add 3 14 1 3 3 [14],
 sg 3 15 3 [15]])))
def F117.c : SC :=
 (.seq
 (.reg [oq 2 (.assign (.const (.slice none 0 0))) 37 [2]])
 (.seq
 (.seq
 (.reg [mv 6 0 37 [],
 ln 7 6 37 3 [6],
 bn 8 .lss 3 7 2 3 4 [7]])
 (.cond (.tmp 8)
 (.seq
 (.reg [mv 9 0 37 [0],
 sg 2 9 37 [9]])
 .ret)
 .skip))
 (.seq
 (.seq
 (.reg [sn 3 1 3 []])
 (.block 0
 (.loop F117.s0)))
 (.seq
 (.reg [mv 60 0 37 [0],
 sg 2 60 37 [60]])
 .ret))))
theorem F117.rs : Tryz.f117.results.toList = [.tmp 2] := rfl
def slices_Compact_int.b1 (k : Nat) (s0 : (List Int)) (i2 : Int) : (Int × Int × (List Int)) → Option (Stp (Int × Int × (List Int)) (Int × (List Int)) ((List Int))) := fun (s : Int × Int × (List Int)) => match s with
 | (i8, i9, l10) =>
   bif decide (i9 < ((s0.length - i2.toNat : Nat) : Int)) then
    (at? ((l10.drop i2.toNat).take (s0.length - i2.toNat)) i9).bind fun x14 =>
    (at? ((l10.drop i2.toNat).take (s0.length - i2.toNat)) (w64 (i9 - 1))).bind fun x15 =>
    bif (!decide (x14 = x15)) then
     (at? l10 i8).bind fun x17 =>
     (set? l10 i8 x14).bind fun l18 =>
     some (.next (w64 (i8 + 1), w64 (i9 + 1), l18))
    else
     some (.next (i8, w64 (i9 + 1), l10))
   else
    some (.brk (i8, l10))
def slices_Compact_int.b0 (k : Nat) (s0 : (List Int)) : Int → Option (Stp (Int) (Unit) ((List Int))) := fun (i2 : Int) =>
 bif decide (i2 < ((s0.length : Nat) : Int)) then
  (at? s0 i2).bind fun x4 =>
  (at? s0 (w64 (i2 - 1))).bind fun x5 =>
  bif decide (x4 = x5) then
   (ls? s0.length i2).bind fun _ =>
   (whl (slices_Compact_int.b1 k s0 i2) k (i2, 1, s0)).bind fun r19 => match r19 with
   | .next _ => none
   | .ret v_ => some (.ret v_)
   | .brk (i11, l12) =>
    (ls? l12.length i11).bind fun _ =>
    (hs? l12.length i11).bind fun _ =>
    some (.ret ((clr l12 i11.toNat (l12.length - i11.toNat) 0).take i11.toNat))
  else
   some (.next (w64 (i2 + 1)))
 else
  some (.brk ())
noncomputable def slices_Compact_int.h1 (H : Heap) (s0 : (List Int)) (i2 : Int) : (Int × Int × (List Int)) → St := fun (s : Int × Int × (List Int)) => match s with
 | (i8, i9, l10) => ⟨[(0, .loc 0 0 1 0 l10.length l10.length), (3, .int .i64 i8), (4, .loc 0 0 1 i2.toNat (s0.length - i2.toNat) l10.length), (5, .int .i64 i9)], [(0, .arr 3 1 (List.map eI l10))], H, 1, Tryz.f117.ntmps⟩
noncomputable def slices_Compact_int.x1 (H : Heap) : (Int × (List Int)) → St := fun (s : Int × (List Int)) => match s with
 | (i11, l12) => ⟨[(0, .loc 0 0 1 0 l12.length l12.length), (3, .int .i64 i11)], [(0, .arr 3 1 (List.map eI l12))], H, 1, Tryz.f117.ntmps⟩
noncomputable def slices_Compact_int.h0 (H : Heap) (s0 : (List Int)) : Int → St := fun (i2 : Int) => ⟨[(0, .loc 0 0 1 0 s0.length s0.length), (3, .int .i64 i2)], [(0, .arr 3 1 (List.map eI s0))], H, 1, Tryz.f117.ntmps⟩
noncomputable def slices_Compact_int.x0 (H : Heap) (s0 : (List Int)) : Unit → St := fun (_ : Unit) => ⟨[(0, .loc 0 0 1 0 s0.length s0.length)], [(0, .arr 3 1 (List.map eI s0))], H, 1, Tryz.f117.ntmps⟩
def slices_Compact_int (k : Nat) (s0 : (List Int)) : Option ((List Int)) :=
 bif decide (((s0.length : Nat) : Int) < (2 : Int)) then
  some s0
 else
  (whl (slices_Compact_int.b0 k s0) k 1).bind fun r23 => match r23 with
  | .next _ => none
  | .ret v_ => some v_
  | .brk _ =>
   some s0
theorem slices_Compact_int_ok (k : Nat) (s0 : (List Int)) (r : (List Int)) (h0 : slices_Compact_int k s0 = some r) : GCall Tryz.prog 117 [.loc 0 0 1 0 s0.length s0.length] [(0, .arr 3 1 (List.map eI s0))] (fun y fr => y = .loc 0 0 1 0 r.length r.length ∧ fr = [(0, .arr 3 1 (List.map eI r))]) := by
 have hr := GCall.own (et := 3) (sz := 1) (ls := List.map eI r) (GCall.of_body T_ok (f := 117) (fn := Tryz.f117) (sc := F117.c) (args := [.loc 0 0 1 0 s0.length s0.length]) (fr0 := [(0, .arr 3 1 (List.map eI s0))]) (by rfl) (by rfl) (by decide +kernel) (by rfl) (by decide +kernel) (Nat.le_of_ble_eq_true rfl) (fun H => ?_))
 simpa only [List.length_map] using hr
 refine rS ?_
 simp only [slices_Compact_int] at h0
 try simp only [F117.c, go_sem]
 refine AKev_bif h0 ?_ ?_ <;> intro c1 h0
 try simp only [c1, go_sem]
 obtain rfl := Option.some.inj h0
 refine AKev_gret rfl ?_
 try simp only [F117.rs, oOK, Option.map_some, tupOf, cut0_map, cut_map, Nat.le_refl, List.take_length, c1, go_sem]
 try simp only [c1, go_sem]
 obtain ⟨r23, yr23, h0⟩ := bs h0
 refine AKev_loopS yr23 (slices_Compact_int.h0 H s0) (slices_Compact_int.x0 H s0) ?_ ?_ ?_
 refine Weak.go [0, 3] [0] rfl ?_
 try simp only [slices_Compact_int.h0, c1, go_sem]
 rintro i2 x_1 Bk1 Br1 h1 hnext1 hbrk1 hret1
 refine rS ?_
 simp only [slices_Compact_int.b0] at h1
 try simp only [F117.s0, slices_Compact_int.h0, c1, go_sem]
 refine AKev_bif h1 ?_ ?_ <;> intro c3 h1
 try simp only [c3, c1, go_sem]
 refine AKev_region T_ok follows_ok 1000 ?_
 try simp only [c1, c3, go_sem]
 obtain ⟨x4, yx4, h1⟩ := bs h1
 try simp only [aa yx4, c1, c3, go_sem]
 obtain ⟨x5, yx5, h1⟩ := bs h1
 try simp only [aa yx5, c1, c3, aa yx4, go_sem]
 refine DG_done ⟨rfl, run_sound T_ok 1000 _ _ ?_⟩
 try simp only [c1, c3, aa yx4, aa yx5, go_sem]
 refine AKev_bif h1 ?_ ?_ <;> intro c6 h1
 try simp only [c6, c1, c3, aa yx4, aa yx5, go_sem]
 obtain ⟨u7, yu7, h1⟩ := bs h1
 have lyu7 := ls_le yu7
 try simp only [ls_bounds yu7, lyu7, c1, c3, aa yx4, aa yx5, c6, go_sem]
 obtain ⟨r19, yr19, h1⟩ := bs h1
 refine AKev_loopS yr19 (slices_Compact_int.h1 H s0 i2) (slices_Compact_int.x1 H) ?_ ?_ ?_
 refine Weak.go [0, 3, 4, 5] [0] rfl ?_
 try simp only [slices_Compact_int.h1, c1, c3, aa yx4, aa yx5, c6, lyu7, go_sem]
 rintro ⟨i8, i9, l10⟩ x_2 Bk2 Br2 h2 hnext2 hbrk2 hret2
 refine rS ?_
 simp only [slices_Compact_int.b1] at h2
 try simp only [F117.s1, slices_Compact_int.h1, c1, c3, aa yx4, aa yx5, c6, lyu7, go_sem]
 refine AKev_bif h2 ?_ ?_ <;> intro c13 h2
 try simp only [c13, c1, c3, aa yx4, aa yx5, c6, lyu7, go_sem]
 refine AKev_region T_ok follows_ok 1000 ?_
 try simp only [c1, c3, aa yx4, aa yx5, c6, lyu7, c13, go_sem]
 obtain ⟨x14, yx14, h2⟩ := bs h2
 try simp only [at_part_in yx14, at_part_get eI yx14, c1, c3, aa yx4, aa yx5, c6, lyu7, c13, go_sem]
 obtain ⟨x15, yx15, h2⟩ := bs h2
 try simp only [at_part_in yx15, at_part_get eI yx15, c1, c3, aa yx4, aa yx5, c6, lyu7, c13, at_part_in yx14, at_part_get eI yx14, go_sem]
 refine DG_done ⟨rfl, run_sound T_ok 1000 _ _ ?_⟩
 try simp only [c1, c3, aa yx4, aa yx5, c6, lyu7, c13, at_part_in yx14, at_part_get eI yx14, at_part_in yx15, at_part_get eI yx15, go_sem]
 refine AKev_bif h2 ?_ ?_ <;> intro c16 h2
 have c16 := bnot_t c16
 try simp only [c16, at_part_in yx14, at_part_get eI yx14, c1, c3, aa yx4, aa yx5, c6, lyu7, c13, at_part_in yx15, at_part_get eI yx15, go_sem]
 obtain ⟨x17, yx17, h2⟩ := bs h2
 try simp only [aa yx17, c1, c3, aa yx4, aa yx5, c6, lyu7, c13, at_part_in yx14, at_part_get eI yx14, at_part_in yx15, at_part_get eI yx15, c16, go_sem]
 obtain ⟨l18, yl18, h2⟩ := bs h2
 have eyl18 := set_map eI yl18
 simp only [go_sem] at eyl18
 try simp only [eyl18, c1, c3, aa yx4, aa yx5, c6, lyu7, c13, at_part_in yx14, at_part_get eI yx14, at_part_in yx15, at_part_get eI yx15, c16, aa yx17, set_len yl18, set_take eI yl18, go_sem]
 refine AKev_backB (hnext2 _ _ (Option.some.inj h2).symm ?_)
 refine Weak.go [0, 3, 4, 5] [0] rfl ?_
 try simp only [slices_Compact_int.h1, c1, c3, aa yx4, aa yx5, c6, lyu7, c13, at_part_in yx14, at_part_get eI yx14, at_part_in yx15, at_part_get eI yx15, c16, aa yx17, eyl18, set_len yl18, set_take eI yl18, go_sem]
 have c16 := bnot_f c16
 try simp only [c16, c1, c3, aa yx4, aa yx5, c6, lyu7, c13, at_part_in yx14, at_part_get eI yx14, at_part_in yx15, at_part_get eI yx15, go_sem]
 refine AKev_backB (hnext2 _ _ (Option.some.inj h2).symm ?_)
 refine Weak.go [0, 3, 4, 5] [0] rfl ?_
 try simp only [slices_Compact_int.h1, c1, c3, aa yx4, aa yx5, c6, lyu7, c13, at_part_in yx14, at_part_get eI yx14, at_part_in yx15, at_part_get eI yx15, c16, go_sem]
 try simp only [c13, c1, c3, aa yx4, aa yx5, c6, lyu7, go_sem]
 refine AKev_backB (hbrk2 _ _ (Option.some.inj h2).symm ?_)
 refine Weak.go [0, 3] [0] rfl ?_
 try simp only [slices_Compact_int.x1, c1, c3, aa yx4, aa yx5, c6, lyu7, c13, go_sem]
 rintro ⟨i11, l12⟩ hr_
 subst hr_
 simp only at h1
 refine rS ?_
 try simp only [slices_Compact_int.x1, c1, c3, aa yx4, aa yx5, c6, lyu7, go_sem]
 obtain ⟨u20, yu20, h1⟩ := bs h1
 have lyu20 := ls_le yu20
 have eq21 := clr_map eI l12 i11.toNat (l12.length - i11.toNat) 0
 have lq21 : (clr l12 i11.toNat (l12.length - i11.toNat) 0).length = l12.length := by rw [clr_len] <;> simp only [c1, c3, aa yx4, aa yx5, c6, lyu7, lyu20, go_sem]
 try simp only [go_sem] at eq21
 try simp only [ls_bounds yu20, lyu20, eq21, c1, c3, aa yx4, aa yx5, c6, lyu7, lq21, go_sem]
 obtain ⟨u22, yu22, h1⟩ := bs h1
 have lyu22 := hs_le yu22
 try simp only [hs_bounds yu22, lyu22, c1, c3, aa yx4, aa yx5, c6, lyu7, lyu20, lq21, go_sem]
 obtain rfl := hret1 _ (Option.some.inj h1).symm
 simp only at h0
 obtain rfl := Option.some.inj h0
 refine AKev_gret rfl ?_
 try simp only [F117.rs, oOK, Option.map_some, tupOf, cut0_map, cut_map, Nat.le_refl, List.take_length, c1, c3, aa yx4, aa yx5, c6, lyu7, lyu20, lq21, lyu22, go_sem]
 try simp only [c6, c1, c3, aa yx4, aa yx5, go_sem]
 refine AKev_backB (hnext1 _ _ (Option.some.inj h1).symm ?_)
 refine Weak.go [0, 3] [0] rfl ?_
 try simp only [slices_Compact_int.h0, c1, c3, aa yx4, aa yx5, c6, go_sem]
 try simp only [c3, c1, go_sem]
 refine AKev_backB (hbrk1 _ _ (Option.some.inj h1).symm ?_)
 refine Weak.go [0] [0] rfl ?_
 try simp only [slices_Compact_int.x0, c1, c3, go_sem]
 rintro _ hr_
 subst hr_
 simp only at h0
 refine rS ?_
 try simp only [slices_Compact_int.x0, c1, go_sem]
 obtain rfl := Option.some.inj h0
 refine AKev_gret rfl ?_
 try simp only [F117.rs, oOK, Option.map_some, tupOf, cut0_map, cut_map, Nat.le_refl, List.take_length, c1, go_sem]
def F67.s0 : SC :=
 (.seq
 (.reg [b2 9 .lss 3 8 7 3 0 []])
 (.seq
 (.cond (.tmp 9)
 .skip
 (.exit 0))
 (.seq
 (.block 1
 (.seq
 (.reg [ia 10 25 6 8 [],
 ld 11 64 10 [10],
 oq 5 (.alloc 64) 0 [],
 ⟨none, .store 64 (.tmp 5) (.tmp 11), 0, none, [11]⟩])
 (.reg [mv 12 3 37 [3],
 fa 13 64 5 0 [5],
 ld 14 3 13 [13],
 oq 15 (.buildSlice 37 1 #[(0, .tmp 14)]) 37 [14],
 oq 16 (.call ⟨.builtin .append, #[.tmp 12, .tmp 15], #[37, 37]⟩) 37 [12, 15],
 sg 3 16 37 [16]])))
 (.reg [bn 17 .add 3 8 1 3 3 [8],
 mv 8 17 3 [17]]))))
def F67.c : SC :=
 (.seq
 (.reg [oq 2 (.assign (.const (.slice none 0 0))) 37 [2]])
 (.seq
 (.reg [oq 3 (.assign (.const (.slice none 0 0))) 37 []])
 (.seq
 (.seq
 (.reg [mv 6 0 25 [0],
 ln 7 6 25 3 [],
 oq 8 (.move (.const (.int .i64 0))) 3 []])
 (.block 0
 (.loop F67.s0)))
 (.seq
 (.reg [mv 18 3 37 [],
 cf1 19 116 18 37 0 [18, 19]])
 (.seq
 (.reg [mv 20 3 37 [3],
 cf1 21 117 20 37 37 [20],
 sg 2 21 37 [21]])
 .ret)))))
theorem F67.rs : Tryz.f67.results.toList = [.tmp 2] := rfl
def heat_sources.b0 (k : Nat) (l0 : (List Reading)) : (Int × (List Int)) → Option (Stp (Int × (List Int)) ((List Int)) ((List Int))) := fun (s : Int × (List Int)) => match s with
 | (i1, l2) =>
   bif decide (i1 < (l0.length : Int)) then
    (at? l0 i1).bind fun x5 =>
    (push? 8 l2 x5.Source).bind fun l6 =>
    some (.next (w64 (i1 + 1), l6))
   else
    some (.brk l2)
noncomputable def heat_sources.h0 (l0 : (List Reading)) : (Int × (List Int)) → St := fun (s : Int × (List Int)) => match s with
 | (i1, l2) => ⟨[(3, .loc 0 0 1 0 l2.length l2.length), (6, .sl 6 (List.map Reading.c l0)), (7, .int .i64 (l0.length : Int)), (8, .int .i64 i1)], [(0, .arr 3 1 (List.map eI l2))], [], 1, Tryz.f67.ntmps⟩
noncomputable def heat_sources.x0 : (List Int) → St := fun (l3 : (List Int)) => ⟨[(3, .loc 0 0 1 0 l3.length l3.length)], [(0, .arr 3 1 (List.map eI l3))], [], 1, Tryz.f67.ntmps⟩
def heat_sources (k : Nat) (l0 : (List Reading)) : Option ((List Int)) :=
 (whl (heat_sources.b0 k l0) k (0, [])).bind fun r7 => match r7 with
 | .next _ => none
 | .ret v_ => some v_
 | .brk l3 =>
  (room? l3.length 8).bind fun _ =>
  (slices_Compact_int k (srt l3)).bind fun x11 =>
  some x11
theorem heat_sources_ok (k : Nat) (l0 : (List Reading)) (r : (List Int)) (h0 : heat_sources k l0 = some r) : PCall Tryz.prog 67 [.sl 6 (List.map Reading.c l0)] (fun y => y = .sl 1 (List.map eI r)) := by
 refine PB (fn := Tryz.f67) (sc := F67.c) ?_
 refine rS ?_
 simp only [heat_sources] at h0
 try simp only [F67.c, go_sem]
 obtain ⟨r7, yr7, h0⟩ := bs h0
 refine AKev_loopS yr7 (heat_sources.h0 l0) (heat_sources.x0) ?_ ?_ ?_
 refine Weak.go [3, 6, 7, 8] [16] rfl ?_
 try simp only [heat_sources.h0, go_sem]
 rintro ⟨i1, l2⟩ x_1 Bk1 Br1 h1 hnext1 hbrk1 hret1
 refine rS ?_
 simp only [heat_sources.b0] at h1
 try simp only [F67.s0, heat_sources.h0, go_sem]
 refine AKev_bif h1 ?_ ?_ <;> intro c4 h1
 try simp only [c4, go_sem]
 obtain ⟨x5, yx5, h1⟩ := bs h1
 try simp only [aa yx5, c4, go_sem]
 obtain ⟨l6, yl6, h1⟩ := bs h1
 have eyl6 := push_map eI yl6
 have tyl6 := push_take eI yl6
 have nyl6 := push_len yl6
 have myl6 := push_room yl6
 try simp only [c4, aa yx5, go_sem] at eyl6 tyl6 nyl6 myl6
 try simp only [myl6, eyl6, c4, aa yx5, nyl6, tyl6, go_sem]
 refine AKev_backB (hnext1 _ _ (Option.some.inj h1).symm ?_)
 refine Weak.go [3, 6, 7, 8] [0] rfl ?_
 try simp only [heat_sources.h0, c4, aa yx5, eyl6, nyl6, tyl6, go_sem]
 try simp only [c4, go_sem]
 refine AKev_backB (hbrk1 _ _ (Option.some.inj h1).symm ?_)
 refine Weak.go [3] [0] rfl ?_
 try simp only [heat_sources.x0, c4, go_sem]
 rintro l3 hr_
 subst hr_
 simp only at h0
 refine rS ?_
 try simp only [heat_sources.x0, go_sem]
 obtain ⟨u9, yu9, h0⟩ := bs h0
 have myu9 := room_some yu9
 refine AKev_sortI sort_ok (l := l3) (k := 0) (et := 3) (b := 8) ?_ ?_ ?_ ?_
 try simp only [go_sem]
 try simp only [go_sem]
 try simp only [myu9, go_sem]
 refine rS ?_
 try simp only [srt_len, go_sem]
 obtain ⟨x11, yx11, h0⟩ := bs h0
 refine AKev_give T_ok 1000 [] [0] (slices_Compact_int_ok k _ _ yx11) ?_ rfl ?_
 try simp only [gOK, List.length_map, srt_len, go_sem]
 try simp only [srt_len, go_sem]
 obtain rfl := Option.some.inj h0
 refine AKev_ret rfl ?_
 try simp only [F67.rs, srt_len, go_sem]
def heat_sources_o.b0 (k : Nat) (l0 : (List Reading)) : (Int × (List Int)) → Option (Stp (Int × (List Int)) ((List Int)) ((List Int))) := fun (s : Int × (List Int)) => match s with
 | (i1, l2) =>
   bif decide (i1 < (l0.length : Int)) then
    (at? l0 i1).bind fun x5 =>
    (push? 8 l2 x5.Source).bind fun l6 =>
    some (.next (w64 (i1 + 1), l6))
   else
    some (.brk l2)
noncomputable def heat_sources_o.h0 (H : Heap) (l0 : (List Reading)) : (Int × (List Int)) → St := fun (s : Int × (List Int)) => match s with
 | (i1, l2) => ⟨[(3, .loc 0 0 1 0 l2.length l2.length), (6, .sl 6 (List.map Reading.c l0)), (7, .int .i64 (l0.length : Int)), (8, .int .i64 i1)], [(0, .arr 3 1 (List.map eI l2))], H, 1, Tryz.f67.ntmps⟩
noncomputable def heat_sources_o.x0 (H : Heap) : (List Int) → St := fun (l3 : (List Int)) => ⟨[(3, .loc 0 0 1 0 l3.length l3.length)], [(0, .arr 3 1 (List.map eI l3))], H, 1, Tryz.f67.ntmps⟩
def heat_sources_o (k : Nat) (l0 : (List Reading)) : Option ((List Int)) :=
 (whl (heat_sources_o.b0 k l0) k (0, [])).bind fun r7 => match r7 with
 | .next _ => none
 | .ret v_ => some v_
 | .brk l3 =>
  (room? l3.length 8).bind fun _ =>
  (slices_Compact_int k (srt l3)).bind fun x11 =>
  some x11
theorem heat_sources_o_ok (k : Nat) (l0 : (List Reading)) (r : (List Int)) (h0 : heat_sources_o k l0 = some r) : GCall Tryz.prog 67 [.sl 6 (List.map Reading.c l0)] [] (fun y fr => y = .loc 0 0 1 0 r.length r.length ∧ fr = [(0, .arr 3 1 (List.map eI r))]) := by
 have hr := GCall.own (et := 3) (sz := 1) (ls := List.map eI r) (GCall.of_body T_ok (f := 67) (fn := Tryz.f67) (sc := F67.c) (args := [.sl 6 (List.map Reading.c l0)]) (fr0 := []) (by rfl) (by rfl) (by decide +kernel) (by rfl) (by decide +kernel) (Nat.le_of_ble_eq_true rfl) (fun H => ?_))
 simpa only [List.length_map] using hr
 refine rS ?_
 simp only [heat_sources_o] at h0
 try simp only [F67.c, go_sem]
 obtain ⟨r7, yr7, h0⟩ := bs h0
 refine AKev_loopS yr7 (heat_sources_o.h0 H l0) (heat_sources_o.x0 H) ?_ ?_ ?_
 refine Weak.go [3, 6, 7, 8] [32] rfl ?_
 try simp only [heat_sources_o.h0, go_sem]
 rintro ⟨i1, l2⟩ x_1 Bk1 Br1 h1 hnext1 hbrk1 hret1
 refine rS ?_
 simp only [heat_sources_o.b0] at h1
 try simp only [F67.s0, heat_sources_o.h0, go_sem]
 refine AKev_bif h1 ?_ ?_ <;> intro c4 h1
 try simp only [c4, go_sem]
 obtain ⟨x5, yx5, h1⟩ := bs h1
 try simp only [aa yx5, c4, go_sem]
 obtain ⟨l6, yl6, h1⟩ := bs h1
 have eyl6 := push_map eI yl6
 have tyl6 := push_take eI yl6
 have nyl6 := push_len yl6
 have myl6 := push_room yl6
 try simp only [c4, aa yx5, go_sem] at eyl6 tyl6 nyl6 myl6
 try simp only [myl6, eyl6, c4, aa yx5, nyl6, tyl6, go_sem]
 refine AKev_backB (hnext1 _ _ (Option.some.inj h1).symm ?_)
 refine Weak.go [3, 6, 7, 8] [0] rfl ?_
 try simp only [heat_sources_o.h0, c4, aa yx5, eyl6, nyl6, tyl6, go_sem]
 try simp only [c4, go_sem]
 refine AKev_backB (hbrk1 _ _ (Option.some.inj h1).symm ?_)
 refine Weak.go [3] [0] rfl ?_
 try simp only [heat_sources_o.x0, c4, go_sem]
 rintro l3 hr_
 subst hr_
 simp only at h0
 refine rS ?_
 try simp only [heat_sources_o.x0, go_sem]
 obtain ⟨u9, yu9, h0⟩ := bs h0
 have myu9 := room_some yu9
 refine AKev_sortI sort_ok (l := l3) (k := 0) (et := 3) (b := 8) ?_ ?_ ?_ ?_
 try simp only [go_sem]
 try simp only [go_sem]
 try simp only [myu9, go_sem]
 refine rS ?_
 try simp only [srt_len, go_sem]
 obtain ⟨x11, yx11, h0⟩ := bs h0
 refine AKev_give T_ok 1000 [] [0] (slices_Compact_int_ok k _ _ yx11) ?_ rfl ?_
 try simp only [gOK, List.length_map, srt_len, go_sem]
 try simp only [srt_len, go_sem]
 obtain rfl := Option.some.inj h0
 refine AKev_gret rfl ?_
 try simp only [F67.rs, oOK, Option.map_some, tupOf, cut0_map, cut_map, Nat.le_refl, List.take_length, srt_len, go_sem]
def F68.c : SC :=
 (.seq
 (.reg [oq 6 (.assign (.const (.slice none 0 0))) 37 [6]])
 (.seq
 (.reg [mv 8 0 37 [],
 mv 9 1 3 [],
 mv 10 2 3 [],
 mv 11 0 37 [],
 ln 12 11 37 3 [11],
 oq 13 (.slice 37 (.tmp 8) (some (.tmp 9)) (some (.tmp 10)) (some (.tmp 12))) 37 [8, 9, 10, 12, 13]])
 (.seq
 (.seq
 (.reg [mv 14 1 3 [],
 mv 15 2 3 [],
 b2 16 .eql 3 14 15 3 4 [14, 15]])
 (.cond (.tmp 16)
 (.seq
 (.reg [mv 17 0 37 [0],
 sg 6 17 37 [17]])
 .ret)
 .skip))
 (.seq
 (.reg [mv 18 0 37 [],
 ln 19 18 37 3 [18],
 sg 7 19 3 [19]])
 (.seq
 (.dreg [mv 20 0 37 [],
 mv 21 1 3 [],
 oq 22 (.slice 37 (.tmp 20) none (some (.tmp 21)) none) 37 [],
 mv 23 0 37 [],
 mv 24 2 3 [],
 oq 25 (.slice 37 (.tmp 23) (some (.tmp 24)) none none) 37 [],
 oq 26 (.call ⟨.builtin .append, #[.tmp 22, .tmp 25], #[37, 37]⟩) 37 [],
 sg 0 26 37 []] [[], [], [0, 1], [], [], [3, 4], [0, 1, 2, 3, 4, 5], [0, 1, 2, 3, 4, 5, 6]] [1, 2, 20, 21, 22, 23, 24, 25, 26])
 (.seq
 (.reg [mv 27 0 37 [],
 mv 28 0 37 [],
 ln 29 28 37 3 [28],
 mv 30 7 3 [7],
 oq 31 (.slice 37 (.tmp 27) (some (.tmp 29)) (some (.tmp 30)) none) 37 [27, 29, 30],
 ⟨none, .call ⟨.builtin .clear, #[.tmp 31], #[37]⟩, 0, none, [31]⟩])
 (.seq
 (.reg [mv 32 0 37 [0],
 sg 6 32 37 [32]])
 .ret)))))))
theorem F68.rs : Tryz.f68.results.toList = [.tmp 6] := rfl
def slices_Delete_int (k : Nat) (s0 : (List Int)) (i1 : Int) (j2 : Int) : Option ((List Int)) :=
 (s3? s0.length i1 j2 ((s0.length : Nat) : Int)).bind fun _ =>
 bif decide (i1 = j2) then
  some s0
 else
  (hs? s0.length i1).bind fun _ =>
  (ls? s0.length j2).bind fun _ =>
  (ov? s0.length i1.toNat (((s0.drop j2.toNat).take (s0.length - j2.toNat)).length)).bind fun _ =>
  (rs? s0.length 0 ((i1.toNat + (((s0.drop j2.toNat).take (s0.length - j2.toNat)).length) : Nat) : Int) ((s0.length : Nat) : Int)).bind fun _ =>
  some ((clr (ovr s0 i1.toNat ((s0.drop j2.toNat).take (s0.length - j2.toNat))) (i1.toNat + (((s0.drop j2.toNat).take (s0.length - j2.toNat)).length)) (s0.length - (i1.toNat + (((s0.drop j2.toNat).take (s0.length - j2.toNat)).length))) 0).take (i1.toNat + (((s0.drop j2.toNat).take (s0.length - j2.toNat)).length)))
theorem slices_Delete_int_ok (k : Nat) (s0 : (List Int)) (i1 : Int) (j2 : Int) (r : (List Int)) (h0 : slices_Delete_int k s0 i1 j2 = some r) : GCall Tryz.prog 68 [.loc 0 0 1 0 s0.length s0.length, .int .i64 i1, .int .i64 j2] [(0, .arr 3 1 (List.map eI s0))] (fun y fr => y = .loc 0 0 1 0 r.length r.length ∧ fr = [(0, .arr 3 1 (List.map eI r))]) := by
 have hr := GCall.own (et := 3) (sz := 1) (ls := List.map eI r) (GCall.of_body T_ok (f := 68) (fn := Tryz.f68) (sc := F68.c) (args := [.loc 0 0 1 0 s0.length s0.length, .int .i64 i1, .int .i64 j2]) (fr0 := [(0, .arr 3 1 (List.map eI s0))]) (by rfl) (by rfl) (by decide +kernel) (by rfl) (by decide +kernel) (Nat.le_of_ble_eq_true rfl) (fun H => ?_))
 simpa only [List.length_map] using hr
 refine rS ?_
 simp only [slices_Delete_int] at h0
 try simp only [F68.c, go_sem]
 obtain ⟨u1, yu1, h0⟩ := bs h0
 have eyu1 := s3_some yu1
 try simp only [eyu1, go_sem]
 refine AKev_bif h0 ?_ ?_ <;> intro c2 h0
 try simp only [c2, go_sem]
 obtain rfl := Option.some.inj h0
 refine AKev_gret rfl ?_
 try simp only [F68.rs, oOK, Option.map_some, tupOf, cut0_map, cut_map, Nat.le_refl, List.take_length, c2, go_sem]
 try simp only [c2, go_sem]
 refine AKev_region T_ok follows_ok 1000 ?_
 try simp only [c2, go_sem]
 obtain ⟨u3, yu3, h0⟩ := bs h0
 have lyu3 := hs_le yu3
 try simp only [hs_bounds yu3, lyu3, c2, go_sem]
 obtain ⟨u4, yu4, h0⟩ := bs h0
 have lyu4 := ls_le yu4
 try simp only [ls_bounds yu4, lyu4, c2, lyu3, go_sem]
 obtain ⟨u5, yu5, h0⟩ := bs h0
 have e_yu5 := ovr_map eI s0 i1.toNat ((s0.drop j2.toNat).take (s0.length - j2.toNat))
 have l_yu5 : (ovr s0 i1.toNat ((s0.drop j2.toNat).take (s0.length - j2.toNat))).length = s0.length := by rw [ovr_len (by first | exact ov_le yu5 | (simp only [c2, lyu3, lyu4, go_sem]; exact ov_le yu5))] <;> simp only [c2, lyu3, lyu4, go_sem]
 try simp only [ov_ne yu5, ov_le yu5, cut_map eI s0 j2.toNat (s0.length - j2.toNat), e_yu5, l_yu5, c2, lyu3, lyu4, go_sem]
 refine DG_done ⟨rfl, run_sound T_ok 1000 _ _ ?_⟩
 try simp only [c2, lyu3, lyu4, ov_le yu5, l_yu5, go_sem]
 obtain ⟨u6, yu6, h0⟩ := bs h0
 have eyu6 := rs_some yu6
 have lyu6 := rs_le yu6
 try simp only [c2, lyu3, lyu4, ov_le yu5, l_yu5, go_sem] at eyu6 lyu6
 have eq7 := clr_map eI (ovr s0 i1.toNat ((s0.drop j2.toNat).take (s0.length - j2.toNat))) (i1.toNat + (((s0.drop j2.toNat).take (s0.length - j2.toNat)).length)) (s0.length - (i1.toNat + (((s0.drop j2.toNat).take (s0.length - j2.toNat)).length))) 0
 have lq7 : (clr (ovr s0 i1.toNat ((s0.drop j2.toNat).take (s0.length - j2.toNat))) (i1.toNat + (((s0.drop j2.toNat).take (s0.length - j2.toNat)).length)) (s0.length - (i1.toNat + (((s0.drop j2.toNat).take (s0.length - j2.toNat)).length))) 0).length = s0.length := by rw [clr_len] <;> simp only [c2, lyu3, lyu4, ov_le yu5, l_yu5, lyu6, go_sem]
 try simp only [go_sem] at eq7
 try simp only [eyu6, lyu6, eq7, c2, lyu3, lyu4, ov_le yu5, l_yu5, lq7, go_sem]
 obtain rfl := Option.some.inj h0
 refine AKev_gret rfl ?_
 try simp only [F68.rs, oOK, Option.map_some, tupOf, cut0_map, cut_map, Nat.le_refl, List.take_length, c2, lyu3, lyu4, ov_le yu5, l_yu5, lyu6, lq7, go_sem]
def F69.c : SC :=
 (.seq
 (.reg [oq 2 (.assign (.const (.slice none 0 0))) 37 [2]])
 (.seq
 (.seq
 (.reg [mv 3 0 37 [],
 oq 4 (.binOp .eql 37 (.tmp 3) (.const (.slice none 0 0)) 37) 4 [3]])
 (.cond (.tmp 4)
 (.seq
 (.reg [oq 2 (.assign (.const (.slice none 0 0))) 37 []])
 .ret)
 .skip))
 (.seq
 (.reg [oq 5 (.buildSlice 37 0 #[]) 37 [],
 mv 6 0 37 [0],
 oq 7 (.call ⟨.builtin .append, #[.tmp 5, .tmp 6], #[37, 37]⟩) 37 [5, 6],
 sg 2 7 37 [7]])
 .ret)))
theorem F69.rs : Tryz.f69.results.toList = [.tmp 2] := rfl
def slices_Clone_int (k : Nat) (s0 : (List Int)) : Option ((List Int)) :=
 (room? s0.length 8).bind fun _ =>
 some s0
theorem slices_Clone_int_ok (k : Nat) (s0 : (List Int)) (r : (List Int)) (h0 : slices_Clone_int k s0 = some r) : GCall Tryz.prog 69 [.sl 1 (List.map eI s0)] [] (fun y fr => y = .loc 0 0 1 0 r.length r.length ∧ fr = [(0, .arr 3 1 (List.map eI r))]) := by
 have hr := GCall.own (et := 3) (sz := 1) (ls := List.map eI r) (GCall.of_body T_ok (f := 69) (fn := Tryz.f69) (sc := F69.c) (args := [.sl 1 (List.map eI s0)]) (fr0 := []) (by rfl) (by rfl) (by decide +kernel) (by rfl) (by decide +kernel) (Nat.le_of_ble_eq_true rfl) (fun H => ?_))
 ·simpa only [List.length_map] using hr
 refine run_sound T_ok 1000 _ _ ?_
 simp only [slices_Clone_int] at h0
 try simp only [F69.c, go_sem]
 refine ⟨fun he => ?_, ?_⟩
 ·refine run_sound T_ok 1000 _ _ ?_
  try simp only [go_sem]
  obtain ⟨u_, hu_, h0⟩ := bind_some h0
  obtain rfl := Option.some.inj h0
  refine AKev_gret rfl ?_
  simp only [he, F69.rs, oOK, Option.map_some, tupOf, List.length_nil, List.take_nil, go_sem]
  try simp
 ·refine run_sound T_ok 1000 _ _ ?_
  try simp only [go_sem]
  obtain ⟨u1, yu1, h0⟩ := bind_some h0
  try simp only [room_some yu1, go_sem]
  obtain rfl := Option.some.inj h0
  refine AKev_gret rfl ?_
  try simp only [F69.rs, oOK, Option.map_some, tupOf, cut0_map, cut_map, Nat.le_refl, List.take_length, go_sem]
def F129.c : SC :=
 (.seq
 (.reg [oq 2 (.assign (.const (.slice none 0 0))) 89 [2]])
 (.seq
 (.seq
 (.reg [mv 3 0 89 [],
 oq 4 (.binOp .eql 89 (.tmp 3) (.const (.slice none 0 0)) 89) 4 [3]])
 (.cond (.tmp 4)
 (.seq
 (.reg [oq 2 (.assign (.const (.slice none 0 0))) 89 []])
 .ret)
 .skip))
 (.seq
 (.reg [oq 5 (.buildSlice 89 0 #[]) 89 [],
 mv 6 0 89 [0],
 oq 7 (.call ⟨.builtin .append, #[.tmp 5, .tmp 6], #[89, 89]⟩) 89 [5, 6],
 sg 2 7 89 [7]])
 .ret)))
theorem F129.rs : Tryz.f129.results.toList = [.tmp 2] := rfl
def slices_Clone_api_Range (k : Nat) (s0 : (List Range)) : Option ((List Range)) :=
 (room? s0.length 16).bind fun _ =>
 some s0
theorem slices_Clone_api_Range_ok (k : Nat) (s0 : (List Range)) (r : (List Range)) (h0 : slices_Clone_api_Range k s0 = some r) : GCall Tryz.prog 129 [.sl 2 (List.map Range.c s0)] [] (fun y fr => y = .loc 0 0 2 0 r.length r.length ∧ fr = [(0, .arr 30 2 (List.map Range.c r))]) := by
 have hr := GCall.own (et := 30) (sz := 2) (ls := List.map Range.c r) (GCall.of_body T_ok (f := 129) (fn := Tryz.f129) (sc := F129.c) (args := [.sl 2 (List.map Range.c s0)]) (fr0 := []) (by rfl) (by rfl) (by decide +kernel) (by rfl) (by decide +kernel) (Nat.le_of_ble_eq_true rfl) (fun H => ?_))
 ·simpa only [List.length_map] using hr
 refine run_sound T_ok 1000 _ _ ?_
 simp only [slices_Clone_api_Range] at h0
 try simp only [F129.c, go_sem]
 refine ⟨fun he => ?_, ?_⟩
 ·refine run_sound T_ok 1000 _ _ ?_
  try simp only [go_sem]
  obtain ⟨u_, hu_, h0⟩ := bind_some h0
  obtain rfl := Option.some.inj h0
  refine AKev_gret rfl ?_
  simp only [he, F129.rs, oOK, Option.map_some, tupOf, List.length_nil, List.take_nil, go_sem]
  try simp
 ·refine run_sound T_ok 1000 _ _ ?_
  try simp only [go_sem]
  obtain ⟨u1, yu1, h0⟩ := bind_some h0
  try simp only [room_some yu1, go_sem]
  obtain rfl := Option.some.inj h0
  refine AKev_gret rfl ?_
  try simp only [F129.rs, oOK, Option.map_some, tupOf, cut0_map, cut_map, Nat.le_refl, List.take_length, go_sem]
def F88.s0 : SC :=
 (.seq
 (.reg [b2 10 .lss 3 9 8 3 0 []])
 (.seq
 (.cond (.tmp 10)
 .skip
 (.exit 0))
 (.seq
 (.block 1
 (.seq
 (.reg [ia 11 22 7 9 [],
 ld 12 89 11 [11],
 sg 5 12 89 [12]])
 (.dreg [fa 13 24 3 0 [],
 ld 14 22 13 [],
 mv 15 5 89 [],
 cf1 16 129 15 89 89 [],
 oq 17 (.buildSlice 22 1 #[(0, .tmp 16)]) 22 [],
 oq 18 (.call ⟨.builtin .append, #[.tmp 14, .tmp 17], #[22, 22]⟩) 22 [],
 fa 19 24 3 0 [],
 ⟨none, .store 22 (.tmp 19) (.tmp 18), 0, none, []⟩] [[], [0], [], [2], [2, 3], [0, 1, 2, 3, 4], [0, 1, 2, 3, 4, 5], [0, 1, 2, 3, 4, 5, 6]] [5, 13, 14, 15, 16, 17, 18, 19])))
 (.reg [bn 20 .add 3 9 1 3 3 [9],
 mv 9 20 3 [20]]))))
def F88.c : SC :=
 (.seq
 (.reg [oq 1 (.box 24 (.tmp 0)) 0 [0],
 oq 2 (.alloc 24) 0 []])
 (.seq
 (.reg [oq 3 (.alloc 24) 0 []])
 (.seq
 (.seq
 (.reg [fa 6 24 1 0 [1],
 ld 7 22 6 [6],
 ln 8 7 22 3 [],
 oq 9 (.move (.const (.int .i64 0))) 3 []])
 (.block 0
 (.loop F88.s0)))
 (.seq
 (.reg [ld 21 24 3 [3],
 ⟨none, .store 24 (.tmp 2) (.tmp 21), 0, none, [21]⟩])
 .ret))))
theorem F88.rs : Tryz.f88.results.toList = [.cell 2 24] := rfl
def heat_kilnCopy.b0 (k : Nat) (k0 : Kiln) : (Int × (List (List Range))) → Option (Stp (Int × (List (List Range))) ((List (List Range))) (Kiln)) := fun (s : Int × (List (List Range))) => match s with
 | (i1, l2) =>
   bif decide (i1 < (k0.Falls.length : Int)) then
    (at? k0.Falls i1).bind fun x5 =>
    (slices_Clone_api_Range k x5).bind fun x7 =>
    (push? 24 l2 x7).bind fun l8 =>
    some (.next (w64 (i1 + 1), l8))
   else
    some (.brk l2)
noncomputable def heat_kilnCopy.h0 (k0 : Kiln) : (Int × (List (List Range))) → St := fun (s : Int × (List (List Range))) => match s with
 | (i1, l2) => ⟨[(2, .ptr 0 0 0), (3, .ptr 0 2 0), (7, .sl 1 (List.map (eL 2 Range.c) k0.Falls)), (8, .int .i64 (k0.Falls.length : Int)), (9, .int .i64 i1)], [(0, .box [.loc 0 1 1 0 0 0]), (1, .arr 89 1 (List.map (eL 2 Range.c) [])), (2, .box [.loc 0 3 1 0 l2.length l2.length]), (3, .arr 89 1 (List.map (eL 2 Range.c) l2))], [], 4, Tryz.f88.ntmps⟩
noncomputable def heat_kilnCopy.x0 : (List (List Range)) → St := fun (l3 : (List (List Range))) => ⟨[(2, .ptr 0 0 0), (3, .ptr 0 2 0)], [(0, .box [.loc 0 1 1 0 0 0]), (1, .arr 89 1 (List.map (eL 2 Range.c) [])), (2, .box [.loc 0 3 1 0 l3.length l3.length]), (3, .arr 89 1 (List.map (eL 2 Range.c) l3))], [], 4, Tryz.f88.ntmps⟩
def heat_kilnCopy (k : Nat) (k0 : Kiln) : Option (Kiln) :=
 (whl (heat_kilnCopy.b0 k k0) k (0, [])).bind fun r9 => match r9 with
 | .next _ => none
 | .ret v_ => some v_
 | .brk l3 =>
  some (⟨l3⟩ : Kiln)
theorem heat_kilnCopy_ok (k : Nat) (k0 : Kiln) (r : Kiln) (h0 : heat_kilnCopy k k0 = some r) : PCall Tryz.prog 88 [.agg (Kiln.c k0)] (fun y => y = .agg (Kiln.c r)) := by
 refine PB (fn := Tryz.f88) (sc := F88.c) ?_
 refine rS ?_
 simp only [heat_kilnCopy] at h0
 try simp only [F88.c, go_sem]
 obtain ⟨r9, yr9, h0⟩ := bs h0
 refine AKev_loopS yr9 (heat_kilnCopy.h0 k0) (heat_kilnCopy.x0) ?_ ?_ ?_
 refine Weak.go [2, 3, 7, 8, 9] [16, 17, 32, 33] rfl ?_
 try simp only [heat_kilnCopy.h0, go_sem]
 rintro ⟨i1, l2⟩ x_1 Bk1 Br1 h1 hnext1 hbrk1 hret1
 refine rS ?_
 simp only [heat_kilnCopy.b0] at h1
 try simp only [F88.s0, heat_kilnCopy.h0, go_sem]
 refine AKev_bif h1 ?_ ?_ <;> intro c4 h1
 try simp only [c4, go_sem]
 obtain ⟨x5, yx5, h1⟩ := bs h1
 try simp only [aa yx5, c4, go_sem]
 refine AKev_region T_ok follows_ok 1000 ?_
 try simp only [c4, aa yx5, go_sem]
 obtain ⟨x7, yx7, h1⟩ := bs h1
 refine DG_give 1000 [] [] (slices_Clone_api_Range_ok k _ _ yx7) ?_ rfl ?_
 try simp only [gOK, List.length_map, c4, aa yx5, go_sem]
 try simp only [c4, aa yx5, go_sem]
 obtain ⟨l8, yl8, h1⟩ := bs h1
 have eyl8 := push_map (eL 2 Range.c) yl8
 have tyl8 := push_take (eL 2 Range.c) yl8
 have nyl8 := push_len yl8
 have myl8 := push_room yl8
 try simp only [c4, aa yx5, go_sem] at eyl8 tyl8 nyl8 myl8
 try simp only [myl8, eyl8, c4, aa yx5, nyl8, tyl8, go_sem]
 refine DG_done ⟨rfl, run_sound T_ok 1000 _ _ ?_⟩
 try simp only [c4, aa yx5, eyl8, nyl8, tyl8, go_sem]
 refine AKev_backB (hnext1 _ _ (Option.some.inj h1).symm ?_)
 refine Weak.go [2, 3, 7, 8, 9] [0, 1, 2, 3] rfl ?_
 try simp only [heat_kilnCopy.h0, c4, aa yx5, eyl8, nyl8, tyl8, go_sem]
 try simp only [c4, go_sem]
 refine AKev_backB (hbrk1 _ _ (Option.some.inj h1).symm ?_)
 refine Weak.go [2, 3] [0, 1, 2, 3] rfl ?_
 try simp only [heat_kilnCopy.x0, c4, go_sem]
 rintro l3 hr_
 subst hr_
 simp only at h0
 refine rS ?_
 try simp only [heat_kilnCopy.x0, go_sem]
 obtain rfl := Option.some.inj h0
 refine AKev_ret rfl ?_
 try simp only [F88.rs, go_sem]
def F89.c : SC :=
 (.seq
 (.reg [oq 2 (.assign (.const (.slice none 0 0))) 25 [2]])
 (.seq
 (.seq
 (.reg [mv 3 0 25 [],
 oq 4 (.binOp .eql 25 (.tmp 3) (.const (.slice none 0 0)) 25) 4 [3]])
 (.cond (.tmp 4)
 (.seq
 (.reg [oq 2 (.assign (.const (.slice none 0 0))) 25 []])
 .ret)
 .skip))
 (.seq
 (.reg [oq 5 (.buildSlice 25 0 #[]) 25 [],
 mv 6 0 25 [0],
 oq 7 (.call ⟨.builtin .append, #[.tmp 5, .tmp 6], #[25, 25]⟩) 25 [5, 6],
 sg 2 7 25 [7]])
 .ret)))
theorem F89.rs : Tryz.f89.results.toList = [.tmp 2] := rfl
def slices_Clone_api_Reading (k : Nat) (s0 : (List Reading)) : Option ((List Reading)) :=
 (room? s0.length 48).bind fun _ =>
 some s0
theorem slices_Clone_api_Reading_ok (k : Nat) (s0 : (List Reading)) (r : (List Reading)) (h0 : slices_Clone_api_Reading k s0 = some r) : GCall Tryz.prog 89 [.sl 6 (List.map Reading.c s0)] [] (fun y fr => y = .loc 0 0 6 0 r.length r.length ∧ fr = [(0, .arr 64 6 (List.map Reading.c r))]) := by
 have hr := GCall.own (et := 64) (sz := 6) (ls := List.map Reading.c r) (GCall.of_body T_ok (f := 89) (fn := Tryz.f89) (sc := F89.c) (args := [.sl 6 (List.map Reading.c s0)]) (fr0 := []) (by rfl) (by rfl) (by decide +kernel) (by rfl) (by decide +kernel) (Nat.le_of_ble_eq_true rfl) (fun H => ?_))
 ·simpa only [List.length_map] using hr
 refine run_sound T_ok 1000 _ _ ?_
 simp only [slices_Clone_api_Reading] at h0
 try simp only [F89.c, go_sem]
 refine ⟨fun he => ?_, ?_⟩
 ·refine run_sound T_ok 1000 _ _ ?_
  try simp only [go_sem]
  obtain ⟨u_, hu_, h0⟩ := bind_some h0
  obtain rfl := Option.some.inj h0
  refine AKev_gret rfl ?_
  simp only [he, F89.rs, oOK, Option.map_some, tupOf, List.length_nil, List.take_nil, go_sem]
  try simp
 ·refine run_sound T_ok 1000 _ _ ?_
  try simp only [go_sem]
  obtain ⟨u1, yu1, h0⟩ := bind_some h0
  try simp only [room_some yu1, go_sem]
  obtain rfl := Option.some.inj h0
  refine AKev_gret rfl ?_
  try simp only [F89.rs, oOK, Option.map_some, tupOf, cut0_map, cut_map, Nat.le_refl, List.take_length, go_sem]
def F138.s0 : SC :=
 (.seq
 (.reg [b2 9 .lss 3 8 7 3 0 []])
 (.seq
 (.cond (.tmp 9)
 .skip
 (.exit 0))
 (.seq
 (.block 1
 (.seq
 (.reg [mv 10 8 3 [],
 sg 5 10 3 [10]])
 (.seq
 (.reg [mv 11 1 149 [],
 mv 12 0 25 [],
 mv 13 5 3 [],
 ia 14 25 12 13 [12, 13],
 ld 15 64 14 [14],
 oq 16 (.call ⟨.value (.tmp 11), #[.tmp 15], #[64]⟩) 4 [11, 15]])
 (.cond (.tmp 16)
 (.seq
 (.reg [mv 17 5 3 [5],
 sg 4 17 3 [17]])
 .ret)
 .skip))))
 (.reg [bn 18 .add 3 8 1 3 3 [8],
 mv 8 18 3 [18]]))))
def F138.c : SC :=
 (.seq
 (.reg [sn 4 0 3 [4]])
 (.seq
 (.seq
 (.reg [mv 6 0 25 [],
 ln 7 6 25 3 [6],
 oq 8 (.move (.const (.int .i64 0))) 3 []])
 (.block 0
 (.loop F138.s0)))
 (.seq
 (.reg [sn 4 (-1) 3 []])
 .ret)))
theorem F138.rs : Tryz.f138.results.toList = [.tmp 4] := rfl
def slices_IndexFunc_api_Reading.b0 (k : Nat) (f1 : Reading → Option (Bool)) (s0 : (List Reading)) : Int → Option (Stp (Int) (Unit) (Int)) := fun (i1 : Int) =>
 bif decide (i1 < (s0.length : Int)) then
  (at? s0 i1).bind fun x3 =>
  (f1 x3).bind fun x4 =>
  bif x4 then
   some (.ret i1)
  else
   some (.next (w64 (i1 + 1)))
 else
  some (.brk ())
noncomputable def slices_IndexFunc_api_Reading.h0 (f1_f : Nat) (f1_c : List AV) (s0 : (List Reading)) : Int → St := fun (i1 : Int) => ⟨[(0, .sl 6 (List.map Reading.c s0)), (1, .fn (.func f1_f) [] f1_c), (7, .int .i64 (s0.length : Int)), (8, .int .i64 i1)], [], [], 1, Tryz.f138.ntmps⟩
noncomputable def slices_IndexFunc_api_Reading.x0 : Unit → St := fun (_ : Unit) => ⟨[], [], [], 1, Tryz.f138.ntmps⟩
def slices_IndexFunc_api_Reading (k : Nat) (s0 : (List Reading)) (f1 : Reading → Option (Bool)) : Option (Int) :=
 (whl (slices_IndexFunc_api_Reading.b0 k f1 s0) k 0).bind fun r6 => match r6 with
 | .next _ => none
 | .ret v_ => some v_
 | .brk _ =>
  some (-1)
theorem slices_IndexFunc_api_Reading_ok (k : Nat) (s0 : (List Reading)) (f1_f : Nat) (f1_c : List AV) (f1_i : Ice f1_c) (f1 : Reading → Option (Bool)) (f1_h : ∀ q0 qr, f1 q0 = some qr → PCall Tryz.prog f1_f (.agg (Reading.c q0) :: f1_c) (fun y => y = .bool qr)) (r : Int) (h0 : slices_IndexFunc_api_Reading k s0 f1 = some r) : PCall Tryz.prog 138 [.sl 6 (List.map Reading.c s0), .fn (.func f1_f) [] f1_c] (fun y => y = .int .i64 r) := by
 refine PB (fn := Tryz.f138) (sc := F138.c) ?_
 refine rS ?_
 simp only [slices_IndexFunc_api_Reading] at h0
 try simp only [F138.c, f1_i.sh, f1_i.frz, f1_i.br, f1_i.refs, f1_i.imp, f1_i.ren, f1_i.un, go_sem]
 obtain ⟨r6, yr6, h0⟩ := bs h0
 refine AKev_loopS yr6 (slices_IndexFunc_api_Reading.h0 f1_f f1_c s0) (slices_IndexFunc_api_Reading.x0) ?_ ?_ ?_
 refine Weak.go [0, 1, 7, 8] [] rfl ?_
 try simp only [slices_IndexFunc_api_Reading.h0, f1_i.sh, f1_i.frz, f1_i.br, f1_i.refs, f1_i.imp, f1_i.ren, f1_i.un, go_sem]
 rintro i1 x_1 Bk1 Br1 h1 hnext1 hbrk1 hret1
 refine rS ?_
 simp only [slices_IndexFunc_api_Reading.b0] at h1
 try simp only [F138.s0, slices_IndexFunc_api_Reading.h0, f1_i.sh, f1_i.frz, f1_i.br, f1_i.refs, f1_i.imp, f1_i.ren, f1_i.un, go_sem]
 refine AKev_bif h1 ?_ ?_ <;> intro c2 h1
 try simp only [c2, f1_i.sh, f1_i.frz, f1_i.br, f1_i.refs, f1_i.imp, f1_i.ren, f1_i.un, go_sem]
 obtain ⟨x3, yx3, h1⟩ := bs h1
 try simp only [aa yx3, f1_i.sh, f1_i.frz, f1_i.br, f1_i.refs, f1_i.imp, f1_i.ren, f1_i.un, c2, go_sem]
 obtain ⟨x4, yx4, h1⟩ := bs h1
 refine zc0 (f1_h _ _ yx4) ?_ (by first | rfl | simp [AV.refsL, AV.refs, AV.scal, AV.leaf, f1_i.refs]) ?_
 try simp only [f1_i.sh, f1_i.frz, f1_i.br, f1_i.refs, f1_i.imp, f1_i.ren, f1_i.un, c2, aa yx3, go_sem]
 try simp only [f1_i.sh, f1_i.frz, f1_i.br, f1_i.refs, f1_i.imp, f1_i.ren, f1_i.un, c2, aa yx3, go_sem]
 refine AKev_bif h1 ?_ ?_ <;> intro c5 h1
 try simp only [c5, f1_i.sh, f1_i.frz, f1_i.br, f1_i.refs, f1_i.imp, f1_i.ren, f1_i.un, c2, aa yx3, go_sem]
 obtain rfl := hret1 _ (Option.some.inj h1).symm
 simp only at h0
 obtain rfl := Option.some.inj h0
 refine AKev_ret rfl ?_
 try simp only [F138.rs, f1_i.sh, f1_i.frz, f1_i.br, f1_i.refs, f1_i.imp, f1_i.ren, f1_i.un, c2, aa yx3, c5, go_sem]
 try simp only [c5, f1_i.sh, f1_i.frz, f1_i.br, f1_i.refs, f1_i.imp, f1_i.ren, f1_i.un, c2, aa yx3, go_sem]
 refine AKev_backB (hnext1 _ _ (Option.some.inj h1).symm ?_)
 refine Weak.go [0, 1, 7, 8] [] rfl ?_
 try simp only [slices_IndexFunc_api_Reading.h0, f1_i.sh, f1_i.frz, f1_i.br, f1_i.refs, f1_i.imp, f1_i.ren, f1_i.un, c2, aa yx3, c5, go_sem]
 try simp only [c2, f1_i.sh, f1_i.frz, f1_i.br, f1_i.refs, f1_i.imp, f1_i.ren, f1_i.un, go_sem]
 refine AKev_backB (hbrk1 _ _ (Option.some.inj h1).symm ?_)
 refine Weak.go [] [] rfl ?_
 try simp only [slices_IndexFunc_api_Reading.x0, f1_i.sh, f1_i.frz, f1_i.br, f1_i.refs, f1_i.imp, f1_i.ren, f1_i.un, c2, go_sem]
 rintro _ hr_
 subst hr_
 simp only at h0
 refine rS ?_
 try simp only [slices_IndexFunc_api_Reading.x0, f1_i.sh, f1_i.frz, f1_i.br, f1_i.refs, f1_i.imp, f1_i.ren, f1_i.un, go_sem]
 obtain rfl := Option.some.inj h0
 refine AKev_ret rfl ?_
 try simp only [F138.rs, f1_i.sh, f1_i.frz, f1_i.br, f1_i.refs, f1_i.imp, f1_i.ren, f1_i.un, go_sem]
def F122.s0 : SC :=
 (.seq
 (.seq
 (.reg [mv 16 6 3 [],
 mv 17 0 25 [],
 ln 18 17 25 3 [17],
 b2 19 .lss 3 16 18 3 4 [16, 18]])
 (.cond (.tmp 19)
 .skip
 (.exit 0)))
 (.seq
 (.block 1
 (.seq
 (.reg [mv 22 0 25 [],
 mv 23 6 3 [],
 ia 24 25 22 23 [22, 23],
 ld 25 64 24 [24],
 oq 7 (.alloc 64) 0 [],
 ⟨none, .store 64 (.tmp 7) (.tmp 25), 0, none, [25]⟩])
 (.seq
 (.reg [mv 26 1 149 [],
 ld 27 64 7 [],
 oq 28 (.call ⟨.value (.tmp 26), #[.tmp 27], #[64]⟩) 4 [26, 27],
 oq 29 (.unOp .not 4 (.tmp 28)) 4 [28]])
 (.cond (.tmp 29)
 (.seq
 (.reg [mv 30 0 25 [],
 mv 31 5 3 [],
 ld 32 64 7 [7],
 ia 33 25 30 31 [30, 31],
 ⟨none, .store 64 (.tmp 33) (.tmp 32), 0, none, [32, 33]⟩])
 (.reg [mv 34 5 3 [5],
 bn 35 .add 3 34 1 3 3 [34],
 sg 5 35 3 [35]]))
 .skip))))
 (.reg [mv 20 6 3 [6],
 bn 21 .add 3 20 1 3 3 [20],
 sg 6 21 3 [21]])))
def F122.c : SC :=
 (.seq
 (.reg [oq 4 (.assign (.const (.slice none 0 0))) 25 [4]])
 (.seq
 (.reg [mv 8 0 25 [],
 mv 9 1 149 [],
 cf2 10 138 8 9 25 149 3 [8, 9],
 sg 5 10 3 [10]])
 (.seq
 (.seq
 (.reg [mv 11 5 3 [],
 bn 12 .eql 3 11 (-1) 3 4 [11]])
 (.cond (.tmp 12)
 (.seq
 (.reg [mv 13 0 25 [0],
 sg 4 13 25 [13]])
 .ret)
 .skip))
 (.seq
 (.seq
 (.reg [mv 14 5 3 [],
 bn 15 .add 3 14 1 3 3 [14],
 sg 6 15 3 [15]])
 (.block 0
 (.loop F122.s0)))
 (.seq
 (.reg [mv 36 0 25 [],
 mv 37 5 3 [],
 oq 38 (.slice 25 (.tmp 36) (some (.tmp 37)) none none) 25 [36, 37],
 ⟨none, .call ⟨.builtin .clear, #[.tmp 38], #[25]⟩, 0, none, [38]⟩])
 (.seq
 (.reg [mv 39 0 25 [0],
 mv 40 5 3 [5],
 oq 41 (.slice 25 (.tmp 39) none (some (.tmp 40)) none) 25 [39, 40],
 sg 4 41 25 [41]])
 .ret))))))
theorem F122.rs : Tryz.f122.results.toList = [.tmp 4] := rfl
def slices_DeleteFunc_api_Reading.b0 (k : Nat) (del1 : Reading → Option (Bool)) : (Int × Int × (List Reading)) → Option (Stp (Int × Int × (List Reading)) (Int × (List Reading)) ((List Reading))) := fun (s : Int × Int × (List Reading)) => match s with
 | (i3, i4, l5) =>
   bif decide (i4 < ((l5.length : Nat) : Int)) then
    (at? l5 i4).bind fun x9 =>
    (del1 x9).bind fun x10 =>
    bif (!x10) then
     (at? l5 i3).bind fun x12 =>
     (set? l5 i3 x9).bind fun l13 =>
     some (.next (w64 (i3 + 1), w64 (i4 + 1), l13))
    else
     some (.next (i3, w64 (i4 + 1), l5))
   else
    some (.brk (i3, l5))
noncomputable def slices_DeleteFunc_api_Reading.h0 (H : Heap) (del1_f : Nat) (del1_c : List AV) : (Int × Int × (List Reading)) → St := fun (s : Int × Int × (List Reading)) => match s with
 | (i3, i4, l5) => ⟨[(0, .loc 0 0 6 0 l5.length l5.length), (1, .fn (.func del1_f) [] del1_c), (5, .int .i64 i3), (6, .int .i64 i4)], [(0, .arr 64 6 (List.map Reading.c l5))], H, 1, Tryz.f122.ntmps⟩
noncomputable def slices_DeleteFunc_api_Reading.x0 (H : Heap) : (Int × (List Reading)) → St := fun (s : Int × (List Reading)) => match s with
 | (i6, l7) => ⟨[(0, .loc 0 0 6 0 l7.length l7.length), (5, .int .i64 i6)], [(0, .arr 64 6 (List.map Reading.c l7))], H, 1, Tryz.f122.ntmps⟩
def slices_DeleteFunc_api_Reading (k : Nat) (s0 : (List Reading)) (del1 : Reading → Option (Bool)) : Option ((List Reading)) :=
 (slices_IndexFunc_api_Reading k s0 del1).bind fun x1 =>
 bif decide (x1 = (-1 : Int)) then
  some s0
 else
  (whl (slices_DeleteFunc_api_Reading.b0 k del1) k (x1, w64 (x1 + 1), s0)).bind fun r14 => match r14 with
  | .next _ => none
  | .ret v_ => some v_
  | .brk (i6, l7) =>
   (ls? l7.length i6).bind fun _ =>
   (hs? l7.length i6).bind fun _ =>
   some ((clr l7 i6.toNat (l7.length - i6.toNat) (⟨0, 0, 0, 0, (⟨0, 0⟩ : Range)⟩ : Reading)).take i6.toNat)
theorem slices_DeleteFunc_api_Reading_ok (k : Nat) (s0 : (List Reading)) (del1_f : Nat) (del1_c : List AV) (del1_i : Ice del1_c) (del1 : Reading → Option (Bool)) (del1_h : ∀ q0 qr, del1 q0 = some qr → PCall Tryz.prog del1_f (.agg (Reading.c q0) :: del1_c) (fun y => y = .bool qr)) (r : (List Reading)) (h0 : slices_DeleteFunc_api_Reading k s0 del1 = some r) : GCall Tryz.prog 122 [.loc 0 0 6 0 s0.length s0.length, .fn (.func del1_f) [] del1_c] [(0, .arr 64 6 (List.map Reading.c s0))] (fun y fr => y = .loc 0 0 6 0 r.length r.length ∧ fr = [(0, .arr 64 6 (List.map Reading.c r))]) := by
 have hr := GCall.own (et := 64) (sz := 6) (ls := List.map Reading.c r) (GCall.of_body T_ok (f := 122) (fn := Tryz.f122) (sc := F122.c) (args := [.loc 0 0 6 0 s0.length s0.length, .fn (.func del1_f) [] del1_c]) (fr0 := [(0, .arr 64 6 (List.map Reading.c s0))]) (by rfl) (by rfl) (by decide +kernel) (by rfl) (by decide +kernel) (Nat.le_of_ble_eq_true rfl) (fun H => ?_))
 simpa only [List.length_map] using hr
 refine rS ?_
 simp only [slices_DeleteFunc_api_Reading] at h0
 try simp only [F122.c, del1_i.sh, del1_i.frz, del1_i.br, del1_i.refs, del1_i.imp, del1_i.ren, del1_i.un, go_sem]
 obtain ⟨x1, yx1, h0⟩ := bs h0
 refine zc0 (slices_IndexFunc_api_Reading_ok k _ del1_f del1_c del1_i del1 del1_h _ yx1) ?_ (by first | rfl | simp [AV.refsL, AV.refs, AV.scal, AV.leaf, del1_i.refs]) ?_
 try simp only [del1_i.sh, del1_i.frz, del1_i.br, del1_i.refs, del1_i.imp, del1_i.ren, del1_i.un, go_sem]
 try simp only [del1_i.sh, del1_i.frz, del1_i.br, del1_i.refs, del1_i.imp, del1_i.ren, del1_i.un, go_sem]
 refine AKev_bif h0 ?_ ?_ <;> intro c2 h0
 try simp only [c2, del1_i.sh, del1_i.frz, del1_i.br, del1_i.refs, del1_i.imp, del1_i.ren, del1_i.un, go_sem]
 obtain rfl := Option.some.inj h0
 refine AKev_gret rfl ?_
 try simp only [F122.rs, oOK, Option.map_some, tupOf, cut0_map, cut_map, Nat.le_refl, List.take_length, del1_i.sh, del1_i.frz, del1_i.br, del1_i.refs, del1_i.imp, del1_i.ren, del1_i.un, c2, go_sem]
 try simp only [c2, del1_i.sh, del1_i.frz, del1_i.br, del1_i.refs, del1_i.imp, del1_i.ren, del1_i.un, go_sem]
 obtain ⟨r14, yr14, h0⟩ := bs h0
 refine AKev_loopS yr14 (slices_DeleteFunc_api_Reading.h0 H del1_f del1_c) (slices_DeleteFunc_api_Reading.x0 H) ?_ ?_ ?_
 refine Weak.go [0, 1, 5, 6] [0] rfl ?_
 try simp only [slices_DeleteFunc_api_Reading.h0, del1_i.sh, del1_i.frz, del1_i.br, del1_i.refs, del1_i.imp, del1_i.ren, del1_i.un, c2, go_sem]
 rintro ⟨i3, i4, l5⟩ x_1 Bk1 Br1 h1 hnext1 hbrk1 hret1
 refine rS ?_
 simp only [slices_DeleteFunc_api_Reading.b0] at h1
 try simp only [F122.s0, slices_DeleteFunc_api_Reading.h0, del1_i.sh, del1_i.frz, del1_i.br, del1_i.refs, del1_i.imp, del1_i.ren, del1_i.un, c2, go_sem]
 refine AKev_bif h1 ?_ ?_ <;> intro c8 h1
 try simp only [c8, del1_i.sh, del1_i.frz, del1_i.br, del1_i.refs, del1_i.imp, del1_i.ren, del1_i.un, c2, go_sem]
 obtain ⟨x9, yx9, h1⟩ := bs h1
 try simp only [aa yx9, del1_i.sh, del1_i.frz, del1_i.br, del1_i.refs, del1_i.imp, del1_i.ren, del1_i.un, c2, c8, go_sem]
 obtain ⟨x10, yx10, h1⟩ := bs h1
 refine zc0 (del1_h _ _ yx10) ?_ (by first | rfl | simp [AV.refsL, AV.refs, AV.scal, AV.leaf, del1_i.refs]) ?_
 try simp only [del1_i.sh, del1_i.frz, del1_i.br, del1_i.refs, del1_i.imp, del1_i.ren, del1_i.un, c2, c8, aa yx9, go_sem]
 try simp only [del1_i.sh, del1_i.frz, del1_i.br, del1_i.refs, del1_i.imp, del1_i.ren, del1_i.un, c2, c8, aa yx9, go_sem]
 refine AKev_bif h1 ?_ ?_ <;> intro c11 h1
 have c11 := bnot_t c11
 try simp only [c11, del1_i.sh, del1_i.frz, del1_i.br, del1_i.refs, del1_i.imp, del1_i.ren, del1_i.un, c2, c8, aa yx9, go_sem]
 obtain ⟨x12, yx12, h1⟩ := bs h1
 try simp only [aa yx12, del1_i.sh, del1_i.frz, del1_i.br, del1_i.refs, del1_i.imp, del1_i.ren, del1_i.un, c2, c8, aa yx9, c11, go_sem]
 obtain ⟨l13, yl13, h1⟩ := bs h1
 have eyl13 := set_map Reading.c yl13
 simp only [go_sem] at eyl13
 try simp only [eyl13, del1_i.sh, del1_i.frz, del1_i.br, del1_i.refs, del1_i.imp, del1_i.ren, del1_i.un, c2, c8, aa yx9, c11, aa yx12, set_len yl13, set_take Reading.c yl13, go_sem]
 refine AKev_backB (hnext1 _ _ (Option.some.inj h1).symm ?_)
 refine Weak.go [0, 1, 5, 6] [0] rfl ?_
 try simp only [slices_DeleteFunc_api_Reading.h0, del1_i.sh, del1_i.frz, del1_i.br, del1_i.refs, del1_i.imp, del1_i.ren, del1_i.un, c2, c8, aa yx9, c11, aa yx12, eyl13, set_len yl13, set_take Reading.c yl13, go_sem]
 have c11 := bnot_f c11
 try simp only [c11, del1_i.sh, del1_i.frz, del1_i.br, del1_i.refs, del1_i.imp, del1_i.ren, del1_i.un, c2, c8, aa yx9, go_sem]
 refine AKev_backB (hnext1 _ _ (Option.some.inj h1).symm ?_)
 refine Weak.go [0, 1, 5, 6] [0] rfl ?_
 try simp only [slices_DeleteFunc_api_Reading.h0, del1_i.sh, del1_i.frz, del1_i.br, del1_i.refs, del1_i.imp, del1_i.ren, del1_i.un, c2, c8, aa yx9, c11, go_sem]
 try simp only [c8, del1_i.sh, del1_i.frz, del1_i.br, del1_i.refs, del1_i.imp, del1_i.ren, del1_i.un, c2, go_sem]
 refine AKev_backB (hbrk1 _ _ (Option.some.inj h1).symm ?_)
 refine Weak.go [0, 5] [0] rfl ?_
 try simp only [slices_DeleteFunc_api_Reading.x0, del1_i.sh, del1_i.frz, del1_i.br, del1_i.refs, del1_i.imp, del1_i.ren, del1_i.un, c2, c8, go_sem]
 rintro ⟨i6, l7⟩ hr_
 subst hr_
 simp only at h0
 refine rS ?_
 try simp only [slices_DeleteFunc_api_Reading.x0, del1_i.sh, del1_i.frz, del1_i.br, del1_i.refs, del1_i.imp, del1_i.ren, del1_i.un, c2, go_sem]
 obtain ⟨u15, yu15, h0⟩ := bs h0
 have lyu15 := ls_le yu15
 have eq16 := clr_map Reading.c l7 i6.toNat (l7.length - i6.toNat) (⟨0, 0, 0, 0, (⟨0, 0⟩ : Range)⟩ : Reading)
 have lq16 : (clr l7 i6.toNat (l7.length - i6.toNat) (⟨0, 0, 0, 0, (⟨0, 0⟩ : Range)⟩ : Reading)).length = l7.length := by rw [clr_len] <;> simp only [del1_i.sh, del1_i.frz, del1_i.br, del1_i.refs, del1_i.imp, del1_i.ren, del1_i.un, c2, lyu15, go_sem]
 try simp only [go_sem] at eq16
 try simp only [ls_bounds yu15, lyu15, eq16, del1_i.sh, del1_i.frz, del1_i.br, del1_i.refs, del1_i.imp, del1_i.ren, del1_i.un, c2, lq16, go_sem]
 obtain ⟨u17, yu17, h0⟩ := bs h0
 have lyu17 := hs_le yu17
 try simp only [hs_bounds yu17, lyu17, del1_i.sh, del1_i.frz, del1_i.br, del1_i.refs, del1_i.imp, del1_i.ren, del1_i.un, c2, lyu15, lq16, go_sem]
 obtain rfl := Option.some.inj h0
 refine AKev_gret rfl ?_
 try simp only [F122.rs, oOK, Option.map_some, tupOf, cut0_map, cut_map, Nat.le_refl, List.take_length, del1_i.sh, del1_i.frz, del1_i.br, del1_i.refs, del1_i.imp, del1_i.ren, del1_i.un, c2, lyu15, lq16, lyu17, go_sem]
def F123.c : SC :=
 (.seq
 (.reg [oq 2 (.box 64 (.tmp 0)) 0 [0],
 sb 3 false 4 [3]])
 (.seq
 (.reg [ld 4 109 1 [1],
 fa 5 64 2 0 [2],
 ld 6 3 5 [5],
 oq 7 (.call ⟨.value (.tmp 4), #[.tmp 6], #[3]⟩) 4 [4, 6],
 sg 3 7 4 [7]])
 .ret))
theorem F123.rs : Tryz.f123.results.toList = [.tmp 3] := rfl
def heat_without_1 (k : Nat) (r0 : Reading) (c1 : Int → Option (Bool)) : Option (Bool) :=
 (c1 r0.Source).bind fun x1 =>
 some x1
theorem heat_without_1_ok (k : Nat) (r0 : Reading) (c1_f : Nat) (c1_c : List AV) (c1_i : Ice c1_c) (c1 : Int → Option (Bool)) (c1_h : ∀ q0 qr, c1 q0 = some qr → PCall Tryz.prog c1_f (.int .i64 q0 :: c1_c) (fun y => y = .bool qr)) (r : Bool) (h0 : heat_without_1 k r0 c1 = some r) : PCall Tryz.prog 123 [.agg (Reading.c r0), .rptr 1 [[.fn (.func c1_f) [] c1_c]] 0 0] (fun y => y = .bool r) := by
 refine PB (fn := Tryz.f123) (sc := F123.c) ?_
 refine rS ?_
 simp only [heat_without_1] at h0
 try simp only [F123.c, c1_i.sh, c1_i.frz, c1_i.br, c1_i.refs, c1_i.imp, c1_i.ren, c1_i.un, go_sem]
 obtain ⟨x1, yx1, h0⟩ := bs h0
 refine zc0 (c1_h _ _ yx1) ?_ (by first | rfl | simp [AV.refsL, AV.refs, AV.scal, AV.leaf, c1_i.refs]) ?_
 try simp only [c1_i.sh, c1_i.frz, c1_i.br, c1_i.refs, c1_i.imp, c1_i.ren, c1_i.un, go_sem]
 try simp only [c1_i.sh, c1_i.frz, c1_i.br, c1_i.refs, c1_i.imp, c1_i.ren, c1_i.un, go_sem]
 obtain rfl := Option.some.inj h0
 refine AKev_ret rfl ?_
 try simp only [F123.rs, c1_i.sh, c1_i.frz, c1_i.br, c1_i.refs, c1_i.imp, c1_i.ren, c1_i.un, go_sem]
def F80.c : SC :=
 (.seq
 (.reg [oq 2 (.box 27 (.tmp 0)) 0 [0],
 oq 3 (.box 109 (.tmp 1)) 0 [1],
 oq 4 (.alloc 27) 0 []])
 (.seq
 (.dreg [fa 5 27 2 0 [],
 ld 6 24 5 [],
 cf1 7 88 6 24 24 [],
 fa 8 27 2 1 [],
 ld 9 25 8 [],
 cf1 10 89 9 25 25 [],
 oq 11 (.makeFunc (.func 123) #[] #[.tmp 3]) 149 [],
 cf2 12 122 10 11 25 149 25 [],
 oq 13 (.build 27 #[(0, .tmp 7), (1, .tmp 12)]) 27 [],
 ⟨none, .store 27 (.tmp 4) (.tmp 13), 0, none, []⟩] [[], [0], [0, 1], [], [3], [3, 4, 0, 1, 2], [], [3, 4, 0, 1, 2, 5, 6], [0, 1, 2, 3, 4, 5, 6, 7], [0, 1, 2, 3, 4, 5, 6, 7, 8]] [2, 3, 5, 6, 7, 8, 9, 10, 11, 12, 13])
 .ret))
theorem F80.rs : Tryz.f80.results.toList = [.cell 4 27] := rfl
def heat_without (k : Nat) (f0 : Firing) (gone1 : Int → Option (Bool)) : Option (Firing) :=
 (heat_kilnCopy k f0.Kiln).bind fun x1 =>
 (slices_Clone_api_Reading k f0.Readings).bind fun x3 =>
 (slices_DeleteFunc_api_Reading k x3 (fun q0 => heat_without_1 k q0 gone1)).bind fun x5 =>
 some (⟨x1, x5⟩ : Firing)
theorem heat_without_ok (k : Nat) (f0 : Firing) (gone1_f : Nat) (gone1_c : List AV) (gone1_i : Ice gone1_c) (gone1 : Int → Option (Bool)) (gone1_h : ∀ q0 qr, gone1 q0 = some qr → PCall Tryz.prog gone1_f (.int .i64 q0 :: gone1_c) (fun y => y = .bool qr)) (r : Firing) (h0 : heat_without k f0 gone1 = some r) : PCall Tryz.prog 80 [.agg (Firing.c f0), .fn (.func gone1_f) [] gone1_c] (fun y => y = .agg (Firing.c r)) := by
 refine PB (fn := Tryz.f80) (sc := F80.c) ?_
 refine rS ?_
 simp only [heat_without] at h0
 try simp only [F80.c, gone1_i.sh, gone1_i.frz, gone1_i.br, gone1_i.refs, gone1_i.imp, gone1_i.ren, gone1_i.un, go_sem]
 refine AKev_region T_ok follows_ok 1000 ?_
 try simp only [gone1_i.sh, gone1_i.frz, gone1_i.br, gone1_i.refs, gone1_i.imp, gone1_i.ren, gone1_i.un, go_sem]
 obtain ⟨x1, yx1, h0⟩ := bs h0
 refine DG_call0 1000 (heat_kilnCopy_ok k _ _ yx1) ?_ (by first | rfl | simp [AV.refsL, AV.refs, AV.scal, AV.leaf, gone1_i.refs]) ?_
 try simp only [gone1_i.sh, gone1_i.frz, gone1_i.br, gone1_i.refs, gone1_i.imp, gone1_i.ren, gone1_i.un, go_sem]
 try simp only [gone1_i.sh, gone1_i.frz, gone1_i.br, gone1_i.refs, gone1_i.imp, gone1_i.ren, gone1_i.un, go_sem]
 obtain ⟨x3, yx3, h0⟩ := bs h0
 refine DG_give 1000 [] [] (slices_Clone_api_Reading_ok k _ _ yx3) ?_ rfl ?_
 try simp only [gOK, List.length_map, gone1_i.sh, gone1_i.frz, gone1_i.br, gone1_i.refs, gone1_i.imp, gone1_i.ren, gone1_i.un, go_sem]
 try simp only [gone1_i.sh, gone1_i.frz, gone1_i.br, gone1_i.refs, gone1_i.imp, gone1_i.ren, gone1_i.un, go_sem]
 obtain ⟨x5, yx5, h0⟩ := bs h0
 refine DG_give 1000 [16] [128] (slices_DeleteFunc_api_Reading_ok k _ 123 [.rptr 1 [[.fn (.func gone1_f) [] gone1_c]] 0 0] ⟨fun _ => rfl, fun _ => rfl, fun _ _ => rfl, rfl, fun _ => rfl, fun _ => rfl, fun _ => rfl⟩ (fun q0 => heat_without_1 k q0 gone1) (fun q0 qr qh => heat_without_1_ok k q0 gone1_f gone1_c gone1_i gone1 gone1_h qr qh) _ yx5) ?_ rfl ?_
 try simp only [gOK, List.length_map, gone1_i.sh, gone1_i.frz, gone1_i.br, gone1_i.refs, gone1_i.imp, gone1_i.ren, gone1_i.un, go_sem]
 try simp only [gone1_i.sh, gone1_i.frz, gone1_i.br, gone1_i.refs, gone1_i.imp, gone1_i.ren, gone1_i.un, go_sem]
 refine DG_done ⟨rfl, run_sound T_ok 1000 _ _ ?_⟩
 try simp only [gone1_i.sh, gone1_i.frz, gone1_i.br, gone1_i.refs, gone1_i.imp, gone1_i.ren, gone1_i.un, go_sem]
 obtain rfl := Option.some.inj h0
 refine AKev_ret rfl ?_
 try simp only [F80.rs, gone1_i.sh, gone1_i.frz, gone1_i.br, gone1_i.refs, gone1_i.imp, gone1_i.ren, gone1_i.un, go_sem]
def F120.s0 : SC :=
 (.seq
 (.reg [b2 9 .lss 3 8 7 3 0 []])
 (.seq
 (.cond (.tmp 9)
 .skip
 (.exit 0))
 (.seq
 (.block 1
 (.seq
 (.reg [mv 10 8 3 [],
 sg 5 10 3 [10]])
 (.seq
 (.reg [mv 11 1 3 [],
 mv 12 0 37 [],
 mv 13 5 3 [],
 ia 14 37 12 13 [12, 13],
 ld 15 3 14 [14],
 b2 16 .eql 3 11 15 3 4 [11, 15]])
 (.cond (.tmp 16)
 (.seq
 (.reg [mv 17 5 3 [5],
 sg 4 17 3 [17]])
 .ret)
 .skip))))
 (.reg [bn 18 .add 3 8 1 3 3 [8],
 mv 8 18 3 [18]]))))
def F120.c : SC :=
 (.seq
 (.reg [sn 4 0 3 [4]])
 (.seq
 (.seq
 (.reg [mv 6 0 37 [],
 ln 7 6 37 3 [6],
 oq 8 (.move (.const (.int .i64 0))) 3 []])
 (.block 0
 (.loop F120.s0)))
 (.seq
 (.reg [sn 4 (-1) 3 []])
 .ret)))
theorem F120.rs : Tryz.f120.results.toList = [.tmp 4] := rfl
def slices_Index_int.b0 (k : Nat) (s0 : (List Int)) (v1 : Int) : Int → Option (Stp (Int) (Unit) (Int)) := fun (i1 : Int) =>
 bif decide (i1 < (s0.length : Int)) then
  (at? s0 i1).bind fun x3 =>
  bif decide (v1 = x3) then
   some (.ret i1)
  else
   some (.next (w64 (i1 + 1)))
 else
  some (.brk ())
noncomputable def slices_Index_int.h0 (s0 : (List Int)) (v1 : Int) : Int → St := fun (i1 : Int) => ⟨[(0, .sl 1 (List.map eI s0)), (1, .int .i64 v1), (7, .int .i64 (s0.length : Int)), (8, .int .i64 i1)], [], [], 1, Tryz.f120.ntmps⟩
noncomputable def slices_Index_int.x0 : Unit → St := fun (_ : Unit) => ⟨[], [], [], 1, Tryz.f120.ntmps⟩
def slices_Index_int (k : Nat) (s0 : (List Int)) (v1 : Int) : Option (Int) :=
 (whl (slices_Index_int.b0 k s0 v1) k 0).bind fun r5 => match r5 with
 | .next _ => none
 | .ret v_ => some v_
 | .brk _ =>
  some (-1)
theorem slices_Index_int_ok (k : Nat) (s0 : (List Int)) (v1 : Int) (r : Int) (h0 : slices_Index_int k s0 v1 = some r) : PCall Tryz.prog 120 [.sl 1 (List.map eI s0), .int .i64 v1] (fun y => y = .int .i64 r) := by
 refine PB (fn := Tryz.f120) (sc := F120.c) ?_
 refine rS ?_
 simp only [slices_Index_int] at h0
 try simp only [F120.c, go_sem]
 obtain ⟨r5, yr5, h0⟩ := bs h0
 refine AKev_loopS yr5 (slices_Index_int.h0 s0 v1) (slices_Index_int.x0) ?_ ?_ ?_
 refine Weak.go [0, 1, 7, 8] [] rfl ?_
 try simp only [slices_Index_int.h0, go_sem]
 rintro i1 x_1 Bk1 Br1 h1 hnext1 hbrk1 hret1
 refine rS ?_
 simp only [slices_Index_int.b0] at h1
 try simp only [F120.s0, slices_Index_int.h0, go_sem]
 refine AKev_bif h1 ?_ ?_ <;> intro c2 h1
 try simp only [c2, go_sem]
 obtain ⟨x3, yx3, h1⟩ := bs h1
 try simp only [aa yx3, c2, go_sem]
 refine AKev_bif h1 ?_ ?_ <;> intro c4 h1
 try simp only [c4, c2, aa yx3, go_sem]
 obtain rfl := hret1 _ (Option.some.inj h1).symm
 simp only at h0
 obtain rfl := Option.some.inj h0
 refine AKev_ret rfl ?_
 try simp only [F120.rs, c2, aa yx3, c4, go_sem]
 try simp only [c4, c2, aa yx3, go_sem]
 refine AKev_backB (hnext1 _ _ (Option.some.inj h1).symm ?_)
 refine Weak.go [0, 1, 7, 8] [] rfl ?_
 try simp only [slices_Index_int.h0, c2, aa yx3, c4, go_sem]
 try simp only [c2, go_sem]
 refine AKev_backB (hbrk1 _ _ (Option.some.inj h1).symm ?_)
 refine Weak.go [] [] rfl ?_
 try simp only [slices_Index_int.x0, c2, go_sem]
 rintro _ hr_
 subst hr_
 simp only at h0
 refine rS ?_
 try simp only [slices_Index_int.x0, go_sem]
 obtain rfl := Option.some.inj h0
 refine AKev_ret rfl ?_
 try simp only [F120.rs, go_sem]
def F74.c : SC :=
 (.seq
 (.reg [sb 4 false 4 [4]])
 (.seq
 (.reg [mv 5 0 37 [0],
 mv 6 1 3 [1],
 cf2 7 120 5 6 37 3 3 [5, 6],
 bn 8 .geq 3 7 0 3 4 [7],
 sg 4 8 4 [8]])
 .ret))
theorem F74.rs : Tryz.f74.results.toList = [.tmp 4] := rfl
def slices_Contains_int (k : Nat) (s0 : (List Int)) (v1 : Int) : Option (Bool) :=
 (slices_Index_int k s0 v1).bind fun x1 =>
 some (decide ((0 : Int) ≤ x1))
theorem slices_Contains_int_ok (k : Nat) (s0 : (List Int)) (v1 : Int) (r : Bool) (h0 : slices_Contains_int k s0 v1 = some r) : PCall Tryz.prog 74 [.sl 1 (List.map eI s0), .int .i64 v1] (fun y => y = .bool r) := by
 refine PB (fn := Tryz.f74) (sc := F74.c) ?_
 refine rS ?_
 simp only [slices_Contains_int] at h0
 try simp only [F74.c, go_sem]
 obtain ⟨x1, yx1, h0⟩ := bs h0
 refine zc0 (slices_Index_int_ok k _ _ _ yx1) ?_ (by first | rfl | simp [AV.refsL, AV.refs, AV.scal, AV.leaf]) ?_
 try simp only [go_sem]
 try simp only [go_sem]
 obtain rfl := Option.some.inj h0
 refine AKev_ret rfl ?_
 try simp only [F74.rs, go_sem]
def F118.c : SC :=
 (.seq
 (.reg [sb 3 false 4 [3]])
 (.seq
 (.reg [ld 4 37 1 [1],
 mv 5 0 3 [0],
 cf2 6 74 4 5 37 3 4 [4, 5],
 oq 7 (.unOp .not 4 (.tmp 6)) 4 [6],
 sg 3 7 4 [7]])
 .ret))
theorem F118.rs : Tryz.f118.results.toList = [.tmp 3] := rfl
def heat_only_1 (k : Nat) (n0 : Int) (c1 : (List Int)) : Option (Bool) :=
 (slices_Contains_int k c1 n0).bind fun x1 =>
 some (!x1)
theorem heat_only_1_ok (k : Nat) (n0 : Int) (c1 : (List Int)) (r : Bool) (h0 : heat_only_1 k n0 c1 = some r) : PCall Tryz.prog 118 [.int .i64 n0, .rptr 1 [(eL 1 eI) c1] 0 0] (fun y => y = .bool r) := by
 refine PB (fn := Tryz.f118) (sc := F118.c) ?_
 refine rS ?_
 simp only [heat_only_1] at h0
 try simp only [F118.c, go_sem]
 obtain ⟨x1, yx1, h0⟩ := bs h0
 refine zc0 (slices_Contains_int_ok k _ _ _ yx1) ?_ (by first | rfl | simp [AV.refsL, AV.refs, AV.scal, AV.leaf]) ?_
 try simp only [go_sem]
 try simp only [go_sem]
 obtain rfl := Option.some.inj h0
 refine AKev_ret rfl ?_
 try simp only [F118.rs, go_sem]
def F70.c : SC :=
 (.seq
 (.reg [oq 2 (.box 27 (.tmp 0)) 0 [0],
 oq 3 (.box 37 (.tmp 1)) 0 [1],
 oq 4 (.alloc 81) 0 []])
 (.seq
 (.reg [ld 5 27 2 [2],
 oq 6 (.makeFunc (.func 118) #[] #[.tmp 3]) 109 [3],
 cf2 7 80 5 6 27 109 27 [5, 6],
 cf1 8 66 7 27 81 [7],
 ⟨none, .store 81 (.tmp 4) (.tmp 8), 0, none, [8]⟩])
 .ret))
theorem F70.rs : Tryz.f70.results.toList = [.cell 4 81] := rfl
def heat_only (k : Nat) (f0 : Firing) (by1 : (List Int)) : Option (heat_furnace) :=
 (heat_without k f0 (fun q0 => heat_only_1 k q0 by1)).bind fun x1 =>
 (heat_newFurnace k x1).bind fun x2 =>
 some x2
theorem heat_only_ok (k : Nat) (f0 : Firing) (by1 : (List Int)) (r : heat_furnace) (h0 : heat_only k f0 by1 = some r) : PCall Tryz.prog 70 [.agg (Firing.c f0), .sl 1 (List.map eI by1)] (fun y => y = .agg (heat_furnace.c r)) := by
 refine PB (fn := Tryz.f70) (sc := F70.c) ?_
 refine rS ?_
 simp only [heat_only] at h0
 try simp only [F70.c, go_sem]
 obtain ⟨x1, yx1, h0⟩ := bs h0
 refine zcT [16] (heat_without_ok k _ 118 [.rptr 1 [(eL 1 eI) by1] 0 0] ⟨fun _ => rfl, fun _ => rfl, fun _ _ => rfl, rfl, fun _ => rfl, fun _ => rfl, fun _ => rfl⟩ (fun q0 => heat_only_1 k q0 by1) (fun q0 qr qh => heat_only_1_ok k q0 _ qr qh) _ yx1) ?_ ?_
 try simp only [go_sem]
 try simp only [go_sem]
 obtain ⟨x2, yx2, h0⟩ := bs h0
 refine zc0 (heat_newFurnace_ok k _ _ yx2) ?_ (by first | rfl | simp [AV.refsL, AV.refs, AV.scal, AV.leaf]) ?_
 try simp only [go_sem]
 try simp only [go_sem]
 obtain rfl := Option.some.inj h0
 refine AKev_ret rfl ?_
 try simp only [F70.rs, go_sem]
def F16.s0 : SC :=
 (.seq
 (.seq
 (.reg [mv 21 5 3 [],
 bn 22 .geq 3 21 0 3 4 [21]])
 (.cond (.tmp 22)
 .skip
 (.exit 1)))
 (.seq
 (.block 2
 (.seq
 (.reg [mv 25 4 37 [],
 cf1 26 69 25 37 37 [25],
 mv 27 5 3 [],
 mv 28 5 3 [],
 bn 29 .add 3 28 1 3 3 [28],
 oq 30 (.call ⟨.value (.func 68), #[.tmp 26, .tmp 27, .tmp 29], #[37, 3, 3]⟩) 37 [26, 27, 29],
 sg 6 30 37 [30]])
 (.seq
 (.reg [ld 31 27 1 [],
 mv 32 6 37 [],
 cf2 33 70 31 32 27 37 81 [31, 32],
 cf1 34 53 33 81 4 [33],
 oq 35 (.unOp .not 4 (.tmp 34)) 4 [34]])
 (.cond (.tmp 35)
 (.reg [mv 36 6 37 [6],
 sg 4 36 37 [36]])
 .skip))))
 (.reg [mv 23 5 3 [5],
 bn 24 .sub 3 23 1 3 3 [23],
 sg 5 24 3 [24]])))
def F16.c : SC :=
 (.seq
 (.reg [oq 1 (.box 27 (.tmp 0)) 0 [0],
 oq 2 (.assign (.const (.slice none 0 0))) 37 [2],
 sn 3 0 33 [3]])
 (.seq
 (.block 0
 (.seq
 (.reg [ld 8 27 1 [],
 cf1 9 42 8 27 33 [8],
 bn 10 .neq 33 9 0 33 4 [9],
 sg 7 10 4 [10]])
 (.cond (.tmp 7)
 (.seq
 (.reg [oq 2 (.assign (.const (.slice none 0 0))) 37 [],
 sn 3 42 33 []])
 .ret)
 (.seq
 (.reg [ld 12 27 1 [],
 cf1 13 66 12 27 81 [12],
 cf1 14 53 13 81 4 [13],
 sg 11 14 4 [14]])
 (.cond (.tmp 11)
 (.seq
 (.reg [oq 2 (.assign (.const (.slice none 0 0))) 37 [],
 sn 3 3 33 []])
 .ret)
 .skip)))))
 (.seq
 (.reg [fa 15 27 1 1 [],
 ld 16 25 15 [15],
 cf1 17 67 16 25 37 [16],
 sg 4 17 37 [17]])
 (.seq
 (.seq
 (.reg [mv 18 4 37 [],
 ln 19 18 37 3 [18],
 bn 20 .sub 3 19 1 3 3 [19],
 sg 5 20 3 [20]])
 (.block 1
 (.loop F16.s0)))
 (.seq
 (.reg [mv 37 4 37 [4],
 sg 2 37 37 [37],
 sn 3 0 33 []])
 .ret)))))
theorem F16.rs : Tryz.f16.results.toList = [.tmp 2, .tmp 3] := rfl
def heat_Conflict.b0 (k : Nat) (f0 : Firing) : ((List Int) × Int) → Option (Stp ((List Int) × Int) ((List Int)) ((List Int) × Int)) := fun (s : (List Int) × Int) => match s with
 | (l7, i8) =>
   bif decide ((0 : Int) ≤ i8) then
    (slices_Clone_int k l7).bind fun x12 =>
    (slices_Delete_int k x12 i8 (w64 (i8 + 1))).bind fun x14 =>
    (heat_only k f0 x14).bind fun x15 =>
    (heat_furnace_sound k x15).bind fun x16 =>
    bif (!x16) then
     some (.next (x14, w64 (i8 - 1)))
    else
     some (.next (l7, w64 (i8 - 1)))
   else
    some (.brk l7)
noncomputable def heat_Conflict.h0 (f0 : Firing) : ((List Int) × Int) → St := fun (s : (List Int) × Int) => match s with
 | (l7, i8) => ⟨[(1, .ptr 0 0 0), (4, .sl 1 (List.map eI l7)), (5, .int .i64 i8)], [(0, .box [.sl 1 (List.map (eL 2 Range.c) f0.Kiln.Falls), .sl 6 (List.map Reading.c f0.Readings)])], [], 1, Tryz.f16.ntmps⟩
noncomputable def heat_Conflict.x0 : (List Int) → St := fun (l9 : (List Int)) => ⟨[(4, .sl 1 (List.map eI l9))], [], [], 1, Tryz.f16.ntmps⟩
def heat_Conflict (k : Nat) (f0 : Firing) : Option ((List Int) × Int) :=
 (heat_Check k f0).bind fun x1 =>
 bif (!decide (x1 = (0 : Int))) then
  some ([], 42)
 else
  (heat_newFurnace k f0).bind fun x3 =>
  (heat_furnace_sound k x3).bind fun x4 =>
  bif x4 then
   some ([], 3)
  else
   (heat_sources k f0.Readings).bind fun x6 =>
   (whl (heat_Conflict.b0 k f0) k (x6, w64 ((x6.length : Int) - 1))).bind fun r18 => match r18 with
   | .next _ => none
   | .ret v_ => some v_
   | .brk l9 =>
    some (l9, 0)
theorem heat_Conflict_ok (k : Nat) (f0 : Firing) (r : (List Int) × Int) (h0 : heat_Conflict k f0 = some r) : PCall Tryz.prog 16 [.agg (Firing.c f0)] (fun y => y = .tup [.sl 1 (List.map eI r.1), .int .i64 r.2]) := by
 refine PB (fn := Tryz.f16) (sc := F16.c) ?_
 refine rS ?_
 simp only [heat_Conflict] at h0
 try simp only [F16.c, go_sem]
 obtain ⟨x1, yx1, h0⟩ := bs h0
 refine zc0 (heat_Check_ok k _ _ yx1) ?_ (by first | rfl | simp [AV.refsL, AV.refs, AV.scal, AV.leaf]) ?_
 try simp only [go_sem]
 try simp only [go_sem]
 refine AKev_bif h0 ?_ ?_ <;> intro c2 h0
 have c2 := bnot_t c2
 try simp only [c2, go_sem]
 obtain rfl := Option.some.inj h0
 refine AKev_ret rfl ?_
 try simp only [F16.rs, c2, go_sem]
 have c2 := bnot_f c2
 try simp only [c2, go_sem]
 obtain ⟨x3, yx3, h0⟩ := bs h0
 refine zc0 (heat_newFurnace_ok k _ _ yx3) ?_ (by first | rfl | simp [AV.refsL, AV.refs, AV.scal, AV.leaf]) ?_
 try simp only [c2, go_sem]
 try simp only [c2, go_sem]
 obtain ⟨x4, yx4, h0⟩ := bs h0
 refine zc0 (heat_furnace_sound_ok k _ _ yx4) ?_ (by first | rfl | simp [AV.refsL, AV.refs, AV.scal, AV.leaf]) ?_
 try simp only [c2, go_sem]
 try simp only [c2, go_sem]
 refine AKev_bif h0 ?_ ?_ <;> intro c5 h0
 try simp only [c5, c2, go_sem]
 obtain rfl := Option.some.inj h0
 refine AKev_ret rfl ?_
 try simp only [F16.rs, c2, c5, go_sem]
 try simp only [c5, c2, go_sem]
 obtain ⟨x6, yx6, h0⟩ := bs h0
 refine zc0 (heat_sources_ok k _ _ yx6) ?_ (by first | rfl | simp [AV.refsL, AV.refs, AV.scal, AV.leaf]) ?_
 try simp only [c2, c5, go_sem]
 try simp only [c2, c5, go_sem]
 obtain ⟨r18, yr18, h0⟩ := bs h0
 refine AKev_loopS yr18 (heat_Conflict.h0 f0) (heat_Conflict.x0) ?_ ?_ ?_
 refine Weak.go [1, 4, 5] [0] rfl ?_
 try simp only [heat_Conflict.h0, c2, c5, go_sem]
 rintro ⟨l7, i8⟩ x_1 Bk1 Br1 h1 hnext1 hbrk1 hret1
 refine rS ?_
 simp only [heat_Conflict.b0] at h1
 try simp only [F16.s0, heat_Conflict.h0, c2, c5, go_sem]
 refine AKev_bif h1 ?_ ?_ <;> intro c10 h1
 try simp only [c10, c2, c5, go_sem]
 obtain ⟨x12, yx12, h1⟩ := bs h1
 refine AKev_give T_ok 1000 [] [] (slices_Clone_int_ok k _ _ yx12) ?_ rfl ?_
 try simp only [gOK, List.length_map, c2, c5, c10, go_sem]
 try simp only [c2, c5, c10, go_sem]
 obtain ⟨x14, yx14, h1⟩ := bs h1
 refine AKev_giveF [] [49] (slices_Delete_int_ok k _ _ _ _ yx14) ?_ rfl ?_
 try simp only [gOK, List.length_map, c2, c5, c10, go_sem]
 try simp only [c2, c5, c10, go_sem]
 refine AK.fz 1000 T_ok 113 rfl (fun _ h => by cases h) ?_
 try simp only [c2, c5, c10, go_sem]
 obtain ⟨x15, yx15, h1⟩ := bs h1
 refine zc0 (heat_only_ok k _ _ _ yx15) ?_ (by first | rfl | simp [AV.refsL, AV.refs, AV.scal, AV.leaf]) ?_
 try simp only [c2, c5, c10, go_sem]
 try simp only [c2, c5, c10, go_sem]
 obtain ⟨x16, yx16, h1⟩ := bs h1
 refine zc0 (heat_furnace_sound_ok k _ _ yx16) ?_ (by first | rfl | simp [AV.refsL, AV.refs, AV.scal, AV.leaf]) ?_
 try simp only [c2, c5, c10, go_sem]
 try simp only [c2, c5, c10, go_sem]
 refine AKev_bif h1 ?_ ?_ <;> intro c17 h1
 have c17 := bnot_t c17
 try simp only [c17, c2, c5, c10, go_sem]
 refine AKev_backB (hnext1 _ _ (Option.some.inj h1).symm ?_)
 refine Weak.go [1, 4, 5] [0] rfl ?_
 try simp only [heat_Conflict.h0, c2, c5, c10, c17, go_sem]
 have c17 := bnot_f c17
 try simp only [c17, c2, c5, c10, go_sem]
 refine AKev_backB (hnext1 _ _ (Option.some.inj h1).symm ?_)
 refine Weak.go [1, 4, 5] [0] rfl ?_
 try simp only [heat_Conflict.h0, c2, c5, c10, c17, go_sem]
 try simp only [c10, c2, c5, go_sem]
 refine AKev_backB (hbrk1 _ _ (Option.some.inj h1).symm ?_)
 refine Weak.go [4] [] rfl ?_
 try simp only [heat_Conflict.x0, c2, c5, c10, go_sem]
 rintro l9 hr_
 subst hr_
 simp only at h0
 refine rS ?_
 try simp only [heat_Conflict.x0, c2, c5, go_sem]
 obtain rfl := Option.some.inj h0
 refine AKev_ret rfl ?_
 try simp only [F16.rs, c2, c5, go_sem]
def F18.s0 : SC :=
 (.seq
 (.seq
 (.reg [mv 11 5 3 [],
 mv 12 0 37 [],
 ln 13 12 37 3 [12],
 b2 14 .lss 3 11 13 3 4 [11, 13]])
 (.cond (.tmp 14)
 .skip
 (.exit 0)))
 (.seq
 (.block 1
 (.seq
 (.dreg [mv 17 0 37 [],
 mv 18 5 3 [],
 ia 19 37 17 18 [],
 ld 20 3 19 [],
 mv 21 1 37 [],
 mv 22 5 3 [],
 ia 23 37 21 22 [],
 ld 24 3 23 [],
 b2 25 .neq 3 20 24 3 4 []] [[], [], [0, 1], [0, 1, 2], [], [], [4, 5], [4, 5, 6], [0, 1, 2, 3, 4, 5, 6, 7]] [17, 18, 19, 20, 21, 22, 23, 24])
 (.cond (.tmp 25)
 (.seq
 (.reg [sb 4 false 4 []])
 .ret)
 .skip)))
 (.reg [mv 15 5 3 [5],
 bn 16 .add 3 15 1 3 3 [15],
 sg 5 16 3 [16]])))
def F18.c : SC :=
 (.seq
 (.reg [sb 4 false 4 [4]])
 (.seq
 (.seq
 (.reg [mv 6 0 37 [],
 ln 7 6 37 3 [6],
 mv 8 1 37 [],
 ln 9 8 37 3 [8],
 b2 10 .neq 3 7 9 3 4 [7, 9]])
 (.cond (.tmp 10)
 (.seq
 (.reg [sb 4 false 4 []])
 .ret)
 .skip))
 (.seq
 (.seq
 (.reg [sn 5 0 3 []])
 (.block 0
 (.loop F18.s0)))
 (.seq
 (.reg [sb 4 true 4 []])
 .ret))))
theorem F18.rs : Tryz.f18.results.toList = [.tmp 4] := rfl
def R01_Same.b0 (k : Nat) (a0 : (List Int)) (b1 : (List Int)) : Int → Option (Stp (Int) (Unit) (Bool)) := fun (i2 : Int) =>
 bif decide (i2 < (a0.length : Int)) then
  (at? a0 i2).bind fun x4 =>
  (at? b1 i2).bind fun x5 =>
  bif (!decide (x4 = x5)) then
   some (.ret false)
  else
   some (.next (w64 (i2 + 1)))
 else
  some (.brk ())
noncomputable def R01_Same.h0 (a0 : (List Int)) (b1 : (List Int)) : Int → St := fun (i2 : Int) => ⟨[(0, .sl 1 (List.map eI a0)), (1, .sl 1 (List.map eI b1)), (5, .int .i64 i2)], [], [], 1, Tryz.f18.ntmps⟩
noncomputable def R01_Same.x0 : Unit → St := fun (_ : Unit) => ⟨[], [], [], 1, Tryz.f18.ntmps⟩
def R01_Same (k : Nat) (a0 : (List Int)) (b1 : (List Int)) : Option (Bool) :=
 bif (!decide ((a0.length : Int) = (b1.length : Int))) then
  some false
 else
  (whl (R01_Same.b0 k a0 b1) k 0).bind fun r7 => match r7 with
  | .next _ => none
  | .ret v_ => some v_
  | .brk _ =>
   some true
theorem R01_Same_ok (k : Nat) (a0 : (List Int)) (b1 : (List Int)) (r : Bool) (h0 : R01_Same k a0 b1 = some r) : PCall Tryz.prog 18 [.sl 1 (List.map eI a0), .sl 1 (List.map eI b1)] (fun y => y = .bool r) := by
 refine PB (fn := Tryz.f18) (sc := F18.c) ?_
 refine rS ?_
 simp only [R01_Same] at h0
 try simp only [F18.c, go_sem]
 refine AKev_bif h0 ?_ ?_ <;> intro c1 h0
 have c1 := bnot_t c1
 try simp only [c1, go_sem]
 obtain rfl := Option.some.inj h0
 refine AKev_ret rfl ?_
 try simp only [F18.rs, c1, go_sem]
 have c1 := bnot_f c1
 try simp only [c1, go_sem]
 obtain ⟨r7, yr7, h0⟩ := bs h0
 refine AKev_loopS yr7 (R01_Same.h0 a0 b1) (R01_Same.x0) ?_ ?_ ?_
 refine Weak.go [0, 1, 5] [] rfl ?_
 try simp only [R01_Same.h0, c1, go_sem]
 rintro i2 x_1 Bk1 Br1 h1 hnext1 hbrk1 hret1
 refine rS ?_
 simp only [R01_Same.b0] at h1
 try simp only [F18.s0, R01_Same.h0, c1, go_sem]
 refine AKev_bif h1 ?_ ?_ <;> intro c3 h1
 try simp only [c3, c1, go_sem]
 refine AKev_region T_ok follows_ok 1000 ?_
 try simp only [c1, c3, go_sem]
 obtain ⟨x4, yx4, h1⟩ := bs h1
 try simp only [aa yx4, c1, c3, go_sem]
 obtain ⟨x5, yx5, h1⟩ := bs h1
 try simp only [aa yx5, c1, c3, aa yx4, go_sem]
 refine DG_done ⟨rfl, run_sound T_ok 1000 _ _ ?_⟩
 try simp only [c1, c3, aa yx4, aa yx5, go_sem]
 refine AKev_bif h1 ?_ ?_ <;> intro c6 h1
 have c6 := bnot_t c6
 try simp only [c6, c1, c3, aa yx4, aa yx5, go_sem]
 obtain rfl := hret1 _ (Option.some.inj h1).symm
 simp only at h0
 obtain rfl := Option.some.inj h0
 refine AKev_ret rfl ?_
 try simp only [F18.rs, c1, c3, aa yx4, aa yx5, c6, go_sem]
 have c6 := bnot_f c6
 try simp only [c6, c1, c3, aa yx4, aa yx5, go_sem]
 refine AKev_backB (hnext1 _ _ (Option.some.inj h1).symm ?_)
 refine Weak.go [0, 1, 5] [] rfl ?_
 try simp only [R01_Same.h0, c1, c3, aa yx4, aa yx5, c6, go_sem]
 try simp only [c3, c1, go_sem]
 refine AKev_backB (hbrk1 _ _ (Option.some.inj h1).symm ?_)
 refine Weak.go [] [] rfl ?_
 try simp only [R01_Same.x0, c1, c3, go_sem]
 rintro _ hr_
 subst hr_
 simp only at h0
 refine rS ?_
 try simp only [R01_Same.x0, c1, go_sem]
 obtain rfl := Option.some.inj h0
 refine AKev_ret rfl ?_
 try simp only [F18.rs, c1, go_sem]
def F21.c : SC :=
 (.seq
 (.reg [oq 2 (.box 27 (.tmp 0)) 0 [0],
 oq 4 (.alloc 30) 0 [],
 sn 5 0 33 [5]])
 (.seq
 (.reg [ld 9 27 2 [2],
 mv 10 1 3 [],
 cf2 11 76 9 10 27 3 104 [9, 10],
 mv 8 11 104 [11],
 xt 12 8 0 81 [],
 xt 13 8 1 33 [8],
 oq 6 (.alloc 81) 0 [],
 ⟨none, .store 81 (.tmp 6) (.tmp 12), 0, none, [12]⟩,
 sg 7 13 33 [13]])
 (.seq
 (.seq
 (.reg [mv 14 7 33 [],
 bn 15 .neq 33 14 0 33 4 [14]])
 (.cond (.tmp 15)
 (.seq
 (.reg [oq 16 (.build 30 #[]) 30 [],
 mv 17 7 33 [7],
 ⟨none, .store 30 (.tmp 4) (.tmp 16), 0, none, [16]⟩,
 sg 5 17 33 [17]])
 .ret)
 .skip))
 (.seq
 (.reg [ld 18 81 6 [6],
 mv 19 1 3 [1],
 cf2 20 54 18 19 81 3 30 [18, 19],
 ⟨none, .store 30 (.tmp 4) (.tmp 20), 0, none, [20]⟩,
 sn 5 0 33 []])
 .ret))))
theorem F21.rs : Tryz.f21.results.toList = [.cell 4 30, .tmp 5] := rfl
def heat_Bound (k : Nat) (f0 : Firing) (place1 : Int) : Option (Range × Int) :=
 (heat_asks k f0 place1).bind fun x1 =>
 bif (!decide (x1.2 = (0 : Int))) then
  some ((⟨0, 0⟩ : Range), x1.2)
 else
  (heat_furnace_bound k x1.1 place1).bind fun x3 =>
  some (x3, 0)
theorem heat_Bound_ok (k : Nat) (f0 : Firing) (place1 : Int) (r : Range × Int) (h0 : heat_Bound k f0 place1 = some r) : PCall Tryz.prog 21 [.agg (Firing.c f0), .int .i64 place1] (fun y => y = .tup [.agg (Range.c r.1), .int .i64 r.2]) := by
 refine PB (fn := Tryz.f21) (sc := F21.c) ?_
 refine rS ?_
 simp only [heat_Bound] at h0
 try simp only [F21.c, go_sem]
 obtain ⟨x1, yx1, h0⟩ := bs h0
 refine zc0 (heat_asks_ok k _ _ _ yx1) ?_ (by first | rfl | simp [AV.refsL, AV.refs, AV.scal, AV.leaf]) ?_
 try simp only [go_sem]
 try simp only [go_sem]
 refine AKev_bif h0 ?_ ?_ <;> intro c2 h0
 have c2 := bnot_t c2
 try simp only [c2, go_sem]
 obtain rfl := Option.some.inj h0
 refine AKev_ret rfl ?_
 try simp only [F21.rs, c2, go_sem]
 have c2 := bnot_f c2
 try simp only [c2, go_sem]
 obtain ⟨x3, yx3, h0⟩ := bs h0
 refine zc0 (heat_furnace_bound_ok k _ _ _ yx3) ?_ (by first | rfl | simp [AV.refsL, AV.refs, AV.scal, AV.leaf]) ?_
 try simp only [c2, go_sem]
 try simp only [c2, go_sem]
 obtain rfl := Option.some.inj h0
 refine AKev_ret rfl ?_
 try simp only [F21.rs, c2, go_sem]
def F60.s1 : SC :=
 (.seq
 (.reg [b2 39 .lss 3 38 37 3 0 []])
 (.seq
 (.cond (.tmp 39)
 .skip
 (.exit 2))
 (.seq
 (.block 3
 (.seq
 (.reg [mv 40 38 3 [],
 ia 41 89 36 38 [],
 ld 42 30 41 [41],
 oq 10 (.alloc 30) 0 [],
 sg 9 40 3 [40],
 ⟨none, .store 30 (.tmp 10) (.tmp 42), 0, none, [42]⟩])
 (.seq
 (.reg [fa 43 30 10 0 [10],
 ld 44 3 43 [43],
 sg 11 44 3 [44]])
 (.seq
 (.seq
 (.reg [fa 46 81 1 2 [],
 ld 47 79 46 [46],
 mv 48 9 3 [9],
 oq 49 (.call ⟨.value (.func 108), #[.tmp 47, .tmp 48, .func 109], #[79, 3, 138]⟩) 136 [47, 48],
 mv 45 49 136 [49],
 xt 50 45 0 135 [],
 xt 51 45 1 4 [45],
 oq 12 (.alloc 135) 0 [],
 ⟨none, .store 135 (.tmp 12) (.tmp 50), 0, none, [50]⟩,
 sg 13 51 4 [51]])
 (.seq
 (.reg [mv 52 13 4 [13]])
 (.cond (.tmp 52)
 (.reg [mv 53 11 3 [11],
 mv 54 6 3 [],
 fa 55 135 12 1 [12],
 ld 56 3 55 [55],
 b2 57 .sub 3 54 56 3 3 [54, 56],
 oq 58 (.call ⟨.builtin .max, #[.tmp 53, .tmp 57], #[3, 3]⟩) 3 [53, 57],
 sg 11 58 3 [58]])
 .skip)))
 (.reg [mv 59 8 37 [8],
 mv 60 11 3 [11],
 oq 61 (.buildSlice 37 1 #[(0, .tmp 60)]) 37 [60],
 oq 62 (.call ⟨.builtin .append, #[.tmp 59, .tmp 61], #[37, 37]⟩) 37 [59, 61],
 sg 8 62 37 [62]])))))
 (.reg [bn 63 .add 3 38 1 3 3 [38],
 mv 38 63 3 [63]]))))
def F60.s0 : SC :=
 (.seq
 (.reg [b2 20 .lss 3 19 18 3 0 []])
 (.seq
 (.cond (.tmp 20)
 .skip
 (.exit 0))
 (.seq
 (.block 1
 (.seq
 (.reg [mv 21 19 3 [],
 ia 22 22 17 19 [],
 ld 23 89 22 [22],
 sg 4 21 3 [21],
 sg 5 23 89 [23]])
 (.seq
 (.reg [ld 25 81 1 [],
 mv 26 4 3 [4],
 cf2 27 107 25 26 81 3 132 [25, 26],
 mv 24 27 132 [27],
 xt 28 24 0 3 [],
 xt 29 24 1 3 [24],
 sg 6 28 3 [28],
 sg 7 29 3 [7, 29]])
 (.seq
 (.reg [fa 30 40 3 0 [],
 ld 31 37 30 [30],
 mv 32 6 3 [],
 oq 33 (.buildSlice 37 1 #[(0, .tmp 32)]) 37 [32],
 oq 34 (.call ⟨.builtin .append, #[.tmp 31, .tmp 33], #[37, 37]⟩) 37 [31, 33],
 fa 35 40 3 0 [],
 ⟨none, .store 37 (.tmp 35) (.tmp 34), 0, none, [34, 35]⟩])
 (.seq
 (.reg [oq 8 (.assign (.const (.slice none 0 0))) 37 []])
 (.seq
 (.seq
 (.reg [mv 36 5 89 [5],
 ln 37 36 89 3 [],
 oq 38 (.move (.const (.int .i64 0))) 3 []])
 (.block 2
 (.loop F60.s1)))
 (.reg [fa 64 40 3 1 [],
 ld 65 38 64 [64],
 mv 66 8 37 [8],
 oq 67 (.buildSlice 38 1 #[(0, .tmp 66)]) 38 [66],
 oq 68 (.call ⟨.builtin .append, #[.tmp 65, .tmp 67], #[38, 38]⟩) 38 [65, 67],
 fa 69 40 3 1 [],
 ⟨none, .store 38 (.tmp 69) (.tmp 68), 0, none, [68, 69]⟩])))))))
 (.reg [bn 70 .add 3 19 1 3 3 [19],
 mv 19 70 3 [70]]))))
def F60.c : SC :=
 (.seq
 (.reg [oq 1 (.box 81 (.tmp 0)) 0 [0],
 oq 2 (.alloc 40) 0 []])
 (.seq
 (.reg [oq 3 (.alloc 40) 0 []])
 (.seq
 (.seq
 (.reg [fa 14 81 1 0 [],
 fa 15 27 14 0 [14],
 fa 16 24 15 0 [15],
 ld 17 22 16 [16],
 ln 18 17 22 3 [],
 oq 19 (.move (.const (.int .i64 0))) 3 []])
 (.block 0
 (.loop F60.s0)))
 (.seq
 (.reg [ld 71 40 3 [3],
 ⟨none, .store 40 (.tmp 2) (.tmp 71), 0, none, [71]⟩])
 .ret))))
theorem F60.rs : Tryz.f60.results.toList = [.cell 2 40] := rfl
def heat_furnace_greatest.b1 (k : Nat) (f0 : heat_furnace) (x7 : (List Range)) (x8 : Int × Int) : (Int × (List Int)) → Option (Stp (Int × (List Int)) ((List Int)) (Field)) := fun (s : Int × (List Int)) => match s with
 | (i10, l11) =>
   bif decide (i10 < (x7.length : Int)) then
    (at? x7 i10).bind fun x14 =>
    (heat_best k f0.most i10 (fun q0 q1 => heat_less k q0 q1)).bind fun x15 =>
    bif x15.2 then
     (push? 8 l11 (max x14.Lo (w64 (x8.1 - x15.1.heat)))).bind fun l17 =>
     some (.next (w64 (i10 + 1), l17))
    else
     (push? 8 l11 x14.Lo).bind fun l18 =>
     some (.next (w64 (i10 + 1), l18))
   else
    some (.brk l11)
def heat_furnace_greatest.b0 (k : Nat) (f0 : heat_furnace) : (Int × (List Int) × (List (List Int))) → Option (Stp (Int × (List Int) × (List (List Int))) ((List Int) × (List (List Int))) (Field)) := fun (s : Int × (List Int) × (List (List Int))) => match s with
 | (i1, l2, l3) =>
   bif decide (i1 < (f0.Firing.Kiln.Falls.length : Int)) then
    (at? f0.Firing.Kiln.Falls i1).bind fun x7 =>
    (heat_furnace_hottest k f0 i1).bind fun x8 =>
    (push? 8 l2 x8.1).bind fun l9 =>
    (whl (heat_furnace_greatest.b1 k f0 x7 x8) k (0, [])).bind fun r19 => match r19 with
    | .next _ => none
    | .ret v_ => some (.ret v_)
    | .brk l12 =>
     (push? 24 l3 l12).bind fun l20 =>
     some (.next (w64 (i1 + 1), l9, l20))
   else
    some (.brk (l2, l3))
noncomputable def heat_furnace_greatest.h1 (f0 : heat_furnace) (i1 : Int) (l2 : (List Int)) (l3 : (List (List Int))) (x7 : (List Range)) (x8 : Int × Int) (l9 : List Int) : (Int × (List Int)) → St := fun (s : Int × (List Int)) => match s with
 | (i10, l11) => ⟨[(1, .ptr 0 0 0), (2, .ptr 0 1 0), (3, .ptr 0 4 0), (6, .int .i64 x8.1), (8, .loc 0 7 1 0 l11.length l11.length), (17, .sl 1 (List.map (eL 2 Range.c) f0.Firing.Kiln.Falls)), (18, .int .i64 (f0.Firing.Kiln.Falls.length : Int)), (19, .int .i64 i1), (36, .sl 2 (List.map Range.c x7)), (37, .int .i64 (x7.length : Int)), (38, .int .i64 i10)], [(0, .box [.sl 1 (List.map (eL 2 Range.c) f0.Firing.Kiln.Falls), .sl 6 (List.map Reading.c f0.Firing.Readings), .sl 3 (List.map heat_limit.c f0.least), .sl 3 (List.map heat_limit.c f0.most)]), (1, .box [.loc 0 2 1 0 0 0, .loc 0 3 1 0 0 0]), (2, .arr 3 1 (List.map eI [])), (3, .arr 37 1 (List.map (eL 1 eI) [])), (4, .box [.loc 0 5 1 0 (l2.length + 1) (l2.length + 1), .loc 0 6 1 0 l3.length l3.length]), (5, .arr 3 1 (List.map eI l9)), (6, .arr 37 1 (List.map (eL 1 eI) l3)), (7, .arr 3 1 (List.map eI l11))], [], 8, Tryz.f60.ntmps⟩
noncomputable def heat_furnace_greatest.x1 (f0 : heat_furnace) (i1 : Int) (l2 : (List Int)) (l3 : (List (List Int))) (l9 : List Int) : (List Int) → St := fun (l12 : (List Int)) => ⟨[(1, .ptr 0 0 0), (2, .ptr 0 1 0), (3, .ptr 0 4 0), (8, .loc 0 7 1 0 l12.length l12.length), (17, .sl 1 (List.map (eL 2 Range.c) f0.Firing.Kiln.Falls)), (18, .int .i64 (f0.Firing.Kiln.Falls.length : Int)), (19, .int .i64 i1)], [(0, .box [.sl 1 (List.map (eL 2 Range.c) f0.Firing.Kiln.Falls), .sl 6 (List.map Reading.c f0.Firing.Readings), .sl 3 (List.map heat_limit.c f0.least), .sl 3 (List.map heat_limit.c f0.most)]), (1, .box [.loc 0 2 1 0 0 0, .loc 0 3 1 0 0 0]), (2, .arr 3 1 (List.map eI [])), (3, .arr 37 1 (List.map (eL 1 eI) [])), (4, .box [.loc 0 5 1 0 (l2.length + 1) (l2.length + 1), .loc 0 6 1 0 l3.length l3.length]), (5, .arr 3 1 (List.map eI l9)), (6, .arr 37 1 (List.map (eL 1 eI) l3)), (7, .arr 3 1 (List.map eI l12))], [], 8, Tryz.f60.ntmps⟩
noncomputable def heat_furnace_greatest.h0 (f0 : heat_furnace) : (Int × (List Int) × (List (List Int))) → St := fun (s : Int × (List Int) × (List (List Int))) => match s with
 | (i1, l2, l3) => ⟨[(1, .ptr 0 0 0), (2, .ptr 0 1 0), (3, .ptr 0 4 0), (17, .sl 1 (List.map (eL 2 Range.c) f0.Firing.Kiln.Falls)), (18, .int .i64 (f0.Firing.Kiln.Falls.length : Int)), (19, .int .i64 i1)], [(0, .box [.sl 1 (List.map (eL 2 Range.c) f0.Firing.Kiln.Falls), .sl 6 (List.map Reading.c f0.Firing.Readings), .sl 3 (List.map heat_limit.c f0.least), .sl 3 (List.map heat_limit.c f0.most)]), (1, .box [.loc 0 2 1 0 0 0, .loc 0 3 1 0 0 0]), (2, .arr 3 1 (List.map eI [])), (3, .arr 37 1 (List.map (eL 1 eI) [])), (4, .box [.loc 0 5 1 0 l2.length l2.length, .loc 0 6 1 0 l3.length l3.length]), (5, .arr 3 1 (List.map eI l2)), (6, .arr 37 1 (List.map (eL 1 eI) l3))], [], 7, Tryz.f60.ntmps⟩
noncomputable def heat_furnace_greatest.x0 : ((List Int) × (List (List Int))) → St := fun (s : (List Int) × (List (List Int))) => match s with
 | (l4, l5) => ⟨[(2, .ptr 0 0 0), (3, .ptr 0 3 0)], [(0, .box [.loc 0 1 1 0 0 0, .loc 0 2 1 0 0 0]), (1, .arr 3 1 (List.map eI [])), (2, .arr 37 1 (List.map (eL 1 eI) [])), (3, .box [.loc 0 4 1 0 l4.length l4.length, .loc 0 5 1 0 l5.length l5.length]), (4, .arr 3 1 (List.map eI l4)), (5, .arr 37 1 (List.map (eL 1 eI) l5))], [], 6, Tryz.f60.ntmps⟩
def heat_furnace_greatest (k : Nat) (f0 : heat_furnace) : Option (Field) :=
 (whl (heat_furnace_greatest.b0 k f0) k (0, [], [])).bind fun r21 => match r21 with
 | .next _ => none
 | .ret v_ => some v_
 | .brk (l4, l5) =>
  some (⟨l4, l5⟩ : Field)
theorem heat_furnace_greatest_ok (k : Nat) (f0 : heat_furnace) (r : Field) (h0 : heat_furnace_greatest k f0 = some r) : PCall Tryz.prog 60 [.agg (heat_furnace.c f0)] (fun y => y = .agg (Field.c r)) := by
 refine PB (fn := Tryz.f60) (sc := F60.c) ?_
 refine rS ?_
 simp only [heat_furnace_greatest] at h0
 try simp only [F60.c, go_sem]
 obtain ⟨r21, yr21, h0⟩ := bs h0
 refine AKev_loopS yr21 (heat_furnace_greatest.h0 f0) (heat_furnace_greatest.x0) ?_ ?_ ?_
 refine Weak.go [1, 2, 3, 17, 18, 19] [0, 16, 17, 18, 32, 33, 34] rfl ?_
 try simp only [heat_furnace_greatest.h0, go_sem]
 rintro ⟨i1, l2, l3⟩ x_1 Bk1 Br1 h1 hnext1 hbrk1 hret1
 refine rS ?_
 simp only [heat_furnace_greatest.b0] at h1
 try simp only [F60.s0, heat_furnace_greatest.h0, go_sem]
 refine AKev_bif h1 ?_ ?_ <;> intro c6 h1
 try simp only [c6, go_sem]
 obtain ⟨x7, yx7, h1⟩ := bs h1
 try simp only [aa yx7, c6, go_sem]
 obtain ⟨x8, yx8, h1⟩ := bs h1
 refine zc0 (heat_furnace_hottest_ok k _ _ _ yx8) ?_ (by first | rfl | simp [AV.refsL, AV.refs, AV.scal, AV.leaf]) ?_
 try simp only [c6, aa yx7, go_sem]
 try simp only [c6, aa yx7, go_sem]
 obtain ⟨l9, yl9, h1⟩ := bs h1
 have eyl9 := push_map eI yl9
 have tyl9 := push_take eI yl9
 have nyl9 := push_len yl9
 have myl9 := push_room yl9
 try simp only [c6, aa yx7, go_sem] at eyl9 tyl9 nyl9 myl9
 try simp only [myl9, eyl9, c6, aa yx7, nyl9, tyl9, go_sem]
 obtain ⟨r19, yr19, h1⟩ := bs h1
 refine AKev_loopS yr19 (heat_furnace_greatest.h1 f0 i1 l2 l3 x7 x8 l9) (heat_furnace_greatest.x1 f0 i1 l2 l3 l9) ?_ ?_ ?_
 refine Weak.go [1, 2, 3, 6, 8, 17, 18, 19, 36, 37, 38] [0, 1, 2, 3, 4, 5, 6, 343] rfl ?_
 try simp only [heat_furnace_greatest.h1, c6, aa yx7, eyl9, nyl9, tyl9, go_sem]
 rintro ⟨i10, l11⟩ x_2 Bk2 Br2 h2 hnext2 hbrk2 hret2
 refine rS ?_
 simp only [heat_furnace_greatest.b1] at h2
 try simp only [F60.s1, heat_furnace_greatest.h1, c6, aa yx7, eyl9, nyl9, tyl9, go_sem]
 refine AKev_bif h2 ?_ ?_ <;> intro c13 h2
 try simp only [c13, c6, aa yx7, eyl9, nyl9, tyl9, go_sem]
 obtain ⟨x14, yx14, h2⟩ := bs h2
 try simp only [aa yx14, c6, aa yx7, eyl9, nyl9, tyl9, c13, go_sem]
 obtain ⟨x15, yx15, h2⟩ := bs h2
 refine zc0 (heat_best_ok k _ _ 109 [] ⟨fun _ => rfl, fun _ => rfl, fun _ _ => rfl, rfl, fun _ => rfl, fun _ => rfl, fun _ => rfl⟩ (fun q0 q1 => heat_less k q0 q1) (fun q0 q1 qr qh => heat_less_ok k q0 q1 qr qh) _ yx15) ?_ (by first | rfl | simp [AV.refsL, AV.refs, AV.scal, AV.leaf]) ?_
 try simp only [c6, aa yx7, eyl9, nyl9, tyl9, c13, aa yx14, go_sem]
 try simp only [c6, aa yx7, eyl9, nyl9, tyl9, c13, aa yx14, go_sem]
 refine AKev_bif h2 ?_ ?_ <;> intro c16 h2
 try simp only [c16, c6, aa yx7, eyl9, nyl9, tyl9, c13, aa yx14, go_sem]
 obtain ⟨l17, yl17, h2⟩ := bs h2
 have eyl17 := push_map eI yl17
 have tyl17 := push_take eI yl17
 have nyl17 := push_len yl17
 have myl17 := push_room yl17
 try simp only [c6, aa yx7, eyl9, nyl9, tyl9, c13, aa yx14, c16, go_sem] at eyl17 tyl17 nyl17 myl17
 try simp only [myl17, eyl17, c6, aa yx7, eyl9, nyl9, tyl9, c13, aa yx14, c16, nyl17, tyl17, go_sem]
 refine AKev_backB (hnext2 _ _ (Option.some.inj h2).symm ?_)
 refine Weak.go [1, 2, 3, 6, 8, 17, 18, 19, 36, 37, 38] [0, 1, 2, 3, 4, 5, 6, 7] rfl ?_
 try simp only [heat_furnace_greatest.h1, c6, aa yx7, eyl9, nyl9, tyl9, c13, aa yx14, c16, eyl17, nyl17, tyl17, go_sem]
 try simp only [c16, c6, aa yx7, eyl9, nyl9, tyl9, c13, aa yx14, go_sem]
 obtain ⟨l18, yl18, h2⟩ := bs h2
 have eyl18 := push_map eI yl18
 have tyl18 := push_take eI yl18
 have nyl18 := push_len yl18
 have myl18 := push_room yl18
 try simp only [c6, aa yx7, eyl9, nyl9, tyl9, c13, aa yx14, c16, go_sem] at eyl18 tyl18 nyl18 myl18
 try simp only [myl18, eyl18, c6, aa yx7, eyl9, nyl9, tyl9, c13, aa yx14, c16, nyl18, tyl18, go_sem]
 refine AKev_backB (hnext2 _ _ (Option.some.inj h2).symm ?_)
 refine Weak.go [1, 2, 3, 6, 8, 17, 18, 19, 36, 37, 38] [0, 1, 2, 3, 4, 5, 6, 7] rfl ?_
 try simp only [heat_furnace_greatest.h1, c6, aa yx7, eyl9, nyl9, tyl9, c13, aa yx14, c16, eyl18, nyl18, tyl18, go_sem]
 try simp only [c13, c6, aa yx7, eyl9, nyl9, tyl9, go_sem]
 refine AKev_backB (hbrk2 _ _ (Option.some.inj h2).symm ?_)
 refine Weak.go [1, 2, 3, 8, 17, 18, 19] [0, 1, 2, 3, 4, 5, 6, 7] rfl ?_
 try simp only [heat_furnace_greatest.x1, c6, aa yx7, eyl9, nyl9, tyl9, c13, go_sem]
 rintro l12 hr_
 subst hr_
 simp only at h1
 refine rS ?_
 try simp only [heat_furnace_greatest.x1, c6, aa yx7, eyl9, nyl9, tyl9, go_sem]
 obtain ⟨l20, yl20, h1⟩ := bs h1
 have eyl20 := push_map (eL 1 eI) yl20
 have tyl20 := push_take (eL 1 eI) yl20
 have nyl20 := push_len yl20
 have myl20 := push_room yl20
 try simp only [c6, aa yx7, eyl9, nyl9, tyl9, go_sem] at eyl20 tyl20 nyl20 myl20
 try simp only [myl20, eyl20, c6, aa yx7, eyl9, nyl9, tyl9, nyl20, tyl20, go_sem]
 refine AKev_backB (hnext1 _ _ (Option.some.inj h1).symm ?_)
 refine Weak.go [1, 2, 3, 17, 18, 19] [0, 1, 2, 3, 4, 5, 6] rfl ?_
 try simp only [heat_furnace_greatest.h0, c6, aa yx7, eyl9, nyl9, tyl9, eyl20, nyl20, tyl20, go_sem]
 try simp only [c6, go_sem]
 refine AKev_backB (hbrk1 _ _ (Option.some.inj h1).symm ?_)
 refine Weak.go [2, 3] [1, 2, 3, 4, 5, 6] rfl ?_
 try simp only [heat_furnace_greatest.x0, c6, go_sem]
 rintro ⟨l4, l5⟩ hr_
 subst hr_
 simp only at h0
 refine rS ?_
 try simp only [heat_furnace_greatest.x0, go_sem]
 obtain rfl := Option.some.inj h0
 refine AKev_ret rfl ?_
 try simp only [F60.rs, go_sem]
def F48.c : SC :=
 (.seq
 (.reg [oq 1 (.box 27 (.tmp 0)) 0 [0],
 oq 2 (.assign (.const (.slice none 0 0))) 37 [2],
 sn 3 0 33 [3]])
 (.seq
 (.reg [ld 7 27 1 [1],
 oq 8 (.call ⟨.value (.func 76), #[.tmp 7, .const (.int .i64 0)], #[27, 3]⟩) 104 [7],
 mv 6 8 104 [8],
 xt 9 6 0 81 [],
 xt 10 6 1 33 [6],
 oq 4 (.alloc 81) 0 [],
 ⟨none, .store 81 (.tmp 4) (.tmp 9), 0, none, [9]⟩,
 sg 5 10 33 [10]])
 (.seq
 (.seq
 (.reg [mv 11 5 33 [],
 bn 12 .neq 33 11 0 33 4 [11]])
 (.cond (.tmp 12)
 (.seq
 (.reg [mv 13 5 33 [5],
 oq 2 (.assign (.const (.slice none 0 0))) 37 [],
 sg 3 13 33 [13]])
 .ret)
 .skip))
 (.seq
 (.reg [ld 14 81 4 [4],
 cf1 15 60 14 81 40 [14],
 oq 16 (.field 40 (.tmp 15) 0) 37 [15],
 sg 2 16 37 [16],
 sn 3 0 33 []])
 .ret))))
theorem F48.rs : Tryz.f48.results.toList = [.tmp 2, .tmp 3] := rfl
def heat_Hottest (k : Nat) (f0 : Firing) : Option ((List Int) × Int) :=
 (heat_asks k f0 0).bind fun x1 =>
 bif (!decide (x1.2 = (0 : Int))) then
  some ([], x1.2)
 else
  (heat_furnace_greatest k x1.1).bind fun x3 =>
  some (x3.Mouths, 0)
theorem heat_Hottest_ok (k : Nat) (f0 : Firing) (r : (List Int) × Int) (h0 : heat_Hottest k f0 = some r) : PCall Tryz.prog 48 [.agg (Firing.c f0)] (fun y => y = .tup [.sl 1 (List.map eI r.1), .int .i64 r.2]) := by
 refine PB (fn := Tryz.f48) (sc := F48.c) ?_
 refine rS ?_
 simp only [heat_Hottest] at h0
 try simp only [F48.c, go_sem]
 obtain ⟨x1, yx1, h0⟩ := bs h0
 refine zc0 (heat_asks_ok k _ _ _ yx1) ?_ (by first | rfl | simp [AV.refsL, AV.refs, AV.scal, AV.leaf]) ?_
 try simp only [go_sem]
 try simp only [go_sem]
 refine AKev_bif h0 ?_ ?_ <;> intro c2 h0
 have c2 := bnot_t c2
 try simp only [c2, go_sem]
 obtain rfl := Option.some.inj h0
 refine AKev_ret rfl ?_
 try simp only [F48.rs, c2, go_sem]
 have c2 := bnot_f c2
 try simp only [c2, go_sem]
 obtain ⟨x3, yx3, h0⟩ := bs h0
 refine zc0 (heat_furnace_greatest_ok k _ _ yx3) ?_ (by first | rfl | simp [AV.refsL, AV.refs, AV.scal, AV.leaf]) ?_
 try simp only [c2, go_sem]
 try simp only [c2, go_sem]
 obtain rfl := Option.some.inj h0
 refine AKev_ret rfl ?_
 try simp only [F48.rs, c2, go_sem]
def F64.c : SC :=
 (.seq
 (.reg [oq 0 (.alloc 24) 0 []])
 (.seq
 (.reg [oq 4 (.build 30 #[(0, .const (.int .i64 100)), (1, .const (.int .i64 200))]) 30 [],
 oq 1 (.alloc 30) 0 [],
 ⟨none, .store 30 (.tmp 1) (.tmp 4), 0, none, [4]⟩])
 (.seq
 (.reg [oq 5 (.build 30 #[(0, .const (.int .i64 300)), (1, .const (.int .i64 400))]) 30 [],
 oq 2 (.alloc 30) 0 [],
 ⟨none, .store 30 (.tmp 2) (.tmp 5), 0, none, [5]⟩])
 (.seq
 (.reg [oq 6 (.build 30 #[(0, .const (.int .i64 600)), (1, .const (.int .i64 800))]) 30 [],
 oq 3 (.alloc 30) 0 [],
 ⟨none, .store 30 (.tmp 3) (.tmp 6), 0, none, [6]⟩])
 (.seq
 (.reg [ld 7 30 1 [],
 ld 8 30 2 [],
 ld 9 30 3 [],
 oq 10 (.buildSlice 89 3 #[(0, .tmp 7), (1, .tmp 8), (2, .tmp 9)]) 89 [7, 8, 9],
 ld 11 30 3 [3],
 ld 12 30 2 [2],
 ld 13 30 1 [1],
 oq 14 (.buildSlice 89 3 #[(0, .tmp 11), (1, .tmp 12), (2, .tmp 13)]) 89 [11, 12, 13],
 oq 15 (.buildSlice 22 2 #[(0, .tmp 10), (1, .tmp 14)]) 22 [10, 14],
 oq 16 (.build 24 #[(0, .tmp 15)]) 24 [15],
 ⟨none, .store 24 (.tmp 0) (.tmp 16), 0, none, [16]⟩])
 .ret)))))
theorem F64.rs : Tryz.f64.results.toList = [.cell 0 24] := rfl
def L04_kiln (k : Nat) : Option (Kiln) :=
 some (⟨[[(⟨100, 200⟩ : Range), (⟨300, 400⟩ : Range), (⟨600, 800⟩ : Range)], [(⟨600, 800⟩ : Range), (⟨300, 400⟩ : Range), (⟨100, 200⟩ : Range)]]⟩ : Kiln)
theorem L04_kiln_ok (k : Nat) (r : Kiln) (h0 : L04_kiln k = some r) : PCall Tryz.prog 64 [] (fun y => y = .agg (Kiln.c r)) := by
 refine PB (fn := Tryz.f64) (sc := F64.c) ?_
 refine rS ?_
 simp only [L04_kiln] at h0
 try simp only [F64.c, go_sem]
 obtain rfl := Option.some.inj h0
 refine AKev_ret rfl ?_
 try simp only [F64.rs, go_sem]
def F63.c : SC :=
 (.seq
 (.reg [oq 0 (.alloc 27) 0 []])
 (.seq
 (.reg [oq 1 (.call ⟨.value (.func 64), #[], #[]⟩) 24 [],
 oq 2 (.build 64 #[(0, .const (.int .i64 1)), (2, .const (.int .i64 1)), (3, .const (.int .i64 1000))]) 64 [],
 oq 3 (.build 64 #[(0, .const (.int .i64 2)), (2, .const (.int .i64 2)), (3, .const (.int .i64 1101))]) 64 [],
 oq 4 (.build 64 #[(0, .const (.int .i64 3)), (1, .const (.int .i64 2)), (2, .const (.int .i64 2)), (3, .const (.int .i64 901))]) 64 [],
 oq 5 (.buildSlice 25 3 #[(0, .tmp 2), (1, .tmp 3), (2, .tmp 4)]) 25 [2, 3, 4],
 oq 6 (.build 27 #[(0, .tmp 1), (1, .tmp 5)]) 27 [1, 5],
 ⟨none, .store 27 (.tmp 0) (.tmp 6), 0, none, [6]⟩])
 .ret))
theorem F63.rs : Tryz.f63.results.toList = [.cell 0 27] := rfl
def L04_firing_o (k : Nat) : Option (Firing) :=
 (L04_kiln k).bind fun x1 =>
 some (⟨x1, [(⟨1, 0, 1, 1000, (⟨0, 0⟩ : Range)⟩ : Reading), (⟨2, 0, 2, 1101, (⟨0, 0⟩ : Range)⟩ : Reading), (⟨3, 2, 2, 901, (⟨0, 0⟩ : Range)⟩ : Reading)]⟩ : Firing)
theorem L04_firing_o_ok (k : Nat) (r : Firing) (h0 : L04_firing_o k = some r) : GCall Tryz.prog 63 [] [] (fun y fr => y = .agg [.sl 1 (List.map (eL 2 Range.c) r.Kiln.Falls), .loc 0 0 6 0 r.Readings.length r.Readings.length] ∧ fr = [(0, .arr 64 6 (List.map Reading.c r.Readings))]) := by
 refine GCall.of_body T_ok (f := 63) (fn := Tryz.f63) (sc := F63.c) (by rfl) (by rfl) (by decide +kernel) (by rfl) (by decide +kernel) (Nat.le_of_ble_eq_true rfl) (fun H => ?_)
 refine rS ?_
 simp only [L04_firing_o] at h0
 try simp only [F63.c, go_sem]
 obtain ⟨x1, yx1, h0⟩ := bs h0
 refine zc0 (L04_kiln_ok k _ yx1) ?_ (by first | rfl | simp [AV.refsL, AV.refs, AV.scal, AV.leaf]) ?_
 try simp only [go_sem]
 try simp only [go_sem]
 obtain rfl := Option.some.inj h0
 refine AKev_gown [96] (by simp) rfl rfl ?_
 try simp only [F63.rs, gwOK, tupOf, Option.bind_some, go_sem]
def F133.s0 : SC :=
 (.seq
 (.reg [b2 9 .lss 3 8 7 3 0 []])
 (.seq
 (.cond (.tmp 9)
 .skip
 (.exit 0))
 (.seq
 (.block 1
 (.seq
 (.reg [mv 10 8 3 [],
 sg 5 10 3 [10]])
 (.seq
 (.reg [mv 11 1 159 [],
 mv 12 0 79 [],
 mv 13 5 3 [],
 ia 14 79 12 13 [12, 13],
 ld 15 135 14 [14],
 oq 16 (.call ⟨.value (.tmp 11), #[.tmp 15], #[135]⟩) 4 [11, 15]])
 (.cond (.tmp 16)
 (.seq
 (.reg [mv 17 5 3 [5],
 sg 4 17 3 [17]])
 .ret)
 .skip))))
 (.reg [bn 18 .add 3 8 1 3 3 [8],
 mv 8 18 3 [18]]))))
def F133.c : SC :=
 (.seq
 (.reg [sn 4 0 3 [4]])
 (.seq
 (.seq
 (.reg [mv 6 0 79 [],
 ln 7 6 79 3 [6],
 oq 8 (.move (.const (.int .i64 0))) 3 []])
 (.block 0
 (.loop F133.s0)))
 (.seq
 (.reg [sn 4 (-1) 3 []])
 .ret)))
theorem F133.rs : Tryz.f133.results.toList = [.tmp 4] := rfl
def slices_IndexFunc_heat_limit.b0 (k : Nat) (f1 : heat_limit → Option (Bool)) (s0 : (List heat_limit)) : Int → Option (Stp (Int) (Unit) (Int)) := fun (i1 : Int) =>
 bif decide (i1 < (s0.length : Int)) then
  (at? s0 i1).bind fun x3 =>
  (f1 x3).bind fun x4 =>
  bif x4 then
   some (.ret i1)
  else
   some (.next (w64 (i1 + 1)))
 else
  some (.brk ())
noncomputable def slices_IndexFunc_heat_limit.h0 (f1_f : Nat) (f1_c : List AV) (s0 : (List heat_limit)) : Int → St := fun (i1 : Int) => ⟨[(0, .sl 3 (List.map heat_limit.c s0)), (1, .fn (.func f1_f) [] f1_c), (7, .int .i64 (s0.length : Int)), (8, .int .i64 i1)], [], [], 1, Tryz.f133.ntmps⟩
noncomputable def slices_IndexFunc_heat_limit.x0 : Unit → St := fun (_ : Unit) => ⟨[], [], [], 1, Tryz.f133.ntmps⟩
def slices_IndexFunc_heat_limit (k : Nat) (s0 : (List heat_limit)) (f1 : heat_limit → Option (Bool)) : Option (Int) :=
 (whl (slices_IndexFunc_heat_limit.b0 k f1 s0) k 0).bind fun r6 => match r6 with
 | .next _ => none
 | .ret v_ => some v_
 | .brk _ =>
  some (-1)
theorem slices_IndexFunc_heat_limit_ok (k : Nat) (s0 : (List heat_limit)) (f1_f : Nat) (f1_c : List AV) (f1_i : Ice f1_c) (f1 : heat_limit → Option (Bool)) (f1_h : ∀ q0 qr, f1 q0 = some qr → PCall Tryz.prog f1_f (.agg (heat_limit.c q0) :: f1_c) (fun y => y = .bool qr)) (r : Int) (h0 : slices_IndexFunc_heat_limit k s0 f1 = some r) : PCall Tryz.prog 133 [.sl 3 (List.map heat_limit.c s0), .fn (.func f1_f) [] f1_c] (fun y => y = .int .i64 r) := by
 refine PB (fn := Tryz.f133) (sc := F133.c) ?_
 refine rS ?_
 simp only [slices_IndexFunc_heat_limit] at h0
 try simp only [F133.c, f1_i.sh, f1_i.frz, f1_i.br, f1_i.refs, f1_i.imp, f1_i.ren, f1_i.un, go_sem]
 obtain ⟨r6, yr6, h0⟩ := bs h0
 refine AKev_loopS yr6 (slices_IndexFunc_heat_limit.h0 f1_f f1_c s0) (slices_IndexFunc_heat_limit.x0) ?_ ?_ ?_
 refine Weak.go [0, 1, 7, 8] [] rfl ?_
 try simp only [slices_IndexFunc_heat_limit.h0, f1_i.sh, f1_i.frz, f1_i.br, f1_i.refs, f1_i.imp, f1_i.ren, f1_i.un, go_sem]
 rintro i1 x_1 Bk1 Br1 h1 hnext1 hbrk1 hret1
 refine rS ?_
 simp only [slices_IndexFunc_heat_limit.b0] at h1
 try simp only [F133.s0, slices_IndexFunc_heat_limit.h0, f1_i.sh, f1_i.frz, f1_i.br, f1_i.refs, f1_i.imp, f1_i.ren, f1_i.un, go_sem]
 refine AKev_bif h1 ?_ ?_ <;> intro c2 h1
 try simp only [c2, f1_i.sh, f1_i.frz, f1_i.br, f1_i.refs, f1_i.imp, f1_i.ren, f1_i.un, go_sem]
 obtain ⟨x3, yx3, h1⟩ := bs h1
 try simp only [aa yx3, f1_i.sh, f1_i.frz, f1_i.br, f1_i.refs, f1_i.imp, f1_i.ren, f1_i.un, c2, go_sem]
 obtain ⟨x4, yx4, h1⟩ := bs h1
 refine zc0 (f1_h _ _ yx4) ?_ (by first | rfl | simp [AV.refsL, AV.refs, AV.scal, AV.leaf, f1_i.refs]) ?_
 try simp only [f1_i.sh, f1_i.frz, f1_i.br, f1_i.refs, f1_i.imp, f1_i.ren, f1_i.un, c2, aa yx3, go_sem]
 try simp only [f1_i.sh, f1_i.frz, f1_i.br, f1_i.refs, f1_i.imp, f1_i.ren, f1_i.un, c2, aa yx3, go_sem]
 refine AKev_bif h1 ?_ ?_ <;> intro c5 h1
 try simp only [c5, f1_i.sh, f1_i.frz, f1_i.br, f1_i.refs, f1_i.imp, f1_i.ren, f1_i.un, c2, aa yx3, go_sem]
 obtain rfl := hret1 _ (Option.some.inj h1).symm
 simp only at h0
 obtain rfl := Option.some.inj h0
 refine AKev_ret rfl ?_
 try simp only [F133.rs, f1_i.sh, f1_i.frz, f1_i.br, f1_i.refs, f1_i.imp, f1_i.ren, f1_i.un, c2, aa yx3, c5, go_sem]
 try simp only [c5, f1_i.sh, f1_i.frz, f1_i.br, f1_i.refs, f1_i.imp, f1_i.ren, f1_i.un, c2, aa yx3, go_sem]
 refine AKev_backB (hnext1 _ _ (Option.some.inj h1).symm ?_)
 refine Weak.go [0, 1, 7, 8] [] rfl ?_
 try simp only [slices_IndexFunc_heat_limit.h0, f1_i.sh, f1_i.frz, f1_i.br, f1_i.refs, f1_i.imp, f1_i.ren, f1_i.un, c2, aa yx3, c5, go_sem]
 try simp only [c2, f1_i.sh, f1_i.frz, f1_i.br, f1_i.refs, f1_i.imp, f1_i.ren, f1_i.un, go_sem]
 refine AKev_backB (hbrk1 _ _ (Option.some.inj h1).symm ?_)
 refine Weak.go [] [] rfl ?_
 try simp only [slices_IndexFunc_heat_limit.x0, f1_i.sh, f1_i.frz, f1_i.br, f1_i.refs, f1_i.imp, f1_i.ren, f1_i.un, c2, go_sem]
 rintro _ hr_
 subst hr_
 simp only at h0
 refine rS ?_
 try simp only [slices_IndexFunc_heat_limit.x0, f1_i.sh, f1_i.frz, f1_i.br, f1_i.refs, f1_i.imp, f1_i.ren, f1_i.un, go_sem]
 obtain rfl := Option.some.inj h0
 refine AKev_ret rfl ?_
 try simp only [F133.rs, f1_i.sh, f1_i.frz, f1_i.br, f1_i.refs, f1_i.imp, f1_i.ren, f1_i.un, go_sem]
def F141.c : SC :=
 (.seq
 (.reg [oq 2 (.box 135 (.tmp 0)) 0 [0],
 sb 3 false 4 [3]])
 (.seq
 (.reg [fa 4 135 2 2 [2],
 ld 5 3 4 [4],
 ld 6 3 1 [1],
 b2 7 .eql 3 5 6 3 4 [5, 6],
 sg 3 7 4 [7]])
 .ret))
theorem F141.rs : Tryz.f141.results.toList = [.tmp 3] := rfl
def heat_furnace_told_1 (k : Nat) (x0 : heat_limit) (c1 : Int) : Option (Bool) :=
 some (decide (x0.by_ = c1))
theorem heat_furnace_told_1_ok (k : Nat) (x0 : heat_limit) (c1 : Int) (r : Bool) (h0 : heat_furnace_told_1 k x0 c1 = some r) : PCall Tryz.prog 141 [.agg (heat_limit.c x0), .rptr 1 [eI c1] 0 0] (fun y => y = .bool r) := by
 refine PB (fn := Tryz.f141) (sc := F141.c) ?_
 refine rS ?_
 simp only [heat_furnace_told_1] at h0
 try simp only [F141.c, go_sem]
 obtain rfl := Option.some.inj h0
 refine AKev_ret rfl ?_
 try simp only [F141.rs, go_sem]
def F132.c : SC :=
 (.seq
 (.reg [oq 2 (.box 81 (.tmp 0)) 0 [0],
 oq 3 (.box 3 (.tmp 1)) 0 [1],
 oq 4 (.alloc 135) 0 [],
 sb 5 false 4 [5]])
 (.seq
 (.reg [fa 7 81 2 2 [],
 ld 8 79 7 [7],
 oq 9 (.makeFunc (.func 141) #[] #[.tmp 3]) 159 [3],
 cf2 10 133 8 9 79 159 3 [8, 9],
 sg 6 10 3 [10]])
 (.seq
 (.seq
 (.reg [mv 11 6 3 [],
 bn 12 .lss 3 11 0 3 4 [11]])
 (.cond (.tmp 12)
 (.seq
 (.reg [oq 13 (.build 135 #[]) 135 [],
 ⟨none, .store 135 (.tmp 4) (.tmp 13), 0, none, [13]⟩,
 sb 5 false 4 []])
 .ret)
 .skip))
 (.seq
 (.reg [fa 14 81 2 2 [2],
 ld 15 79 14 [14],
 mv 16 6 3 [6],
 ia 17 79 15 16 [15, 16],
 ld 18 135 17 [17],
 ⟨none, .store 135 (.tmp 4) (.tmp 18), 0, none, [18]⟩,
 sb 5 true 4 []])
 .ret))))
theorem F132.rs : Tryz.f132.results.toList = [.cell 4 135, .tmp 5] := rfl
def heat_furnace_told (k : Nat) (f0 : heat_furnace) (i1 : Int) : Option (heat_limit × Bool) :=
 (slices_IndexFunc_heat_limit k f0.most (fun q0 => heat_furnace_told_1 k q0 i1)).bind fun x1 =>
 bif decide (x1 < (0 : Int)) then
  some ((⟨0, 0, 0⟩ : heat_limit), false)
 else
  (at? f0.most x1).bind fun x3 =>
  some (x3, true)
theorem heat_furnace_told_ok (k : Nat) (f0 : heat_furnace) (i1 : Int) (r : heat_limit × Bool) (h0 : heat_furnace_told k f0 i1 = some r) : PCall Tryz.prog 132 [.agg (heat_furnace.c f0), .int .i64 i1] (fun y => y = .tup [.agg (heat_limit.c r.1), .bool r.2]) := by
 refine PB (fn := Tryz.f132) (sc := F132.c) ?_
 refine rS ?_
 simp only [heat_furnace_told] at h0
 try simp only [F132.c, go_sem]
 obtain ⟨x1, yx1, h0⟩ := bs h0
 refine zcL (slices_IndexFunc_heat_limit_ok k _ 141 [.rptr 1 [eI i1] 0 0] ⟨fun _ => rfl, fun _ => rfl, fun _ _ => rfl, rfl, fun _ => rfl, fun _ => rfl, fun _ => rfl⟩ (fun q0 => heat_furnace_told_1 k q0 i1) (fun q0 qr qh => heat_furnace_told_1_ok k q0 _ qr qh) _ yx1) ?_ (by first | rfl | simp [AV.refsL, AV.refs, AV.scal, AV.leaf]) ?_
 try simp only [go_sem]
 try simp only [go_sem]
 refine AKev_bif h0 ?_ ?_ <;> intro c2 h0
 try simp only [c2, go_sem]
 obtain rfl := Option.some.inj h0
 refine AKev_ret rfl ?_
 try simp only [F132.rs, c2, go_sem]
 try simp only [c2, go_sem]
 obtain ⟨x3, yx3, h0⟩ := bs h0
 try simp only [aa yx3, c2, go_sem]
 obtain rfl := Option.some.inj h0
 refine AKev_ret rfl ?_
 try simp only [F132.rs, c2, aa yx3, go_sem]
end Go.Abs
