/-
  No cell of these rows narrows 'for every input' (looked for: loops, veiled, ifaces, maps, wideKeys, modest, calm, conditions, laid).
  DERIVED. THE GIVEN ROWS OF THIS SEAT. 7 by the template 'for every input the law returns true; each argument reads behind the call as it read before'; 0 by the template 'total and deterministic' (their statements: YtafmgcbfmifaeaaTotals.lean).
  GIVEN WITH THE SEED: the statements are not yours to turn. If you find one false, say at which input.
  Laid BY PROGRAM, IN A SANDBOX (cutbox-rows.mjs): the forced cells as the released guide's own fill.sh prints them over the translation d3edba9085e3433b… (all of the seat's roots in one cut). By AI agents, Wed Nov 11 2026. No macro, syntax, notation, axiom, sorry.
-/
import Derived.Test.YtafmgcbfmifaeaaChecked
import GoSem.Claim
import GoSem.ClaimJoined
import GoSem.ClaimMapViews
import Derived.JoinedTies
import Derived.KernelRfl
namespace Go.Proofs.Ytafmgcbfmifaeaa
/- THE CELL 'sum', in the pinned program and in every row, IS THE sha256 OF THE DUMP (.gsa) THAT YtafmgcbfmifaeaaProg.lean LOADS. Nothing in Lean hashes anything: it is a label: what it is worth is what the hold of that sum in a sandbox is worth. -/
noncomputable def Try.pinned : Pinned := { name := "ytafmgcbfmifaeaa", sum := "d3edba9085e3433b89ba767801b738186d1f296241741851803425b729860f23", checked := Try.checked }
namespace Rows
def none {H : Type} : Left H := { results := [], args := [] }

/-- 'potbanklaw04.HeatHotter': WHATEVER THE INPUT: true; the input reads as it did. -/
def heatHotterSpec : ChangeSpec := { name := "heatHotter", fn := fun _ => fun
  | [d1, d2] => { results := [.lit (.bool true)], args := [d1, d2] }
  | _ => none }
def heatHotterRow : OpenClaim := { program := "ytafmgcbfmifaeaa", sum := "d3edba9085e3433b89ba767801b738186d1f296241741851803425b729860f23", func := "potbank/potbanklaw04.HeatHotter", spec := "heatHotter", unfollowed := true, recurses := true, apart := false }
def HeatHotterSaid : Prop := heatHotterRow.holds Try.pinned (OpenSpec.ofChange heatHotterSpec)

/-- ITS FALSE NEIGHBOUR: 'it returns false'. Refute it at one input. -/
def heatHotterWrong : ChangeSpec := { name := "heatHotter", fn := fun _ => fun
  | [d1, d2] => { results := [.lit (.bool false)], args := [d1, d2] }
  | _ => none }
def HeatHotterWrongFalsely : Prop := heatHotterRow.holds Try.pinned (OpenSpec.ofChange heatHotterWrong)

/-- 'potbanklaw04.HeatProofs': WHATEVER THE INPUT: true; the input reads as it did. -/
def heatProofsSpec : ChangeSpec := { name := "heatProofs", fn := fun _ => fun
  | [d1, d2, d3] => { results := [.lit (.bool true)], args := [d1, d2, d3] }
  | _ => none }
def heatProofsRow : OpenClaim := { program := "ytafmgcbfmifaeaa", sum := "d3edba9085e3433b89ba767801b738186d1f296241741851803425b729860f23", func := "potbank/potbanklaw04.HeatProofs", spec := "heatProofs", unfollowed := true, recurses := true, apart := false }
def HeatProofsSaid : Prop := heatProofsRow.holds Try.pinned (OpenSpec.ofChange heatProofsSpec)

/-- ITS FALSE NEIGHBOUR: 'it returns false'. Refute it at one input. -/
def heatProofsWrong : ChangeSpec := { name := "heatProofs", fn := fun _ => fun
  | [d1, d2, d3] => { results := [.lit (.bool false)], args := [d1, d2, d3] }
  | _ => none }
def HeatProofsWrongFalsely : Prop := heatProofsRow.holds Try.pinned (OpenSpec.ofChange heatProofsWrong)

/-- 'potbanklaw04.HeatClashes': WHATEVER THE INPUT: true; the input reads as it did. -/
def heatClashesSpec : ChangeSpec := { name := "heatClashes", fn := fun _ => fun
  | [d1, d2] => { results := [.lit (.bool true)], args := [d1, d2] }
  | _ => none }
def heatClashesRow : OpenClaim := { program := "ytafmgcbfmifaeaa", sum := "d3edba9085e3433b89ba767801b738186d1f296241741851803425b729860f23", func := "potbank/potbanklaw04.HeatClashes", spec := "heatClashes", unfollowed := true, recurses := true, apart := false }
def HeatClashesSaid : Prop := heatClashesRow.holds Try.pinned (OpenSpec.ofChange heatClashesSpec)

/-- ITS FALSE NEIGHBOUR: 'it returns false'. Refute it at one input. -/
def heatClashesWrong : ChangeSpec := { name := "heatClashes", fn := fun _ => fun
  | [d1, d2] => { results := [.lit (.bool false)], args := [d1, d2] }
  | _ => none }
def HeatClashesWrongFalsely : Prop := heatClashesRow.holds Try.pinned (OpenSpec.ofChange heatClashesWrong)

/-- 'potbanklaw04.HeatNarrows': WHATEVER THE INPUT: true; the input reads as it did. -/
def heatNarrowsSpec : ChangeSpec := { name := "heatNarrows", fn := fun _ => fun
  | [d1, d2] => { results := [.lit (.bool true)], args := [d1, d2] }
  | _ => none }
def heatNarrowsRow : OpenClaim := { program := "ytafmgcbfmifaeaa", sum := "d3edba9085e3433b89ba767801b738186d1f296241741851803425b729860f23", func := "potbank/potbanklaw04.HeatNarrows", spec := "heatNarrows", unfollowed := true, recurses := true, apart := false }
def HeatNarrowsSaid : Prop := heatNarrowsRow.holds Try.pinned (OpenSpec.ofChange heatNarrowsSpec)

/-- ITS FALSE NEIGHBOUR: 'it returns false'. Refute it at one input. -/
def heatNarrowsWrong : ChangeSpec := { name := "heatNarrows", fn := fun _ => fun
  | [d1, d2] => { results := [.lit (.bool false)], args := [d1, d2] }
  | _ => none }
def HeatNarrowsWrongFalsely : Prop := heatNarrowsRow.holds Try.pinned (OpenSpec.ofChange heatNarrowsWrong)

/-- 'potbanklaw04.HeatTrue': WHATEVER THE INPUT: true; the input reads as it did. -/
def heatTrueSpec : ChangeSpec := { name := "heatTrue", fn := fun _ => fun
  | [d1, d2] => { results := [.lit (.bool true)], args := [d1, d2] }
  | _ => none }
def heatTrueRow : OpenClaim := { program := "ytafmgcbfmifaeaa", sum := "d3edba9085e3433b89ba767801b738186d1f296241741851803425b729860f23", func := "potbank/potbanklaw04.HeatTrue", spec := "heatTrue", unfollowed := true, recurses := true, apart := false }
def HeatTrueSaid : Prop := heatTrueRow.holds Try.pinned (OpenSpec.ofChange heatTrueSpec)

/-- ITS FALSE NEIGHBOUR: 'it returns false'. Refute it at one input. -/
def heatTrueWrong : ChangeSpec := { name := "heatTrue", fn := fun _ => fun
  | [d1, d2] => { results := [.lit (.bool false)], args := [d1, d2] }
  | _ => none }
def HeatTrueWrongFalsely : Prop := heatTrueRow.holds Try.pinned (OpenSpec.ofChange heatTrueWrong)

/-- 'potbanklaw04.HeatTogether': WHATEVER THE INPUT: true; the input reads as it did. -/
def heatTogetherSpec : ChangeSpec := { name := "heatTogether", fn := fun _ => fun
  | [d1, d2] => { results := [.lit (.bool true)], args := [d1, d2] }
  | _ => none }
def heatTogetherRow : OpenClaim := { program := "ytafmgcbfmifaeaa", sum := "d3edba9085e3433b89ba767801b738186d1f296241741851803425b729860f23", func := "potbank/potbanklaw04.HeatTogether", spec := "heatTogether", unfollowed := true, recurses := true, apart := false }
def HeatTogetherSaid : Prop := heatTogetherRow.holds Try.pinned (OpenSpec.ofChange heatTogetherSpec)

/-- ITS FALSE NEIGHBOUR: 'it returns false'. Refute it at one input. -/
def heatTogetherWrong : ChangeSpec := { name := "heatTogether", fn := fun _ => fun
  | [d1, d2] => { results := [.lit (.bool false)], args := [d1, d2] }
  | _ => none }
def HeatTogetherWrongFalsely : Prop := heatTogetherRow.holds Try.pinned (OpenSpec.ofChange heatTogetherWrong)

/-- 'potbanklaw04.HeatShown': WHATEVER THE INPUT: true; the input reads as it did. -/
def heatShownSpec : ChangeSpec := { name := "heatShown", fn := fun _ => fun
  | [d1, d2, d3] => { results := [.lit (.bool true)], args := [d1, d2, d3] }
  | _ => none }
def heatShownRow : OpenClaim := { program := "ytafmgcbfmifaeaa", sum := "d3edba9085e3433b89ba767801b738186d1f296241741851803425b729860f23", func := "potbank/potbanklaw04.HeatShown", spec := "heatShown", unfollowed := true, recurses := true, apart := false }
def HeatShownSaid : Prop := heatShownRow.holds Try.pinned (OpenSpec.ofChange heatShownSpec)

/-- ITS FALSE NEIGHBOUR: 'it returns false'. Refute it at one input. -/
def heatShownWrong : ChangeSpec := { name := "heatShown", fn := fun _ => fun
  | [d1, d2, d3] => { results := [.lit (.bool false)], args := [d1, d2, d3] }
  | _ => none }
def HeatShownWrongFalsely : Prop := heatShownRow.holds Try.pinned (OpenSpec.ofChange heatShownWrong)

/- THE SECOND FORM. 'bulk': how many values and letters a reading holds, each counted each time it is reached (what is shared counts as often as it is met; a slice's spare places count too). A statement '..UptoSaid' is the law's where the arguments, and the package variables that the reading takes, are together of bulk at most 1048576: NARROWER than '..Said'. Prove '..Said' where nothing that the law and all that it calls make is longer than what came in: it says more and counts as full. Else prove '..UptoSaid'. A law counts once. -/
mutual
def uptoBulk {H : Type} : DataW H → Nat
  | .lit (.string bytes) => bytes.length + 1
  | .lit _ => 1
  | .nil => 1
  | .ptr d => uptoBulk d + 1
  | .slice elems spare => uptoBulkAll elems + uptoBulkAll spare + 1
  | .agg parts => uptoBulkAll parts + 1
  | .iface _ d => uptoBulk d + 1
  | .map entries => uptoBulkEntries entries + 1
  | .held _ => 1
def uptoBulkAll {H : Type} : List (DataW H) → Nat
  | [] => 0
  | d :: r => uptoBulk d + uptoBulkAll r
def uptoBulkEntries {H : Type} : List (Lit × DataW H) → Nat
  | [] => 0
  | x :: r => uptoBulkEntry x + uptoBulkEntries r
def uptoBulkEntry {H : Type} : Lit × DataW H → Nat
  | (.string bytes, d) => bytes.length + uptoBulk d + 1
  | (_, d) => uptoBulk d + 1
 end
def uptoSmall : (H : Type) → List (DataW H) → Bool := fun _ ds => decide (uptoBulkAll ds ≤ 1048576)
def OpenSpec.upto (s : _root_.Go.ChangeSpec) : _root_.Go.OpenSpec := { _root_.Go.OpenSpec.ofChange s with cond := some uptoSmall }

/-- 'potbanklaw04.HeatHotter', WHERE WHAT IT READS IS OF BULK AT MOST 1048576: true; the input reads as it did. -/
def heatHotterUptoRow : OpenClaim := { program := "ytafmgcbfmifaeaa", sum := "d3edba9085e3433b89ba767801b738186d1f296241741851803425b729860f23", func := "potbank/potbanklaw04.HeatHotter", spec := "heatHotter", unfollowed := true, recurses := true, apart := false, narrowed := true }
def HeatHotterUptoSaid : Prop := heatHotterUptoRow.holds Try.pinned (OpenSpec.upto heatHotterSpec)

/-- 'potbanklaw04.HeatProofs', WHERE WHAT IT READS IS OF BULK AT MOST 1048576: true; the input reads as it did. -/
def heatProofsUptoRow : OpenClaim := { program := "ytafmgcbfmifaeaa", sum := "d3edba9085e3433b89ba767801b738186d1f296241741851803425b729860f23", func := "potbank/potbanklaw04.HeatProofs", spec := "heatProofs", unfollowed := true, recurses := true, apart := false, narrowed := true }
def HeatProofsUptoSaid : Prop := heatProofsUptoRow.holds Try.pinned (OpenSpec.upto heatProofsSpec)

/-- 'potbanklaw04.HeatClashes', WHERE WHAT IT READS IS OF BULK AT MOST 1048576: true; the input reads as it did. -/
def heatClashesUptoRow : OpenClaim := { program := "ytafmgcbfmifaeaa", sum := "d3edba9085e3433b89ba767801b738186d1f296241741851803425b729860f23", func := "potbank/potbanklaw04.HeatClashes", spec := "heatClashes", unfollowed := true, recurses := true, apart := false, narrowed := true }
def HeatClashesUptoSaid : Prop := heatClashesUptoRow.holds Try.pinned (OpenSpec.upto heatClashesSpec)

/-- 'potbanklaw04.HeatNarrows', WHERE WHAT IT READS IS OF BULK AT MOST 1048576: true; the input reads as it did. -/
def heatNarrowsUptoRow : OpenClaim := { program := "ytafmgcbfmifaeaa", sum := "d3edba9085e3433b89ba767801b738186d1f296241741851803425b729860f23", func := "potbank/potbanklaw04.HeatNarrows", spec := "heatNarrows", unfollowed := true, recurses := true, apart := false, narrowed := true }
def HeatNarrowsUptoSaid : Prop := heatNarrowsUptoRow.holds Try.pinned (OpenSpec.upto heatNarrowsSpec)

/-- 'potbanklaw04.HeatTrue', WHERE WHAT IT READS IS OF BULK AT MOST 1048576: true; the input reads as it did. -/
def heatTrueUptoRow : OpenClaim := { program := "ytafmgcbfmifaeaa", sum := "d3edba9085e3433b89ba767801b738186d1f296241741851803425b729860f23", func := "potbank/potbanklaw04.HeatTrue", spec := "heatTrue", unfollowed := true, recurses := true, apart := false, narrowed := true }
def HeatTrueUptoSaid : Prop := heatTrueUptoRow.holds Try.pinned (OpenSpec.upto heatTrueSpec)

/-- 'potbanklaw04.HeatTogether', WHERE WHAT IT READS IS OF BULK AT MOST 1048576: true; the input reads as it did. -/
def heatTogetherUptoRow : OpenClaim := { program := "ytafmgcbfmifaeaa", sum := "d3edba9085e3433b89ba767801b738186d1f296241741851803425b729860f23", func := "potbank/potbanklaw04.HeatTogether", spec := "heatTogether", unfollowed := true, recurses := true, apart := false, narrowed := true }
def HeatTogetherUptoSaid : Prop := heatTogetherUptoRow.holds Try.pinned (OpenSpec.upto heatTogetherSpec)

/-- 'potbanklaw04.HeatShown', WHERE WHAT IT READS IS OF BULK AT MOST 1048576: true; the input reads as it did. -/
def heatShownUptoRow : OpenClaim := { program := "ytafmgcbfmifaeaa", sum := "d3edba9085e3433b89ba767801b738186d1f296241741851803425b729860f23", func := "potbank/potbanklaw04.HeatShown", spec := "heatShown", unfollowed := true, recurses := true, apart := false, narrowed := true }
def HeatShownUptoSaid : Prop := heatShownUptoRow.holds Try.pinned (OpenSpec.upto heatShownSpec)

end Rows
end Go.Proofs.Ytafmgcbfmifaeaa
