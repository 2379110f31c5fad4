/-
  No cell of these rows narrows 'for every input' (looked for: loops, veiled, ifaces, maps, wideKeys, modest, calm, conditions, laid).
  DERIVED. THE GIVEN ROWS OF THIS SEAT. 5 by the template 'for every input the law returns true; each argument reads behind the call as it read before'; 0 by the template 'total and deterministic' (their statements: YtafmgcbfmifaeaaGreatTotals.lean).
  GIVEN WITH THE SEED: the statements are not yours to turn. If you find one false, say at which input.
  Laid BY PROGRAM, IN A SANDBOX (cutbox-rows.mjs): the forced cells as the released guide's own fill.sh prints them over the translation 52144604ca79789a… (all of the seat's roots in one cut). By AI agents, Wed Nov 11 2026. No macro, syntax, notation, axiom, sorry.
-/
import Derived.Test.YtafmgcbfmifaeaaGreatChecked
import GoSem.Claim
import GoSem.ClaimJoined
import GoSem.ClaimMapViews
import Derived.JoinedTies
import Derived.KernelRfl
namespace Go.Proofs.YtafmgcbfmifaeaaGreat
/- THE CELL 'sum', in the pinned program and in every row, IS THE sha256 OF THE DUMP (.gsa) THAT YtafmgcbfmifaeaaGreatProg.lean LOADS. Nothing in Lean hashes anything: it is a label: what it is worth is what the hold of that sum in a sandbox is worth. -/
noncomputable def Tryz.pinned : Pinned := { name := "ytafmgcbfmifaeaagreat", sum := "52144604ca79789abdd09a0a5ed48602824341d362a3fd96c157353694f62554", checked := Tryz.checked }
namespace Rows
def none {H : Type} : Left H := { results := [], args := [] }

/-- 'potbanklaw04.HeatWants': WHATEVER THE INPUT: true; the input reads as it did. -/
def heatWantsSpec : ChangeSpec := { name := "heatWants", fn := fun _ => fun
  | [d1, d2, d3] => { results := [.lit (.bool true)], args := [d1, d2, d3] }
  | _ => none }
def heatWantsRow : OpenClaim := { program := "ytafmgcbfmifaeaagreat", sum := "52144604ca79789abdd09a0a5ed48602824341d362a3fd96c157353694f62554", func := "potbank/potbanklaw04.HeatWants", spec := "heatWants", unfollowed := true, recurses := true, apart := false }
def HeatWantsSaid : Prop := heatWantsRow.holds Tryz.pinned (OpenSpec.ofChange heatWantsSpec)

/-- ITS FALSE NEIGHBOUR: 'it returns false'. Refute it at one input. -/
def heatWantsWrong : ChangeSpec := { name := "heatWants", fn := fun _ => fun
  | [d1, d2, d3] => { results := [.lit (.bool false)], args := [d1, d2, d3] }
  | _ => none }
def HeatWantsWrongFalsely : Prop := heatWantsRow.holds Tryz.pinned (OpenSpec.ofChange heatWantsWrong)

/-- 'potbanklaw04.HeatConflicts': WHATEVER THE INPUT: true; the input reads as it did. -/
def heatConflictsSpec : ChangeSpec := { name := "heatConflicts", fn := fun _ => fun
  | [d1, d2] => { results := [.lit (.bool true)], args := [d1, d2] }
  | _ => none }
def heatConflictsRow : OpenClaim := { program := "ytafmgcbfmifaeaagreat", sum := "52144604ca79789abdd09a0a5ed48602824341d362a3fd96c157353694f62554", func := "potbank/potbanklaw04.HeatConflicts", spec := "heatConflicts", unfollowed := true, recurses := true, apart := false }
def HeatConflictsSaid : Prop := heatConflictsRow.holds Tryz.pinned (OpenSpec.ofChange heatConflictsSpec)

/-- ITS FALSE NEIGHBOUR: 'it returns false'. Refute it at one input. -/
def heatConflictsWrong : ChangeSpec := { name := "heatConflicts", fn := fun _ => fun
  | [d1, d2] => { results := [.lit (.bool false)], args := [d1, d2] }
  | _ => none }
def HeatConflictsWrongFalsely : Prop := heatConflictsRow.holds Tryz.pinned (OpenSpec.ofChange heatConflictsWrong)

/-- 'potbanklaw04.HeatBounds': WHATEVER THE INPUT: true; the input reads as it did. -/
def heatBoundsSpec : ChangeSpec := { name := "heatBounds", fn := fun _ => fun
  | [d1, d2, d3] => { results := [.lit (.bool true)], args := [d1, d2, d3] }
  | _ => none }
def heatBoundsRow : OpenClaim := { program := "ytafmgcbfmifaeaagreat", sum := "52144604ca79789abdd09a0a5ed48602824341d362a3fd96c157353694f62554", func := "potbank/potbanklaw04.HeatBounds", spec := "heatBounds", unfollowed := true, recurses := true, apart := false }
def HeatBoundsSaid : Prop := heatBoundsRow.holds Tryz.pinned (OpenSpec.ofChange heatBoundsSpec)

/-- ITS FALSE NEIGHBOUR: 'it returns false'. Refute it at one input. -/
def heatBoundsWrong : ChangeSpec := { name := "heatBounds", fn := fun _ => fun
  | [d1, d2, d3] => { results := [.lit (.bool false)], args := [d1, d2, d3] }
  | _ => none }
def HeatBoundsWrongFalsely : Prop := heatBoundsRow.holds Tryz.pinned (OpenSpec.ofChange heatBoundsWrong)

/-- 'potbanklaw04.HeatChecks': WHATEVER THE INPUT: true; the input reads as it did. -/
def heatChecksSpec : ChangeSpec := { name := "heatChecks", fn := fun _ => fun
  | [d1, d2, d3] => { results := [.lit (.bool true)], args := [d1, d2, d3] }
  | _ => none }
def heatChecksRow : OpenClaim := { program := "ytafmgcbfmifaeaagreat", sum := "52144604ca79789abdd09a0a5ed48602824341d362a3fd96c157353694f62554", func := "potbank/potbanklaw04.HeatChecks", spec := "heatChecks", unfollowed := true, recurses := true, apart := false }
def HeatChecksSaid : Prop := heatChecksRow.holds Tryz.pinned (OpenSpec.ofChange heatChecksSpec)

/-- ITS FALSE NEIGHBOUR: 'it returns false'. Refute it at one input. -/
def heatChecksWrong : ChangeSpec := { name := "heatChecks", fn := fun _ => fun
  | [d1, d2, d3] => { results := [.lit (.bool false)], args := [d1, d2, d3] }
  | _ => none }
def HeatChecksWrongFalsely : Prop := heatChecksRow.holds Tryz.pinned (OpenSpec.ofChange heatChecksWrong)

/-- 'potbanklaw04.HeatFields': WHATEVER THE INPUT: true; the input reads as it did. -/
def heatFieldsSpec : ChangeSpec := { name := "heatFields", fn := fun _ => fun
  | [d1, d2] => { results := [.lit (.bool true)], args := [d1, d2] }
  | _ => none }
def heatFieldsRow : OpenClaim := { program := "ytafmgcbfmifaeaagreat", sum := "52144604ca79789abdd09a0a5ed48602824341d362a3fd96c157353694f62554", func := "potbank/potbanklaw04.HeatFields", spec := "heatFields", unfollowed := true, recurses := true, apart := false }
def HeatFieldsSaid : Prop := heatFieldsRow.holds Tryz.pinned (OpenSpec.ofChange heatFieldsSpec)

/-- ITS FALSE NEIGHBOUR: 'it returns false'. Refute it at one input. -/
def heatFieldsWrong : ChangeSpec := { name := "heatFields", fn := fun _ => fun
  | [d1, d2] => { results := [.lit (.bool false)], args := [d1, d2] }
  | _ => none }
def HeatFieldsWrongFalsely : Prop := heatFieldsRow.holds Tryz.pinned (OpenSpec.ofChange heatFieldsWrong)

/- THE SECOND FORM. 'bulk': how many values and letters a reading holds, each counted each time it is reached (what is shared counts as often as it is met; a slice's spare places count too). A statement '..UptoSaid' is the law's where the arguments, and the package variables that the reading takes, are together of bulk at most 1048576: NARROWER than '..Said'. Prove '..Said' where nothing that the law and all that it calls make is longer than what came in: it says more and counts as full. Else prove '..UptoSaid'. A law counts once. -/
mutual
def uptoBulk {H : Type} : DataW H → Nat
  | .lit (.string bytes) => bytes.length + 1
  | .lit _ => 1
  | .nil => 1
  | .ptr d => uptoBulk d + 1
  | .slice elems spare => uptoBulkAll elems + uptoBulkAll spare + 1
  | .agg parts => uptoBulkAll parts + 1
  | .iface _ d => uptoBulk d + 1
  | .map entries => uptoBulkEntries entries + 1
  | .held _ => 1
def uptoBulkAll {H : Type} : List (DataW H) → Nat
  | [] => 0
  | d :: r => uptoBulk d + uptoBulkAll r
def uptoBulkEntries {H : Type} : List (Lit × DataW H) → Nat
  | [] => 0
  | x :: r => uptoBulkEntry x + uptoBulkEntries r
def uptoBulkEntry {H : Type} : Lit × DataW H → Nat
  | (.string bytes, d) => bytes.length + uptoBulk d + 1
  | (_, d) => uptoBulk d + 1
 end
def uptoSmall : (H : Type) → List (DataW H) → Bool := fun _ ds => decide (uptoBulkAll ds ≤ 1048576)
def OpenSpec.upto (s : _root_.Go.ChangeSpec) : _root_.Go.OpenSpec := { _root_.Go.OpenSpec.ofChange s with cond := some uptoSmall }

/-- 'potbanklaw04.HeatWants', WHERE WHAT IT READS IS OF BULK AT MOST 1048576: true; the input reads as it did. -/
def heatWantsUptoRow : OpenClaim := { program := "ytafmgcbfmifaeaagreat", sum := "52144604ca79789abdd09a0a5ed48602824341d362a3fd96c157353694f62554", func := "potbank/potbanklaw04.HeatWants", spec := "heatWants", unfollowed := true, recurses := true, apart := false, narrowed := true }
def HeatWantsUptoSaid : Prop := heatWantsUptoRow.holds Tryz.pinned (OpenSpec.upto heatWantsSpec)

/-- 'potbanklaw04.HeatConflicts', WHERE WHAT IT READS IS OF BULK AT MOST 1048576: true; the input reads as it did. -/
def heatConflictsUptoRow : OpenClaim := { program := "ytafmgcbfmifaeaagreat", sum := "52144604ca79789abdd09a0a5ed48602824341d362a3fd96c157353694f62554", func := "potbank/potbanklaw04.HeatConflicts", spec := "heatConflicts", unfollowed := true, recurses := true, apart := false, narrowed := true }
def HeatConflictsUptoSaid : Prop := heatConflictsUptoRow.holds Tryz.pinned (OpenSpec.upto heatConflictsSpec)

/-- 'potbanklaw04.HeatBounds', WHERE WHAT IT READS IS OF BULK AT MOST 1048576: true; the input reads as it did. -/
def heatBoundsUptoRow : OpenClaim := { program := "ytafmgcbfmifaeaagreat", sum := "52144604ca79789abdd09a0a5ed48602824341d362a3fd96c157353694f62554", func := "potbank/potbanklaw04.HeatBounds", spec := "heatBounds", unfollowed := true, recurses := true, apart := false, narrowed := true }
def HeatBoundsUptoSaid : Prop := heatBoundsUptoRow.holds Tryz.pinned (OpenSpec.upto heatBoundsSpec)

/-- 'potbanklaw04.HeatChecks', WHERE WHAT IT READS IS OF BULK AT MOST 1048576: true; the input reads as it did. -/
def heatChecksUptoRow : OpenClaim := { program := "ytafmgcbfmifaeaagreat", sum := "52144604ca79789abdd09a0a5ed48602824341d362a3fd96c157353694f62554", func := "potbank/potbanklaw04.HeatChecks", spec := "heatChecks", unfollowed := true, recurses := true, apart := false, narrowed := true }
def HeatChecksUptoSaid : Prop := heatChecksUptoRow.holds Tryz.pinned (OpenSpec.upto heatChecksSpec)

/-- 'potbanklaw04.HeatFields', WHERE WHAT IT READS IS OF BULK AT MOST 1048576: true; the input reads as it did. -/
def heatFieldsUptoRow : OpenClaim := { program := "ytafmgcbfmifaeaagreat", sum := "52144604ca79789abdd09a0a5ed48602824341d362a3fd96c157353694f62554", func := "potbank/potbanklaw04.HeatFields", spec := "heatFields", unfollowed := true, recurses := true, apart := false, narrowed := true }
def HeatFieldsUptoSaid : Prop := heatFieldsUptoRow.holds Tryz.pinned (OpenSpec.upto heatFieldsSpec)

end Rows
end Go.Proofs.YtafmgcbfmifaeaaGreat
