/-
  No cell of these rows narrows 'for every input' (looked for: loops, veiled, ifaces, maps, wideKeys, modest, calm, conditions, laid).
  DERIVED. THE GIVEN ROWS OF THIS SEAT. 11 by the template 'for every input the law returns true; each argument reads behind the call as it read before'; 0 by the template 'total and deterministic' (their statements: YtpgccpdlilnakaaTotals.lean).
  GIVEN WITH THE SEED: the statements are not yours to turn. If you find one false, say at which input.
  Laid BY PROGRAM, IN A SANDBOX (cutbox-rows.mjs): the forced cells as the released guide's own fill.sh prints them over the translation e823707f5db2fe58… (all of the seat's roots in one cut). By AI agents, Wed Nov 11 2026. No macro, syntax, notation, axiom, sorry.
-/
import Derived.Test.YtpgccpdlilnakaaChecked
import GoSem.Claim
import GoSem.ClaimJoined
import GoSem.ClaimMapViews
import Derived.JoinedTies
import Derived.KernelRfl
namespace Go.Proofs.Ytpgccpdlilnakaa
/- THE CELL 'sum', in the pinned program and in every row, IS THE sha256 OF THE DUMP (.gsa) THAT YtpgccpdlilnakaaProg.lean LOADS. Nothing in Lean hashes anything: it is a label: what it is worth is what the hold of that sum in a sandbox is worth. -/
noncomputable def Try.pinned : Pinned := { name := "ytpgccpdlilnakaa", sum := "e823707f5db2fe58ae9bb093781b910a88133214ecfabf476a90b0579bfc642a", checked := Try.checked }
namespace Rows
def none {H : Type} : Left H := { results := [], args := [] }

/-- 'potbanklaw09.BookHalves': WHATEVER THE INPUT: true; the input reads as it did. -/
def bookHalvesSpec : ChangeSpec := { name := "bookHalves", fn := fun _ => fun
  | [d1, d2, d3] => { results := [.lit (.bool true)], args := [d1, d2, d3] }
  | _ => none }
def bookHalvesRow : OpenClaim := { program := "ytpgccpdlilnakaa", sum := "e823707f5db2fe58ae9bb093781b910a88133214ecfabf476a90b0579bfc642a", func := "potbank/potbanklaw09.BookHalves", spec := "bookHalves", inPlace := ["slices.overlaps[potbank/api.Record]"], unfollowed := true, recurses := true, plainKeys := false, apart := false }
def BookHalvesSaid : Prop := bookHalvesRow.holds Try.pinned (OpenSpec.ofChange bookHalvesSpec)

/-- ITS FALSE NEIGHBOUR: 'it returns false'. Refute it at one input. -/
def bookHalvesWrong : ChangeSpec := { name := "bookHalves", fn := fun _ => fun
  | [d1, d2, d3] => { results := [.lit (.bool false)], args := [d1, d2, d3] }
  | _ => none }
def BookHalvesWrongFalsely : Prop := bookHalvesRow.holds Try.pinned (OpenSpec.ofChange bookHalvesWrong)

/-- 'potbanklaw09.BookAppends': WHATEVER THE INPUT: true; the input reads as it did. -/
def bookAppendsSpec : ChangeSpec := { name := "bookAppends", fn := fun _ => fun
  | [d1, d2] => { results := [.lit (.bool true)], args := [d1, d2] }
  | _ => none }
def bookAppendsRow : OpenClaim := { program := "ytpgccpdlilnakaa", sum := "e823707f5db2fe58ae9bb093781b910a88133214ecfabf476a90b0579bfc642a", func := "potbank/potbanklaw09.BookAppends", spec := "bookAppends", inPlace := ["slices.overlaps[potbank/api.Record]"], unfollowed := true, recurses := true, plainKeys := false, apart := false }
def BookAppendsSaid : Prop := bookAppendsRow.holds Try.pinned (OpenSpec.ofChange bookAppendsSpec)

/-- ITS FALSE NEIGHBOUR: 'it returns false'. Refute it at one input. -/
def bookAppendsWrong : ChangeSpec := { name := "bookAppends", fn := fun _ => fun
  | [d1, d2] => { results := [.lit (.bool false)], args := [d1, d2] }
  | _ => none }
def BookAppendsWrongFalsely : Prop := bookAppendsRow.holds Try.pinned (OpenSpec.ofChange bookAppendsWrong)

/-- 'potbanklaw09.BookRecords': WHATEVER THE INPUT: true; the input reads as it did. -/
def bookRecordsSpec : ChangeSpec := { name := "bookRecords", fn := fun _ => fun
  | [d1, d2] => { results := [.lit (.bool true)], args := [d1, d2] }
  | _ => none }
def bookRecordsRow : OpenClaim := { program := "ytpgccpdlilnakaa", sum := "e823707f5db2fe58ae9bb093781b910a88133214ecfabf476a90b0579bfc642a", func := "potbank/potbanklaw09.BookRecords", spec := "bookRecords", inPlace := ["slices.overlaps[potbank/api.Record]"], unfollowed := true, recurses := true, plainKeys := false, apart := false }
def BookRecordsSaid : Prop := bookRecordsRow.holds Try.pinned (OpenSpec.ofChange bookRecordsSpec)

/-- ITS FALSE NEIGHBOUR: 'it returns false'. Refute it at one input. -/
def bookRecordsWrong : ChangeSpec := { name := "bookRecords", fn := fun _ => fun
  | [d1, d2] => { results := [.lit (.bool false)], args := [d1, d2] }
  | _ => none }
def BookRecordsWrongFalsely : Prop := bookRecordsRow.holds Try.pinned (OpenSpec.ofChange bookRecordsWrong)

/-- 'potbanklaw09.BookDisks': WHATEVER THE INPUT: true; the input reads as it did. -/
def bookDisksSpec : ChangeSpec := { name := "bookDisks", fn := fun _ => fun
  | [d1, d2] => { results := [.lit (.bool true)], args := [d1, d2] }
  | _ => none }
def bookDisksRow : OpenClaim := { program := "ytpgccpdlilnakaa", sum := "e823707f5db2fe58ae9bb093781b910a88133214ecfabf476a90b0579bfc642a", func := "potbank/potbanklaw09.BookDisks", spec := "bookDisks", inPlace := ["slices.overlaps[potbank/api.Record]"], unfollowed := true, recurses := true, plainKeys := false, apart := false }
def BookDisksSaid : Prop := bookDisksRow.holds Try.pinned (OpenSpec.ofChange bookDisksSpec)

/-- ITS FALSE NEIGHBOUR: 'it returns false'. Refute it at one input. -/
def bookDisksWrong : ChangeSpec := { name := "bookDisks", fn := fun _ => fun
  | [d1, d2] => { results := [.lit (.bool false)], args := [d1, d2] }
  | _ => none }
def BookDisksWrongFalsely : Prop := bookDisksRow.holds Try.pinned (OpenSpec.ofChange bookDisksWrong)

/-- 'potbanklaw09.BookBytes': WHATEVER THE INPUT: true; the input reads as it did. -/
def bookBytesSpec : ChangeSpec := { name := "bookBytes", fn := fun _ => fun
  | [d1, d2] => { results := [.lit (.bool true)], args := [d1, d2] }
  | _ => none }
def bookBytesRow : OpenClaim := { program := "ytpgccpdlilnakaa", sum := "e823707f5db2fe58ae9bb093781b910a88133214ecfabf476a90b0579bfc642a", func := "potbank/potbanklaw09.BookBytes", spec := "bookBytes", inPlace := ["slices.overlaps[potbank/api.Record]"], unfollowed := true, recurses := true, plainKeys := false, apart := false }
def BookBytesSaid : Prop := bookBytesRow.holds Try.pinned (OpenSpec.ofChange bookBytesSpec)

/-- ITS FALSE NEIGHBOUR: 'it returns false'. Refute it at one input. -/
def bookBytesWrong : ChangeSpec := { name := "bookBytes", fn := fun _ => fun
  | [d1, d2] => { results := [.lit (.bool false)], args := [d1, d2] }
  | _ => none }
def BookBytesWrongFalsely : Prop := bookBytesRow.holds Try.pinned (OpenSpec.ofChange bookBytesWrong)

/-- 'potbanklaw09.BookJoins': WHATEVER THE INPUT: true; the input reads as it did. -/
def bookJoinsSpec : ChangeSpec := { name := "bookJoins", fn := fun _ => fun
  | [d1, d2] => { results := [.lit (.bool true)], args := [d1, d2] }
  | _ => none }
def bookJoinsRow : OpenClaim := { program := "ytpgccpdlilnakaa", sum := "e823707f5db2fe58ae9bb093781b910a88133214ecfabf476a90b0579bfc642a", func := "potbank/potbanklaw09.BookJoins", spec := "bookJoins", inPlace := ["slices.overlaps[potbank/api.Record]"], unfollowed := true, recurses := true, plainKeys := false, apart := false }
def BookJoinsSaid : Prop := bookJoinsRow.holds Try.pinned (OpenSpec.ofChange bookJoinsSpec)

/-- ITS FALSE NEIGHBOUR: 'it returns false'. Refute it at one input. -/
def bookJoinsWrong : ChangeSpec := { name := "bookJoins", fn := fun _ => fun
  | [d1, d2] => { results := [.lit (.bool false)], args := [d1, d2] }
  | _ => none }
def BookJoinsWrongFalsely : Prop := bookJoinsRow.holds Try.pinned (OpenSpec.ofChange bookJoinsWrong)

/-- 'potbanklaw09.BookPower': WHATEVER THE INPUT: true; the input reads as it did. -/
def bookPowerSpec : ChangeSpec := { name := "bookPower", fn := fun _ => fun
  | [d1, d2] => { results := [.lit (.bool true)], args := [d1, d2] }
  | _ => none }
def bookPowerRow : OpenClaim := { program := "ytpgccpdlilnakaa", sum := "e823707f5db2fe58ae9bb093781b910a88133214ecfabf476a90b0579bfc642a", func := "potbank/potbanklaw09.BookPower", spec := "bookPower", inPlace := ["slices.overlaps[potbank/api.Record]"], unfollowed := true, recurses := true, plainKeys := false, apart := false }
def BookPowerSaid : Prop := bookPowerRow.holds Try.pinned (OpenSpec.ofChange bookPowerSpec)

/-- ITS FALSE NEIGHBOUR: 'it returns false'. Refute it at one input. -/
def bookPowerWrong : ChangeSpec := { name := "bookPower", fn := fun _ => fun
  | [d1, d2] => { results := [.lit (.bool false)], args := [d1, d2] }
  | _ => none }
def BookPowerWrongFalsely : Prop := bookPowerRow.holds Try.pinned (OpenSpec.ofChange bookPowerWrong)

/-- 'potbanklaw09.BookSums': WHATEVER THE INPUT: true; the input reads as it did. -/
def bookSumsSpec : ChangeSpec := { name := "bookSums", fn := fun _ => fun
  | [d1, d2, d3] => { results := [.lit (.bool true)], args := [d1, d2, d3] }
  | _ => none }
def bookSumsRow : OpenClaim := { program := "ytpgccpdlilnakaa", sum := "e823707f5db2fe58ae9bb093781b910a88133214ecfabf476a90b0579bfc642a", func := "potbank/potbanklaw09.BookSums", spec := "bookSums", inPlace := ["slices.overlaps[potbank/api.Record]"], unfollowed := true, recurses := true, plainKeys := false, apart := false }
def BookSumsSaid : Prop := bookSumsRow.holds Try.pinned (OpenSpec.ofChange bookSumsSpec)

/-- ITS FALSE NEIGHBOUR: 'it returns false'. Refute it at one input. -/
def bookSumsWrong : ChangeSpec := { name := "bookSums", fn := fun _ => fun
  | [d1, d2, d3] => { results := [.lit (.bool false)], args := [d1, d2, d3] }
  | _ => none }
def BookSumsWrongFalsely : Prop := bookSumsRow.holds Try.pinned (OpenSpec.ofChange bookSumsWrong)

/-- 'potbanklaw09.BookBooks': WHATEVER THE INPUT: true; the input reads as it did. -/
def bookBooksSpec : ChangeSpec := { name := "bookBooks", fn := fun _ => fun
  | [d1, d2] => { results := [.lit (.bool true)], args := [d1, d2] }
  | _ => none }
def bookBooksRow : OpenClaim := { program := "ytpgccpdlilnakaa", sum := "e823707f5db2fe58ae9bb093781b910a88133214ecfabf476a90b0579bfc642a", func := "potbank/potbanklaw09.BookBooks", spec := "bookBooks", inPlace := ["slices.overlaps[potbank/api.Record]"], unfollowed := true, recurses := true, plainKeys := false, apart := false }
def BookBooksSaid : Prop := bookBooksRow.holds Try.pinned (OpenSpec.ofChange bookBooksSpec)

/-- ITS FALSE NEIGHBOUR: 'it returns false'. Refute it at one input. -/
def bookBooksWrong : ChangeSpec := { name := "bookBooks", fn := fun _ => fun
  | [d1, d2] => { results := [.lit (.bool false)], args := [d1, d2] }
  | _ => none }
def BookBooksWrongFalsely : Prop := bookBooksRow.holds Try.pinned (OpenSpec.ofChange bookBooksWrong)

/-- 'potbanklaw09.BookSlips': WHATEVER THE INPUT: true; the input reads as it did. -/
def bookSlipsSpec : ChangeSpec := { name := "bookSlips", fn := fun _ => fun
  | [d1, d2] => { results := [.lit (.bool true)], args := [d1, d2] }
  | _ => none }
def bookSlipsRow : OpenClaim := { program := "ytpgccpdlilnakaa", sum := "e823707f5db2fe58ae9bb093781b910a88133214ecfabf476a90b0579bfc642a", func := "potbank/potbanklaw09.BookSlips", spec := "bookSlips", inPlace := ["slices.overlaps[potbank/api.Record]"], unfollowed := true, recurses := true, plainKeys := false, apart := false }
def BookSlipsSaid : Prop := bookSlipsRow.holds Try.pinned (OpenSpec.ofChange bookSlipsSpec)

/-- ITS FALSE NEIGHBOUR: 'it returns false'. Refute it at one input. -/
def bookSlipsWrong : ChangeSpec := { name := "bookSlips", fn := fun _ => fun
  | [d1, d2] => { results := [.lit (.bool false)], args := [d1, d2] }
  | _ => none }
def BookSlipsWrongFalsely : Prop := bookSlipsRow.holds Try.pinned (OpenSpec.ofChange bookSlipsWrong)

/-- 'potbanklaw09.BookEqual': WHATEVER THE INPUT: true; the input reads as it did. -/
def bookEqualSpec : ChangeSpec := { name := "bookEqual", fn := fun _ => fun
  | [d1, d2] => { results := [.lit (.bool true)], args := [d1, d2] }
  | _ => none }
def bookEqualRow : OpenClaim := { program := "ytpgccpdlilnakaa", sum := "e823707f5db2fe58ae9bb093781b910a88133214ecfabf476a90b0579bfc642a", func := "potbank/potbanklaw09.BookEqual", spec := "bookEqual", inPlace := ["slices.overlaps[potbank/api.Record]"], unfollowed := true, recurses := true, plainKeys := false, apart := false }
def BookEqualSaid : Prop := bookEqualRow.holds Try.pinned (OpenSpec.ofChange bookEqualSpec)

/-- ITS FALSE NEIGHBOUR: 'it returns false'. Refute it at one input. -/
def bookEqualWrong : ChangeSpec := { name := "bookEqual", fn := fun _ => fun
  | [d1, d2] => { results := [.lit (.bool false)], args := [d1, d2] }
  | _ => none }
def BookEqualWrongFalsely : Prop := bookEqualRow.holds Try.pinned (OpenSpec.ofChange bookEqualWrong)

/- THE SECOND FORM. 'bulk': how many values and letters a reading holds, each counted each time it is reached (what is shared counts as often as it is met; a slice's spare places count too). A statement '..UptoSaid' is the law's where the arguments, and the package variables that the reading takes, are together of bulk at most 1048576: NARROWER than '..Said'. Prove '..Said' where nothing that the law and all that it calls make is longer than what came in: it says more and counts as full. Else prove '..UptoSaid'. A law counts once. -/
mutual
def uptoBulk {H : Type} : DataW H → Nat
  | .lit (.string bytes) => bytes.length + 1
  | .lit _ => 1
  | .nil => 1
  | .ptr d => uptoBulk d + 1
  | .slice elems spare => uptoBulkAll elems + uptoBulkAll spare + 1
  | .agg parts => uptoBulkAll parts + 1
  | .iface _ d => uptoBulk d + 1
  | .map entries => uptoBulkEntries entries + 1
  | .held _ => 1
def uptoBulkAll {H : Type} : List (DataW H) → Nat
  | [] => 0
  | d :: r => uptoBulk d + uptoBulkAll r
def uptoBulkEntries {H : Type} : List (Lit × DataW H) → Nat
  | [] => 0
  | x :: r => uptoBulkEntry x + uptoBulkEntries r
def uptoBulkEntry {H : Type} : Lit × DataW H → Nat
  | (.string bytes, d) => bytes.length + uptoBulk d + 1
  | (_, d) => uptoBulk d + 1
 end
def uptoSmall : (H : Type) → List (DataW H) → Bool := fun _ ds => decide (uptoBulkAll ds ≤ 1048576)
def OpenSpec.upto (s : _root_.Go.ChangeSpec) : _root_.Go.OpenSpec := { _root_.Go.OpenSpec.ofChange s with cond := some uptoSmall }

/-- 'potbanklaw09.BookHalves', WHERE WHAT IT READS IS OF BULK AT MOST 1048576: true; the input reads as it did. -/
def bookHalvesUptoRow : OpenClaim := { program := "ytpgccpdlilnakaa", sum := "e823707f5db2fe58ae9bb093781b910a88133214ecfabf476a90b0579bfc642a", func := "potbank/potbanklaw09.BookHalves", spec := "bookHalves", inPlace := ["slices.overlaps[potbank/api.Record]"], unfollowed := true, recurses := true, plainKeys := false, apart := false, narrowed := true }
def BookHalvesUptoSaid : Prop := bookHalvesUptoRow.holds Try.pinned (OpenSpec.upto bookHalvesSpec)

/-- 'potbanklaw09.BookAppends', WHERE WHAT IT READS IS OF BULK AT MOST 1048576: true; the input reads as it did. -/
def bookAppendsUptoRow : OpenClaim := { program := "ytpgccpdlilnakaa", sum := "e823707f5db2fe58ae9bb093781b910a88133214ecfabf476a90b0579bfc642a", func := "potbank/potbanklaw09.BookAppends", spec := "bookAppends", inPlace := ["slices.overlaps[potbank/api.Record]"], unfollowed := true, recurses := true, plainKeys := false, apart := false, narrowed := true }
def BookAppendsUptoSaid : Prop := bookAppendsUptoRow.holds Try.pinned (OpenSpec.upto bookAppendsSpec)

/-- 'potbanklaw09.BookRecords', WHERE WHAT IT READS IS OF BULK AT MOST 1048576: true; the input reads as it did. -/
def bookRecordsUptoRow : OpenClaim := { program := "ytpgccpdlilnakaa", sum := "e823707f5db2fe58ae9bb093781b910a88133214ecfabf476a90b0579bfc642a", func := "potbank/potbanklaw09.BookRecords", spec := "bookRecords", inPlace := ["slices.overlaps[potbank/api.Record]"], unfollowed := true, recurses := true, plainKeys := false, apart := false, narrowed := true }
def BookRecordsUptoSaid : Prop := bookRecordsUptoRow.holds Try.pinned (OpenSpec.upto bookRecordsSpec)

/-- 'potbanklaw09.BookDisks', WHERE WHAT IT READS IS OF BULK AT MOST 1048576: true; the input reads as it did. -/
def bookDisksUptoRow : OpenClaim := { program := "ytpgccpdlilnakaa", sum := "e823707f5db2fe58ae9bb093781b910a88133214ecfabf476a90b0579bfc642a", func := "potbank/potbanklaw09.BookDisks", spec := "bookDisks", inPlace := ["slices.overlaps[potbank/api.Record]"], unfollowed := true, recurses := true, plainKeys := false, apart := false, narrowed := true }
def BookDisksUptoSaid : Prop := bookDisksUptoRow.holds Try.pinned (OpenSpec.upto bookDisksSpec)

/-- 'potbanklaw09.BookBytes', WHERE WHAT IT READS IS OF BULK AT MOST 1048576: true; the input reads as it did. -/
def bookBytesUptoRow : OpenClaim := { program := "ytpgccpdlilnakaa", sum := "e823707f5db2fe58ae9bb093781b910a88133214ecfabf476a90b0579bfc642a", func := "potbank/potbanklaw09.BookBytes", spec := "bookBytes", inPlace := ["slices.overlaps[potbank/api.Record]"], unfollowed := true, recurses := true, plainKeys := false, apart := false, narrowed := true }
def BookBytesUptoSaid : Prop := bookBytesUptoRow.holds Try.pinned (OpenSpec.upto bookBytesSpec)

/-- 'potbanklaw09.BookJoins', WHERE WHAT IT READS IS OF BULK AT MOST 1048576: true; the input reads as it did. -/
def bookJoinsUptoRow : OpenClaim := { program := "ytpgccpdlilnakaa", sum := "e823707f5db2fe58ae9bb093781b910a88133214ecfabf476a90b0579bfc642a", func := "potbank/potbanklaw09.BookJoins", spec := "bookJoins", inPlace := ["slices.overlaps[potbank/api.Record]"], unfollowed := true, recurses := true, plainKeys := false, apart := false, narrowed := true }
def BookJoinsUptoSaid : Prop := bookJoinsUptoRow.holds Try.pinned (OpenSpec.upto bookJoinsSpec)

/-- 'potbanklaw09.BookPower', WHERE WHAT IT READS IS OF BULK AT MOST 1048576: true; the input reads as it did. -/
def bookPowerUptoRow : OpenClaim := { program := "ytpgccpdlilnakaa", sum := "e823707f5db2fe58ae9bb093781b910a88133214ecfabf476a90b0579bfc642a", func := "potbank/potbanklaw09.BookPower", spec := "bookPower", inPlace := ["slices.overlaps[potbank/api.Record]"], unfollowed := true, recurses := true, plainKeys := false, apart := false, narrowed := true }
def BookPowerUptoSaid : Prop := bookPowerUptoRow.holds Try.pinned (OpenSpec.upto bookPowerSpec)

/-- 'potbanklaw09.BookSums', WHERE WHAT IT READS IS OF BULK AT MOST 1048576: true; the input reads as it did. -/
def bookSumsUptoRow : OpenClaim := { program := "ytpgccpdlilnakaa", sum := "e823707f5db2fe58ae9bb093781b910a88133214ecfabf476a90b0579bfc642a", func := "potbank/potbanklaw09.BookSums", spec := "bookSums", inPlace := ["slices.overlaps[potbank/api.Record]"], unfollowed := true, recurses := true, plainKeys := false, apart := false, narrowed := true }
def BookSumsUptoSaid : Prop := bookSumsUptoRow.holds Try.pinned (OpenSpec.upto bookSumsSpec)

/-- 'potbanklaw09.BookBooks', WHERE WHAT IT READS IS OF BULK AT MOST 1048576: true; the input reads as it did. -/
def bookBooksUptoRow : OpenClaim := { program := "ytpgccpdlilnakaa", sum := "e823707f5db2fe58ae9bb093781b910a88133214ecfabf476a90b0579bfc642a", func := "potbank/potbanklaw09.BookBooks", spec := "bookBooks", inPlace := ["slices.overlaps[potbank/api.Record]"], unfollowed := true, recurses := true, plainKeys := false, apart := false, narrowed := true }
def BookBooksUptoSaid : Prop := bookBooksUptoRow.holds Try.pinned (OpenSpec.upto bookBooksSpec)

/-- 'potbanklaw09.BookSlips', WHERE WHAT IT READS IS OF BULK AT MOST 1048576: true; the input reads as it did. -/
def bookSlipsUptoRow : OpenClaim := { program := "ytpgccpdlilnakaa", sum := "e823707f5db2fe58ae9bb093781b910a88133214ecfabf476a90b0579bfc642a", func := "potbank/potbanklaw09.BookSlips", spec := "bookSlips", inPlace := ["slices.overlaps[potbank/api.Record]"], unfollowed := true, recurses := true, plainKeys := false, apart := false, narrowed := true }
def BookSlipsUptoSaid : Prop := bookSlipsUptoRow.holds Try.pinned (OpenSpec.upto bookSlipsSpec)

/-- 'potbanklaw09.BookEqual', WHERE WHAT IT READS IS OF BULK AT MOST 1048576: true; the input reads as it did. -/
def bookEqualUptoRow : OpenClaim := { program := "ytpgccpdlilnakaa", sum := "e823707f5db2fe58ae9bb093781b910a88133214ecfabf476a90b0579bfc642a", func := "potbank/potbanklaw09.BookEqual", spec := "bookEqual", inPlace := ["slices.overlaps[potbank/api.Record]"], unfollowed := true, recurses := true, plainKeys := false, apart := false, narrowed := true }
def BookEqualUptoSaid : Prop := bookEqualUptoRow.holds Try.pinned (OpenSpec.upto bookEqualSpec)

end Rows
end Go.Proofs.Ytpgccpdlilnakaa
