/-
  No cell of these rows narrows 'for every input' (looked for: loops, veiled, ifaces, maps, wideKeys, modest, calm, conditions, laid).
  DERIVED. THE GIVEN ROWS OF THIS SEAT. 10 by the template 'for every input the law returns true; each argument reads behind the call as it read before'; 0 by the template 'total and deterministic' (their statements: YtegghimjmbgghaaTotals.lean).
  GIVEN WITH THE SEED: the statements are not yours to turn. If you find one false, say at which input.
  Laid BY PROGRAM, IN A SANDBOX (cutbox-rows.mjs): the forced cells as the released guide's own fill.sh prints them over the translation 5eb25196a4a0b0b5… (all of the seat's roots in one cut). By AI agents, Wed Nov 11 2026. No macro, syntax, notation, axiom, sorry.
-/
import Derived.Test.YtegghimjmbgghaaChecked
import GoSem.Claim
import GoSem.ClaimJoined
import GoSem.ClaimMapViews
import Derived.JoinedTies
import Derived.KernelRfl
namespace Go.Proofs.Ytegghimjmbgghaa
/- THE CELL 'sum', in the pinned program and in every row, IS THE sha256 OF THE DUMP (.gsa) THAT YtegghimjmbgghaaProg.lean LOADS. Nothing in Lean hashes anything: it is a label: what it is worth is what the hold of that sum in a sandbox is worth. -/
noncomputable def Try.pinned : Pinned := { name := "ytegghimjmbgghaa", sum := "5eb25196a4a0b0b5f7667a54bb06350684fb3ecf9c0c545cd483c138348de666", checked := Try.checked }
namespace Rows
def none {H : Type} : Left H := { results := [], args := [] }

/-- 'blazonlaw09.BookWrites': WHATEVER THE INPUT: true; the input reads as it did. -/
def bookWritesSpec : ChangeSpec := { name := "bookWrites", fn := fun _ => fun
  | [d1, d2] => { results := [.lit (.bool true)], args := [d1, d2] }
  | _ => none }
def bookWritesRow : OpenClaim := { program := "ytegghimjmbgghaa", sum := "5eb25196a4a0b0b5f7667a54bb06350684fb3ecf9c0c545cd483c138348de666", func := "blazon/blazonlaw09.BookWrites", spec := "bookWrites", unfollowed := true, recurses := true, plainKeys := false, apart := false }
def BookWritesSaid : Prop := bookWritesRow.holds Try.pinned (OpenSpec.ofChange bookWritesSpec)

/-- ITS FALSE NEIGHBOUR: 'it returns false'. Refute it at one input. -/
def bookWritesWrong : ChangeSpec := { name := "bookWrites", fn := fun _ => fun
  | [d1, d2] => { results := [.lit (.bool false)], args := [d1, d2] }
  | _ => none }
def BookWritesWrongFalsely : Prop := bookWritesRow.holds Try.pinned (OpenSpec.ofChange bookWritesWrong)

/-- 'blazonlaw09.BookUnpacks': WHATEVER THE INPUT: true; the input reads as it did. -/
def bookUnpacksSpec : ChangeSpec := { name := "bookUnpacks", fn := fun _ => fun
  | [d] => { results := [.lit (.bool true)], args := [d] }
  | _ => none }
def bookUnpacksRow : OpenClaim := { program := "ytegghimjmbgghaa", sum := "5eb25196a4a0b0b5f7667a54bb06350684fb3ecf9c0c545cd483c138348de666", func := "blazon/blazonlaw09.BookUnpacks", spec := "bookUnpacks", unfollowed := true, recurses := true, plainKeys := false, apart := false }
def BookUnpacksSaid : Prop := bookUnpacksRow.holds Try.pinned (OpenSpec.ofChange bookUnpacksSpec)

/-- ITS FALSE NEIGHBOUR: 'it returns false'. Refute it at one input. -/
def bookUnpacksWrong : ChangeSpec := { name := "bookUnpacks", fn := fun _ => fun
  | [d] => { results := [.lit (.bool false)], args := [d] }
  | _ => none }
def BookUnpacksWrongFalsely : Prop := bookUnpacksRow.holds Try.pinned (OpenSpec.ofChange bookUnpacksWrong)

/-- 'blazonlaw09.BookAdds': WHATEVER THE INPUT: true; the input reads as it did. -/
def bookAddsSpec : ChangeSpec := { name := "bookAdds", fn := fun _ => fun
  | [d] => { results := [.lit (.bool true)], args := [d] }
  | _ => none }
def bookAddsRow : OpenClaim := { program := "ytegghimjmbgghaa", sum := "5eb25196a4a0b0b5f7667a54bb06350684fb3ecf9c0c545cd483c138348de666", func := "blazon/blazonlaw09.BookAdds", spec := "bookAdds", unfollowed := true, recurses := true, plainKeys := false, apart := false }
def BookAddsSaid : Prop := bookAddsRow.holds Try.pinned (OpenSpec.ofChange bookAddsSpec)

/-- ITS FALSE NEIGHBOUR: 'it returns false'. Refute it at one input. -/
def bookAddsWrong : ChangeSpec := { name := "bookAdds", fn := fun _ => fun
  | [d] => { results := [.lit (.bool false)], args := [d] }
  | _ => none }
def BookAddsWrongFalsely : Prop := bookAddsRow.holds Try.pinned (OpenSpec.ofChange bookAddsWrong)

/-- 'blazonlaw09.BookKeeps': WHATEVER THE INPUT: true; the input reads as it did. -/
def bookKeepsSpec : ChangeSpec := { name := "bookKeeps", fn := fun _ => fun
  | [d1, d2] => { results := [.lit (.bool true)], args := [d1, d2] }
  | _ => none }
def bookKeepsRow : OpenClaim := { program := "ytegghimjmbgghaa", sum := "5eb25196a4a0b0b5f7667a54bb06350684fb3ecf9c0c545cd483c138348de666", func := "blazon/blazonlaw09.BookKeeps", spec := "bookKeeps", unfollowed := true, recurses := true, plainKeys := false, apart := false }
def BookKeepsSaid : Prop := bookKeepsRow.holds Try.pinned (OpenSpec.ofChange bookKeepsSpec)

/-- ITS FALSE NEIGHBOUR: 'it returns false'. Refute it at one input. -/
def bookKeepsWrong : ChangeSpec := { name := "bookKeeps", fn := fun _ => fun
  | [d1, d2] => { results := [.lit (.bool false)], args := [d1, d2] }
  | _ => none }
def BookKeepsWrongFalsely : Prop := bookKeepsRow.holds Try.pinned (OpenSpec.ofChange bookKeepsWrong)

/-- 'blazonlaw09.BookJoins': WHATEVER THE INPUT: true; the input reads as it did. -/
def bookJoinsSpec : ChangeSpec := { name := "bookJoins", fn := fun _ => fun
  | [d1, d2] => { results := [.lit (.bool true)], args := [d1, d2] }
  | _ => none }
def bookJoinsRow : OpenClaim := { program := "ytegghimjmbgghaa", sum := "5eb25196a4a0b0b5f7667a54bb06350684fb3ecf9c0c545cd483c138348de666", func := "blazon/blazonlaw09.BookJoins", spec := "bookJoins", inPlace := ["maps.clone"], unfollowed := true, recurses := true, plainKeys := false, apart := false }
def BookJoinsSaid : Prop := bookJoinsRow.holds Try.pinned (OpenSpec.ofChange bookJoinsSpec)

/-- ITS FALSE NEIGHBOUR: 'it returns false'. Refute it at one input. -/
def bookJoinsWrong : ChangeSpec := { name := "bookJoins", fn := fun _ => fun
  | [d1, d2] => { results := [.lit (.bool false)], args := [d1, d2] }
  | _ => none }
def BookJoinsWrongFalsely : Prop := bookJoinsRow.holds Try.pinned (OpenSpec.ofChange bookJoinsWrong)

/-- 'blazontop.TopJoined': WHATEVER THE INPUT: true; the input reads as it did. -/
def topJoinedSpec : ChangeSpec := { name := "topJoined", fn := fun _ => fun
  | [d1, d2] => { results := [.lit (.bool true)], args := [d1, d2] }
  | _ => none }
def topJoinedRow : OpenClaim := { program := "ytegghimjmbgghaa", sum := "5eb25196a4a0b0b5f7667a54bb06350684fb3ecf9c0c545cd483c138348de666", func := "blazon/blazontop.TopJoined", spec := "topJoined", inPlace := ["maps.clone"], unfollowed := true, recurses := true, plainKeys := false, apart := false }
def TopJoinedSaid : Prop := topJoinedRow.holds Try.pinned (OpenSpec.ofChange topJoinedSpec)

/-- ITS FALSE NEIGHBOUR: 'it returns false'. Refute it at one input. -/
def topJoinedWrong : ChangeSpec := { name := "topJoined", fn := fun _ => fun
  | [d1, d2] => { results := [.lit (.bool false)], args := [d1, d2] }
  | _ => none }
def TopJoinedWrongFalsely : Prop := topJoinedRow.holds Try.pinned (OpenSpec.ofChange topJoinedWrong)

/-- 'blazonlaw09.BookForks': WHATEVER THE INPUT: true; the input reads as it did. -/
def bookForksSpec : ChangeSpec := { name := "bookForks", fn := fun _ => fun
  | [d1, d2, d3] => { results := [.lit (.bool true)], args := [d1, d2, d3] }
  | _ => none }
def bookForksRow : OpenClaim := { program := "ytegghimjmbgghaa", sum := "5eb25196a4a0b0b5f7667a54bb06350684fb3ecf9c0c545cd483c138348de666", func := "blazon/blazonlaw09.BookForks", spec := "bookForks", inPlace := ["maps.clone"], unfollowed := true, recurses := true, plainKeys := false, apart := false }
def BookForksSaid : Prop := bookForksRow.holds Try.pinned (OpenSpec.ofChange bookForksSpec)

/-- ITS FALSE NEIGHBOUR: 'it returns false'. Refute it at one input. -/
def bookForksWrong : ChangeSpec := { name := "bookForks", fn := fun _ => fun
  | [d1, d2, d3] => { results := [.lit (.bool false)], args := [d1, d2, d3] }
  | _ => none }
def BookForksWrongFalsely : Prop := bookForksRow.holds Try.pinned (OpenSpec.ofChange bookForksWrong)

/-- 'blazonlaw09.BookDecides': WHATEVER THE INPUT: true; the input reads as it did. -/
def bookDecidesSpec : ChangeSpec := { name := "bookDecides", fn := fun _ => fun
  | [d1, d2, d3] => { results := [.lit (.bool true)], args := [d1, d2, d3] }
  | _ => none }
def bookDecidesRow : OpenClaim := { program := "ytegghimjmbgghaa", sum := "5eb25196a4a0b0b5f7667a54bb06350684fb3ecf9c0c545cd483c138348de666", func := "blazon/blazonlaw09.BookDecides", spec := "bookDecides", inPlace := ["maps.clone"], unfollowed := true, recurses := true, plainKeys := false, apart := false }
def BookDecidesSaid : Prop := bookDecidesRow.holds Try.pinned (OpenSpec.ofChange bookDecidesSpec)

/-- ITS FALSE NEIGHBOUR: 'it returns false'. Refute it at one input. -/
def bookDecidesWrong : ChangeSpec := { name := "bookDecides", fn := fun _ => fun
  | [d1, d2, d3] => { results := [.lit (.bool false)], args := [d1, d2, d3] }
  | _ => none }
def BookDecidesWrongFalsely : Prop := bookDecidesRow.holds Try.pinned (OpenSpec.ofChange bookDecidesWrong)

/-- 'blazonlaw09.BookRecords': WHATEVER THE INPUT: true; the input reads as it did. -/
def bookRecordsSpec : ChangeSpec := { name := "bookRecords", fn := fun _ => fun
  | [d1, d2] => { results := [.lit (.bool true)], args := [d1, d2] }
  | _ => none }
def bookRecordsRow : OpenClaim := { program := "ytegghimjmbgghaa", sum := "5eb25196a4a0b0b5f7667a54bb06350684fb3ecf9c0c545cd483c138348de666", func := "blazon/blazonlaw09.BookRecords", spec := "bookRecords", unfollowed := true, recurses := true, plainKeys := false, apart := false }
def BookRecordsSaid : Prop := bookRecordsRow.holds Try.pinned (OpenSpec.ofChange bookRecordsSpec)

/-- ITS FALSE NEIGHBOUR: 'it returns false'. Refute it at one input. -/
def bookRecordsWrong : ChangeSpec := { name := "bookRecords", fn := fun _ => fun
  | [d1, d2] => { results := [.lit (.bool false)], args := [d1, d2] }
  | _ => none }
def BookRecordsWrongFalsely : Prop := bookRecordsRow.holds Try.pinned (OpenSpec.ofChange bookRecordsWrong)

/-- 'blazonlaw09.BookLogs': WHATEVER THE INPUT: true; the input reads as it did. -/
def bookLogsSpec : ChangeSpec := { name := "bookLogs", fn := fun _ => fun
  | [d] => { results := [.lit (.bool true)], args := [d] }
  | _ => none }
def bookLogsRow : OpenClaim := { program := "ytegghimjmbgghaa", sum := "5eb25196a4a0b0b5f7667a54bb06350684fb3ecf9c0c545cd483c138348de666", func := "blazon/blazonlaw09.BookLogs", spec := "bookLogs", unfollowed := true, recurses := true, plainKeys := false, apart := false }
def BookLogsSaid : Prop := bookLogsRow.holds Try.pinned (OpenSpec.ofChange bookLogsSpec)

/-- ITS FALSE NEIGHBOUR: 'it returns false'. Refute it at one input. -/
def bookLogsWrong : ChangeSpec := { name := "bookLogs", fn := fun _ => fun
  | [d] => { results := [.lit (.bool false)], args := [d] }
  | _ => none }
def BookLogsWrongFalsely : Prop := bookLogsRow.holds Try.pinned (OpenSpec.ofChange bookLogsWrong)

/- THE SECOND FORM. 'bulk': how many values and letters a reading holds, each counted each time it is reached (what is shared counts as often as it is met; a slice's spare places count too). A statement '..UptoSaid' is the law's where the arguments, and the package variables that the reading takes, are together of bulk at most 1048576: NARROWER than '..Said'. Prove '..Said' where nothing that the law and all that it calls make is longer than what came in: it says more and counts as full. Else prove '..UptoSaid'. A law counts once. -/
mutual
def uptoBulk {H : Type} : DataW H → Nat
  | .lit (.string bytes) => bytes.length + 1
  | .lit _ => 1
  | .nil => 1
  | .ptr d => uptoBulk d + 1
  | .slice elems spare => uptoBulkAll elems + uptoBulkAll spare + 1
  | .agg parts => uptoBulkAll parts + 1
  | .iface _ d => uptoBulk d + 1
  | .map entries => uptoBulkEntries entries + 1
  | .held _ => 1
def uptoBulkAll {H : Type} : List (DataW H) → Nat
  | [] => 0
  | d :: r => uptoBulk d + uptoBulkAll r
def uptoBulkEntries {H : Type} : List (Lit × DataW H) → Nat
  | [] => 0
  | x :: r => uptoBulkEntry x + uptoBulkEntries r
def uptoBulkEntry {H : Type} : Lit × DataW H → Nat
  | (.string bytes, d) => bytes.length + uptoBulk d + 1
  | (_, d) => uptoBulk d + 1
 end
def uptoSmall : (H : Type) → List (DataW H) → Bool := fun _ ds => decide (uptoBulkAll ds ≤ 1048576)
def OpenSpec.upto (s : _root_.Go.ChangeSpec) : _root_.Go.OpenSpec := { _root_.Go.OpenSpec.ofChange s with cond := some uptoSmall }

/-- 'blazonlaw09.BookWrites', WHERE WHAT IT READS IS OF BULK AT MOST 1048576: true; the input reads as it did. -/
def bookWritesUptoRow : OpenClaim := { program := "ytegghimjmbgghaa", sum := "5eb25196a4a0b0b5f7667a54bb06350684fb3ecf9c0c545cd483c138348de666", func := "blazon/blazonlaw09.BookWrites", spec := "bookWrites", unfollowed := true, recurses := true, plainKeys := false, apart := false, narrowed := true }
def BookWritesUptoSaid : Prop := bookWritesUptoRow.holds Try.pinned (OpenSpec.upto bookWritesSpec)

/-- 'blazonlaw09.BookUnpacks', WHERE WHAT IT READS IS OF BULK AT MOST 1048576: true; the input reads as it did. -/
def bookUnpacksUptoRow : OpenClaim := { program := "ytegghimjmbgghaa", sum := "5eb25196a4a0b0b5f7667a54bb06350684fb3ecf9c0c545cd483c138348de666", func := "blazon/blazonlaw09.BookUnpacks", spec := "bookUnpacks", unfollowed := true, recurses := true, plainKeys := false, apart := false, narrowed := true }
def BookUnpacksUptoSaid : Prop := bookUnpacksUptoRow.holds Try.pinned (OpenSpec.upto bookUnpacksSpec)

/-- 'blazonlaw09.BookAdds', WHERE WHAT IT READS IS OF BULK AT MOST 1048576: true; the input reads as it did. -/
def bookAddsUptoRow : OpenClaim := { program := "ytegghimjmbgghaa", sum := "5eb25196a4a0b0b5f7667a54bb06350684fb3ecf9c0c545cd483c138348de666", func := "blazon/blazonlaw09.BookAdds", spec := "bookAdds", unfollowed := true, recurses := true, plainKeys := false, apart := false, narrowed := true }
def BookAddsUptoSaid : Prop := bookAddsUptoRow.holds Try.pinned (OpenSpec.upto bookAddsSpec)

/-- 'blazonlaw09.BookKeeps', WHERE WHAT IT READS IS OF BULK AT MOST 1048576: true; the input reads as it did. -/
def bookKeepsUptoRow : OpenClaim := { program := "ytegghimjmbgghaa", sum := "5eb25196a4a0b0b5f7667a54bb06350684fb3ecf9c0c545cd483c138348de666", func := "blazon/blazonlaw09.BookKeeps", spec := "bookKeeps", unfollowed := true, recurses := true, plainKeys := false, apart := false, narrowed := true }
def BookKeepsUptoSaid : Prop := bookKeepsUptoRow.holds Try.pinned (OpenSpec.upto bookKeepsSpec)

/-- 'blazonlaw09.BookJoins', WHERE WHAT IT READS IS OF BULK AT MOST 1048576: true; the input reads as it did. -/
def bookJoinsUptoRow : OpenClaim := { program := "ytegghimjmbgghaa", sum := "5eb25196a4a0b0b5f7667a54bb06350684fb3ecf9c0c545cd483c138348de666", func := "blazon/blazonlaw09.BookJoins", spec := "bookJoins", inPlace := ["maps.clone"], unfollowed := true, recurses := true, plainKeys := false, apart := false, narrowed := true }
def BookJoinsUptoSaid : Prop := bookJoinsUptoRow.holds Try.pinned (OpenSpec.upto bookJoinsSpec)

/-- 'blazontop.TopJoined', WHERE WHAT IT READS IS OF BULK AT MOST 1048576: true; the input reads as it did. -/
def topJoinedUptoRow : OpenClaim := { program := "ytegghimjmbgghaa", sum := "5eb25196a4a0b0b5f7667a54bb06350684fb3ecf9c0c545cd483c138348de666", func := "blazon/blazontop.TopJoined", spec := "topJoined", inPlace := ["maps.clone"], unfollowed := true, recurses := true, plainKeys := false, apart := false, narrowed := true }
def TopJoinedUptoSaid : Prop := topJoinedUptoRow.holds Try.pinned (OpenSpec.upto topJoinedSpec)

/-- 'blazonlaw09.BookForks', WHERE WHAT IT READS IS OF BULK AT MOST 1048576: true; the input reads as it did. -/
def bookForksUptoRow : OpenClaim := { program := "ytegghimjmbgghaa", sum := "5eb25196a4a0b0b5f7667a54bb06350684fb3ecf9c0c545cd483c138348de666", func := "blazon/blazonlaw09.BookForks", spec := "bookForks", inPlace := ["maps.clone"], unfollowed := true, recurses := true, plainKeys := false, apart := false, narrowed := true }
def BookForksUptoSaid : Prop := bookForksUptoRow.holds Try.pinned (OpenSpec.upto bookForksSpec)

/-- 'blazonlaw09.BookDecides', WHERE WHAT IT READS IS OF BULK AT MOST 1048576: true; the input reads as it did. -/
def bookDecidesUptoRow : OpenClaim := { program := "ytegghimjmbgghaa", sum := "5eb25196a4a0b0b5f7667a54bb06350684fb3ecf9c0c545cd483c138348de666", func := "blazon/blazonlaw09.BookDecides", spec := "bookDecides", inPlace := ["maps.clone"], unfollowed := true, recurses := true, plainKeys := false, apart := false, narrowed := true }
def BookDecidesUptoSaid : Prop := bookDecidesUptoRow.holds Try.pinned (OpenSpec.upto bookDecidesSpec)

/-- 'blazonlaw09.BookRecords', WHERE WHAT IT READS IS OF BULK AT MOST 1048576: true; the input reads as it did. -/
def bookRecordsUptoRow : OpenClaim := { program := "ytegghimjmbgghaa", sum := "5eb25196a4a0b0b5f7667a54bb06350684fb3ecf9c0c545cd483c138348de666", func := "blazon/blazonlaw09.BookRecords", spec := "bookRecords", unfollowed := true, recurses := true, plainKeys := false, apart := false, narrowed := true }
def BookRecordsUptoSaid : Prop := bookRecordsUptoRow.holds Try.pinned (OpenSpec.upto bookRecordsSpec)

/-- 'blazonlaw09.BookLogs', WHERE WHAT IT READS IS OF BULK AT MOST 1048576: true; the input reads as it did. -/
def bookLogsUptoRow : OpenClaim := { program := "ytegghimjmbgghaa", sum := "5eb25196a4a0b0b5f7667a54bb06350684fb3ecf9c0c545cd483c138348de666", func := "blazon/blazonlaw09.BookLogs", spec := "bookLogs", unfollowed := true, recurses := true, plainKeys := false, apart := false, narrowed := true }
def BookLogsUptoSaid : Prop := bookLogsUptoRow.holds Try.pinned (OpenSpec.upto bookLogsSpec)

end Rows
end Go.Proofs.Ytegghimjmbgghaa
