/-
  No cell of these rows narrows 'for every input' (looked for: loops, veiled, ifaces, maps, wideKeys, modest, calm, conditions, laid).
  DERIVED. THE GIVEN ROWS OF THIS SEAT. 4 by the template 'for every input the law returns true; each argument reads behind the call as it read before'; 0 by the template 'total and deterministic' (their statements: YtegghimjmbgghaaGreatTotals.lean).
  GIVEN WITH THE SEED: the statements are not yours to turn. If you find one false, say at which input.
  Laid BY PROGRAM, IN A SANDBOX (cutbox-rows.mjs): the forced cells as the released guide's own fill.sh prints them over the translation daca360a23a4ca63… (all of the seat's roots in one cut). By AI agents, Wed Nov 11 2026. No macro, syntax, notation, axiom, sorry.
-/
import Derived.Test.YtegghimjmbgghaaGreatChecked
import GoSem.Claim
import GoSem.ClaimJoined
import GoSem.ClaimMapViews
import Derived.JoinedTies
import Derived.KernelRfl
namespace Go.Proofs.YtegghimjmbgghaaGreat
/- THE CELL 'sum', in the pinned program and in every row, IS THE sha256 OF THE DUMP (.gsa) THAT YtegghimjmbgghaaGreatProg.lean LOADS. Nothing in Lean hashes anything: it is a label: what it is worth is what the hold of that sum in a sandbox is worth. -/
noncomputable def Tryz.pinned : Pinned := { name := "ytegghimjmbgghaagreat", sum := "daca360a23a4ca63d03fc10fc4314343bfa9e1be9feb89c663fd83308f9e4885", checked := Tryz.checked }
namespace Rows
def none {H : Type} : Left H := { results := [], args := [] }

/-- 'blazonlaw09.BookPast': WHATEVER THE INPUT: true; the input reads as it did. -/
def bookPastSpec : ChangeSpec := { name := "bookPast", fn := fun _ => fun
  | [d1, d2] => { results := [.lit (.bool true)], args := [d1, d2] }
  | _ => none }
def bookPastRow : OpenClaim := { program := "ytegghimjmbgghaagreat", sum := "daca360a23a4ca63d03fc10fc4314343bfa9e1be9feb89c663fd83308f9e4885", func := "blazon/blazonlaw09.BookPast", spec := "bookPast", unfollowed := true, recurses := true, plainKeys := false, apart := false }
def BookPastSaid : Prop := bookPastRow.holds Tryz.pinned (OpenSpec.ofChange bookPastSpec)

/-- ITS FALSE NEIGHBOUR: 'it returns false'. Refute it at one input. -/
def bookPastWrong : ChangeSpec := { name := "bookPast", fn := fun _ => fun
  | [d1, d2] => { results := [.lit (.bool false)], args := [d1, d2] }
  | _ => none }
def BookPastWrongFalsely : Prop := bookPastRow.holds Tryz.pinned (OpenSpec.ofChange bookPastWrong)

/-- 'blazonlaw09.BookDisks': WHATEVER THE INPUT: true; the input reads as it did. -/
def bookDisksSpec : ChangeSpec := { name := "bookDisks", fn := fun _ => fun
  | [d] => { results := [.lit (.bool true)], args := [d] }
  | _ => none }
def bookDisksRow : OpenClaim := { program := "ytegghimjmbgghaagreat", sum := "daca360a23a4ca63d03fc10fc4314343bfa9e1be9feb89c663fd83308f9e4885", func := "blazon/blazonlaw09.BookDisks", spec := "bookDisks", unfollowed := true, recurses := true, plainKeys := false, apart := false }
def BookDisksSaid : Prop := bookDisksRow.holds Tryz.pinned (OpenSpec.ofChange bookDisksSpec)

/-- ITS FALSE NEIGHBOUR: 'it returns false'. Refute it at one input. -/
def bookDisksWrong : ChangeSpec := { name := "bookDisks", fn := fun _ => fun
  | [d] => { results := [.lit (.bool false)], args := [d] }
  | _ => none }
def BookDisksWrongFalsely : Prop := bookDisksRow.holds Tryz.pinned (OpenSpec.ofChange bookDisksWrong)

/-- 'blazonlaw09.BookShows': WHATEVER THE INPUT: true; the input reads as it did. -/
def bookShowsSpec : ChangeSpec := { name := "bookShows", fn := fun _ => fun
  | [d1, d2, d3] => { results := [.lit (.bool true)], args := [d1, d2, d3] }
  | _ => none }
def bookShowsRow : OpenClaim := { program := "ytegghimjmbgghaagreat", sum := "daca360a23a4ca63d03fc10fc4314343bfa9e1be9feb89c663fd83308f9e4885", func := "blazon/blazonlaw09.BookShows", spec := "bookShows", unfollowed := true, recurses := true, plainKeys := false, apart := false }
def BookShowsSaid : Prop := bookShowsRow.holds Tryz.pinned (OpenSpec.ofChange bookShowsSpec)

/-- ITS FALSE NEIGHBOUR: 'it returns false'. Refute it at one input. -/
def bookShowsWrong : ChangeSpec := { name := "bookShows", fn := fun _ => fun
  | [d1, d2, d3] => { results := [.lit (.bool false)], args := [d1, d2, d3] }
  | _ => none }
def BookShowsWrongFalsely : Prop := bookShowsRow.holds Tryz.pinned (OpenSpec.ofChange bookShowsWrong)

/-- 'blazonlaw09.BookNils': WHATEVER THE INPUT: true; the input reads as it did. -/
def bookNilsSpec : ChangeSpec := { name := "bookNils", fn := fun _ => fun
  | [d1, d2, d3] => { results := [.lit (.bool true)], args := [d1, d2, d3] }
  | _ => none }
def bookNilsRow : OpenClaim := { program := "ytegghimjmbgghaagreat", sum := "daca360a23a4ca63d03fc10fc4314343bfa9e1be9feb89c663fd83308f9e4885", func := "blazon/blazonlaw09.BookNils", spec := "bookNils", inPlace := ["maps.clone"], unfollowed := true, recurses := true, plainKeys := false, apart := false }
def BookNilsSaid : Prop := bookNilsRow.holds Tryz.pinned (OpenSpec.ofChange bookNilsSpec)

/-- ITS FALSE NEIGHBOUR: 'it returns false'. Refute it at one input. -/
def bookNilsWrong : ChangeSpec := { name := "bookNils", fn := fun _ => fun
  | [d1, d2, d3] => { results := [.lit (.bool false)], args := [d1, d2, d3] }
  | _ => none }
def BookNilsWrongFalsely : Prop := bookNilsRow.holds Tryz.pinned (OpenSpec.ofChange bookNilsWrong)

/- THE SECOND FORM. 'bulk': how many values and letters a reading holds, each counted each time it is reached (what is shared counts as often as it is met; a slice's spare places count too). A statement '..UptoSaid' is the law's where the arguments, and the package variables that the reading takes, are together of bulk at most 1048576: NARROWER than '..Said'. Prove '..Said' where nothing that the law and all that it calls make is longer than what came in: it says more and counts as full. Else prove '..UptoSaid'. A law counts once. -/
mutual
def uptoBulk {H : Type} : DataW H → Nat
  | .lit (.string bytes) => bytes.length + 1
  | .lit _ => 1
  | .nil => 1
  | .ptr d => uptoBulk d + 1
  | .slice elems spare => uptoBulkAll elems + uptoBulkAll spare + 1
  | .agg parts => uptoBulkAll parts + 1
  | .iface _ d => uptoBulk d + 1
  | .map entries => uptoBulkEntries entries + 1
  | .held _ => 1
def uptoBulkAll {H : Type} : List (DataW H) → Nat
  | [] => 0
  | d :: r => uptoBulk d + uptoBulkAll r
def uptoBulkEntries {H : Type} : List (Lit × DataW H) → Nat
  | [] => 0
  | x :: r => uptoBulkEntry x + uptoBulkEntries r
def uptoBulkEntry {H : Type} : Lit × DataW H → Nat
  | (.string bytes, d) => bytes.length + uptoBulk d + 1
  | (_, d) => uptoBulk d + 1
 end
def uptoSmall : (H : Type) → List (DataW H) → Bool := fun _ ds => decide (uptoBulkAll ds ≤ 1048576)
def OpenSpec.upto (s : _root_.Go.ChangeSpec) : _root_.Go.OpenSpec := { _root_.Go.OpenSpec.ofChange s with cond := some uptoSmall }

/-- 'blazonlaw09.BookPast', WHERE WHAT IT READS IS OF BULK AT MOST 1048576: true; the input reads as it did. -/
def bookPastUptoRow : OpenClaim := { program := "ytegghimjmbgghaagreat", sum := "daca360a23a4ca63d03fc10fc4314343bfa9e1be9feb89c663fd83308f9e4885", func := "blazon/blazonlaw09.BookPast", spec := "bookPast", unfollowed := true, recurses := true, plainKeys := false, apart := false, narrowed := true }
def BookPastUptoSaid : Prop := bookPastUptoRow.holds Tryz.pinned (OpenSpec.upto bookPastSpec)

/-- 'blazonlaw09.BookDisks', WHERE WHAT IT READS IS OF BULK AT MOST 1048576: true; the input reads as it did. -/
def bookDisksUptoRow : OpenClaim := { program := "ytegghimjmbgghaagreat", sum := "daca360a23a4ca63d03fc10fc4314343bfa9e1be9feb89c663fd83308f9e4885", func := "blazon/blazonlaw09.BookDisks", spec := "bookDisks", unfollowed := true, recurses := true, plainKeys := false, apart := false, narrowed := true }
def BookDisksUptoSaid : Prop := bookDisksUptoRow.holds Tryz.pinned (OpenSpec.upto bookDisksSpec)

/-- 'blazonlaw09.BookShows', WHERE WHAT IT READS IS OF BULK AT MOST 1048576: true; the input reads as it did. -/
def bookShowsUptoRow : OpenClaim := { program := "ytegghimjmbgghaagreat", sum := "daca360a23a4ca63d03fc10fc4314343bfa9e1be9feb89c663fd83308f9e4885", func := "blazon/blazonlaw09.BookShows", spec := "bookShows", unfollowed := true, recurses := true, plainKeys := false, apart := false, narrowed := true }
def BookShowsUptoSaid : Prop := bookShowsUptoRow.holds Tryz.pinned (OpenSpec.upto bookShowsSpec)

/-- 'blazonlaw09.BookNils', WHERE WHAT IT READS IS OF BULK AT MOST 1048576: true; the input reads as it did. -/
def bookNilsUptoRow : OpenClaim := { program := "ytegghimjmbgghaagreat", sum := "daca360a23a4ca63d03fc10fc4314343bfa9e1be9feb89c663fd83308f9e4885", func := "blazon/blazonlaw09.BookNils", spec := "bookNils", inPlace := ["maps.clone"], unfollowed := true, recurses := true, plainKeys := false, apart := false, narrowed := true }
def BookNilsUptoSaid : Prop := bookNilsUptoRow.holds Tryz.pinned (OpenSpec.upto bookNilsSpec)

end Rows
end Go.Proofs.YtegghimjmbgghaaGreat
