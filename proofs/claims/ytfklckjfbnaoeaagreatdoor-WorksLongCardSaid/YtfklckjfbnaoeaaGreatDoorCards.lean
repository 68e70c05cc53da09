/-
  DERIVED. GIVEN WITH THE SEED: THE CARDS: each row of YtfklckjfbnaoeaaGreatDoorRows.lean that lists a variable, with what it lists TIED to the program's text (the seventh form; the later family's looks); each row that meets fmt, with fmt's text TOLD by the authors' own Lean function (tested against real Go, not proved from fmt's source: count such statements apart). THE CARD IS WHAT COUNTS. Prove the row's statement (the work); the ties are given (YtfklckjfbnaoeaaGreatDoorTie.lean); close each card by the builder's one call (the guide's Derived/Test/ToyasCard.lean, 'card_holds'). Laid BY PROGRAM, IN A SANDBOX (cutbox-door.mjs). By AI agents, Wed Nov 11 2026. No macro, syntax, notation, axiom, sorry.
-/
import Derived.Test.YtfklckjfbnaoeaaGreatDoorRows
import GoSem.ClaimSeven
namespace Go.Proofs.YtfklckjfbnaoeaaGreatDoor
namespace Rows

/-- THE TIED CARD OF 'blazonlaw10.WorksLong'. -/
def worksLongCard : Claim7 := { stood := { row := worksLongRow, standIns := [], harness := (true, "855932adce88fec4019b954b234deafa6c7a682b73d1ee4d5f8200e24449b73d"), looks := true }, kinds := [], alts := [], laidByText := true, laidKinds := [.data, .data, .data, .data, .sentinel, .sentinel, .pinned], laidTests := true, laidLooks := .later }
def WorksLongCardSaid : Prop := Claim7.holds Tryz.pinned (.plain (OpenSpec.ofChange worksLongSpec)) worksLongCard

/-- THE TIED CARD OF 'blazonlaw10.WorksNils'. -/
def worksNilsCard : Claim7 := { stood := { row := worksNilsRow, standIns := [], harness := (true, "855932adce88fec4019b954b234deafa6c7a682b73d1ee4d5f8200e24449b73d"), looks := true }, kinds := [], alts := [], laidByText := true, laidKinds := [.data, .data, .data, .data, .sentinel, .sentinel, .pinned], laidTests := true, laidLooks := .later }
def WorksNilsCardSaid : Prop := Claim7.holds Tryz.pinned (.plain (OpenSpec.ofChange worksNilsSpec)) worksNilsCard

/-- THE SECOND FORM's CARD OF 'blazonlaw10.WorksLong'. -/
def worksLongUptoCard : Claim7 := { stood := { row := worksLongUptoRow, standIns := [], harness := (true, "855932adce88fec4019b954b234deafa6c7a682b73d1ee4d5f8200e24449b73d"), looks := true }, kinds := [], alts := [], laidByText := true, laidKinds := [.data, .data, .data, .data, .sentinel, .sentinel, .pinned], laidTests := true, laidLooks := .later }
def WorksLongUptoCardSaid : Prop := Claim7.holds Tryz.pinned (.plain (OpenSpec.upto worksLongSpec)) worksLongUptoCard

/-- THE SECOND FORM's CARD OF 'blazonlaw10.WorksNils'. -/
def worksNilsUptoCard : Claim7 := { stood := { row := worksNilsUptoRow, standIns := [], harness := (true, "855932adce88fec4019b954b234deafa6c7a682b73d1ee4d5f8200e24449b73d"), looks := true }, kinds := [], alts := [], laidByText := true, laidKinds := [.data, .data, .data, .data, .sentinel, .sentinel, .pinned], laidTests := true, laidLooks := .later }
def WorksNilsUptoCardSaid : Prop := Claim7.holds Tryz.pinned (.plain (OpenSpec.upto worksNilsSpec)) worksNilsUptoCard
end Rows
end Go.Proofs.YtfklckjfbnaoeaaGreatDoor
