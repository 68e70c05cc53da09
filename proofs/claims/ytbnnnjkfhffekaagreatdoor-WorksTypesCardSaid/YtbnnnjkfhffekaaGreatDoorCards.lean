/-
  DERIVED. GIVEN WITH THE SEED: THE CARDS: each row of YtbnnnjkfhffekaaGreatDoorRows.lean that lists a variable, with what it lists TIED to the program's text (the seventh form; the later family's looks); each row that meets fmt, with fmt's text TOLD by the authors' own Lean function (tested against real Go, not proved from fmt's source: count such statements apart). THE CARD IS WHAT COUNTS. Prove the row's statement (the work); the ties are given (YtbnnnjkfhffekaaGreatDoorTie.lean); close each card by the builder's one call (the guide's Derived/Test/ToyasCard.lean, 'card_holds'). Laid BY PROGRAM, IN A SANDBOX (cutbox-door.mjs). By AI agents, Wed Nov 11 2026. No macro, syntax, notation, axiom, sorry.
-/
import Derived.Test.YtbnnnjkfhffekaaGreatDoorRows
import GoSem.ClaimSeven
namespace Go.Proofs.YtbnnnjkfhffekaaGreatDoor
namespace Rows

/-- THE TIED CARD OF 'blazonlaw10.WorksPrices'. -/
def worksPricesCard : Claim7 := { stood := { row := worksPricesRow, standIns := [], harness := (true, "4d5cbd3f42abed25925a5d95ed1aef6644fe3b6230fe526597f7f185acd544ed"), looks := true }, kinds := [], alts := [], laidByText := true, laidKinds := [.data, .data, .data, .data, .sentinel, .sentinel, .pinned], laidTests := true, laidLooks := .later }
def WorksPricesCardSaid : Prop := Claim7.holds Tryz.pinned (.plain (OpenSpec.ofChange worksPricesSpec)) worksPricesCard

/-- THE TIED CARD OF 'blazonlaw10.WorksInvoices'. -/
def worksInvoicesCard : Claim7 := { stood := { row := worksInvoicesRow, standIns := [], harness := (true, "4d5cbd3f42abed25925a5d95ed1aef6644fe3b6230fe526597f7f185acd544ed"), looks := true }, kinds := [], alts := [], laidByText := true, laidKinds := [.data, .data, .data, .data, .sentinel, .sentinel, .pinned], laidTests := true, laidLooks := .later }
def WorksInvoicesCardSaid : Prop := Claim7.holds Tryz.pinned (.plain (OpenSpec.ofChange worksInvoicesSpec)) worksInvoicesCard

/-- THE TIED CARD OF 'blazonlaw10.WorksMany'. -/
def worksManyCard : Claim7 := { stood := { row := worksManyRow, standIns := [], harness := (true, "4d5cbd3f42abed25925a5d95ed1aef6644fe3b6230fe526597f7f185acd544ed"), looks := true }, kinds := [], alts := [], laidByText := true, laidKinds := [.data, .data, .data, .data, .sentinel, .sentinel, .pinned], laidTests := true, laidLooks := .later }
def WorksManyCardSaid : Prop := Claim7.holds Tryz.pinned (.plain (OpenSpec.ofChange worksManySpec)) worksManyCard

/-- THE TIED CARD OF 'blazonlaw10.WorksWarranty'. -/
def worksWarrantyCard : Claim7 := { stood := { row := worksWarrantyRow, standIns := [], harness := (true, "4d5cbd3f42abed25925a5d95ed1aef6644fe3b6230fe526597f7f185acd544ed"), looks := true }, kinds := [], alts := [], laidByText := true, laidKinds := [.data, .data, .data, .data, .sentinel, .sentinel, .pinned], laidTests := true, laidLooks := .later }
def WorksWarrantyCardSaid : Prop := Claim7.holds Tryz.pinned (.plain (OpenSpec.ofChange worksWarrantySpec)) worksWarrantyCard

/-- THE TIED CARD OF 'blazonlaw10.WorksDearer'. -/
def worksDearerCard : Claim7 := { stood := { row := worksDearerRow, standIns := [], harness := (true, "4d5cbd3f42abed25925a5d95ed1aef6644fe3b6230fe526597f7f185acd544ed"), looks := true }, kinds := [], alts := [], laidByText := true, laidKinds := [.data, .data, .data, .data, .sentinel, .sentinel, .pinned], laidTests := true, laidLooks := .later }
def WorksDearerCardSaid : Prop := Claim7.holds Tryz.pinned (.plain (OpenSpec.ofChange worksDearerSpec)) worksDearerCard

/-- THE TIED CARD OF 'blazonlaw10.WorksTypes'. -/
def worksTypesCard : Claim7 := { stood := { row := worksTypesRow, standIns := [], harness := (true, "4d5cbd3f42abed25925a5d95ed1aef6644fe3b6230fe526597f7f185acd544ed"), looks := true }, kinds := [], alts := [], laidByText := true, laidKinds := [.data, .data, .data, .data, .sentinel, .sentinel, .pinned], laidTests := true, laidLooks := .later }
def WorksTypesCardSaid : Prop := Claim7.holds Tryz.pinned (.plain (OpenSpec.ofChange worksTypesSpec)) worksTypesCard

/-- THE SECOND FORM's CARD OF 'blazonlaw10.WorksPrices'. -/
def worksPricesUptoCard : Claim7 := { stood := { row := worksPricesUptoRow, standIns := [], harness := (true, "4d5cbd3f42abed25925a5d95ed1aef6644fe3b6230fe526597f7f185acd544ed"), looks := true }, kinds := [], alts := [], laidByText := true, laidKinds := [.data, .data, .data, .data, .sentinel, .sentinel, .pinned], laidTests := true, laidLooks := .later }
def WorksPricesUptoCardSaid : Prop := Claim7.holds Tryz.pinned (.plain (OpenSpec.upto worksPricesSpec)) worksPricesUptoCard

/-- THE SECOND FORM's CARD OF 'blazonlaw10.WorksInvoices'. -/
def worksInvoicesUptoCard : Claim7 := { stood := { row := worksInvoicesUptoRow, standIns := [], harness := (true, "4d5cbd3f42abed25925a5d95ed1aef6644fe3b6230fe526597f7f185acd544ed"), looks := true }, kinds := [], alts := [], laidByText := true, laidKinds := [.data, .data, .data, .data, .sentinel, .sentinel, .pinned], laidTests := true, laidLooks := .later }
def WorksInvoicesUptoCardSaid : Prop := Claim7.holds Tryz.pinned (.plain (OpenSpec.upto worksInvoicesSpec)) worksInvoicesUptoCard

/-- THE SECOND FORM's CARD OF 'blazonlaw10.WorksMany'. -/
def worksManyUptoCard : Claim7 := { stood := { row := worksManyUptoRow, standIns := [], harness := (true, "4d5cbd3f42abed25925a5d95ed1aef6644fe3b6230fe526597f7f185acd544ed"), looks := true }, kinds := [], alts := [], laidByText := true, laidKinds := [.data, .data, .data, .data, .sentinel, .sentinel, .pinned], laidTests := true, laidLooks := .later }
def WorksManyUptoCardSaid : Prop := Claim7.holds Tryz.pinned (.plain (OpenSpec.upto worksManySpec)) worksManyUptoCard

/-- THE SECOND FORM's CARD OF 'blazonlaw10.WorksWarranty'. -/
def worksWarrantyUptoCard : Claim7 := { stood := { row := worksWarrantyUptoRow, standIns := [], harness := (true, "4d5cbd3f42abed25925a5d95ed1aef6644fe3b6230fe526597f7f185acd544ed"), looks := true }, kinds := [], alts := [], laidByText := true, laidKinds := [.data, .data, .data, .data, .sentinel, .sentinel, .pinned], laidTests := true, laidLooks := .later }
def WorksWarrantyUptoCardSaid : Prop := Claim7.holds Tryz.pinned (.plain (OpenSpec.upto worksWarrantySpec)) worksWarrantyUptoCard

/-- THE SECOND FORM's CARD OF 'blazonlaw10.WorksDearer'. -/
def worksDearerUptoCard : Claim7 := { stood := { row := worksDearerUptoRow, standIns := [], harness := (true, "4d5cbd3f42abed25925a5d95ed1aef6644fe3b6230fe526597f7f185acd544ed"), looks := true }, kinds := [], alts := [], laidByText := true, laidKinds := [.data, .data, .data, .data, .sentinel, .sentinel, .pinned], laidTests := true, laidLooks := .later }
def WorksDearerUptoCardSaid : Prop := Claim7.holds Tryz.pinned (.plain (OpenSpec.upto worksDearerSpec)) worksDearerUptoCard

/-- THE SECOND FORM's CARD OF 'blazonlaw10.WorksTypes'. -/
def worksTypesUptoCard : Claim7 := { stood := { row := worksTypesUptoRow, standIns := [], harness := (true, "4d5cbd3f42abed25925a5d95ed1aef6644fe3b6230fe526597f7f185acd544ed"), looks := true }, kinds := [], alts := [], laidByText := true, laidKinds := [.data, .data, .data, .data, .sentinel, .sentinel, .pinned], laidTests := true, laidLooks := .later }
def WorksTypesUptoCardSaid : Prop := Claim7.holds Tryz.pinned (.plain (OpenSpec.upto worksTypesSpec)) worksTypesUptoCard
end Rows
end Go.Proofs.YtbnnnjkfhffekaaGreatDoor
