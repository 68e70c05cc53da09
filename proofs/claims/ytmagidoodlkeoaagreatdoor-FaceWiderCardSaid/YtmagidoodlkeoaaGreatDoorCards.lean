/-
  DERIVED. GIVEN WITH THE SEED: THE CARDS: each row of YtmagidoodlkeoaaGreatDoorRows.lean that lists a variable, with what it lists TIED to the program's text (the seventh form; the later family's looks); each row that meets fmt, with fmt's text TOLD by the authors' own Lean function (tested against real Go, not proved from fmt's source: count such statements apart). THE CARD IS WHAT COUNTS. Prove the row's statement (the work); the ties are given (YtmagidoodlkeoaaGreatDoorTie.lean); close each card by the builder's one call (the guide's Derived/Test/ToyasCard.lean, 'card_holds'). Laid BY PROGRAM, IN A SANDBOX (cutbox-door.mjs). By AI agents, Wed Nov 11 2026. No macro, syntax, notation, axiom, sorry.
-/
import Derived.Test.YtmagidoodlkeoaaGreatDoorRows
import GoSem.ClaimSeven
namespace Go.Proofs.YtmagidoodlkeoaaGreatDoor
namespace Rows

/-- THE TIED CARD OF 'blazonlaw01.FaceParses'. -/
def faceParsesCard : Claim7 := { stood := { row := faceParsesRow, standIns := [], harness := (true, "7ca638034504dd6bbe83df656adb5ff114625815dc32491082640febbc5ab0b3"), looks := true }, kinds := [], alts := [], laidByText := true, laidKinds := [.data, .data, .data, .data, .sentinel, .sentinel, .pinned], laidTests := true, laidLooks := .later }
def FaceParsesCardSaid : Prop := Claim7.holds Tryz.pinned (.plain (OpenSpec.ofChange faceParsesSpec)) faceParsesCard

/-- THE TIED CARD OF 'blazonlaw01.FaceDots'. -/
def faceDotsCard : Claim7 := { stood := { row := faceDotsRow, standIns := [], harness := (true, "7ca638034504dd6bbe83df656adb5ff114625815dc32491082640febbc5ab0b3"), looks := true }, kinds := [], alts := [], laidByText := true, laidKinds := [.data, .data, .data, .data, .sentinel, .sentinel, .pinned], laidTests := true, laidLooks := .later }
def FaceDotsCardSaid : Prop := Claim7.holds Tryz.pinned (.plain (OpenSpec.ofChange faceDotsSpec)) faceDotsCard

/-- THE TIED CARD OF 'blazonlaw01.FaceLetters'. -/
def faceLettersCard : Claim7 := { stood := { row := faceLettersRow, standIns := [], harness := (true, "7ca638034504dd6bbe83df656adb5ff114625815dc32491082640febbc5ab0b3"), looks := true }, kinds := [], alts := [], laidByText := true, laidKinds := [.data, .data, .data, .data, .sentinel, .sentinel, .pinned], laidTests := true, laidLooks := .later }
def FaceLettersCardSaid : Prop := Claim7.holds Tryz.pinned (.plain (OpenSpec.ofChange faceLettersSpec)) faceLettersCard

/-- THE TIED CARD OF 'blazonlaw01.FaceFormats'. -/
def faceFormatsCard : Claim7 := { stood := { row := faceFormatsRow, standIns := [], harness := (true, "7ca638034504dd6bbe83df656adb5ff114625815dc32491082640febbc5ab0b3"), looks := true }, kinds := [], alts := [], laidByText := true, laidKinds := [.data, .data, .data, .data, .sentinel, .sentinel, .pinned], laidTests := true, laidLooks := .later }
def FaceFormatsCardSaid : Prop := Claim7.holds Tryz.pinned (.plain (OpenSpec.ofChange faceFormatsSpec)) faceFormatsCard

/-- THE TIED CARD OF 'blazonlaw01.FaceTexts'. -/
def faceTextsCard : Claim7 := { stood := { row := faceTextsRow, standIns := [], harness := (true, "7ca638034504dd6bbe83df656adb5ff114625815dc32491082640febbc5ab0b3"), looks := true }, kinds := [], alts := [], laidByText := true, laidKinds := [.data, .data, .data, .data, .sentinel, .sentinel, .pinned], laidTests := true, laidLooks := .later }
def FaceTextsCardSaid : Prop := Claim7.holds Tryz.pinned (.plain (OpenSpec.ofChange faceTextsSpec)) faceTextsCard

/-- THE TIED CARD OF 'blazonlaw01.FaceExtents'. -/
def faceExtentsCard : Claim7 := { stood := { row := faceExtentsRow, standIns := [], harness := (true, "7ca638034504dd6bbe83df656adb5ff114625815dc32491082640febbc5ab0b3"), looks := true }, kinds := [], alts := [], laidByText := true, laidKinds := [.data, .data, .data, .data, .sentinel, .sentinel, .pinned], laidTests := true, laidLooks := .later }
def FaceExtentsCardSaid : Prop := Claim7.holds Tryz.pinned (.plain (OpenSpec.ofChange faceExtentsSpec)) faceExtentsCard

/-- THE TIED CARD OF 'blazonlaw01.FaceRows'. -/
def faceRowsCard : Claim7 := { stood := { row := faceRowsRow, standIns := [], harness := (true, "7ca638034504dd6bbe83df656adb5ff114625815dc32491082640febbc5ab0b3"), looks := true }, kinds := [], alts := [], laidByText := true, laidKinds := [.data, .data, .data, .data, .sentinel, .sentinel, .pinned], laidTests := true, laidLooks := .later }
def FaceRowsCardSaid : Prop := Claim7.holds Tryz.pinned (.plain (OpenSpec.ofChange faceRowsSpec)) faceRowsCard

/-- THE TIED CARD OF 'blazonlaw01.FacePanels'. -/
def facePanelsCard : Claim7 := { stood := { row := facePanelsRow, standIns := [], harness := (true, "7ca638034504dd6bbe83df656adb5ff114625815dc32491082640febbc5ab0b3"), looks := true }, kinds := [], alts := [], laidByText := true, laidKinds := [.data, .data, .data, .data, .sentinel, .sentinel, .pinned], laidTests := true, laidLooks := .later }
def FacePanelsCardSaid : Prop := Claim7.holds Tryz.pinned (.plain (OpenSpec.ofChange facePanelsSpec)) facePanelsCard

/-- THE TIED CARD OF 'blazonlaw01.FaceWider'. -/
def faceWiderCard : Claim7 := { stood := { row := faceWiderRow, standIns := [], harness := (true, "7ca638034504dd6bbe83df656adb5ff114625815dc32491082640febbc5ab0b3"), looks := true }, kinds := [], alts := [], laidByText := true, laidKinds := [.data, .data, .data, .data, .sentinel, .sentinel, .pinned], laidTests := true, laidLooks := .later }
def FaceWiderCardSaid : Prop := Claim7.holds Tryz.pinned (.plain (OpenSpec.ofChange faceWiderSpec)) faceWiderCard

/-- THE TIED CARD OF 'blazonlaw01.FaceEquals'. -/
def faceEqualsCard : Claim7 := { stood := { row := faceEqualsRow, standIns := [], harness := (true, "7ca638034504dd6bbe83df656adb5ff114625815dc32491082640febbc5ab0b3"), looks := true }, kinds := [], alts := [], laidByText := true, laidKinds := [.data, .data, .data, .data, .sentinel, .sentinel, .pinned], laidTests := true, laidLooks := .later }
def FaceEqualsCardSaid : Prop := Claim7.holds Tryz.pinned (.plain (OpenSpec.ofChange faceEqualsSpec)) faceEqualsCard

/-- THE TIED CARD OF 'blazonlaw01.FaceSeams'. -/
def faceSeamsCard : Claim7 := { stood := { row := faceSeamsRow, standIns := [], harness := (true, "7ca638034504dd6bbe83df656adb5ff114625815dc32491082640febbc5ab0b3"), looks := true }, kinds := [], alts := [], laidByText := true, laidKinds := [.data, .data, .data, .data, .sentinel, .sentinel, .pinned], laidTests := true, laidLooks := .later }
def FaceSeamsCardSaid : Prop := Claim7.holds Tryz.pinned (.plain (OpenSpec.ofChange faceSeamsSpec)) faceSeamsCard

/-- THE TIED CARD OF 'blazonlaw01.FaceStrips'. -/
def faceStripsCard : Claim7 := { stood := { row := faceStripsRow, standIns := [], harness := (true, "7ca638034504dd6bbe83df656adb5ff114625815dc32491082640febbc5ab0b3"), looks := true }, kinds := [], alts := [], laidByText := true, laidKinds := [.data, .data, .data, .data, .sentinel, .sentinel, .pinned], laidTests := true, laidLooks := .later }
def FaceStripsCardSaid : Prop := Claim7.holds Tryz.pinned (.plain (OpenSpec.ofChange faceStripsSpec)) faceStripsCard

/-- THE TIED CARD OF 'blazonlaw01.FaceTrims'. -/
def faceTrimsCard : Claim7 := { stood := { row := faceTrimsRow, standIns := [], harness := (true, "7ca638034504dd6bbe83df656adb5ff114625815dc32491082640febbc5ab0b3"), looks := true }, kinds := [], alts := [], laidByText := true, laidKinds := [.data, .data, .data, .data, .sentinel, .sentinel, .pinned], laidTests := true, laidLooks := .later }
def FaceTrimsCardSaid : Prop := Claim7.holds Tryz.pinned (.plain (OpenSpec.ofChange faceTrimsSpec)) faceTrimsCard

/-- THE TIED CARD OF 'blazonlaw01.FaceScreens'. -/
def faceScreensCard : Claim7 := { stood := { row := faceScreensRow, standIns := [], harness := (true, "7ca638034504dd6bbe83df656adb5ff114625815dc32491082640febbc5ab0b3"), looks := true }, kinds := [], alts := [], laidByText := true, laidKinds := [.data, .data, .data, .data, .sentinel, .sentinel, .pinned], laidTests := true, laidLooks := .later }
def FaceScreensCardSaid : Prop := Claim7.holds Tryz.pinned (.plain (OpenSpec.ofChange faceScreensSpec)) faceScreensCard

/-- THE TIED CARD OF 'blazonlaw01.FaceCovers'. -/
def faceCoversCard : Claim7 := { stood := { row := faceCoversRow, standIns := [], harness := (true, "7ca638034504dd6bbe83df656adb5ff114625815dc32491082640febbc5ab0b3"), looks := true }, kinds := [], alts := [], laidByText := true, laidKinds := [.data, .data, .data, .data, .sentinel, .sentinel, .pinned], laidTests := true, laidLooks := .later }
def FaceCoversCardSaid : Prop := Claim7.holds Tryz.pinned (.plain (OpenSpec.ofChange faceCoversSpec)) faceCoversCard

/-- THE TIED CARD OF 'blazonlaw01.FaceMirrors'. -/
def faceMirrorsCard : Claim7 := { stood := { row := faceMirrorsRow, standIns := [], harness := (true, "7ca638034504dd6bbe83df656adb5ff114625815dc32491082640febbc5ab0b3"), looks := true }, kinds := [], alts := [], laidByText := true, laidKinds := [.data, .data, .data, .data, .sentinel, .sentinel, .pinned], laidTests := true, laidLooks := .later }
def FaceMirrorsCardSaid : Prop := Claim7.holds Tryz.pinned (.plain (OpenSpec.ofChange faceMirrorsSpec)) faceMirrorsCard

/-- THE TIED CARD OF 'blazonlaw01.FaceAreas'. -/
def faceAreasCard : Claim7 := { stood := { row := faceAreasRow, standIns := [], harness := (true, "7ca638034504dd6bbe83df656adb5ff114625815dc32491082640febbc5ab0b3"), looks := true }, kinds := [], alts := [], laidByText := true, laidKinds := [.data, .data, .data, .data, .sentinel, .sentinel, .pinned], laidTests := true, laidLooks := .later }
def FaceAreasCardSaid : Prop := Claim7.holds Tryz.pinned (.plain (OpenSpec.ofChange faceAreasSpec)) faceAreasCard

/-- THE SECOND FORM's CARD OF 'blazonlaw01.FaceParses'. -/
def faceParsesUptoCard : Claim7 := { stood := { row := faceParsesUptoRow, standIns := [], harness := (true, "7ca638034504dd6bbe83df656adb5ff114625815dc32491082640febbc5ab0b3"), looks := true }, kinds := [], alts := [], laidByText := true, laidKinds := [.data, .data, .data, .data, .sentinel, .sentinel, .pinned], laidTests := true, laidLooks := .later }
def FaceParsesUptoCardSaid : Prop := Claim7.holds Tryz.pinned (.plain (OpenSpec.upto faceParsesSpec)) faceParsesUptoCard

/-- THE SECOND FORM's CARD OF 'blazonlaw01.FaceDots'. -/
def faceDotsUptoCard : Claim7 := { stood := { row := faceDotsUptoRow, standIns := [], harness := (true, "7ca638034504dd6bbe83df656adb5ff114625815dc32491082640febbc5ab0b3"), looks := true }, kinds := [], alts := [], laidByText := true, laidKinds := [.data, .data, .data, .data, .sentinel, .sentinel, .pinned], laidTests := true, laidLooks := .later }
def FaceDotsUptoCardSaid : Prop := Claim7.holds Tryz.pinned (.plain (OpenSpec.upto faceDotsSpec)) faceDotsUptoCard

/-- THE SECOND FORM's CARD OF 'blazonlaw01.FaceLetters'. -/
def faceLettersUptoCard : Claim7 := { stood := { row := faceLettersUptoRow, standIns := [], harness := (true, "7ca638034504dd6bbe83df656adb5ff114625815dc32491082640febbc5ab0b3"), looks := true }, kinds := [], alts := [], laidByText := true, laidKinds := [.data, .data, .data, .data, .sentinel, .sentinel, .pinned], laidTests := true, laidLooks := .later }
def FaceLettersUptoCardSaid : Prop := Claim7.holds Tryz.pinned (.plain (OpenSpec.upto faceLettersSpec)) faceLettersUptoCard

/-- THE SECOND FORM's CARD OF 'blazonlaw01.FaceFormats'. -/
def faceFormatsUptoCard : Claim7 := { stood := { row := faceFormatsUptoRow, standIns := [], harness := (true, "7ca638034504dd6bbe83df656adb5ff114625815dc32491082640febbc5ab0b3"), looks := true }, kinds := [], alts := [], laidByText := true, laidKinds := [.data, .data, .data, .data, .sentinel, .sentinel, .pinned], laidTests := true, laidLooks := .later }
def FaceFormatsUptoCardSaid : Prop := Claim7.holds Tryz.pinned (.plain (OpenSpec.upto faceFormatsSpec)) faceFormatsUptoCard

/-- THE SECOND FORM's CARD OF 'blazonlaw01.FaceTexts'. -/
def faceTextsUptoCard : Claim7 := { stood := { row := faceTextsUptoRow, standIns := [], harness := (true, "7ca638034504dd6bbe83df656adb5ff114625815dc32491082640febbc5ab0b3"), looks := true }, kinds := [], alts := [], laidByText := true, laidKinds := [.data, .data, .data, .data, .sentinel, .sentinel, .pinned], laidTests := true, laidLooks := .later }
def FaceTextsUptoCardSaid : Prop := Claim7.holds Tryz.pinned (.plain (OpenSpec.upto faceTextsSpec)) faceTextsUptoCard

/-- THE SECOND FORM's CARD OF 'blazonlaw01.FaceExtents'. -/
def faceExtentsUptoCard : Claim7 := { stood := { row := faceExtentsUptoRow, standIns := [], harness := (true, "7ca638034504dd6bbe83df656adb5ff114625815dc32491082640febbc5ab0b3"), looks := true }, kinds := [], alts := [], laidByText := true, laidKinds := [.data, .data, .data, .data, .sentinel, .sentinel, .pinned], laidTests := true, laidLooks := .later }
def FaceExtentsUptoCardSaid : Prop := Claim7.holds Tryz.pinned (.plain (OpenSpec.upto faceExtentsSpec)) faceExtentsUptoCard

/-- THE SECOND FORM's CARD OF 'blazonlaw01.FaceRows'. -/
def faceRowsUptoCard : Claim7 := { stood := { row := faceRowsUptoRow, standIns := [], harness := (true, "7ca638034504dd6bbe83df656adb5ff114625815dc32491082640febbc5ab0b3"), looks := true }, kinds := [], alts := [], laidByText := true, laidKinds := [.data, .data, .data, .data, .sentinel, .sentinel, .pinned], laidTests := true, laidLooks := .later }
def FaceRowsUptoCardSaid : Prop := Claim7.holds Tryz.pinned (.plain (OpenSpec.upto faceRowsSpec)) faceRowsUptoCard

/-- THE SECOND FORM's CARD OF 'blazonlaw01.FacePanels'. -/
def facePanelsUptoCard : Claim7 := { stood := { row := facePanelsUptoRow, standIns := [], harness := (true, "7ca638034504dd6bbe83df656adb5ff114625815dc32491082640febbc5ab0b3"), looks := true }, kinds := [], alts := [], laidByText := true, laidKinds := [.data, .data, .data, .data, .sentinel, .sentinel, .pinned], laidTests := true, laidLooks := .later }
def FacePanelsUptoCardSaid : Prop := Claim7.holds Tryz.pinned (.plain (OpenSpec.upto facePanelsSpec)) facePanelsUptoCard

/-- THE SECOND FORM's CARD OF 'blazonlaw01.FaceWider'. -/
def faceWiderUptoCard : Claim7 := { stood := { row := faceWiderUptoRow, standIns := [], harness := (true, "7ca638034504dd6bbe83df656adb5ff114625815dc32491082640febbc5ab0b3"), looks := true }, kinds := [], alts := [], laidByText := true, laidKinds := [.data, .data, .data, .data, .sentinel, .sentinel, .pinned], laidTests := true, laidLooks := .later }
def FaceWiderUptoCardSaid : Prop := Claim7.holds Tryz.pinned (.plain (OpenSpec.upto faceWiderSpec)) faceWiderUptoCard

/-- THE SECOND FORM's CARD OF 'blazonlaw01.FaceEquals'. -/
def faceEqualsUptoCard : Claim7 := { stood := { row := faceEqualsUptoRow, standIns := [], harness := (true, "7ca638034504dd6bbe83df656adb5ff114625815dc32491082640febbc5ab0b3"), looks := true }, kinds := [], alts := [], laidByText := true, laidKinds := [.data, .data, .data, .data, .sentinel, .sentinel, .pinned], laidTests := true, laidLooks := .later }
def FaceEqualsUptoCardSaid : Prop := Claim7.holds Tryz.pinned (.plain (OpenSpec.upto faceEqualsSpec)) faceEqualsUptoCard

/-- THE SECOND FORM's CARD OF 'blazonlaw01.FaceSeams'. -/
def faceSeamsUptoCard : Claim7 := { stood := { row := faceSeamsUptoRow, standIns := [], harness := (true, "7ca638034504dd6bbe83df656adb5ff114625815dc32491082640febbc5ab0b3"), looks := true }, kinds := [], alts := [], laidByText := true, laidKinds := [.data, .data, .data, .data, .sentinel, .sentinel, .pinned], laidTests := true, laidLooks := .later }
def FaceSeamsUptoCardSaid : Prop := Claim7.holds Tryz.pinned (.plain (OpenSpec.upto faceSeamsSpec)) faceSeamsUptoCard

/-- THE SECOND FORM's CARD OF 'blazonlaw01.FaceStrips'. -/
def faceStripsUptoCard : Claim7 := { stood := { row := faceStripsUptoRow, standIns := [], harness := (true, "7ca638034504dd6bbe83df656adb5ff114625815dc32491082640febbc5ab0b3"), looks := true }, kinds := [], alts := [], laidByText := true, laidKinds := [.data, .data, .data, .data, .sentinel, .sentinel, .pinned], laidTests := true, laidLooks := .later }
def FaceStripsUptoCardSaid : Prop := Claim7.holds Tryz.pinned (.plain (OpenSpec.upto faceStripsSpec)) faceStripsUptoCard

/-- THE SECOND FORM's CARD OF 'blazonlaw01.FaceTrims'. -/
def faceTrimsUptoCard : Claim7 := { stood := { row := faceTrimsUptoRow, standIns := [], harness := (true, "7ca638034504dd6bbe83df656adb5ff114625815dc32491082640febbc5ab0b3"), looks := true }, kinds := [], alts := [], laidByText := true, laidKinds := [.data, .data, .data, .data, .sentinel, .sentinel, .pinned], laidTests := true, laidLooks := .later }
def FaceTrimsUptoCardSaid : Prop := Claim7.holds Tryz.pinned (.plain (OpenSpec.upto faceTrimsSpec)) faceTrimsUptoCard

/-- THE SECOND FORM's CARD OF 'blazonlaw01.FaceScreens'. -/
def faceScreensUptoCard : Claim7 := { stood := { row := faceScreensUptoRow, standIns := [], harness := (true, "7ca638034504dd6bbe83df656adb5ff114625815dc32491082640febbc5ab0b3"), looks := true }, kinds := [], alts := [], laidByText := true, laidKinds := [.data, .data, .data, .data, .sentinel, .sentinel, .pinned], laidTests := true, laidLooks := .later }
def FaceScreensUptoCardSaid : Prop := Claim7.holds Tryz.pinned (.plain (OpenSpec.upto faceScreensSpec)) faceScreensUptoCard

/-- THE SECOND FORM's CARD OF 'blazonlaw01.FaceCovers'. -/
def faceCoversUptoCard : Claim7 := { stood := { row := faceCoversUptoRow, standIns := [], harness := (true, "7ca638034504dd6bbe83df656adb5ff114625815dc32491082640febbc5ab0b3"), looks := true }, kinds := [], alts := [], laidByText := true, laidKinds := [.data, .data, .data, .data, .sentinel, .sentinel, .pinned], laidTests := true, laidLooks := .later }
def FaceCoversUptoCardSaid : Prop := Claim7.holds Tryz.pinned (.plain (OpenSpec.upto faceCoversSpec)) faceCoversUptoCard

/-- THE SECOND FORM's CARD OF 'blazonlaw01.FaceMirrors'. -/
def faceMirrorsUptoCard : Claim7 := { stood := { row := faceMirrorsUptoRow, standIns := [], harness := (true, "7ca638034504dd6bbe83df656adb5ff114625815dc32491082640febbc5ab0b3"), looks := true }, kinds := [], alts := [], laidByText := true, laidKinds := [.data, .data, .data, .data, .sentinel, .sentinel, .pinned], laidTests := true, laidLooks := .later }
def FaceMirrorsUptoCardSaid : Prop := Claim7.holds Tryz.pinned (.plain (OpenSpec.upto faceMirrorsSpec)) faceMirrorsUptoCard

/-- THE SECOND FORM's CARD OF 'blazonlaw01.FaceAreas'. -/
def faceAreasUptoCard : Claim7 := { stood := { row := faceAreasUptoRow, standIns := [], harness := (true, "7ca638034504dd6bbe83df656adb5ff114625815dc32491082640febbc5ab0b3"), looks := true }, kinds := [], alts := [], laidByText := true, laidKinds := [.data, .data, .data, .data, .sentinel, .sentinel, .pinned], laidTests := true, laidLooks := .later }
def FaceAreasUptoCardSaid : Prop := Claim7.holds Tryz.pinned (.plain (OpenSpec.upto faceAreasSpec)) faceAreasUptoCard
end Rows
end Go.Proofs.YtmagidoodlkeoaaGreatDoor
