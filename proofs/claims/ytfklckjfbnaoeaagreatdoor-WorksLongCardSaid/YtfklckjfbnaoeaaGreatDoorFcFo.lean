/-
  Format, and the law FaceTexts.
-/
import Derived.Test.YtfklckjfbnaoeaaGreatDoorWaL
import Derived.Test.YtfklckjfbnaoeaaGreatDoorFcPf
set_option linter.unusedSimpArgs false
set_option linter.unusedVariables false
namespace Go.Proofs.YtfklckjfbnaoeaaGreatDoor
open Go.RowKit

def fmtR (f : Fc) : Value := .tuple #[.string (SB (if fcB f then fmtF f else [])), .int .i64 (if fcB f then 0 else 10)]
theorem fmtR_no {f : Fc} (h : fcB f = false) : fmtR f = .tuple #[.string (SB []), .int .i64 10] := by unfold fmtR; rw [h]; rfl
theorem fmtR_yes {f : Fc} (h : fcB f = true) : fmtR f = .tuple #[.string (SB (fmtF f)), .int .i64 0] := by unfold fmtR; rw [h]; rfl

end Go.Proofs.YtfklckjfbnaoeaaGreatDoor
