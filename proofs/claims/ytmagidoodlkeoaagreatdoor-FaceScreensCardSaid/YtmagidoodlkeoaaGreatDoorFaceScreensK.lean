/-
  Closed facts of the program about FaceScreens.
-/
import Derived.Test.YtmagidoodlkeoaaGreatDoorRows
import Derived.ProofKit
import Derived.JoinedOf
import Derived.KernelRfl
set_option linter.unusedSimpArgs false
set_option linter.unusedVariables false
namespace Go.Proofs.YtmagidoodlkeoaaGreatDoor.faceScreens
theorem f1 : (Rows.faceScreensRow.inPlace == Tryz.prog.inPlace 16) = true := by kernel_rfl
theorem f2 : (Rows.faceScreensRow.unfollowed == Tryz.prog.unfollowed 16) = true := by kernel_rfl
theorem f3 : (Rows.faceScreensRow.recurses == Tryz.prog.recurses 16) = true := by kernel_rfl
theorem f4 : (Rows.faceScreensRow.named == Tryz.prog.varsNamed 16) = true := by kernel_rfl
theorem closed : joinedFacts Tryz.prog 16 Tryz.f16 Rows.faceScreensSpec Rows.faceScreensRow = true := by
  unfold joinedFacts
  rw [f1, f2, f3, f4]
  kernel_rfl
end Go.Proofs.YtmagidoodlkeoaaGreatDoor.faceScreens
