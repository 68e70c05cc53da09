/-
  Closed facts of the program about FaceTexts.
-/
import Derived.Test.YtmagidoodlkeoaaGreatDoorRows
import Derived.ProofKit
import Derived.JoinedOf
import Derived.KernelRfl
set_option linter.unusedSimpArgs false
set_option linter.unusedVariables false
namespace Go.Proofs.YtmagidoodlkeoaaGreatDoor.faceTexts
theorem f1 : (Rows.faceTextsRow.inPlace == Tryz.prog.inPlace 7) = true := by kernel_rfl
theorem f2 : (Rows.faceTextsRow.unfollowed == Tryz.prog.unfollowed 7) = true := by kernel_rfl
theorem f3 : (Rows.faceTextsRow.recurses == Tryz.prog.recurses 7) = true := by kernel_rfl
theorem f4 : (Rows.faceTextsRow.named == Tryz.prog.varsNamed 7) = true := by kernel_rfl
theorem closed : joinedFacts Tryz.prog 7 Tryz.f7 Rows.faceTextsSpec Rows.faceTextsRow = true := by
  unfold joinedFacts
  rw [f1, f2, f3, f4]
  kernel_rfl
end Go.Proofs.YtmagidoodlkeoaaGreatDoor.faceTexts
