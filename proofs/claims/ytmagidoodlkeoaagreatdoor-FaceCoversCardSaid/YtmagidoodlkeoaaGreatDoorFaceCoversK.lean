/-
  Closed facts of the program about FaceCovers.
-/
import Derived.Test.YtmagidoodlkeoaaGreatDoorRows
import Derived.ProofKit
import Derived.JoinedOf
import Derived.KernelRfl
set_option linter.unusedSimpArgs false
set_option linter.unusedVariables false
namespace Go.Proofs.YtmagidoodlkeoaaGreatDoor.faceCovers
theorem f1 : (Rows.faceCoversRow.inPlace == Tryz.prog.inPlace 17) = true := by kernel_rfl
theorem f2 : (Rows.faceCoversRow.unfollowed == Tryz.prog.unfollowed 17) = true := by kernel_rfl
theorem f3 : (Rows.faceCoversRow.recurses == Tryz.prog.recurses 17) = true := by kernel_rfl
theorem f4 : (Rows.faceCoversRow.named == Tryz.prog.varsNamed 17) = true := by kernel_rfl
theorem closed : joinedFacts Tryz.prog 17 Tryz.f17 Rows.faceCoversSpec Rows.faceCoversRow = true := by
  unfold joinedFacts
  rw [f1, f2, f3, f4]
  kernel_rfl
end Go.Proofs.YtmagidoodlkeoaaGreatDoor.faceCovers
