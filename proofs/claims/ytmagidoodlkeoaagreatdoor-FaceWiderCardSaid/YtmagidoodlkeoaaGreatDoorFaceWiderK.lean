/-
  Closed facts of the program about FaceWider.
-/
import Derived.Test.YtmagidoodlkeoaaGreatDoorRows
import Derived.ProofKit
import Derived.JoinedOf
import Derived.KernelRfl
set_option linter.unusedSimpArgs false
set_option linter.unusedVariables false
namespace Go.Proofs.YtmagidoodlkeoaaGreatDoor.faceWider
theorem f1 : (Rows.faceWiderRow.inPlace == Tryz.prog.inPlace 11) = true := by kernel_rfl
theorem f2 : (Rows.faceWiderRow.unfollowed == Tryz.prog.unfollowed 11) = true := by kernel_rfl
theorem f3 : (Rows.faceWiderRow.recurses == Tryz.prog.recurses 11) = true := by kernel_rfl
theorem f4 : (Rows.faceWiderRow.named == Tryz.prog.varsNamed 11) = true := by kernel_rfl
theorem closed : joinedFacts Tryz.prog 11 Tryz.f11 Rows.faceWiderSpec Rows.faceWiderRow = true := by
  unfold joinedFacts
  rw [f1, f2, f3, f4]
  kernel_rfl
end Go.Proofs.YtmagidoodlkeoaaGreatDoor.faceWider
