/-
  Closed facts of the program about FaceSeams.
-/
import Derived.Test.YtmagidoodlkeoaaGreatDoorRows
import Derived.ProofKit
import Derived.JoinedOf
import Derived.KernelRfl
set_option linter.unusedSimpArgs false
set_option linter.unusedVariables false
namespace Go.Proofs.YtmagidoodlkeoaaGreatDoor.faceSeams
theorem f1 : (Rows.faceSeamsRow.inPlace == Tryz.prog.inPlace 13) = true := by kernel_rfl
theorem f2 : (Rows.faceSeamsRow.unfollowed == Tryz.prog.unfollowed 13) = true := by kernel_rfl
theorem f3 : (Rows.faceSeamsRow.recurses == Tryz.prog.recurses 13) = true := by kernel_rfl
theorem f4 : (Rows.faceSeamsRow.named == Tryz.prog.varsNamed 13) = true := by kernel_rfl
theorem closed : joinedFacts Tryz.prog 13 Tryz.f13 Rows.faceSeamsSpec Rows.faceSeamsRow = true := by
  unfold joinedFacts
  rw [f1, f2, f3, f4]
  kernel_rfl
end Go.Proofs.YtmagidoodlkeoaaGreatDoor.faceSeams
