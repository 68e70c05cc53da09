/-
  Closed facts of the program about FaceTrims.
-/
import Derived.Test.YtmagidoodlkeoaaGreatDoorRows
import Derived.ProofKit
import Derived.JoinedOf
import Derived.KernelRfl
set_option linter.unusedSimpArgs false
set_option linter.unusedVariables false
namespace Go.Proofs.YtmagidoodlkeoaaGreatDoor.faceTrims
theorem f1 : (Rows.faceTrimsRow.inPlace == Tryz.prog.inPlace 15) = true := by kernel_rfl
theorem f2 : (Rows.faceTrimsRow.unfollowed == Tryz.prog.unfollowed 15) = true := by kernel_rfl
theorem f3 : (Rows.faceTrimsRow.recurses == Tryz.prog.recurses 15) = true := by kernel_rfl
theorem f4 : (Rows.faceTrimsRow.named == Tryz.prog.varsNamed 15) = true := by kernel_rfl
theorem closed : joinedFacts Tryz.prog 15 Tryz.f15 Rows.faceTrimsSpec Rows.faceTrimsRow = true := by
  unfold joinedFacts
  rw [f1, f2, f3, f4]
  kernel_rfl
end Go.Proofs.YtmagidoodlkeoaaGreatDoor.faceTrims
