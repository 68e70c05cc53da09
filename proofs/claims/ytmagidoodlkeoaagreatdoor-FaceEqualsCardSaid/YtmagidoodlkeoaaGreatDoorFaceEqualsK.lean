/-
  Closed facts of the program about FaceEquals.
-/
import Derived.Test.YtmagidoodlkeoaaGreatDoorRows
import Derived.ProofKit
import Derived.JoinedOf
import Derived.KernelRfl
set_option linter.unusedSimpArgs false
set_option linter.unusedVariables false
namespace Go.Proofs.YtmagidoodlkeoaaGreatDoor.faceEquals
theorem f1 : (Rows.faceEqualsRow.inPlace == Tryz.prog.inPlace 12) = true := by kernel_rfl
theorem f2 : (Rows.faceEqualsRow.unfollowed == Tryz.prog.unfollowed 12) = true := by kernel_rfl
theorem f3 : (Rows.faceEqualsRow.recurses == Tryz.prog.recurses 12) = true := by kernel_rfl
theorem f4 : (Rows.faceEqualsRow.named == Tryz.prog.varsNamed 12) = true := by kernel_rfl
theorem closed : joinedFacts Tryz.prog 12 Tryz.f12 Rows.faceEqualsSpec Rows.faceEqualsRow = true := by
  unfold joinedFacts
  rw [f1, f2, f3, f4]
  kernel_rfl
end Go.Proofs.YtmagidoodlkeoaaGreatDoor.faceEquals
