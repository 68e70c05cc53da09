/-
  Closed facts of the program about FaceRows.
-/
import Derived.Test.YtmagidoodlkeoaaGreatDoorRows
import Derived.ProofKit
import Derived.JoinedOf
import Derived.KernelRfl
set_option linter.unusedSimpArgs false
set_option linter.unusedVariables false
namespace Go.Proofs.YtmagidoodlkeoaaGreatDoor.faceRows
theorem f1 : (Rows.faceRowsRow.inPlace == Tryz.prog.inPlace 9) = true := by kernel_rfl
theorem f2 : (Rows.faceRowsRow.unfollowed == Tryz.prog.unfollowed 9) = true := by kernel_rfl
theorem f3 : (Rows.faceRowsRow.recurses == Tryz.prog.recurses 9) = true := by kernel_rfl
theorem f4 : (Rows.faceRowsRow.named == Tryz.prog.varsNamed 9) = true := by kernel_rfl
theorem closed : joinedFacts Tryz.prog 9 Tryz.f9 Rows.faceRowsSpec Rows.faceRowsRow = true := by
  unfold joinedFacts
  rw [f1, f2, f3, f4]
  kernel_rfl
end Go.Proofs.YtmagidoodlkeoaaGreatDoor.faceRows
