/-
  Closed facts of the program about FaceDots.
-/
import Derived.Test.YtmagidoodlkeoaaGreatDoorRows
import Derived.ProofKit
import Derived.JoinedOf
import Derived.KernelRfl
set_option linter.unusedSimpArgs false
set_option linter.unusedVariables false
namespace Go.Proofs.YtmagidoodlkeoaaGreatDoor.faceDots
theorem f1 : (Rows.faceDotsRow.inPlace == Tryz.prog.inPlace 4) = true := by kernel_rfl
theorem f2 : (Rows.faceDotsRow.unfollowed == Tryz.prog.unfollowed 4) = true := by kernel_rfl
theorem f3 : (Rows.faceDotsRow.recurses == Tryz.prog.recurses 4) = true := by kernel_rfl
theorem f4 : (Rows.faceDotsRow.named == Tryz.prog.varsNamed 4) = true := by kernel_rfl
theorem closed : joinedFacts Tryz.prog 4 Tryz.f4 Rows.faceDotsSpec Rows.faceDotsRow = true := by
  unfold joinedFacts
  rw [f1, f2, f3, f4]
  kernel_rfl
end Go.Proofs.YtmagidoodlkeoaaGreatDoor.faceDots
