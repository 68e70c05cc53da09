/-
  Closed facts of the program about FacePanels.
-/
import Derived.Test.YtmagidoodlkeoaaGreatDoorRows
import Derived.ProofKit
import Derived.JoinedOf
import Derived.KernelRfl
set_option linter.unusedSimpArgs false
set_option linter.unusedVariables false
namespace Go.Proofs.YtmagidoodlkeoaaGreatDoor.facePanels
theorem f1 : (Rows.facePanelsRow.inPlace == Tryz.prog.inPlace 10) = true := by kernel_rfl
theorem f2 : (Rows.facePanelsRow.unfollowed == Tryz.prog.unfollowed 10) = true := by kernel_rfl
theorem f3 : (Rows.facePanelsRow.recurses == Tryz.prog.recurses 10) = true := by kernel_rfl
theorem f4 : (Rows.facePanelsRow.named == Tryz.prog.varsNamed 10) = true := by kernel_rfl
theorem closed : joinedFacts Tryz.prog 10 Tryz.f10 Rows.facePanelsSpec Rows.facePanelsRow = true := by
  unfold joinedFacts
  rw [f1, f2, f3, f4]
  kernel_rfl
end Go.Proofs.YtmagidoodlkeoaaGreatDoor.facePanels
