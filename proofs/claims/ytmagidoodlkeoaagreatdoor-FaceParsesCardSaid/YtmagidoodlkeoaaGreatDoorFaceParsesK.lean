/-
  Closed facts of the program about FaceParses.
-/
import Derived.Test.YtmagidoodlkeoaaGreatDoorRows
import Derived.ProofKit
import Derived.JoinedOf
import Derived.KernelRfl
set_option linter.unusedSimpArgs false
set_option linter.unusedVariables false
namespace Go.Proofs.YtmagidoodlkeoaaGreatDoor.faceParses
theorem f1 : (Rows.faceParsesRow.inPlace == Tryz.prog.inPlace 3) = true := by kernel_rfl
theorem f2 : (Rows.faceParsesRow.unfollowed == Tryz.prog.unfollowed 3) = true := by kernel_rfl
theorem f3 : (Rows.faceParsesRow.recurses == Tryz.prog.recurses 3) = true := by kernel_rfl
theorem f4 : (Rows.faceParsesRow.named == Tryz.prog.varsNamed 3) = true := by kernel_rfl
theorem closed : joinedFacts Tryz.prog 3 Tryz.f3 Rows.faceParsesSpec Rows.faceParsesRow = true := by
  unfold joinedFacts
  rw [f1, f2, f3, f4]
  kernel_rfl
end Go.Proofs.YtmagidoodlkeoaaGreatDoor.faceParses
