/-
  Closed facts of the program about FaceAreas.
-/
import Derived.Test.YtmagidoodlkeoaaGreatDoorRows
import Derived.ProofKit
import Derived.JoinedOf
import Derived.KernelRfl
set_option linter.unusedSimpArgs false
set_option linter.unusedVariables false
namespace Go.Proofs.YtmagidoodlkeoaaGreatDoor.faceAreas
theorem f1 : (Rows.faceAreasRow.inPlace == Tryz.prog.inPlace 19) = true := by kernel_rfl
theorem f2 : (Rows.faceAreasRow.unfollowed == Tryz.prog.unfollowed 19) = true := by kernel_rfl
theorem f3 : (Rows.faceAreasRow.recurses == Tryz.prog.recurses 19) = true := by kernel_rfl
theorem f4 : (Rows.faceAreasRow.named == Tryz.prog.varsNamed 19) = true := by kernel_rfl
theorem closed : joinedFacts Tryz.prog 19 Tryz.f19 Rows.faceAreasSpec Rows.faceAreasRow = true := by
  unfold joinedFacts
  rw [f1, f2, f3, f4]
  kernel_rfl
end Go.Proofs.YtmagidoodlkeoaaGreatDoor.faceAreas
