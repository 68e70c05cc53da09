/-
  Closed facts of the program about FaceFormats.
-/
import Derived.Test.YtmagidoodlkeoaaGreatDoorRows
import Derived.ProofKit
import Derived.JoinedOf
import Derived.KernelRfl
set_option linter.unusedSimpArgs false
set_option linter.unusedVariables false
namespace Go.Proofs.YtmagidoodlkeoaaGreatDoor.faceFormats
theorem f1 : (Rows.faceFormatsRow.inPlace == Tryz.prog.inPlace 6) = true := by kernel_rfl
theorem f2 : (Rows.faceFormatsRow.unfollowed == Tryz.prog.unfollowed 6) = true := by kernel_rfl
theorem f3 : (Rows.faceFormatsRow.recurses == Tryz.prog.recurses 6) = true := by kernel_rfl
theorem f4 : (Rows.faceFormatsRow.named == Tryz.prog.varsNamed 6) = true := by kernel_rfl
theorem closed : joinedFacts Tryz.prog 6 Tryz.f6 Rows.faceFormatsSpec Rows.faceFormatsRow = true := by
  unfold joinedFacts
  rw [f1, f2, f3, f4]
  kernel_rfl
end Go.Proofs.YtmagidoodlkeoaaGreatDoor.faceFormats
