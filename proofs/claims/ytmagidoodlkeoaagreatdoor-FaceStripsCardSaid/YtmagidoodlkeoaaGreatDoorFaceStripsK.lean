/-
  Closed facts of the program about FaceStrips.
-/
import Derived.Test.YtmagidoodlkeoaaGreatDoorRows
import Derived.ProofKit
import Derived.JoinedOf
import Derived.KernelRfl
set_option linter.unusedSimpArgs false
set_option linter.unusedVariables false
namespace Go.Proofs.YtmagidoodlkeoaaGreatDoor.faceStrips
theorem f1 : (Rows.faceStripsRow.inPlace == Tryz.prog.inPlace 14) = true := by kernel_rfl
theorem f2 : (Rows.faceStripsRow.unfollowed == Tryz.prog.unfollowed 14) = true := by kernel_rfl
theorem f3 : (Rows.faceStripsRow.recurses == Tryz.prog.recurses 14) = true := by kernel_rfl
theorem f4 : (Rows.faceStripsRow.named == Tryz.prog.varsNamed 14) = true := by kernel_rfl
theorem closed : joinedFacts Tryz.prog 14 Tryz.f14 Rows.faceStripsSpec Rows.faceStripsRow = true := by
  unfold joinedFacts
  rw [f1, f2, f3, f4]
  kernel_rfl
end Go.Proofs.YtmagidoodlkeoaaGreatDoor.faceStrips
