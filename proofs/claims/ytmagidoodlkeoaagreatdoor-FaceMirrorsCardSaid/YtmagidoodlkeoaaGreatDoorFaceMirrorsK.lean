/-
  Closed facts of the program about FaceMirrors.
-/
import Derived.Test.YtmagidoodlkeoaaGreatDoorRows
import Derived.ProofKit
import Derived.JoinedOf
import Derived.KernelRfl
set_option linter.unusedSimpArgs false
set_option linter.unusedVariables false
namespace Go.Proofs.YtmagidoodlkeoaaGreatDoor.faceMirrors
theorem f1 : (Rows.faceMirrorsRow.inPlace == Tryz.prog.inPlace 18) = true := by kernel_rfl
theorem f2 : (Rows.faceMirrorsRow.unfollowed == Tryz.prog.unfollowed 18) = true := by kernel_rfl
theorem f3 : (Rows.faceMirrorsRow.recurses == Tryz.prog.recurses 18) = true := by kernel_rfl
theorem f4 : (Rows.faceMirrorsRow.named == Tryz.prog.varsNamed 18) = true := by kernel_rfl
theorem closed : joinedFacts Tryz.prog 18 Tryz.f18 Rows.faceMirrorsSpec Rows.faceMirrorsRow = true := by
  unfold joinedFacts
  rw [f1, f2, f3, f4]
  kernel_rfl
end Go.Proofs.YtmagidoodlkeoaaGreatDoor.faceMirrors
