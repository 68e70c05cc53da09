/-
  Closed facts of the program about WorksLong.
-/
import Derived.Test.YtfklckjfbnaoeaaGreatDoorRows
import Derived.ProofKit
import Derived.JoinedOf
import Derived.KernelRfl
set_option linter.unusedSimpArgs false
set_option linter.unusedVariables false
namespace Go.Proofs.YtfklckjfbnaoeaaGreatDoor.worksLong
theorem f1 : (Rows.worksLongRow.inPlace == Tryz.prog.inPlace 3) = true := by kernel_rfl
theorem f2 : (Rows.worksLongRow.unfollowed == Tryz.prog.unfollowed 3) = true := by kernel_rfl
theorem f3 : (Rows.worksLongRow.recurses == Tryz.prog.recurses 3) = true := by kernel_rfl
theorem f4 : (Rows.worksLongRow.named == Tryz.prog.varsNamed 3) = true := by kernel_rfl
theorem closed : joinedFacts Tryz.prog 3 Tryz.f3 Rows.worksLongSpec Rows.worksLongRow = true := by
  unfold joinedFacts
  rw [f1, f2, f3, f4]
  kernel_rfl
end Go.Proofs.YtfklckjfbnaoeaaGreatDoor.worksLong
