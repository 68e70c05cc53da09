/-
  Closed facts of the program about WorksNils.
-/
import Derived.Test.YtfklckjfbnaoeaaGreatDoorRows
import Derived.ProofKit
import Derived.JoinedOf
import Derived.KernelRfl
set_option linter.unusedSimpArgs false
set_option linter.unusedVariables false
namespace Go.Proofs.YtfklckjfbnaoeaaGreatDoor.worksNils
theorem f1 : (Rows.worksNilsRow.inPlace == Tryz.prog.inPlace 4) = true := by kernel_rfl
theorem f2 : (Rows.worksNilsRow.unfollowed == Tryz.prog.unfollowed 4) = true := by kernel_rfl
theorem f3 : (Rows.worksNilsRow.recurses == Tryz.prog.recurses 4) = true := by kernel_rfl
theorem f4 : (Rows.worksNilsRow.named == Tryz.prog.varsNamed 4) = true := by kernel_rfl
theorem closed : joinedFacts Tryz.prog 4 Tryz.f4 Rows.worksNilsSpec Rows.worksNilsRow = true := by
  unfold joinedFacts
  rw [f1, f2, f3, f4]
  kernel_rfl
end Go.Proofs.YtfklckjfbnaoeaaGreatDoor.worksNils
