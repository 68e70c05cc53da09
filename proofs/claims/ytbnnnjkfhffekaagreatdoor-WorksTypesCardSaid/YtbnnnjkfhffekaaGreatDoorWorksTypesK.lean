/-
  Closed facts of the program about WorksTypes.
-/
import Derived.Test.YtbnnnjkfhffekaaGreatDoorRows
import Derived.ProofKit
import Derived.JoinedOf
import Derived.KernelRfl
set_option linter.unusedSimpArgs false
set_option linter.unusedVariables false
namespace Go.Proofs.YtbnnnjkfhffekaaGreatDoor.worksTypes
theorem f1 : (Rows.worksTypesRow.inPlace == Tryz.prog.inPlace 8) = true := by kernel_rfl
theorem f2 : (Rows.worksTypesRow.unfollowed == Tryz.prog.unfollowed 8) = true := by kernel_rfl
theorem f3 : (Rows.worksTypesRow.recurses == Tryz.prog.recurses 8) = true := by kernel_rfl
theorem f4 : (Rows.worksTypesRow.named == Tryz.prog.varsNamed 8) = true := by kernel_rfl
theorem closed : joinedFacts Tryz.prog 8 Tryz.f8 Rows.worksTypesSpec Rows.worksTypesRow = true := by
  unfold joinedFacts
  rw [f1, f2, f3, f4]
  kernel_rfl
end Go.Proofs.YtbnnnjkfhffekaaGreatDoor.worksTypes
