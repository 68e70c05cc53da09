/-
  Closed facts of the program about WorksWarranty.
-/
import Derived.Test.YtbnnnjkfhffekaaGreatDoorRows
import Derived.ProofKit
import Derived.JoinedOf
import Derived.KernelRfl
set_option linter.unusedSimpArgs false
set_option linter.unusedVariables false
namespace Go.Proofs.YtbnnnjkfhffekaaGreatDoor.worksWarranty
theorem f1 : (Rows.worksWarrantyRow.inPlace == Tryz.prog.inPlace 6) = true := by kernel_rfl
theorem f2 : (Rows.worksWarrantyRow.unfollowed == Tryz.prog.unfollowed 6) = true := by kernel_rfl
theorem f3 : (Rows.worksWarrantyRow.recurses == Tryz.prog.recurses 6) = true := by kernel_rfl
theorem f4 : (Rows.worksWarrantyRow.named == Tryz.prog.varsNamed 6) = true := by kernel_rfl
theorem closed : joinedFacts Tryz.prog 6 Tryz.f6 Rows.worksWarrantySpec Rows.worksWarrantyRow = true := by
  unfold joinedFacts
  rw [f1, f2, f3, f4]
  kernel_rfl
end Go.Proofs.YtbnnnjkfhffekaaGreatDoor.worksWarranty
