/-
  Closed facts of the program about WorksInvoices.
-/
import Derived.Test.YtbnnnjkfhffekaaGreatDoorRows
import Derived.ProofKit
import Derived.JoinedOf
import Derived.KernelRfl
set_option linter.unusedSimpArgs false
set_option linter.unusedVariables false
namespace Go.Proofs.YtbnnnjkfhffekaaGreatDoor.worksInvoices
theorem f1 : (Rows.worksInvoicesRow.inPlace == Tryz.prog.inPlace 4) = true := by kernel_rfl
theorem f2 : (Rows.worksInvoicesRow.unfollowed == Tryz.prog.unfollowed 4) = true := by kernel_rfl
theorem f3 : (Rows.worksInvoicesRow.recurses == Tryz.prog.recurses 4) = true := by kernel_rfl
theorem f4 : (Rows.worksInvoicesRow.named == Tryz.prog.varsNamed 4) = true := by kernel_rfl
theorem closed : joinedFacts Tryz.prog 4 Tryz.f4 Rows.worksInvoicesSpec Rows.worksInvoicesRow = true := by
  unfold joinedFacts
  rw [f1, f2, f3, f4]
  kernel_rfl
end Go.Proofs.YtbnnnjkfhffekaaGreatDoor.worksInvoices
