/-
  Closed facts of the program about WorksPrices.
-/
import Derived.Test.YtbnnnjkfhffekaaGreatDoorRows
import Derived.ProofKit
import Derived.JoinedOf
import Derived.KernelRfl
set_option linter.unusedSimpArgs false
set_option linter.unusedVariables false
namespace Go.Proofs.YtbnnnjkfhffekaaGreatDoor.worksPrices
theorem f1 : (Rows.worksPricesRow.inPlace == Tryz.prog.inPlace 3) = true := by kernel_rfl
theorem f2 : (Rows.worksPricesRow.unfollowed == Tryz.prog.unfollowed 3) = true := by kernel_rfl
theorem f3 : (Rows.worksPricesRow.recurses == Tryz.prog.recurses 3) = true := by kernel_rfl
theorem f4 : (Rows.worksPricesRow.named == Tryz.prog.varsNamed 3) = true := by kernel_rfl
theorem closed : joinedFacts Tryz.prog 3 Tryz.f3 Rows.worksPricesSpec Rows.worksPricesRow = true := by
  unfold joinedFacts
  rw [f1, f2, f3, f4]
  kernel_rfl
end Go.Proofs.YtbnnnjkfhffekaaGreatDoor.worksPrices
