/-
  Closed facts of the program about WorksMany.
-/
import Derived.Test.YtbnnnjkfhffekaaGreatDoorRows
import Derived.ProofKit
import Derived.JoinedOf
import Derived.KernelRfl
set_option linter.unusedSimpArgs false
set_option linter.unusedVariables false
namespace Go.Proofs.YtbnnnjkfhffekaaGreatDoor.worksMany
theorem f1 : (Rows.worksManyRow.inPlace == Tryz.prog.inPlace 5) = true := by kernel_rfl
theorem f2 : (Rows.worksManyRow.unfollowed == Tryz.prog.unfollowed 5) = true := by kernel_rfl
theorem f3 : (Rows.worksManyRow.recurses == Tryz.prog.recurses 5) = true := by kernel_rfl
theorem f4 : (Rows.worksManyRow.named == Tryz.prog.varsNamed 5) = true := by kernel_rfl
theorem closed : joinedFacts Tryz.prog 5 Tryz.f5 Rows.worksManySpec Rows.worksManyRow = true := by
  unfold joinedFacts
  rw [f1, f2, f3, f4]
  kernel_rfl
end Go.Proofs.YtbnnnjkfhffekaaGreatDoor.worksMany
