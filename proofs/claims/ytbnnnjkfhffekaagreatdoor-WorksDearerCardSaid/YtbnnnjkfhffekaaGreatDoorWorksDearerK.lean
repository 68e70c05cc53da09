/-
  Closed facts of the program about WorksDearer.
-/
import Derived.Test.YtbnnnjkfhffekaaGreatDoorRows
import Derived.ProofKit
import Derived.JoinedOf
import Derived.KernelRfl
set_option linter.unusedSimpArgs false
set_option linter.unusedVariables false
namespace Go.Proofs.YtbnnnjkfhffekaaGreatDoor.worksDearer
theorem f1 : (Rows.worksDearerRow.inPlace == Tryz.prog.inPlace 7) = true := by kernel_rfl
theorem f2 : (Rows.worksDearerRow.unfollowed == Tryz.prog.unfollowed 7) = true := by kernel_rfl
theorem f3 : (Rows.worksDearerRow.recurses == Tryz.prog.recurses 7) = true := by kernel_rfl
theorem f4 : (Rows.worksDearerRow.named == Tryz.prog.varsNamed 7) = true := by kernel_rfl
theorem closed : joinedFacts Tryz.prog 7 Tryz.f7 Rows.worksDearerSpec Rows.worksDearerRow = true := by
  unfold joinedFacts
  rw [f1, f2, f3, f4]
  kernel_rfl
end Go.Proofs.YtbnnnjkfhffekaaGreatDoor.worksDearer
