/-
  within and from.
-/
import Derived.Test.YtbnnnjkfhffekaaGreatDoorFcVk
set_option linter.unusedSimpArgs false
set_option linter.unusedVariables false
namespace Go.Proofs.YtbnnnjkfhffekaaGreatDoor
open Go.RowKit

theorem wwithin_calls (lo n hi : Int) (w : World) :
    Calls Tryz.prog 30 #[.int .i64 lo, .int .i64 n, .int .i64 hi] w fun e w' => e = .returned (.bool (decide (lo ≤ n ∧ n ≤ hi))) ∧ w = w' := by
  go_enter Tryz.func30, Tryz.ntmps30
  go_wp2
  all_goals (go_ret; exact ⟨retb (by simp; try omega), rfl⟩)

theorem wfrom_calls (lo n hi : Int) (w : World) :
    Calls Tryz.prog 26 #[.int .i64 lo, .int .i64 n, .int .i64 hi] w fun e w' => e = .returned (.bool (decide (lo ≤ n ∧ n ≤ hi))) ∧ w = w' := by
  go_enter Tryz.func26, Tryz.ntmps26
  go_wp2
  all_goals (go_ret; exact ⟨retb (by simp; try omega), rfl⟩)

theorem wfrom_b (lo n hi : Int) (w : World) :
    Calls Tryz.prog 26 #[.int .i64 lo, .int .i64 n, .int .i64 hi] w fun e w' => e = .returned (.bool (wiB lo n hi)) ∧ w = w' := wfrom_calls lo n hi w

end Go.Proofs.YtbnnnjkfhffekaaGreatDoor
