/-
  within and from.
-/
import Derived.Test.YtfklckjfbnaoeaaGreatDoorFcVk
set_option linter.unusedSimpArgs false
set_option linter.unusedVariables false
namespace Go.Proofs.YtfklckjfbnaoeaaGreatDoor
open Go.RowKit

theorem wwithin_calls (lo n hi : Int) (w : World) :
    Calls Tryz.prog 31 #[.int .i64 lo, .int .i64 n, .int .i64 hi] w fun e w' => e = .returned (.bool (decide (lo ≤ n ∧ n ≤ hi))) ∧ w = w' := by
  go_enter Tryz.func31, Tryz.ntmps31
  go_wp2
  all_goals (go_ret; exact ⟨retb (by simp; try omega), rfl⟩)

theorem wfrom_calls (lo n hi : Int) (w : World) :
    Calls Tryz.prog 27 #[.int .i64 lo, .int .i64 n, .int .i64 hi] w fun e w' => e = .returned (.bool (decide (lo ≤ n ∧ n ≤ hi))) ∧ w = w' := by
  go_enter Tryz.func27, Tryz.ntmps27
  go_wp2
  all_goals (go_ret; exact ⟨retb (by simp; try omega), rfl⟩)

theorem wfrom_b (lo n hi : Int) (w : World) :
    Calls Tryz.prog 27 #[.int .i64 lo, .int .i64 n, .int .i64 hi] w fun e w' => e = .returned (.bool (wiB lo n hi)) ∧ w = w' := wfrom_calls lo n hi w

end Go.Proofs.YtfklckjfbnaoeaaGreatDoor
