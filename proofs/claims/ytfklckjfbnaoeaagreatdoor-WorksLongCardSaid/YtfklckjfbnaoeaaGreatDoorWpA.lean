/-
  Which setups are valid, both sides.
-/
import Derived.Test.YtfklckjfbnaoeaaGreatDoorFcVk
import Derived.Test.YtfklckjfbnaoeaaGreatDoorWoI
set_option linter.unusedSimpArgs false
set_option linter.unusedVariables false
namespace Go.Proofs.YtfklckjfbnaoeaaGreatDoor
open Go.RowKit

theorem lwithin_calls (lo n hi : Int) (w : World) :
    Calls Tryz.prog 89 #[.int .i64 lo, .int .i64 n, .int .i64 hi] w fun e w' => e = .returned (.bool (decide (lo ≤ n ∧ n ≤ hi))) ∧ w = w' := by
  go_enter Tryz.func89, Tryz.ntmps89
  go_wp2
  all_goals (go_ret; exact ⟨retb (by simp; try omega), rfl⟩)
theorem swithin_calls (lo n hi : Int) (w : World) :
    Calls Tryz.prog 88 #[.int .i64 lo, .int .i64 n, .int .i64 hi] w fun e w' => e = .returned (.bool (decide (lo ≤ n ∧ n ≤ hi))) ∧ w = w' := by
  go_enter Tryz.func88, Tryz.ntmps88
  go_wp2
  all_goals (go_ret; exact ⟨retb (by simp; try omega), rfl⟩)
theorem sfrom_calls (lo n hi : Int) (w : World) :
    Calls Tryz.prog 61 #[.int .i64 lo, .int .i64 n, .int .i64 hi] w fun e w' => e = .returned (.bool (decide (lo ≤ n ∧ n ≤ hi))) ∧ w = w' := by
  go_enter Tryz.func61, Tryz.ntmps61
  go_wp2
  all_goals (go_ret; exact ⟨retb (by simp; try omega), rfl⟩)
theorem ageable_calls (k : Int) (w : World) :
    Calls Tryz.prog 90 #[.int .i64 k, .int .i64 0] w fun e w' => e = .returned (.bool (decide (0 ≤ k ∧ k ≤ 1000))) ∧ w = w' := by
  by_cases hk : 0 ≤ k ∧ k ≤ 1000
  · have d : decide (0 ≤ k ∧ k ≤ 1000) = true := decide_eq_true hk
    rw [d]
    clear hk
    go_enter Tryz.func90, Tryz.ntmps90
    go_wp2_with (go_at_call 89; refine (lwithin_calls _ _ _ _).mono ?_; rintro e w' ⟨rfl, rfl⟩)
    go_ret
    exact ⟨by simp, rfl⟩
  · have d : decide (0 ≤ k ∧ k ≤ 1000) = false := decide_eq_false hk
    rw [d]
    clear hk
    go_enter Tryz.func90, Tryz.ntmps90
    go_wp2_with (go_at_call 89; refine (lwithin_calls _ _ _ _).mono ?_; rintro e w' ⟨rfl, rfl⟩)
    go_ret
    exact ⟨by simp, rfl⟩

end Go.Proofs.YtfklckjfbnaoeaaGreatDoor
