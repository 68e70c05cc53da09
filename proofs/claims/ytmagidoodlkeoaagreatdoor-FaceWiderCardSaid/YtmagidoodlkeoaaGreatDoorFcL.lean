/-
  The smallest functions of package face and of its reference: their contracts.
-/
import Derived.Test.YtmagidoodlkeoaaGreatDoorFcK
import Derived.Test.YtmagidoodlkeoaaGreatDoorFcT
import Derived.Test.YtmagidoodlkeoaaGreatDoorFcW
set_option linter.unusedSimpArgs false
set_option linter.unusedVariables false
namespace Go.Proofs.YtmagidoodlkeoaaGreatDoor
open Go.RowKit

theorem within_calls (lo n hi : Int) (w : World) :
    Calls Tryz.prog 71 #[.int .i64 lo, .int .i64 n, .int .i64 hi] w fun e w' => e = .returned (.bool (decide (lo ≤ n ∧ n ≤ hi))) ∧ w = w' := by
  go_enter Tryz.func71, Tryz.ntmps71
  go_wp2
  all_goals (go_ret; exact ⟨retb (by simp; try omega), rfl⟩)
theorem rwithin_calls (n lo hi : Int) (w : World) :
    Calls Tryz.prog 73 #[.int .i64 n, .int .i64 lo, .int .i64 hi] w fun e w' => e = .returned (.bool (decide (lo ≤ n ∧ n ≤ hi))) ∧ w = w' := by
  go_enter Tryz.func73, Tryz.ntmps73
  go_wp2
  all_goals (go_ret; exact ⟨retb (by simp; try omega), rfl⟩)
theorem abs_calls (n : Int) (w : World) (h1 : -1000000000 ≤ n) (h2 : n ≤ 1000000000) :
    Calls Tryz.prog 120 #[.int .i64 n] w fun e w' => e = .returned (.int .i64 (absI n)) ∧ w = w' := by
  go_enter Tryz.func120, Tryz.ntmps120
  go_wp2
  all_goals (go_ret; exact ⟨reti (by unfold absI; omega), rfl⟩)
theorem rabs_calls (n : Int) (w : World) (h1 : -1000000000 ≤ n) (h2 : n ≤ 1000000000) :
    Calls Tryz.prog 100 #[.int .i64 n] w fun e w' => e = .returned (.int .i64 (absI n)) ∧ w = w' := by
  go_enter Tryz.func100, Tryz.ntmps100
  go_wp2
  all_goals (go_ret; exact ⟨reti (by unfold absI; omega), rfl⟩)
theorem field_calls (u : Bool) (lo n : Int) (w : World) :
    Calls Tryz.prog 104 #[.bool u, .int .i64 lo, .int .i64 n] w fun e w' => e = .returned (.bool (useB u lo n)) ∧ w = w' := by
  cases u
  all_goals
    go_enter Tryz.func104, Tryz.ntmps104
    go_wp2_with (go_at_call 71; refine (within_calls _ _ _ _).mono ?_; rintro e w' ⟨rfl, rfl⟩)
    all_goals (go_ret; exact ⟨retb (by simp [useB]), rfl⟩)
theorem fives_calls (n : Int) (w : World) (h1 : 0 ≤ n) (h2 : n ≤ 1000000000) :
    Calls Tryz.prog 84 #[.int .i64 n] w fun e w' => e = .returned (.int .i64 (fives n)) ∧ w = w' := by
  go_enter Tryz.func84, Tryz.ntmps84
  go_wp2
  all_goals (go_ret; exact ⟨reti (by unfold fives; omega), rfl⟩)

end Go.Proofs.YtmagidoodlkeoaaGreatDoor
