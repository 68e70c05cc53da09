/-
  The smallest functions of package rule and of its reference: their contracts.
-/
import Derived.Test.YtmpngoejnmlmbaaProg
import Derived.Test.YtmpngoejnmlmbaaKit
import Derived.Test.YtmpngoejnmlmbaaPlain
set_option linter.unusedSimpArgs false
set_option linter.unusedVariables false
namespace Go.Proofs.Ytmpngoejnmlmbaa
open Go.RowKit

theorem within_calls (lo n hi : Int) (w : World) :
    Calls Try.prog 47 #[.int .i64 lo, .int .i64 n, .int .i64 hi] w fun e w' => e = .returned (.bool (decide (lo ≤ n ∧ n ≤ hi))) ∧ w = w' := by
  go_enter Try.func47, Try.ntmps47
  go_wp2
  all_goals (go_ret; exact ⟨retb (by simp; try omega), rfl⟩)

theorem rwithin_calls (n lo hi : Int) (w : World) :
    Calls Try.prog 48 #[.int .i64 n, .int .i64 lo, .int .i64 hi] w fun e w' => e = .returned (.bool (decide (lo ≤ n ∧ n ≤ hi))) ∧ w = w' := by
  go_enter Try.func48, Try.ntmps48
  go_wp2
  all_goals (go_ret; exact ⟨retb (by simp; try omega), rfl⟩)

theorem direction_calls (d : Int) (w : World) :
    Calls Try.prog 84 #[.int .i64 d] w fun e w' => e = .returned (.bool (dirB d)) ∧ w = w' := by
  go_enter Try.func84, Try.ntmps84
  go_wp2
  all_goals (go_ret; refine ⟨retb ?_, rfl⟩; simp [dirB]; try omega)

theorem rdirection_calls (d : Int) (w : World) :
    Calls Try.prog 53 #[.int .i64 d] w fun e w' => e = .returned (.bool (dirB d)) ∧ w = w' := by
  go_enter Try.func53, Try.ntmps53
  go_wp2
  all_goals (go_ret; refine ⟨retb ?_, rfl⟩; simp [dirB]; try omega)

theorem hours_calls (a b : Int) (w : World) :
    Calls Try.prog 89 #[.int .i64 a, .int .i64 b] w fun e w' => e = .returned (.bool (hoursB a b)) ∧ w = w' := by
  go_enter Try.func89, Try.ntmps89
  go_wp2
  all_goals (go_ret; refine ⟨retb ?_, rfl⟩; simp [hoursB]; try omega)

theorem rhours_calls (a b : Int) (w : World) :
    Calls Try.prog 54 #[.int .i64 a, .int .i64 b] w fun e w' => e = .returned (.bool (hoursB a b)) ∧ w = w' := by
  go_enter Try.func54, Try.ntmps54
  go_wp2
  all_goals (go_ret; refine ⟨retb ?_, rfl⟩; simp [hoursB]; try omega)

theorem valued_calls (a b : Int) (w : World) :
    Calls Try.prog 88 #[.int .i64 a, .int .i64 b] w fun e w' => e = .returned (.bool (valuedB a b)) ∧ w = w' := by
  go_enter Try.func88, Try.ntmps88
  go_wp2_with (go_at_call 47; refine (within_calls _ _ _ _).mono ?_; rintro e w' ⟨rfl, rfl⟩)
  all_goals (go_ret; refine ⟨retb ?_, rfl⟩; go_light; (try simp only [beq_iff_eq, beq_eq_false_iff_ne, ne_eq, bne_iff_ne, bne_eq_false_iff_eq, decide_eq_true_eq, decide_eq_false_iff_not, Bool.and_eq_true, Bool.or_eq_true, Bool.and_eq_false_iff, Bool.or_eq_false_iff, Bool.not_eq_true', Bool.not_eq_false', Bool.not_eq_true] at *); (try unfold valuedB); (repeat' split) <;> (try simp) <;> (try omega))

theorem value_calls (a b : Int) (w : World) :
    Calls Try.prog 52 #[.int .i64 a, .int .i64 b] w fun e w' => e = .returned (.bool (rvaluedB a b)) ∧ w = w' := by
  go_enter Try.func52, Try.ntmps52
  go_wp2_with (go_at_call 48; refine (rwithin_calls _ _ _ _).mono ?_; rintro e w' ⟨rfl, rfl⟩)
  all_goals (go_ret; refine ⟨retb ?_, rfl⟩; go_light; (try simp only [beq_iff_eq, beq_eq_false_iff_ne, ne_eq, bne_iff_ne, bne_eq_false_iff_eq, decide_eq_true_eq, decide_eq_false_iff_not, Bool.and_eq_true, Bool.or_eq_true, Bool.and_eq_false_iff, Bool.or_eq_false_iff, Bool.not_eq_true', Bool.not_eq_false', Bool.not_eq_true] at *); (try unfold rvaluedB valuedB); (repeat' split) <;> (try simp) <;> (try omega))

theorem hour_calls (a : Int) (w : World) :
    Calls Try.prog 16 #[.int .i64 a] w fun e w' => e = .returned (.bool (decide (0 ≤ a ∧ a ≤ 10000000))) ∧ w = w' := by
  go_enter Try.func16, Try.ntmps16
  go_wp2
  all_goals (go_ret; refine ⟨retb ?_, rfl⟩; go_light; (try simp only [beq_iff_eq, beq_eq_false_iff_ne, ne_eq, bne_iff_ne, bne_eq_false_iff_eq, decide_eq_true_eq, decide_eq_false_iff_not, Bool.and_eq_true, Bool.or_eq_true, Bool.and_eq_false_iff, Bool.or_eq_false_iff, Bool.not_eq_true', Bool.not_eq_false', Bool.not_eq_true] at *); (try unfold dirB); (repeat' split) <;> (try simp) <;> (try omega))

theorem way_calls (d : Int) (w : World) :
    Calls Try.prog 17 #[.int .i64 d] w fun e w' => e = .returned (.bool (dirB d)) ∧ w = w' := by
  go_enter Try.func17, Try.ntmps17
  go_wp2
  all_goals (go_ret; refine ⟨retb ?_, rfl⟩; go_light; (try simp only [beq_iff_eq, beq_eq_false_iff_ne, ne_eq, bne_iff_ne, bne_eq_false_iff_eq, decide_eq_true_eq, decide_eq_false_iff_not, Bool.and_eq_true, Bool.or_eq_true, Bool.and_eq_false_iff, Bool.or_eq_false_iff, Bool.not_eq_true', Bool.not_eq_false', Bool.not_eq_true] at *); (try unfold dirB); (repeat' split) <;> (try simp) <;> (try omega))

end Go.Proofs.Ytmpngoejnmlmbaa
