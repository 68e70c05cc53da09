/-
  The smallest functions of package rule and of its reference: their contracts.
-/
import Derived.Test.YtmpngoejnmlmbaaGreatProg
import Derived.Test.YtmpngoejnmlmbaaGreatKit
import Derived.Test.YtmpngoejnmlmbaaGreatPlain
set_option linter.unusedSimpArgs false
set_option linter.unusedVariables false
namespace Go.Proofs.YtmpngoejnmlmbaaGreat
open Go.RowKit

theorem within_calls (lo n hi : Int) (w : World) :
    Calls Tryz.prog 50 #[.int .i64 lo, .int .i64 n, .int .i64 hi] w fun e w' => e = .returned (.bool (decide (lo ≤ n ∧ n ≤ hi))) ∧ w = w' := by
  go_enter Tryz.func50, Tryz.ntmps50
  go_wp2
  all_goals (go_ret; exact ⟨retb (by simp; try omega), rfl⟩)

theorem rwithin_calls (n lo hi : Int) (w : World) :
    Calls Tryz.prog 77 #[.int .i64 n, .int .i64 lo, .int .i64 hi] w fun e w' => e = .returned (.bool (decide (lo ≤ n ∧ n ≤ hi))) ∧ w = w' := by
  go_enter Tryz.func77, Tryz.ntmps77
  go_wp2
  all_goals (go_ret; exact ⟨retb (by simp; try omega), rfl⟩)

theorem direction_calls (d : Int) (w : World) :
    Calls Tryz.prog 78 #[.int .i64 d] w fun e w' => e = .returned (.bool (dirB d)) ∧ w = w' := by
  go_enter Tryz.func78, Tryz.ntmps78
  go_wp2
  all_goals (go_ret; refine ⟨retb ?_, rfl⟩; simp [dirB]; try omega)

theorem rdirection_calls (d : Int) (w : World) :
    Calls Tryz.prog 84 #[.int .i64 d] w fun e w' => e = .returned (.bool (dirB d)) ∧ w = w' := by
  go_enter Tryz.func84, Tryz.ntmps84
  go_wp2
  all_goals (go_ret; refine ⟨retb ?_, rfl⟩; simp [dirB]; try omega)

theorem hours_calls (a b : Int) (w : World) :
    Calls Tryz.prog 103 #[.int .i64 a, .int .i64 b] w fun e w' => e = .returned (.bool (hoursB a b)) ∧ w = w' := by
  go_enter Tryz.func103, Tryz.ntmps103
  go_wp2
  all_goals (go_ret; refine ⟨retb ?_, rfl⟩; simp [hoursB]; try omega)

theorem rhours_calls (a b : Int) (w : World) :
    Calls Tryz.prog 85 #[.int .i64 a, .int .i64 b] w fun e w' => e = .returned (.bool (hoursB a b)) ∧ w = w' := by
  go_enter Tryz.func85, Tryz.ntmps85
  go_wp2
  all_goals (go_ret; refine ⟨retb ?_, rfl⟩; simp [hoursB]; try omega)

theorem valued_calls (a b : Int) (w : World) :
    Calls Tryz.prog 102 #[.int .i64 a, .int .i64 b] w fun e w' => e = .returned (.bool (valuedB a b)) ∧ w = w' := by
  go_enter Tryz.func102, Tryz.ntmps102
  go_wp2_with (go_at_call 50; refine (within_calls _ _ _ _).mono ?_; rintro e w' ⟨rfl, rfl⟩)
  all_goals (go_ret; refine ⟨retb ?_, rfl⟩; go_light; (try simp only [beq_iff_eq, beq_eq_false_iff_ne, ne_eq, bne_iff_ne, bne_eq_false_iff_eq, decide_eq_true_eq, decide_eq_false_iff_not, Bool.and_eq_true, Bool.or_eq_true, Bool.and_eq_false_iff, Bool.or_eq_false_iff, Bool.not_eq_true', Bool.not_eq_false', Bool.not_eq_true] at *); (try unfold valuedB); (repeat' split) <;> (try simp) <;> (try omega))

theorem value_calls (a b : Int) (w : World) :
    Calls Tryz.prog 83 #[.int .i64 a, .int .i64 b] w fun e w' => e = .returned (.bool (rvaluedB a b)) ∧ w = w' := by
  go_enter Tryz.func83, Tryz.ntmps83
  go_wp2_with (go_at_call 77; refine (rwithin_calls _ _ _ _).mono ?_; rintro e w' ⟨rfl, rfl⟩)
  all_goals (go_ret; refine ⟨retb ?_, rfl⟩; go_light; (try simp only [beq_iff_eq, beq_eq_false_iff_ne, ne_eq, bne_iff_ne, bne_eq_false_iff_eq, decide_eq_true_eq, decide_eq_false_iff_not, Bool.and_eq_true, Bool.or_eq_true, Bool.and_eq_false_iff, Bool.or_eq_false_iff, Bool.not_eq_true', Bool.not_eq_false', Bool.not_eq_true] at *); (try unfold rvaluedB valuedB); (repeat' split) <;> (try simp) <;> (try omega))

theorem hour_calls (a : Int) (w : World) :
    Calls Tryz.prog 13 #[.int .i64 a] w fun e w' => e = .returned (.bool (decide (0 ≤ a ∧ a ≤ 10000000))) ∧ w = w' := by
  go_enter Tryz.func13, Tryz.ntmps13
  go_wp2
  all_goals (go_ret; refine ⟨retb ?_, rfl⟩; go_light; (try simp only [beq_iff_eq, beq_eq_false_iff_ne, ne_eq, bne_iff_ne, bne_eq_false_iff_eq, decide_eq_true_eq, decide_eq_false_iff_not, Bool.and_eq_true, Bool.or_eq_true, Bool.and_eq_false_iff, Bool.or_eq_false_iff, Bool.not_eq_true', Bool.not_eq_false', Bool.not_eq_true] at *); (try unfold dirB); (repeat' split) <;> (try simp) <;> (try omega))

theorem way_calls (d : Int) (w : World) :
    Calls Tryz.prog 14 #[.int .i64 d] w fun e w' => e = .returned (.bool (dirB d)) ∧ w = w' := by
  go_enter Tryz.func14, Tryz.ntmps14
  go_wp2
  all_goals (go_ret; refine ⟨retb ?_, rfl⟩; go_light; (try simp only [beq_iff_eq, beq_eq_false_iff_ne, ne_eq, bne_iff_ne, bne_eq_false_iff_eq, decide_eq_true_eq, decide_eq_false_iff_not, Bool.and_eq_true, Bool.or_eq_true, Bool.and_eq_false_iff, Bool.or_eq_false_iff, Bool.not_eq_true', Bool.not_eq_false', Bool.not_eq_true] at *); (try unfold dirB); (repeat' split) <;> (try simp) <;> (try omega))

end Go.Proofs.YtmpngoejnmlmbaaGreat
