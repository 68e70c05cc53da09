/-
  The letters of package face: the contract of Letter.
-/
import Derived.Test.YtfklckjfbnaoeaaGreatDoorWaK
import Derived.Laws.NewBlocks
set_option linter.unusedSimpArgs false
set_option linter.unusedVariables false
namespace Go.Proofs.YtfklckjfbnaoeaaGreatDoor
open Go.RowKit

/-- The rows of a letter, as they are returned. -/
def letV (c : Int) : Value := .agg ((rowsL c).map (Value.int .i64)).toArray
set_option maxHeartbeats 4000000 in
set_option maxRecDepth 100000 in
theorem letter_calls (c : Int) (w : World) (h0 : 0 ≤ c) (h1 : c ≤ 255) :
    Calls Tryz.prog 299 #[.int .u8 c] w fun e w' => e = .returned (.tuple #[letV c, .bool (isL c)]) ∧ Below w.heap.size w w' := by
  go_enter Tryz.func299, Tryz.ntmps299
  go_wp2_with fail
  all_goals first
    | (have hcc := eq_of_beq (show (c == _) = true by assumption)
       subst hcc
       (try simp only [Exit.inBlock, Exit.then])
       refine bodyPost_ret_by (v := .tuple #[letV _, .bool (isL _)]) ?_ rfl ⟨rfl, below_alloc' (Below.refl _ _) _⟩
       simp [results, Tryz.results299, go_sem, letV, rowsL, tabL, isL]; done)
    | (simp only [beq_eq_false_iff_ne, ne_eq] at *
       have hc2 : isL c = false := by unfold isL; rw [decide_eq_false_iff_not]; omega
       (try simp only [Exit.inBlock, Exit.then])
       refine bodyPost_ret_by (v := .tuple #[letV c, .bool (isL c)]) ?_ rfl ⟨rfl, below_alloc' (Below.refl _ _) _⟩
       have e : rowsL c = [0, 0, 0, 0, 0, 0, 0] := by
         simp only [isL, decide_eq_false_iff_not] at hc2
         unfold rowsL; rw [if_neg (by omega), if_neg (by omega)]
       simp [results, Tryz.results299, go_sem, letV, e, hc2])

end Go.Proofs.YtfklckjfbnaoeaaGreatDoor
