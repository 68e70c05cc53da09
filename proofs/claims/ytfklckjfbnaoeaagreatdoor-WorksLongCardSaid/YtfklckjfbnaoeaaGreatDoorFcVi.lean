/-
  Which items are valid: package face.
-/
import Derived.Test.YtfklckjfbnaoeaaGreatDoorFcN
import Derived.Test.YtfklckjfbnaoeaaGreatDoorWaK
set_option linter.unusedSimpArgs false
set_option linter.unusedVariables false
namespace Go.Proofs.YtfklckjfbnaoeaaGreatDoor
open Go.RowKit

/-- What each kind of item uses, as kinds returns it. -/
def usesC : Array Value := #[.bool false, .bool false, .bool false, .bool false, .bool false, .bool false, .bool false, .bool false, .bool false, .bool true, .bool false, .bool false, .bool true, .bool true, .bool true, .bool false, .bool true, .bool true, .bool false, .bool false, .bool false, .bool true, .bool false, .bool false, .bool true, .bool true, .bool false, .bool true]
set_option maxHeartbeats 1000000 in
theorem kinds_calls (w : World) : Calls Tryz.prog 264 #[] w fun e w' => e = .returned (.agg usesC) ∧ Below w.heap.size w w' := by
  go_enter Tryz.func264, Tryz.ntmps264
  go_wp2_with (refine wpList_store_row rfl 367 (.tmp 0) (.tmp 6) rfl w.heap.size usesC rfl rfl 367 _ (heap_alloc_new _ _) (by kernel_rfl) (by kernel_rfl) (by kernel_rfl) ?_)
  (try simp only [Exit.inBlock, Exit.then])
  refine bodyPost_ret_by (v := .agg usesC) (results_cell_row Tryz.results264 _ _ w.heap.size 367 usesC (0, 0) _ rfl (setRow_heap _ _ _ _ _ _ (heap_alloc_new _ _)) Tryz.underlying367 rfl (by kernel_rfl)) rfl ⟨rfl, below_setRow (below_alloc _ _) (Nat.le_refl _) _⟩

theorem uses_k (W : World) :
    (Instr.index 367 (.agg usesC) (.int .i64 1)).run Tryz.prog W = .ok (.agg #[.bool false, .bool false, .bool false, .bool false]) W ∧
    (Instr.index 367 (.agg usesC) (.int .i64 2)).run Tryz.prog W = .ok (.agg #[.bool false, .bool true, .bool false, .bool false]) W ∧
    (Instr.index 367 (.agg usesC) (.int .i64 3)).run Tryz.prog W = .ok (.agg #[.bool true, .bool true, .bool true, .bool false]) W ∧
    (Instr.index 367 (.agg usesC) (.int .i64 4)).run Tryz.prog W = .ok (.agg #[.bool true, .bool true, .bool false, .bool false]) W ∧
    (Instr.index 367 (.agg usesC) (.int .i64 5)).run Tryz.prog W = .ok (.agg #[.bool false, .bool true, .bool false, .bool false]) W ∧
    (Instr.index 367 (.agg usesC) (.int .i64 6)).run Tryz.prog W = .ok (.agg #[.bool true, .bool true, .bool false, .bool true]) W :=
  ⟨by kernel_rfl, by kernel_rfl, by kernel_rfl, by kernel_rfl, by kernel_rfl, by kernel_rfl⟩
theorem uses_at (k : Int) (h : 1 ≤ k ∧ k ≤ 6) (W : World) :
    (Instr.index 367 (.agg usesC) (.int .i64 k)).run Tryz.prog W = .ok (.agg #[.bool (decide (k = 3 ∨ k = 4 ∨ k = 6)), .bool (decide (k ≠ 1)), .bool (decide (k = 3)), .bool (decide (k = 6))]) W := by
  have hk' : k = 1 ∨ k = 2 ∨ k = 3 ∨ k = 4 ∨ k = 5 ∨ k = 6 := by omega
  obtain ⟨h1, h2, h3, h4, h5, h6⟩ := uses_k W
  rcases hk' with rfl | rfl | rfl | rfl | rfl | rfl
  · exact h1
  · exact h2
  · exact h3
  · exact h4
  · exact h5
  · exact h6

end Go.Proofs.YtfklckjfbnaoeaaGreatDoor
