/-
  Extents, of package face and of its reference, and the reference's Letter: contracts.
-/
import Derived.Test.YtfklckjfbnaoeaaGreatDoorFcMl
import Derived.Test.YtfklckjfbnaoeaaGreatDoorWaP
import Derived.Laws.NewBlocks
import Derived.StillTailTactics
set_option linter.unusedSimpArgs false
set_option linter.unusedVariables false
namespace Go.Proofs.YtfklckjfbnaoeaaGreatDoor
open Go.RowKit

set_option maxHeartbeats 1000000 in
theorem extent_calls (f : Fc) (A : Option Addr) (c : Nat) (w : World) (h0 : 0 ≤ f.size) (h1 : f.size ≤ 1000000000) :
    Calls Tryz.prog 174 #[.agg #[.int .i64 f.shape, .int .i64 f.size, .int .i64 f.height, .slice A f.items.length c]] w fun e w' => e = .returned (.tuple #[.int .i64 f.size, .int .i64 (heiF f)]) ∧ Below w.heap.size w w' := by
  have e1 : IntKind.i64.wrap (13 * f.size) = 13 * f.size := IntWalk.i64_in _ (by omega)
  have e2 : IntKind.i64.wrap (13 * f.size + 14) = 13 * f.size + 14 := IntWalk.i64_in _ (by omega)
  have e3 : (13 * f.size + 14).tdiv 15 = (13 * f.size + 14) / 15 := Int.tdiv_eq_ediv_of_nonneg (by omega)
  have e4 : IntKind.i64.wrap ((13 * f.size + 14) / 15) = (13 * f.size + 14) / 15 := IntWalk.i64_in _ (by omega)
  rcases (show f.shape = 2 ∨ f.shape = 5 ∨ f.shape = 6 ∨ (¬ f.shape = 2 ∧ ¬ f.shape = 5 ∧ ¬ f.shape = 6) by omega) with h | h | h | ⟨h2, h5, h6⟩
  · have hh : heiF f = f.height := by simp [heiF, h]
    rw [hh, h]
    clear hh h e1 e2 e3 e4
    go_enter Tryz.func174, Tryz.ntmps174
    go_wp2_with fail
    go_quiet (fail)
    go_wp2_with fail
    go_ret2
    exact ⟨rfl, below_drewN' (below_alloc _ _) _⟩
  · have hh : heiF f = (13 * f.size + 14) / 15 := by simp [heiF, h]
    rw [hh, h]
    clear hh h
    go_enter Tryz.func174, Tryz.ntmps174
    go_wp2_with fail
    go_quiet (fail)
    go_wp2_with fail
    go_ret2
    exact ⟨rfl, below_drewN' (below_alloc _ _) _⟩
  · have hh : heiF f = (13 * f.size + 14) / 15 := by simp [heiF, h]
    rw [hh, h]
    clear hh h
    go_enter Tryz.func174, Tryz.ntmps174
    go_wp2_with fail
    go_quiet (fail)
    go_wp2_with fail
    go_ret2
    exact ⟨rfl, below_drewN' (below_alloc _ _) _⟩
  · have hh : heiF f = f.size := by simp [heiF, h2, h5, h6]
    have b2 : (f.shape == 2) = false := by simpa using h2
    have b5 : (f.shape == 5) = false := by simpa using h5
    have b6 : (f.shape == 6) = false := by simpa using h6
    rw [hh]
    clear hh e1 e2 e3 e4 h2 h5 h6
    go_enter Tryz.func174, Tryz.ntmps174
    go_wp2_with fail
    go_quiet (fail)
    go_wp2_with fail
    go_ret2
    exact ⟨rfl, below_drewN' (below_alloc _ _) _⟩

/-- The first k rows of a letter, the others 0. -/
def rowsUp (n k : Nat) : List Int := (List.range k).map (rowH n) ++ List.replicate (7 - k) 0
theorem rowsUp_len (n k : Nat) (hk : k ≤ 7) : (rowsUp n k).length = 7 := by simp [rowsUp]; omega
theorem rowsUp_set (n k : Nat) (hk : k < 7) : (rowsUp n k).set k (rowH n k) = rowsUp n (k + 1) := by
  unfold rowsUp
  rw [List.set_append_right _ _ (by simp), List.length_map, List.length_range, Nat.sub_self, List.range_succ, List.map_append, List.append_assoc]
  rw [show 7 - k = (7 - (k + 1)) + 1 by omega, List.replicate_succ]
  rfl
theorem hex_range : ∀ i : Fin 504, 48 ≤ ((hexL.getD i.val 0).toNat : Int) ∧ ((hexL.getD i.val 0).toNat : Int) ≤ 255 ∧ (((hexL.getD i.val 0).toNat : Int) ≤ 57 ∨ 65 ≤ ((hexL.getD i.val 0).toNat : Int)) := by decide +kernel
theorem hex_get (i : Nat) (h : i < (SB hexL).size) : ((SB hexL)[i]'h).toNat = (hexL.getD i 0).toNat := by
  have h' : i < hexL.length := h
  have e : (SB hexL)[i]'h = hexL[i] := rfl
  rw [e, List.getD_eq_getElem?_getD, List.getElem?_eq_getElem h']
  rfl
end Go.Proofs.YtfklckjfbnaoeaaGreatDoor
