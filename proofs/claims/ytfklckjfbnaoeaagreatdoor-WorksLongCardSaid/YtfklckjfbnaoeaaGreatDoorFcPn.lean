/-
  Numbers and names: package face's reading.
-/
import Derived.Test.YtfklckjfbnaoeaaGreatDoorFcLc
set_option linter.unusedSimpArgs false
set_option linter.unusedVariables false
namespace Go.Proofs.YtfklckjfbnaoeaaGreatDoor
open Go.RowKit

theorem numP_ok {s : List UInt8} {v : Int} (h : Lib.atoiAll s = .ok v) : numP s = if s.length ≤ 3 then v else -1 := by unfold numP; rw [h]
theorem numP_no {s : List UInt8} (h : ∀ v, Lib.atoiAll s ≠ .ok v) : numP s = -1 := by
  unfold numP
  split
  · rename_i v e; exact absurd e (h v)
  · rfl

set_option maxHeartbeats 1000000 in
theorem number_calls (s : List UInt8) (w : World) (hg : Gl w) (hs : s.length ≤ 1000000) :
    Calls Tryz.prog 224 #[.string (SB s)] w fun e w' => e = .returned (.int .i64 (numP s)) ∧ Below w.heap.size w w' := by
  have hsz : (SB s).size = s.length := rfl
  have HAT := hid (fun W (h : Gl W) => atoi_lib s W h hs)
  have HG := hid hg
  clear hg
  go_enter Tryz.func224, Tryz.ntmps224
  go_wp2_with fail
  refine ((unhid HAT) _ (unhid HG)).mono ?_
  rintro e w1 (⟨v, hv, rfl, hb⟩ | ⟨hv, v, t, p, rfl, hb⟩)
  · have HN := hid (numP_ok hv)
    have HB := hid hb
    clear hv hb
    by_cases h3 : s.length ≤ 3
    · have d3 := decide_eq_false (show ¬ (3 : Int) < s.length by omega)
      have HV := hid (show numP s = v by rw [unhid HN, if_pos h3])
      clear h3
      go_wp2_with fail
      go_ret
      exact ⟨reti (unhid HV).symm, unhid HB⟩
    · have d3 := decide_eq_true (show (3 : Int) < s.length by omega)
      have HV := hid (show numP s = -1 by rw [unhid HN, if_neg h3])
      clear h3
      go_wp2_with fail
      go_ret
      exact ⟨reti (unhid HV).symm, unhid HB⟩
  · have HV := hid (numP_no hv)
    have HB := hid hb
    clear hv hb
    go_wp2_with fail
    go_ret
    exact ⟨reti (unhid HV).symm, unhid HB⟩

set_option maxHeartbeats 1000000 in
theorem shapeNames_calls (w : World) :
    Calls Tryz.prog 223 #[] w fun e w' => e = .returned (.slice (some ⟨w.heap.size, 0, none⟩) 7 7) ∧ w' = w.alloc (.cells (strC shapeW).toArray 9) := by
  go_enter Tryz.func223, Tryz.ntmps223
  go_wp2_with fail
  go_ret
  exact ⟨rfl, rfl⟩
set_option maxHeartbeats 1000000 in
theorem colourNames_calls (w : World) :
    Calls Tryz.prog 262 #[] w fun e w' => e = .returned (.slice (some ⟨w.heap.size, 0, none⟩) 9 9) ∧ w' = w.alloc (.cells (strC colourW).toArray 9) := by
  go_enter Tryz.func262, Tryz.ntmps262
  go_wp2_with fail
  go_ret
  exact ⟨rfl, rfl⟩

end Go.Proofs.YtfklckjfbnaoeaaGreatDoor
