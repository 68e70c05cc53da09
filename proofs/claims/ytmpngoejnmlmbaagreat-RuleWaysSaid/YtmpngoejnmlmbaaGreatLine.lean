/-
  ValidLine, of package rule and of its reference.
-/
import Derived.Test.YtmpngoejnmlmbaaGreatLeaf
set_option linter.unusedSimpArgs false
set_option linter.unusedVariables false
namespace Go.Proofs.YtmpngoejnmlmbaaGreat
open Go.RowKit

set_option maxHeartbeats 400000 in
theorem validLine_calls (len : Int) (A : Option Addr) (js : List Int) (c : Nat) (w : World) (hn : js.length ≤ 20000000000000) (hr : Rd w A (ints js)) :
    Calls Tryz.prog 69 #[.agg #[.int .i64 len, .slice A js.length c]] w fun e w' => e = .returned (.bool (lineB len js)) ∧ Below w.heap.size w w' := by
  by_cases h1 : 1 ≤ len ∧ len ≤ 100000
  · by_cases h2 : js.length ≤ 50
    · obtain ⟨h1a, h1b⟩ := h1
      go_enter Tryz.func69, Tryz.ntmps69
      go_wp2_with (go_at_call 50; refine (within_calls _ _ _ _).mono ?_; rintro e w' ⟨rfl, rfl⟩)
      go_loop [18] (fun i => ∃ k : Nat, k ≤ js.length ∧ i = .int .i64 k ∧ ∀ j, j < k → lineOk len js j) (fun i => js.length - (intOf i).toNat)
      case atStart => exact ⟨0, Nat.zero_le _, rfl, fun j hj => absurd hj (by omega)⟩
      case round =>
        obtain ⟨k, hk, rfl, hall⟩ := hrel
        have Hall := hid hall
        clear hall
        by_cases hlt : k < js.length
        · obtain ⟨b, off, rfl, hb, hc⟩ := hr (ints_ne hlt)
          have hck := hc k _ (ints_at js k hlt)
          have hck' : 0 < k → w.cell? ⟨b, off + (k - 1), none⟩ = some (.int .i64 (js.getD (k-1) 0)) := fun _ => by
            have := hc (k-1) _ (ints_at js (k-1) (by omega))
            simpa [List.getD_eq_getElem?_getD, List.getElem?_eq_getElem (show k - 1 < js.length by omega)] using this
          have Hc := hid hc
          clear hc
          go_wp2_with (go_at_call 50; refine (within_calls _ _ _ _).mono ?_; rintro e w' ⟨rfl, rfl⟩)
          all_goals first
            | (go_ret; refine ⟨retb (iff_of_false (by simp) (lineB_no hlt (by omega))), below_alloc _ _⟩)
            | (go_round
               case rel => exact ⟨k + 1, by omega, by go_num, lineOk_next hlt (unhid Hall) (by omega)⟩
               case measure => simp [intOf]; omega)
        · go_wp2
          go_ret
          exact ⟨retb (iff_of_true rfl (lineB_iff.2 ⟨h1a, h1b, h2, fun j hj => unhid Hall j (by omega)⟩)), below_alloc _ _⟩
    · go_enter Tryz.func69, Tryz.ntmps69
      go_wp2_with (go_at_call 50; refine (within_calls _ _ _ _).mono ?_; rintro e w' ⟨rfl, rfl⟩)
      go_ret
      exact ⟨retb (iff_of_false (by simp) (by rw [lineB_iff]; omega)), below_alloc _ _⟩
  · go_enter Tryz.func69, Tryz.ntmps69
    go_wp2_with (go_at_call 50; refine (within_calls _ _ _ _).mono ?_; rintro e w' ⟨rfl, rfl⟩)
    go_ret
    exact ⟨retb (iff_of_false (by simp) (by rw [lineB_iff]; omega)), below_alloc _ _⟩

set_option maxHeartbeats 1000000 in
theorem rvalidLine_calls (len : Int) (A : Option Addr) (js : List Int) (c : Nat) (w : World) (hn : js.length ≤ 20000000000000) (hr : Rd w A (ints js)) :
    Calls Tryz.prog 38 #[.agg #[.int .i64 len, .slice A js.length c]] w fun e w' => e = .returned (.bool (lineB len js)) ∧ Below w.heap.size w w' := by
  go_enter Tryz.func38, Tryz.ntmps38
  go_wp2_with fail
  go_loopw [3] (fun i wr => ∃ k : Nat, k ≤ js.length ∧ i = .int .i64 k ∧ (∀ j, j < k → lineOk len js j) ∧ ∃ n, wr = (w.alloc (.cells #[.int .i64 len, .slice A js.length c] 24)).drewN n) (fun i _ => js.length - (intOf i).toNat)
  case atStart => exact ⟨0, Nat.zero_le _, rfl, fun j hj => absurd hj (by omega), 0, rfl⟩
  case round =>
    obtain ⟨k, hk, rfl, hall, n, rfl⟩ := hrel
    have Hall := hid hall
    clear hall
    by_cases hlt : k < js.length
    · obtain ⟨b, off, rfl, hb, hc⟩ := hr (ints_ne hlt)
      have hck := hc k _ (ints_at js k hlt)
      have hck' : 0 < k → w.cell? ⟨b, off + (k - 1), none⟩ = some (.int .i64 (js.getD (k-1) 0)) := fun _ => by
        have := hc (k-1) _ (ints_at js (k-1) (by omega))
        simpa [List.getD_eq_getElem?_getD, List.getElem?_eq_getElem (show k - 1 < js.length by omega)] using this
      have Hc := hid hc
      clear hc
      rcases (show js[k] ≤ 0 ∨ (¬ js[k] ≤ 0 ∧ len ≤ js[k]) ∨ (¬ js[k] ≤ 0 ∧ ¬ len ≤ js[k] ∧ ¬ 0 < k) ∨ (¬ js[k] ≤ 0 ∧ ¬ len ≤ js[k] ∧ 0 < k ∧ js[k] ≤ js[k-1]?.getD 0) ∨ (¬ js[k] ≤ 0 ∧ ¬ len ≤ js[k] ∧ 0 < k ∧ ¬ js[k] ≤ js[k-1]?.getD 0) by omega) with g1 | ⟨g1, g2⟩ | ⟨g1, g2, g3⟩ | ⟨g1, g2, g3, g4⟩ | ⟨g1, g2, g3, g4⟩
      · have := decide_eq_true (show js[k] ≤ 0 by omega)
        go_wp2_with fail
        go_quiet (fail)
        go_wp2_with fail
        go_ret
        exact ⟨retb (iff_of_false (by simp) (lineB_no hlt (by omega))), (by first | exact Below.refl _ _ | (repeat (first | exact below_alloc _ _ | exact Below.refl _ _ | assumption | apply below_drewN' | apply Below.drew | apply below_alloc')))⟩
      · have := decide_eq_false (show ¬ (js[k] ≤ 0) by omega)
        have := decide_eq_true (show len ≤ js[k] by omega)
        go_wp2_with fail
        go_quiet (fail)
        go_wp2_with fail
        go_ret
        exact ⟨retb (iff_of_false (by simp) (lineB_no hlt (by omega))), (by first | exact Below.refl _ _ | (repeat (first | exact below_alloc _ _ | exact Below.refl _ _ | assumption | apply below_drewN' | apply Below.drew | apply below_alloc')))⟩
      · have := decide_eq_false (show ¬ (js[k] ≤ 0) by omega)
        have := decide_eq_false (show ¬ (len ≤ js[k]) by omega)
        have := decide_eq_false (show ¬ (0 < k) by omega)
        go_wp2_with fail
        go_quiet (fail)
        go_wp2_with fail
        go_roundw
        case rel => exact ⟨k + 1, by omega, by go_num, lineOk_next hlt (unhid Hall) (by omega), _, rfl⟩
        case measure => simp [intOf]; omega
      · have := decide_eq_false (show ¬ (js[k] ≤ 0) by omega)
        have := decide_eq_false (show ¬ (len ≤ js[k]) by omega)
        have := decide_eq_true (show 0 < k by omega)
        have hck'' := hck' g3
        clear hck'
        have := decide_eq_true (show js[k] ≤ js[k-1]?.getD 0 by omega)
        go_wp2_with fail
        go_quiet (fail)
        go_wp2_with fail
        go_ret
        exact ⟨retb (iff_of_false (by simp) (lineB_no hlt (by omega))), (by first | exact Below.refl _ _ | (repeat (first | exact below_alloc _ _ | exact Below.refl _ _ | assumption | apply below_drewN' | apply Below.drew | apply below_alloc')))⟩
      · have := decide_eq_false (show ¬ (js[k] ≤ 0) by omega)
        have := decide_eq_false (show ¬ (len ≤ js[k]) by omega)
        have := decide_eq_true (show 0 < k by omega)
        have hck'' := hck' g3
        clear hck'
        have := decide_eq_false (show ¬ (js[k] ≤ js[k-1]?.getD 0) by omega)
        go_wp2_with fail
        go_quiet (fail)
        go_wp2_with fail
        go_roundw
        case rel => exact ⟨k + 1, by omega, by go_num, lineOk_next hlt (unhid Hall) (by omega), _, rfl⟩
        case measure => simp [intOf]; omega
    · go_wp2_with (go_at_call 77; refine (rwithin_calls _ _ _ _).mono ?_; rintro e w' ⟨rfl, rfl⟩)
      all_goals (go_ret; refine ⟨retb ?_, (by first | exact Below.refl _ _ | (repeat (first | exact below_alloc _ _ | exact Below.refl _ _ | assumption | apply below_drewN' | apply Below.drew | apply below_alloc')))⟩)
      · rw [lineB_iff]; simp; exact ⟨fun h => ⟨by omega, by omega, by omega, fun j hj => unhid Hall j (by omega)⟩, fun h => by omega⟩
      · rw [lineB_iff]; simp; omega

end Go.Proofs.YtmpngoejnmlmbaaGreat
