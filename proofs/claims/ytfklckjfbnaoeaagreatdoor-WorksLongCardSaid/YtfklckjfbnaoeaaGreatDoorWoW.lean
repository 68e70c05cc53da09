/-
  The maker's warranty, both sides.
-/
import Derived.Test.YtfklckjfbnaoeaaGreatDoorWaP
import Derived.Test.YtfklckjfbnaoeaaGreatDoorWoI
set_option linter.unusedSimpArgs false
set_option linter.unusedVariables false
namespace Go.Proofs.YtfklckjfbnaoeaaGreatDoor
open Go.RowKit

/-- What Warranty answers. -/
def warR (price age full last : Int) : Value := .tuple #[.int .i64 (if warE price age full last = 0 then warV price age full last else 0), .int .i64 (warE price age full last)]
theorem warR_no {price age full last : Int} (h : ¬ ((0 ≤ price ∧ price ≤ 1000000000000) ∧ (0 ≤ age ∧ age ≤ 100000) ∧ 0 ≤ full ∧ full < last ∧ last ≤ 100000)) : warR price age full last = .tuple #[.int .i64 0, .int .i64 2] := by
  have e : warE price age full last = 2 := if_neg h
  unfold warR
  rw [e]
  rfl
theorem warR_yes {price age full last v : Int} (h : (0 ≤ price ∧ price ≤ 1000000000000) ∧ (0 ≤ age ∧ age ≤ 100000) ∧ 0 ≤ full ∧ full < last ∧ last ≤ 100000) (hv : warV price age full last = v) : warR price age full last = .tuple #[.int .i64 v, .int .i64 0] := by
  have e : warE price age full last = 0 := if_pos h
  unfold warR
  rw [e, hv]
  rfl
theorem mul_in2 {a b A B : Int} (h1 : 0 ≤ a) (h2 : a ≤ A) (h3 : 0 ≤ b) (h4 : b ≤ B) : 0 ≤ a * b ∧ a * b ≤ A * B :=
  ⟨Int.mul_nonneg h1 h3, Int.mul_le_mul h2 h4 h3 (by omega)⟩

set_option maxHeartbeats 1000000 in
theorem warranty_calls (price age full last : Int) (w : World) :
    Calls Tryz.prog 18 #[.int .i64 price, .int .i64 age, .int .i64 full, .int .i64 last] w fun e w' => e = .returned (warR price age full last) ∧ w = w' := by
  by_cases a1 : 0 ≤ price ∧ price ≤ 1000000000000
  rotate_left
  · have HR := hid (warR_no (price := price) (age := age) (full := full) (last := last) (fun h => a1 (by exact h.1)))
    rw [unhid HR]
    have da1 : decide (0 ≤ price ∧ price ≤ 1000000000000) = false := decide_eq_false a1
    clear a1
    go_enter Tryz.func18, Tryz.ntmps18
    go_wp2_with (go_at_call 31; refine (wwithin_calls _ _ _ _).mono ?_; rintro e w' ⟨rfl, rfl⟩)
    go_ret2
    exact ⟨rfl, rfl⟩
  have da1 : decide (0 ≤ price ∧ price ≤ 1000000000000) = true := decide_eq_true a1
  by_cases a2 : 0 ≤ age ∧ age ≤ 100000
  rotate_left
  · have HR := hid (warR_no (price := price) (age := age) (full := full) (last := last) (fun h => a2 (by exact h.2.1)))
    rw [unhid HR]
    have da2 : decide (0 ≤ age ∧ age ≤ 100000) = false := decide_eq_false a2
    clear a2
    go_enter Tryz.func18, Tryz.ntmps18
    go_wp2_with (go_at_call 31; refine (wwithin_calls _ _ _ _).mono ?_; rintro e w' ⟨rfl, rfl⟩)
    go_ret2
    exact ⟨rfl, rfl⟩
  have da2 : decide (0 ≤ age ∧ age ≤ 100000) = true := decide_eq_true a2
  by_cases a3 : 0 ≤ full
  rotate_left
  · have HR := hid (warR_no (price := price) (age := age) (full := full) (last := last) (fun h => a3 (by omega)))
    rw [unhid HR]
    go_enter Tryz.func18, Tryz.ntmps18
    go_wp2_with (go_at_call 31; refine (wwithin_calls _ _ _ _).mono ?_; rintro e w' ⟨rfl, rfl⟩)
    go_ret2
    exact ⟨rfl, rfl⟩
  by_cases a4 : full < last
  rotate_left
  · have HR := hid (warR_no (price := price) (age := age) (full := full) (last := last) (fun h => a4 (by omega)))
    rw [unhid HR]
    go_enter Tryz.func18, Tryz.ntmps18
    go_wp2_with (go_at_call 31; refine (wwithin_calls _ _ _ _).mono ?_; rintro e w' ⟨rfl, rfl⟩)
    go_ret2
    exact ⟨rfl, rfl⟩
  by_cases a5 : last ≤ 100000
  rotate_left
  · have HR := hid (warR_no (price := price) (age := age) (full := full) (last := last) (fun h => a5 (by omega)))
    rw [unhid HR]
    go_enter Tryz.func18, Tryz.ntmps18
    go_wp2_with (go_at_call 31; refine (wwithin_calls _ _ _ _).mono ?_; rintro e w' ⟨rfl, rfl⟩)
    go_ret2
    exact ⟨rfl, rfl⟩
  have HC := hid (show (0 ≤ price ∧ price ≤ 1000000000000) ∧ (0 ≤ age ∧ age ≤ 100000) ∧ 0 ≤ full ∧ full < last ∧ last ≤ 100000 from ⟨a1, a2, a3, a4, a5⟩)
  obtain ⟨p0, p1⟩ := a1
  obtain ⟨g0, g1⟩ := a2
  by_cases b1 : age < full
  · have HR := hid (warR_yes (unhid HC) (show warV price age full last = price from if_pos b1))
    rw [unhid HR]
    go_enter Tryz.func18, Tryz.ntmps18
    go_wp2_with (go_at_call 31; refine (wwithin_calls _ _ _ _).mono ?_; rintro e w' ⟨rfl, rfl⟩)
    go_ret2
    exact ⟨rfl, rfl⟩
  by_cases b2 : last ≤ age
  · have HR := hid (warR_yes (unhid HC) (show warV price age full last = 0 by unfold warV; rw [if_neg b1, if_pos b2]))
    rw [unhid HR]
    go_enter Tryz.func18, Tryz.ntmps18
    go_wp2_with (go_at_call 31; refine (wwithin_calls _ _ _ _).mono ?_; rintro e w' ⟨rfl, rfl⟩)
    go_ret2
    exact ⟨rfl, rfl⟩
  have HR := hid (warR_yes (unhid HC) (show warV price age full last = price * (last - age) / (last - full) by unfold warV; rw [if_neg b1, if_neg b2]))
  rw [unhid HR]
  have e2 := mul_in2 (a := price) (b := last - age) (A := 1000000000000) (B := 100000) (by omega) (by omega) (by omega) (by omega)
  have hne : last - full ≠ 0 := by omega
  have ht : (price * (last - age)).tdiv (last - full) = price * (last - age) / (last - full) := Int.tdiv_eq_ediv_of_nonneg e2.1
  have hq0 : 0 ≤ price * (last - age) / (last - full) := Int.ediv_nonneg e2.1 (by omega)
  have hq1 : price * (last - age) / (last - full) ≤ price * (last - age) := Int.ediv_le_self _ e2.1
  go_enter Tryz.func18, Tryz.ntmps18
  go_wp2_with (go_at_call 31; refine (wwithin_calls _ _ _ _).mono ?_; rintro e w' ⟨rfl, rfl⟩)
  go_ret2
  exact ⟨rfl, rfl⟩

end Go.Proofs.YtfklckjfbnaoeaaGreatDoor
