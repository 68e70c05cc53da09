/-
  The texts of a panel lie within its rim and do not overlap; a letter more gives no smaller panel. No program in sight.
-/
import Derived.Test.YtmagidoodlkeoaaGreatDoorFcW
set_option linter.unusedSimpArgs false
set_option linter.unusedVariables false
namespace Go.Proofs.YtmagidoodlkeoaaGreatDoor

theorem longK_le (ls : List (List UInt8)) (unit : Int) : ∀ k j, j < k → lenS (ls.getD j []) unit ≤ longK ls unit k
  | 0, j, h => by omega
  | k + 1, j, h => by
    unfold longK
    by_cases e : j = k
    · subst e; exact Int.le_max_right _ _
    · exact Int.le_trans (longK_le ls unit k j (by omega)) (Int.le_max_left _ _)
theorem longK_nonneg (ls : List (List UInt8)) (unit : Int) (k : Nat) : 0 ≤ longK ls unit k := by
  induction k with
  | zero => simp [longK]
  | succ k ih => unfold longK; exact Int.le_trans ih (Int.le_max_left _ _)
theorem fives_bounds (n : Int) : n ≤ fives n ∧ fives n ≤ n + 4 := by unfold fives; omega
theorem fives_mono {a b : Int} (h : a ≤ b) : fives a ≤ fives b := by unfold fives; omega
theorem highP_eq (n : Nat) (unit : Int) : highP n unit = 11 * ((n : Int) * unit) + 2 * unit := by
  unfold highP
  have e1 : (n : Int) * 7 * unit = 7 * ((n : Int) * unit) := by rw [Int.mul_assoc, Int.mul_comm 7 unit, ← Int.mul_assoc, Int.mul_comm]
  have e2 : ((n : Int) - 1) * 4 * unit = 4 * ((n : Int) * unit) - 4 * unit := by
    rw [Int.mul_assoc, Int.sub_mul, Int.mul_comm 4 unit, ← Int.mul_assoc]
    omega
  omega
theorem lowP_eq (n : Nat) (unit : Int) (k : Nat) : lowP n unit k = heightP n unit - 10 * unit - 11 * ((k : Int) * unit) - (heightP n unit - highP n unit) / 2 := by
  unfold lowP
  have e1 : (k : Int) * 11 * unit = 11 * ((k : Int) * unit) := by rw [Int.mul_assoc, Int.mul_comm 11 unit, ← Int.mul_assoc, Int.mul_comm]
  omega
theorem lowP_bounds {n : Nat} {unit : Int} {k : Nat} (hu : 1 ≤ unit) (hk : k < n) :
    unit ≤ lowP n unit k ∧ lowP n unit 0 + 7 * unit ≤ heightP n unit - unit ∧ lowP n unit (k + 1) + 7 * unit ≤ lowP n unit k := by
  obtain ⟨h1, h2⟩ := fives_bounds (highP n unit)
  have hh : heightP n unit = fives (highP n unit) := rfl
  have e := highP_eq n unit
  have m1 : ((k : Int) + 1) * unit ≤ (n : Int) * unit := Int.mul_le_mul_of_nonneg_right (by omega) (by omega)
  rw [Int.add_mul, Int.one_mul] at m1
  have e3 : ((k + 1 : Nat) : Int) * unit = (k : Int) * unit + unit := by rw [Int.natCast_add, Int.add_mul]; simp
  rw [lowP_eq, lowP_eq, lowP_eq, e3]
  refine ⟨by omega, ?_, by omega⟩
  have e0 : ((0 : Nat) : Int) * unit = 0 := by simp
  rw [e0]
  omega
theorem leftP_bounds {ls : List (List UInt8)} {unit : Int} {k : Nat} (hu : 1 ≤ unit) (hk : k < ls.length) :
    unit ≤ (sizeP ls unit - lenS (ls.getD k []) unit) / 2 ∧ (sizeP ls unit - lenS (ls.getD k []) unit) / 2 + lenS (ls.getD k []) unit ≤ sizeP ls unit - unit := by
  have h := longK_le ls unit ls.length k hk
  obtain ⟨h1, h2⟩ := fives_bounds (longK ls unit ls.length + 6 * unit)
  have e : sizeP ls unit = fives (longK ls unit ls.length + 6 * unit) := rfl
  constructor <;> omega
theorem linesP_len (ls : List (List UInt8)) (unit ink : Int) (k : Nat) : (linesP ls unit ink k).length = k := by
  induction k with
  | zero => rfl
  | succ k ih => simp [linesP, ih]
theorem linesP_at (ls : List (List UInt8)) (unit ink : Int) : ∀ k j, j < k → (linesP ls unit ink k)[j]? = some ⟨6, ink, (sizeP ls unit - lenS (ls.getD j []) unit) / 2, lowP ls.length unit j, unit, 0, ls.getD j []⟩
  | 0, j, h => by omega
  | k + 1, j, h => by
    unfold linesP
    by_cases e : j = k
    · subst e
      rw [List.getElem?_append_right (by rw [linesP_len]; exact Nat.le_refl _), linesP_len]
      simp
    · rw [List.getElem?_append_left (by rw [linesP_len]; omega)]
      exact linesP_at ls unit ink k j (by omega)
/-- A letter more. -/
theorem longK_more {ls : List (List UInt8)} {unit : Int} (hu : 1 ≤ unit) (m : Nat) : ∀ k, longK ls unit k ≤ longK (ls.set m (ls.getD m [] ++ [65])) unit k
  | 0 => Int.le_refl _
  | k + 1 => by
    have ih := longK_more (ls := ls) hu m k
    have h : lenS (ls.getD k []) unit ≤ lenS ((ls.set m (ls.getD m [] ++ [65])).getD k []) unit := by
      by_cases e : m = k
      · subst e
        by_cases hm : m < ls.length
        · simp only [List.getD_eq_getElem?_getD, List.getElem?_set_self hm, List.getElem?_eq_getElem hm, Option.getD_some]
          unfold lenS
          exact Int.mul_le_mul_of_nonneg_right (by simp; omega) (by omega)
        · rw [List.set_eq_of_length_le (by omega)]
          exact Int.le_refl _
      · simp only [List.getD_eq_getElem?_getD, List.getElem?_set_ne e]
        exact Int.le_refl _
    unfold longK
    omega
theorem size_more {ls : List (List UInt8)} {unit : Int} (hu : 1 ≤ unit) (m : Nat) : sizeP ls unit ≤ sizeP (ls.set m (ls.getD m [] ++ [65])) unit := by
  unfold sizeP
  rw [List.length_set]
  exact fives_mono (by have := longK_more (ls := ls) hu m ls.length; omega)

end Go.Proofs.YtmagidoodlkeoaaGreatDoor
