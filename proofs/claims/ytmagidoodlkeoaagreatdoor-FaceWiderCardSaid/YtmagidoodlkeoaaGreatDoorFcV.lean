/-
  The reference's table of letters, in hexadecimal digits, holds the program's rows. No program in sight.
-/
import Derived.Test.YtmagidoodlkeoaaGreatDoorFcQ
set_option linter.unusedSimpArgs false
set_option linter.unusedVariables false
namespace Go.Proofs.YtmagidoodlkeoaaGreatDoor

/-- The digits of the rows of 0 to 9 and A to Z. -/
def hexL : List UInt8 := [48, 69, 49, 49, 49, 51, 49, 53, 49, 57, 49, 49, 48, 69, 48, 52, 48, 67, 48, 52, 48, 52, 48, 52, 48, 52, 48, 69, 48, 69, 49, 49, 48, 49, 48, 50, 48, 52, 48, 56, 49, 70, 49, 70, 48, 50, 48, 52, 48, 50, 48, 49, 49, 49, 48, 69, 48, 50, 48, 54, 48, 65, 49, 50, 49, 70, 48, 50, 48, 50, 49, 70, 49, 48, 49, 69, 48, 49, 48, 49, 49, 49, 48, 69, 48, 54, 48, 56, 49, 48, 49, 69, 49, 49, 49, 49, 48, 69, 49, 70, 48, 49, 48, 50, 48, 52, 48, 56, 48, 56, 48, 56, 48, 69, 49, 49, 49, 49, 48, 69, 49, 49, 49, 49, 48, 69, 48, 69, 49, 49, 49, 49, 48, 70, 48, 49, 48, 50, 48, 67, 48, 69, 49, 49, 49, 49, 49, 49, 49, 70, 49, 49, 49, 49, 49, 69, 49, 49, 49, 49, 49, 69, 49, 49, 49, 49, 49, 69, 48, 69, 49, 49, 49, 48, 49, 48, 49, 48, 49, 49, 48, 69, 49, 67, 49, 50, 49, 49, 49, 49, 49, 49, 49, 50, 49, 67, 49, 70, 49, 48, 49, 48, 49, 69, 49, 48, 49, 48, 49, 70, 49, 70, 49, 48, 49, 48, 49, 69, 49, 48, 49, 48, 49, 48, 48, 69, 49, 49, 49, 48, 49, 55, 49, 49, 49, 49, 48, 70, 49, 49, 49, 49, 49, 49, 49, 70, 49, 49, 49, 49, 49, 49, 48, 69, 48, 52, 48, 52, 48, 52, 48, 52, 48, 52, 48, 69, 48, 55, 48, 50, 48, 50, 48, 50, 48, 50, 49, 50, 48, 67, 49, 49, 49, 50, 49, 52, 49, 56, 49, 52, 49, 50, 49, 49, 49, 48, 49, 48, 49, 48, 49, 48, 49, 48, 49, 48, 49, 70, 49, 49, 49, 66, 49, 53, 49, 53, 49, 49, 49, 49, 49, 49, 49, 49, 49, 49, 49, 57, 49, 53, 49, 51, 49, 49, 49, 49, 48, 69, 49, 49, 49, 49, 49, 49, 49, 49, 49, 49, 48, 69, 49, 69, 49, 49, 49, 49, 49, 69, 49, 48, 49, 48, 49, 48, 48, 69, 49, 49, 49, 49, 49, 49, 49, 53, 49, 50, 48, 68, 49, 69, 49, 49, 49, 49, 49, 69, 49, 52, 49, 50, 49, 49, 48, 70, 49, 48, 49, 48, 48, 69, 48, 49, 48, 49, 49, 69, 49, 70, 48, 52, 48, 52, 48, 52, 48, 52, 48, 52, 48, 52, 49, 49, 49, 49, 49, 49, 49, 49, 49, 49, 49, 49, 48, 69, 49, 49, 49, 49, 49, 49, 49, 49, 49, 49, 48, 65, 48, 52, 49, 49, 49, 49, 49, 49, 49, 53, 49, 53, 49, 53, 48, 65, 49, 49, 49, 49, 48, 65, 48, 52, 48, 65, 49, 49, 49, 49, 49, 49, 49, 49, 49, 49, 48, 65, 48, 52, 48, 52, 48, 52, 49, 70, 48, 49, 48, 50, 48, 52, 48, 56, 49, 48, 49, 70]
def digH (c : Int) : Int := if c ≤ 57 then c - 48 else c - 65 + 10
/-- The row i of the letter n. -/
def rowH (n i : Nat) : Int := 16 * digH ((hexL.getD (14 * n + 2 * i) 0).toNat : Int) + digH ((hexL.getD (14 * n + 2 * i + 1) 0).toNat : Int)
set_option maxRecDepth 100000 in
theorem rowH_tab : ∀ n : Fin 36, (List.range 7).map (rowH n.val) = tabL.getD n.val [0, 0, 0, 0, 0, 0, 0] := by decide +kernel
/-- The number of a letter that is no space. -/
def numH (c : Int) : Nat := if c ≤ 57 then (c - 48).toNat else (c - 55).toNat
theorem rowH_rows {c : Int} (h : isL c = true) (h32 : c ≠ 32) : numH c < 36 ∧ (List.range 7).map (rowH (numH c)) = rowsL c := by
  simp only [isL, decide_eq_true_eq] at h
  have h' : 48 ≤ c ∧ c ≤ 57 ∨ 65 ≤ c ∧ c ≤ 90 := by omega
  unfold rowsL numH
  rcases h' with h' | h'
  · rw [if_pos h'.2, if_pos h']
    exact ⟨by omega, rowH_tab ⟨(c - 48).toNat, by omega⟩⟩
  · rw [if_neg (by omega), if_neg (by omega), if_pos h']
    exact ⟨by omega, rowH_tab ⟨(c - 55).toNat, by omega⟩⟩

end Go.Proofs.YtmagidoodlkeoaaGreatDoor
