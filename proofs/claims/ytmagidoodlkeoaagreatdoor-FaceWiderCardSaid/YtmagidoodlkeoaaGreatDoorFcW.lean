/-
  Lengths of texts, panels, seams. No program in sight.
-/
import Derived.Test.YtmagidoodlkeoaaGreatDoorFcQ
set_option linter.unusedSimpArgs false
set_option linter.unusedVariables false
namespace Go.Proofs.YtmagidoodlkeoaaGreatDoor

def lenB (l : List UInt8) (unit : Int) : Bool := decide (1 ≤ unit ∧ unit ≤ 200) && spellB l
def lenS (l : List UInt8) (unit : Int) : Int := (6 * (l.length : Int) - 1) * unit
theorem lenS_bounds {l : List UInt8} {unit : Int} (h : lenB l unit = true) : 1 ≤ unit ∧ unit ≤ 200 ∧ 1 ≤ l.length ∧ l.length ≤ 24 ∧ 5 ≤ lenS l unit ∧ lenS l unit ≤ 28600 := by
  simp only [lenB, spellB, Bool.and_eq_true, decide_eq_true_eq] at h
  obtain ⟨⟨a, b⟩, ⟨c, d⟩, -⟩ := h
  unfold lenS
  have h1 : 5 ≤ 6 * (l.length : Int) - 1 := by omega
  have h2 : 6 * (l.length : Int) - 1 ≤ 143 := by omega
  have h3 : 5 * 1 ≤ (6 * (l.length : Int) - 1) * unit := Int.mul_le_mul h1 a (by omega) (by omega)
  have h4 : (6 * (l.length : Int) - 1) * unit ≤ 143 * 200 := Int.mul_le_mul h2 b (by omega) (by omega)
  exact ⟨a, b, c, d, by omega, by omega⟩
/-- The longest of the first k lines. -/
def longK (ls : List (List UInt8)) (unit : Int) : Nat → Int
  | 0 => 0
  | k + 1 => max (longK ls unit k) (lenS (ls.getD k []) unit)
def highP (n : Nat) (unit : Int) : Int := n * 7 * unit + (n - 1) * 4 * unit + 6 * unit
def fives (n : Int) : Int := (n + 4) / 5 * 5
def sizeP (ls : List (List UInt8)) (unit : Int) : Int := fives (longK ls unit ls.length + 6 * unit)
def heightP (n : Nat) (unit : Int) : Int := fives (highP n unit)
def lowP (n : Nat) (unit : Int) (k : Nat) : Int := heightP n unit - 3 * unit - 7 * unit - k * 11 * unit - (heightP n unit - highP n unit) / 2
/-- The items of the first k lines. -/
def linesP (ls : List (List UInt8)) (unit ink : Int) : Nat → List It
  | 0 => []
  | k + 1 => linesP ls unit ink k ++ [⟨6, ink, (sizeP ls unit - lenS (ls.getD k []) unit) / 2, lowP ls.length unit k, unit, 0, ls.getD k []⟩]
def argsP (ls : List (List UInt8)) (unit ground ink : Int) : Bool :=
  decide (1 ≤ ls.length ∧ ls.length ≤ 8) && decide (1 ≤ unit ∧ unit ≤ 200) && decide (1 ≤ ground ∧ ground ≤ 8) && decide (1 ≤ ink ∧ ink ≤ 8) && decide (ground ≠ ink)
def panelE (ls : List (List UInt8)) (unit ground ink : Int) : Int :=
  if argsP ls unit ground ink && ls.all (fun l => lenB l unit) then if 200 < sizeP ls unit ∨ 200 < heightP ls.length unit then 2 else 0 else 1
def panelP (ls : List (List UInt8)) (unit ground ink : Int) : Fc :=
  ⟨2, sizeP ls unit, heightP ls.length unit, [⟨1, ground, 0, 0, 0, 0, []⟩, ⟨2, ink, 0, 0, unit, 0, []⟩] ++ linesP ls unit ink ls.length⟩

/-! ### Seams -/
/-- A seam at the column c cuts a letter of an item. -/
def cutIt (x : It) (c : Int) : Bool :=
  decide (x.kind = 6) && (List.range x.text.length).any fun k => decide (x.text.getD k 0 ≠ 32) && decide (x.left + 6 * x.a * k < c ∧ c < x.left + 6 * x.a * k + 5 * x.a)
def cutF (f : Fc) (c : Int) : Bool := f.items.any fun x => cutIt x c
/-- The last column of at + 1 .. at + k at which no letter is cut, or at. -/
def dnS (f : Fc) (a : Int) : Nat → Int
  | 0 => a
  | k + 1 => if cutF f (a + (k + 1 : Nat)) then dnS f a k else a + (k + 1 : Nat)
theorem dnS_bounds (f : Fc) (a : Int) (k : Nat) : a ≤ dnS f a k ∧ dnS f a k ≤ a + k := by
  induction k with
  | zero => simp [dnS]
  | succ k ih => unfold dnS; split <;> omega
/-- The seams from the column a on; none: there is no way. -/
def seamsN (f : Fc) (width : Nat) : Nat → Int → Option (List Int)
  | 0, _ => some []
  | m + 1, a => if f.size - a ≤ width then some [] else if dnS f a width = a then none else (seamsN f width m (dnS f a width)).map (dnS f a width :: ·)
def seamsP (f : Fc) (width : Nat) : Option (List Int) := seamsN f width 200 0

end Go.Proofs.YtmagidoodlkeoaaGreatDoor
