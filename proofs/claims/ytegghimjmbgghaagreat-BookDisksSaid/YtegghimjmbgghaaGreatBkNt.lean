/-
  Notes: their cells, the arguments opened.
-/
import Derived.Test.YtegghimjmbgghaaGreatBkOs
set_option linter.unusedSimpArgs false
set_option linter.unusedVariables false
namespace Go.Proofs.YtegghimjmbgghaaGreat
open Go.RowKit Go.ChangeShapes Go.WideShapes Go.Deep

/-- What Write is given. -/
structure Nt where
  tab : Int
  hour : Int
  sign : Int
  fld : Int
  val : Int
def ntC (n : Nt) : List Value := [.int .i64 n.tab, .int .i64 n.hour, .int .i64 n.sign, .int .i64 n.fld, .int .i64 n.val]
def nts (l : List Nt) : List Value := l.flatMap ntC
def NtW (n : Nt) : Prop := I64 n.tab ∧ I64 n.hour ∧ I64 n.sign ∧ I64 n.fld ∧ I64 n.val
theorem nts_ne {l : List Nt} {k : Nat} (h : k < l.length) : nts l ≠ [] := flat_ne (f := ntC) (K := 5) (fun _ => rfl) (by omega) h
theorem nts_cells {w : World} {b off : Nat} {l : List Nt} (h : ∀ j u, (nts l)[j]? = some u → w.cell? ⟨b, off + j, none⟩ = some u) {k : Nat} (hk : k < l.length) {x : Nt} (hx : l[k]'hk = x) :
    w.cell? ⟨b, off + k * 5, none⟩ = some (.int .i64 x.tab) ∧ w.cell? ⟨b, off + k * 5 + 1, none⟩ = some (.int .i64 x.hour) ∧ w.cell? ⟨b, off + k * 5 + 2, none⟩ = some (.int .i64 x.sign) ∧ w.cell? ⟨b, off + k * 5 + 3, none⟩ = some (.int .i64 x.fld) ∧ w.cell? ⟨b, off + k * 5 + 4, none⟩ = some (.int .i64 x.val) := by
  have e : ∀ j, j < 5 → (nts l)[k * 5 + j]? = (ntC x)[j]? := fun j hj => by rw [← hx]; exact flat_at (f := ntC) (K := 5) (fun _ => rfl) l k j hk hj
  have h0 := h (k * 5) _ (e 0 (by omega))
  have h1 := h (k * 5 + 1) _ (e 1 (by omega))
  have h2 := h (k * 5 + 2) _ (e 2 (by omega))
  have h3 := h (k * 5 + 3) _ (e 3 (by omega))
  have h4 := h (k * 5 + 4) _ (e 4 (by omega))
  exact ⟨h0, by rw [Nat.add_assoc]; exact h1, by rw [Nat.add_assoc]; exact h2, by rw [Nat.add_assoc]; exact h3, by rw [Nat.add_assoc]; exact h4⟩

section
variable {H : Type} {enc : TypeId × Value → H} {w : World} {base : Nat} {spare : Nat → Bool} {held : Bool}

theorem cells5 {l : List Value} (h : l.length = 5) : ∃ c0 c1 c2 c3 c4, l = [c0, c1, c2, c3, c4] := by
  match l, h with
  | [a, b, c, d, e], _ => exact ⟨a, b, c, d, e, rfl⟩
/-- Notes that came in. -/
structure NtsIn (w : World) (A : Option Addr) (l : List Nt) (c : Nat) : Prop where
  rd : Rd w A (nts l)
  ok : ∀ n ∈ l, NtW n
  cap : l.length ≤ c
end

end Go.Proofs.YtegghimjmbgghaaGreat
