/-
  The arguments opened: records.
-/
import Derived.Test.YtegghimjmbgghaaGreatBkOr
import Derived.Test.YtegghimjmbgghaaGreatBkF
set_option linter.unusedSimpArgs false
set_option linter.unusedVariables false
namespace Go.Proofs.YtegghimjmbgghaaGreat
open Go.RowKit Go.ChangeShapes Go.WideShapes Go.Deep

section
variable {H : Type} {enc : TypeId × Value → H} {w : World} {base : Nat} {spare : Nat → Bool} {held : Bool}

/-- Records that came in. -/
structure RecsIn (w : World) (A : Option Addr) (l : List Rc) (c : Nat) : Prop where
  rd : Rd w A (recs l)
  ok : ∀ r ∈ l, RcW r
  cap : l.length ≤ c
theorem open_recs {fuel : Nat} {cs : List Value} {x : DataW H × List MemPlace} (h : DataW.trod enc Tryz.prog w base spare held fuel 22 cs = some x) (hw : Fit Tryz.prog 22 x.1) :
    ∃ (A : Option Addr) (l : List Rc) (c : Nat), cs = [.slice A l.length c] ∧ RecsIn w A l c := by
  obtain ⟨A, l, c, rfl, hr, hok, -⟩ := open_rows rcC 14 112 RcW Tryz.underlying22 (by kernel_rfl) (by omega) (fun _ => rfl) (by kernel_rfl)
    (fun n cs x h _ => open_cells h) h hw
  exact ⟨A, l, c, rfl, hr, hok, cap_le Tryz.underlying22 h⟩
end

end Go.Proofs.YtegghimjmbgghaaGreat
