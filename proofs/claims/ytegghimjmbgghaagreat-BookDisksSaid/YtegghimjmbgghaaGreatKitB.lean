/-
  A region that draws its order, whose operations only read, and whose callees read, draw and lay blocks of their own: one walk in the order of the text. The worlds: those in which nothing that was there has turned.
-/
import Derived.Test.YtegghimjmbgghaaGreatKit
set_option linter.unusedSimpArgs false
set_option linter.unusedVariables false
namespace Go.Proofs.YtegghimjmbgghaaGreat
open Go.RowKit

/-- A world in which nothing of W has turned. -/
structure After (W : World) where
  w : World
  below : Below W.heap.size W w

instance (W : World) : Inhabited (After W) := ⟨⟨W, Below.refl _ _⟩⟩

theorem wp_region_below {P : Program} {id : Nat} {Q : Exit → Act → World → Prop} {a : Act} {w : World} {l : List Oper} (hm : P.follows .mixedOrders = true) (hB : Region.lexB .any l.toArray = true)
    (h : wpQuiet P l.toArray (fun w' => ∃ p : After w, w' = p.w) (fun a' => ∀ w', (∃ p : After w, w' = p.w) → Q .normal a' w') l a) : (Code.region id l.toArray true).wp P Q a w :=
  wp_region_quiet (C := fun w' => ∃ p : After w, w' = p.w) hm hB ⟨⟨w.drew, Below.drew (Below.refl _ _)⟩, rfl⟩ (by simpa using h)

theorem After.cell {W : World} {a : Addr} {v : Value} (hb : a.block < W.heap.size) (h : W.cell? a = some v) (p : After W) : p.w.cell? a = some v := by
  rw [p.below.cell (p := a) hb]; exact h

theorem Calls.after_of {P : Program} {f : FuncId} {args : Array Value} {W : World} {p : After W} {v : Value}
    (h : Calls P f args p.w fun e w' => e = .returned v ∧ Below p.w.heap.size p.w w') : Calls P f args p.w fun e w'' => e = .returned v ∧ ∃ q : After W, w'' = q.w :=
  h.mono fun _ w' ⟨he, hb⟩ => ⟨he, ⟨w', p.below.trans (hb.mono p.below.size)⟩, rfl⟩
theorem Calls.after_same {P : Program} {f : FuncId} {args : Array Value} {W : World} {p : After W} {v : Value}
    (h : Calls P f args p.w fun e w' => e = .returned v ∧ p.w = w') : Calls P f args p.w fun e w'' => e = .returned v ∧ ∃ q : After W, w'' = q.w :=
  h.mono fun _ _ ⟨he, hw⟩ => ⟨he, p, hw.symm⟩
theorem Calls.after_eq {P : Program} {f : FuncId} {args : Array Value} {W : World} {p : After W} {v : Value} {o : Obj}
    (h : Calls P f args p.w fun e w' => e = .returned v ∧ w' = p.w.alloc o) : Calls P f args p.w fun e w'' => e = .returned v ∧ ∃ q : After W, w'' = q.w :=
  Calls.after_of (h.mono fun _ _ ⟨he, hw⟩ => ⟨he, hw ▸ below_alloc _ _⟩)
theorem Calls.after_drew {P : Program} {f : FuncId} {args : Array Value} {W : World} {p : After W} {v : Value}
    (h : Calls P f args p.w fun e w' => e = .returned v ∧ ∃ n, w' = p.w.drewN n) : Calls P f args p.w fun e w'' => e = .returned v ∧ ∃ q : After W, w'' = q.w :=
  Calls.after_of (h.mono fun _ _ ⟨he, n, hw⟩ => ⟨he, hw ▸ below_drewN' (Below.refl _ _) n⟩)

end Go.Proofs.YtegghimjmbgghaaGreat
