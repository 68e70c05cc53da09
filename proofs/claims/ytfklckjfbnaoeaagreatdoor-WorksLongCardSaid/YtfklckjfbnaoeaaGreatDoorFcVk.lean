/-
  Which items are valid: the reference.
-/
import Derived.Test.YtfklckjfbnaoeaaGreatDoorFcN
set_option linter.unusedSimpArgs false
set_option linter.unusedVariables false
namespace Go.Proofs.YtfklckjfbnaoeaaGreatDoor
open Go.RowKit

def wiB (lo n hi : Int) : Bool := decide (lo ≤ n ∧ n ≤ hi)
theorem within_b (n lo hi : Int) (w : World) :
    Calls Tryz.prog 227 #[.int .i64 lo, .int .i64 n, .int .i64 hi] w fun e w' => e = .returned (.bool (wiB lo n hi)) ∧ w = w' := within_calls lo n hi w
theorem quiet_same' {P : Program} {f : FuncId} {args : Array Value} {w : World} {n : Nat} {v : Value}
    (h : Calls P f args (w.drewN n) fun e w' => e = .returned v ∧ w.drewN n = w') : Calls P f args (w.drewN n) fun e w'' => e = .returned v ∧ ∃ m, w'' = w.drewN m :=
  h.mono fun _ _ ⟨he, hm⟩ => ⟨he, n, hm.symm⟩
end Go.Proofs.YtfklckjfbnaoeaaGreatDoor
