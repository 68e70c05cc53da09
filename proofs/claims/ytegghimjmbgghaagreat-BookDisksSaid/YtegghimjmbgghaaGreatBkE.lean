/-
  Regions that draw their order and end in several writes; rows.
-/
import Derived.Test.YtegghimjmbgghaaGreatAnyE
import Derived.Test.YtegghimjmbgghaaGreatKit2
import Derived.Laws.Tables
set_option linter.unusedSimpArgs false
set_option linter.unusedVariables false
namespace Go.Proofs.YtegghimjmbgghaaGreat
open Go.RowKit

section
variable {P : Program} {l : List Oper} {Q : Exit → Act → World → Prop} {md : Region.Mode} {S : World → Prop} {s : Nat}

theorem getD_set_keep {listed : Array Bool} {i : Nat} (h : listed.getD s true = true) : (listed.setIfInBounds i true).getD s true = true := by
  by_cases hi : i = s
  · subst hi
    rcases Nat.lt_or_ge i listed.size with h' | h'
    · simp [h']
    · simp [Array.getElem?_eq_none h']
  · rw [getD_set_ne true hi]; exact h
theorem wpAnyE_of_done : ∀ (f : Nat) (listed : Array Bool) (a : Act) (w : World), listed.getD s true = true → wpAny P md l.toArray Q f listed a w → wpAnyE P md l Q S s f listed a w
  | 0, _, _, _, _, h => h
  | f + 1, _, _, _, hd, h => ⟨h.1, fun i hi => wpOp_mono (fun a' w' h' => ⟨fun e => (by rw [getD_set_keep hd] at e; cases e), wpAnyE_of_done f _ a' w' (getD_set_keep hd) h'⟩) (h.2 i hi)⟩
theorem WE_tail {f : Nat} {listed : Array Bool} {a : Act} {w : World} (hs : Region.seqB md l.toArray (f + 1) s listed = true) (hd : (listed.setIfInBounds s true).getD s true = true) (hlen : (l.drop s).length = f + 1)
    (h : wpList P l.toArray Q (l.drop s) a w) : WE P md l Q S s (f + 1) listed a w := fun _ => by
  have H := wpAny_of_seq (md := md) (ops := l.toArray) (Q' := Q) (l.drop s) s listed a w (fun j => by simp [List.getElem?_drop]) (by rw [hlen]; exact hs) h
  rw [hlen] at H
  refine ⟨H.1, fun i hi => wpOp_mono (fun a' w' h' => ?_) (H.2 i hi)⟩
  have hr : Region.ready md l.toArray listed = [s] := by
    simp only [Region.seqB, Bool.and_eq_true, decide_eq_true_eq] at hs
    exact hs.1
  rw [hr] at hi
  obtain rfl : i = s := by simpa using hi
  exact ⟨fun e => (by rw [hd] at e; cases e), wpAnyE_of_done _ _ _ _ hd h'⟩
end
theorem below_setRow {B : Nat} {a w : World} (h : Below B a w) {g : Nat} (hg : B ≤ g) (cs : Array Value) : Below B a (w.setRow g cs) :=
  h.trans ⟨rfl, rfl, rfl, by simp, fun k hk => by simp only [World.setRow, Array.getElem?_modify]; rw [if_neg (by omega)]⟩
theorem results_cell_row_tmp {P : Program} {fn : Func} {p u : Tmp} {ty : TypeId} (h : fn.results = #[.cell p ty, .tmp u]) (tmps : Array Value) (w : World) (g : Nat) (t : TypeId) (cs : Array Value) (fr : Nat × Nat) (d : TypeDesc) (v : Value)
    (hp : tmps.getD p undef = .pointer (some ⟨g, 0, none⟩)) (hv : tmps.getD u undef = v) (hg : w.heap[g]? = some (.cells cs t fr))
    (hu : P.underlying ty = some d) (hd : (match d with | .struct _ | .array _ _ => true | _ => false) = true) (hi : (P.info? ty).map (·.size) = some cs.size) :
    (results fn tmps).run P w = .ok (.tuple #[.agg cs, v]) w := by
  rw [results_cell_tmp h, hp, hv]
  simp [asAddr, Result.andThen, run_loadVar_row w g t ty cs fr d hg hu hd hi]

theorem WE_skip {P : Program} {l : List Oper} {Q : Exit → Act → World → Prop} {md : Region.Mode} {S : World → Prop} {s i : Nat} {oi : Oper} {f : Nat} {listed : Array Bool} {a : Act} {w : World} (hi : l[i]? = some oi) (hT : tailOkB md l s = true) (his : i < s)
    (hf : Region.free md l.toArray listed i = true) (hr : (Region.ready md l.toArray listed).contains i = true)
    (hQ : ∀ c a w, Q (.panic c) (a.put oi.dst undef) w → Q (.panic c) a w) (hw : Region.wanted oi (yielded l.toArray a.tmps) = false) (hS : S w)
    (h : WE P md l Q S s f (listed.setIfInBounds i true) (a.put oi.dst undef) w) : WE P md l Q S s (f + 1) listed a w := fun inv => by
  have hi' : l.toArray[i]? = some oi := by simpa using hi
  simp only [tailOkB, Bool.and_eq_true, decide_eq_true_eq] at hT
  obtain ⟨⟨⟨hsel, hn⟩, hs⟩, hc⟩ := hT
  have hr' : i ∈ Region.ready md l.toArray listed := by simpa using hr
  exact wpAnyE_first hi' (Region.noSelect_spec hsel) hs hc hn his hQ f listed a w inv (Region.free_spec hi' hf) hr' (.inr ⟨hw, rfl⟩) hS (h (inv.set hr' his))

end Go.Proofs.YtegghimjmbgghaaGreat
