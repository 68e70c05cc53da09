/-
  A region that draws its order and ends in several writes, which come in one order; functions that return two structs and a bool.
-/
import Derived.Test.YtfklckjfbnaoeaaGreatDoorWaK
import Derived.Test.YtfklckjfbnaoeaaGreatDoorFcPu
set_option linter.unusedSimpArgs false
set_option linter.unusedVariables false
namespace Go.Proofs.YtfklckjfbnaoeaaGreatDoor
open Go.RowKit

section
variable {P : Program} {l : List Oper} {Q : Exit → Act → World → Prop} {md : Region.Mode} {S : World → Prop} {s : Nat}

theorem getD_set_keep {listed : Array Bool} {i : Nat} (h : listed.getD s true = true) : (listed.setIfInBounds i true).getD s true = true := by
  by_cases hi : i = s
  · subst hi
    rcases Nat.lt_or_ge i listed.size with h' | h'
    · simp [h']
    · simp [Array.getElem?_eq_none h']
  · rw [getD_set_ne true hi]; exact h
theorem wpAnyE_of_done : ∀ (f : Nat) (listed : Array Bool) (a : Act) (w : World), listed.getD s true = true → wpAny P md l.toArray Q f listed a w → wpAnyE P md l Q S s f listed a w
  | 0, _, _, _, _, h => h
  | f + 1, _, _, _, hd, h => ⟨h.1, fun i hi => wpOp_mono (fun a' w' h' => ⟨fun e => (by rw [getD_set_keep hd] at e; cases e), wpAnyE_of_done f _ a' w' (getD_set_keep hd) h'⟩) (h.2 i hi)⟩
theorem WE_tail {f : Nat} {listed : Array Bool} {a : Act} {w : World} (hs : Region.seqB md l.toArray (f + 1) s listed = true) (hd : (listed.setIfInBounds s true).getD s true = true) (hlen : (l.drop s).length = f + 1)
    (h : wpList P l.toArray Q (l.drop s) a w) : WE P md l Q S s (f + 1) listed a w := fun _ => by
  have H := wpAny_of_seq (md := md) (ops := l.toArray) (Q' := Q) (l.drop s) s listed a w (fun j => by simp [List.getElem?_drop]) (by rw [hlen]; exact hs) h
  rw [hlen] at H
  refine ⟨H.1, fun i hi => wpOp_mono (fun a' w' h' => ?_) (H.2 i hi)⟩
  have hr : Region.ready md l.toArray listed = [s] := by
    simp only [Region.seqB, Bool.and_eq_true, decide_eq_true_eq] at hs
    exact hs.1
  rw [hr] at hi
  obtain rfl : i = s := by simpa using hi
  exact ⟨fun e => (by rw [hd] at e; cases e), wpAnyE_of_done _ _ _ _ hd h'⟩
end

theorem results_cell2_tmp {P : Program} {fn : Func} {p q u : Tmp} {ty ty2 : TypeId} (h : fn.results = #[.cell p ty, .cell q ty2, .tmp u]) (tmps : Array Value) (w : World) (g k : Nat) (t t2 : TypeId) (cs cs2 : Array Value) (fr fr2 : Nat × Nat) (d d2 : TypeDesc) (v : Value)
    (hp : tmps.getD p undef = .pointer (some ⟨g, 0, none⟩)) (hq : tmps.getD q undef = .pointer (some ⟨k, 0, none⟩)) (hv : tmps.getD u undef = v) (hg : w.heap[g]? = some (.cells cs t fr)) (hk : w.heap[k]? = some (.cells cs2 t2 fr2))
    (hu : P.underlying ty = some d) (hd : (match d with | .struct _ | .array _ _ => true | _ => false) = true) (hi : (P.info? ty).map (·.size) = some cs.size)
    (hu2 : P.underlying ty2 = some d2) (hd2 : (match d2 with | .struct _ | .array _ _ => true | _ => false) = true) (hi2 : (P.info? ty2).map (·.size) = some cs2.size) :
    (results fn tmps).run P w = .ok (.tuple #[.agg cs, .agg cs2, v]) w := by
  have h0 : (results fn tmps).run P w = ((asAddr (tmps.getD p undef)).run P w).andThen fun a w₁ => ((loadVar ty a).run P w₁).andThen fun v1 w₂ => ((asAddr (tmps.getD q undef)).run P w₂).andThen fun b w₃ => ((loadVar ty2 b).run P w₃).andThen fun v2 w₄ => .ok (.tuple #[v1, v2, tmps.getD u undef]) w₄ := by
    simp only [results, h]
    simp [Sem.run_bind, Result.andThen]
  rw [h0, hp, hq, hv]
  simp [asAddr, Result.andThen, run_loadVar_row w g t ty cs fr d hg hu hd hi, run_loadVar_row w k t2 ty2 cs2 fr2 d2 hk hu2 hd2 hi2]

end Go.Proofs.YtfklckjfbnaoeaaGreatDoor
