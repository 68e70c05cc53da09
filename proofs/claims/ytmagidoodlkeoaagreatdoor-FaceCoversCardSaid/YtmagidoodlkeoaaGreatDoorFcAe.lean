/-
  append(empty, items...).
-/
import Derived.Test.YtmagidoodlkeoaaGreatDoorFcLk
set_option linter.unusedSimpArgs false
set_option linter.unusedVariables false
namespace Go.Proofs.YtmagidoodlkeoaaGreatDoor
open Go.RowKit

theorem addr_add (b off j : Nat) : (⟨b, off, none⟩ : Addr).add j = ⟨b, off + j, none⟩ := by unfold Addr.add; simp
theorem its_one (l : List It) : ∀ u ∈ its l, u.oneCell' = true := by
  intro u hu
  simp only [its, List.mem_flatMap] at hu
  obtain ⟨x, -, hx⟩ := hu
  simp [itC] at hx
  rcases hx with rfl | rfl | rfl | rfl | rfl | rfl | rfl <;> rfl
theorem empty_row {w : World} {E base : Nat} {e : TypeId} (h : w.heap[E]? = some (.cells #[] e (0, 0))) (hE : base ≤ E) (size : Nat) : w.ownsRow base e size (.slice (some ⟨E, 0, none⟩) 0 0) 0 [] :=
  ⟨by simp, .inr ⟨E, 0, #[], rfl, hE, h, by omega, by unfold maxLen; omega, by simp, by simp⟩⟩

set_option maxRecDepth 100000 in
set_option maxHeartbeats 2000000 in
theorem step_items {l : List It} {W : World} {A : Option Addr} {c E base : Nat} {ops : Array Oper} {o : Oper} {a : Act} {K : Act → World → Prop} {Q : Exit → Act → World → Prop} {X : Prop} (hgd : o.guard = none) (s x : Operand)
    (ho : o.op = .call { callee := .builtin .append, args := #[s, x], argTypes := #[23, 23] })
    (hs : a.eval s = .slice (some ⟨E, 0, none⟩) 0 0) (hx : a.eval x = .slice A l.length c) (hit : ItsOk W A l) (hl : l.length ≤ 1000) (hE : base ≤ E) (hh : W.heap[E]? = some (.cells #[] 66 (0, 0)))
    (h : ∀ g cap w', w'.ownsRow base 66 7 (.slice (some ⟨g, 0, none⟩) l.length cap) l.length (its l) → W.grownBy w' (some E) → g < w'.heap.size → K (a.put o.dst (.slice (some ⟨g, 0, none⟩) l.length cap)) w') :
    if Region.wanted o (yielded ops a.tmps) = true then Oper.wp Tryz.prog o a W K Q else X := by
  obtain ⟨i0, hi, hz0, hz1, hz2⟩ := info_parts info_item
  have hEl := (Array.getElem?_eq_some_iff.1 hh).1
  have hrow := empty_row (e := 66) hh hE 7
  by_cases hn : l.length = 0
  · have hl0 : l = [] := List.length_eq_zero_iff.1 hn
    subst hl0
    have hw : Region.wanted o (yielded ops a.tmps) = true := by simp [Region.wanted, hgd]
    rw [if_pos hw]
    have hrun : (Builtin.append_ #[23, 23] o.type #[.slice (some ⟨E, 0, none⟩) 0 0, .slice A 0 c]).run Tryz.prog W = .ok (.slice (some ⟨E, 0, none⟩) 0 0) W := by
      cases A <;> simp [Builtin.append_, run_underlying Tryz.underlying23, sizeOf, typeInfo, hi, Builtin.lenOf, Builtin.firstCells, loadCells, loadCellsFrom, storeCells]
    have hx' : a.eval x = .slice A 0 c := by simpa using hx
    unfold Oper.wp execOp
    simp only [ho, resolve, invoke, builtin, Sem.run_bind, Sem.run_pure, Result.andThen_ok, List.map_toArray, List.map_cons, List.map_nil, hs, hx', hrun]
    exact h E 0 W hrow ⟨rfl, rfl, rfl, Nat.le_refl _, fun _ _ _ => rfl⟩ hEl
  · obtain ⟨b, off, rfl, hb, hc⟩ := hit.rd (its_ne (k := 0) (by omega))
    refine step_append_lies W hgd s x 23 ho base 66 i0 _ 7 64 Tryz.underlying23 hi hz0 hz1 hz2 rfl (by omega) (.slice (some ⟨E, 0, none⟩) 0 0) 0 [] hs hrow ⟨b, off, none⟩ l.length c (its l) hx (by rw [its_len]) (fun j u hj => by rw [addr_add]; exact hc j u hj) (its_one l) (by omega) (by unfold maxLen; omega) (by omega) (by omega) W.heap.size rfl ?_
    intro g cap w' h1 h2 h3 h4
    have h1' : w'.ownsRow base 66 7 (.slice (some ⟨g, 0, none⟩) l.length cap) l.length (its l) := by simpa using h1
    have := h g cap w' h1' h2 h4
    simpa using this

end Go.Proofs.YtmagidoodlkeoaaGreatDoor
