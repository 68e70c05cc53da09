/-
  A region that draws its order: a call that answers one value in every world of the condition, and leaves the world as it is, may be taken first.
-/
import Derived.Test.YtegghimjmbgghaaGreatAnyE
set_option linter.unusedSimpArgs false
set_option linter.unusedVariables false
namespace Go.Proofs.YtegghimjmbgghaaGreat
open Go.RowKit

section
variable {P : Program} {ops : Array Oper} {l : List Oper} {Q : Exit → Act → World → Prop} {md : Region.Mode} {S : World → Prop} {s : Nat}

def YieldsC (P : Program) (ops : Array Oper) (S : World → Prop) (o : Oper) (v : Value) (a : Act) : Prop :=
  Region.wanted o (yielded ops a.tmps) = true ∧ ∀ w, S w → ∃ f args, (execOp a.eval o).run P w = .ok (.enter f args) w ∧ Calls P f args w fun e w' => e = .returned v ∧ w = w'
theorem YieldsC.wpOp {i : Nat} {o : Oper} {v : Value} {a : Act} (hi : ops[i]? = some o) (hy : YieldsC P ops S o v a) {K : Act → World → Prop} {w : World} (hS : S w) (h : K (a.put o.dst v) w) : wpOp P ops Q i K a w := by
  unfold Go.wpOp
  simp only [hi]
  obtain ⟨hw, hv⟩ := hy
  obtain ⟨f, args, h1, h2⟩ := hv w hS
  simp only [hw, if_true, Oper.wp, h1, Oper.upon]
  exact .inl (h2.mono fun e w'' ⟨he, hw'⟩ => by subst he; subst hw'; exact h)
theorem wpOp_act {j : Nat} {oj : Oper} (hj : ops[j]? = some oj) {K : Act → World → Prop} {a : Act} {w : World} {R : Act → Prop} (h1 : ∀ u, R (a.put oj.dst u)) (h2 : ∀ d u, R (Act.put { a with defers := d :: a.defers } oj.dst u)) (h : wpOp P ops Q j K a w) :
    wpOp P ops Q j (fun a' w' => R a' ∧ K a' w') a w := by
  unfold Go.wpOp at *
  simp only [hj] at *
  split
  · rename_i hw
    simp only [hw, if_true] at h
    rcases h with h | h
    case inr => exact .inr h
    refine .inl ?_
    unfold Oper.wp at *
    generalize (execOp a.eval oj).run P w = r at *
    cases r with
    | ok n w' =>
      cases n <;> simp only [Oper.upon] at h ⊢
      case value u => exact ⟨h1 u, h⟩
      case skip => exact ⟨h1 _, h⟩
      case defer d => exact ⟨h2 d _, h⟩
      case enter f args =>
        refine Calls.mono h fun e w'' he => ?_
        cases e with
        | returned u => exact ⟨h1 u, he⟩
        | panicked c => exact he
        | outgrown => exact he
      case row row args => exact Rows.mono h fun u w'' he => ⟨h1 u, he⟩
    | halt x w' =>
      cases x <;> simp only [Oper.upon] at h ⊢
      case panic u => exact h
  · rename_i hw
    simp only [hw] at h
    exact ⟨h1 _, h⟩
theorem wpOp_putC {j : Nat} {oi oj : Oper} {v : Value} (hj : ops[j]? = some oj) (hap : oi.apart ops oj = true) (hsi : ∀ cs b, oi.op ≠ .select cs b) (hsj : ∀ cs b, oj.op ≠ .select cs b)
    (hQ : ∀ c a w, Q (.panic c) (a.put oi.dst v) w → Q (.panic c) a w) {K : Act → World → Prop} {a : Act} {w : World} (hy : YieldsC P ops S oi v a) (h : wpOp P ops Q j K (a.put oi.dst v) w) :
    wpOp P ops Q j (fun a' w' => YieldsC P ops S oi v a' ∧ K (a'.put oi.dst v) w') a w := by
  obtain ⟨h1, h2, h3⟩ := Oper.apart_spec hap
  have hy0 : YieldsIf P ops (fun _ => False) oi v a := .inl ⟨hy.1, fun _ h => h.elim⟩
  have h4 := wpOp_act (R := fun a' => YieldsC P ops S oi v a') hj (fun u => by
    have := hy
    unfold YieldsC at *
    rw [execOp_put oi hsi a oj.dst u h3, wanted_put oi a oj.dst u h3]
    exact this) (fun d u => by
    have := hy
    unfold YieldsC at *
    rw [execOp_put oi hsi _ oj.dst u h3, wanted_put oi _ oj.dst u h3]
    exact this) (wpOp_putIf hj hap hsi hsj hQ hy0 h)
  exact wpOp_mono (fun a' w' h => ⟨h.1, h.2.2⟩) h4

theorem wpAnyE_firstC {i : Nat} {oi : Oper} {v : Value} (hi : l.toArray[i]? = some oi) (hsel : ∀ (j : Nat) (o : Oper) cs b, l.toArray[j]? = some o → o.op ≠ .select cs b)
    (hs : Region.sinkB md l.toArray s = true) (hc : Region.chainB md l.toArray s = true) (hn : s < l.toArray.size) (his : i < s)
    (hQ : ∀ c a w, Q (.panic c) (a.put oi.dst v) w → Q (.panic c) a w) :
    ∀ (f : Nat) (listed : Array Bool) (a : Act) (w : World), HeadInv md l.toArray s listed →
      (∀ j oj, l.toArray[j]? = some oj → j ≠ i → listed.getD j true = false → (∀ e ∈ oj.after, Region.binds md e = true → e.on ≠ i) → oi.apart l.toArray oj = true) →
      i ∈ Region.ready md l.toArray listed → YieldsC P l.toArray S oi v a → S w →
      wpAnyE P md l Q S s f (listed.setIfInBounds i true) (a.put oi.dst v) w → wpAnyE P md l Q S s (f + 1) listed a w := by
  intro f
  induction f with
  | zero =>
    intro listed a w _ _ hr hy hS H
    refine ⟨fun h => (by rw [h] at hr; cases hr), fun j hj => ?_⟩
    by_cases hji : j = i
    · subst hji; exact hy.wpOp hi hS ⟨fun _ => hS, H⟩
    · have := ready_mono hj hji
      rw [H.1] at this
      cases this
  | succ f ih =>
    intro listed a w inv hfree hr hy hS H
    refine ⟨fun h => (by rw [h] at hr; cases hr), fun j hj => ?_⟩
    by_cases hji : j = i
    · subst hji; exact hy.wpOp hi hS ⟨fun _ => hS, H⟩
    · have h1 := H.2 j (ready_mono hj hji)
      have hri := ready_mono hr (Ne.symm hji)
      have hun := (mem_ready.1 hr).1
      have hjs : j < s := by
        rcases Nat.lt_or_ge j s with h | h
        · exact h
        · exact absurd hj (tail_waits hs hc hn inv _ i rfl his hun j h)
      obtain ⟨hjun, oj, hoj, hall⟩ := mem_ready.1 hj
      have hnot : ∀ e ∈ oj.after, Region.binds md e = true → e.on ≠ i := fun e he hb heq => by
        have h2 := hall e he hb
        rw [heq, getD_both hun] at h2
        cases h2
      have h2 := wpOp_putC hoj (hfree j oj hoj hji hjun hnot) (fun cs b => hsel i oi cs b hi) (fun cs b => hsel j oj cs b hoj) hQ hy h1
      have hls : ((listed.setIfInBounds i true).setIfInBounds j true).getD s true = false := by
        rw [getD_set_ne true (by omega), getD_set_ne true (by omega)]
        exact inv.tail s (Nat.le_refl _) hn
      refine wpOp_mono (fun a' w' h3 => ?_) h2
      have hS' := h3.2.1 hls
      refine ⟨fun _ => hS', ih (listed.setIfInBounds j true) a' w' (inv.set hj hjs) ?_ hri h3.1 hS' ?_⟩
      · intro k ok hk hki hkun hno
        refine hfree k ok hk hki ?_ hno
        by_cases hjk : j = k
        · subst hjk; exact hjun
        · rw [getD_set_ne true hjk] at hkun; exact hkun
      · rw [Array.setIfInBounds_comm _ _ hji]
        exact h3.2.2

theorem WE_call {i : Nat} {oi : Oper} {v : Value} {g : FuncId} {args : Array Value} {f : Nat} {listed : Array Bool} {a : Act} {w : World} (hi : l[i]? = some oi) (hT : tailOkB md l s = true) (his : i < s)
    (hf : Region.free md l.toArray listed i = true) (hr : (Region.ready md l.toArray listed).contains i = true)
    (hQ : ∀ c a w, Q (.panic c) (a.put oi.dst v) w → Q (.panic c) a w) (hw : Region.wanted oi (yielded l.toArray a.tmps) = true) (hS : S w)
    (hrun : ∀ w, S w → (execOp a.eval oi).run P w = .ok (.enter g args) w)
    (hc : ∀ w, S w → Calls P g args w fun e w' => e = .returned v ∧ w = w')
    (h : WE P md l Q S s f (listed.setIfInBounds i true) (a.put oi.dst v) w) : WE P md l Q S s (f + 1) listed a w := fun inv => by
  have hi' : l.toArray[i]? = some oi := by simpa using hi
  simp only [tailOkB, Bool.and_eq_true, decide_eq_true_eq] at hT
  obtain ⟨⟨⟨hsel, hn⟩, hs⟩, hch⟩ := hT
  have hr' : i ∈ Region.ready md l.toArray listed := by simpa using hr
  exact wpAnyE_firstC hi' (Region.noSelect_spec hsel) hs hch hn his hQ f listed a w inv (Region.free_spec hi' hf) hr' ⟨hw, fun w h => ⟨g, args, hrun w h, hc w h⟩⟩ hS (h (inv.set hr' his))
end

end Go.Proofs.YtegghimjmbgghaaGreat
