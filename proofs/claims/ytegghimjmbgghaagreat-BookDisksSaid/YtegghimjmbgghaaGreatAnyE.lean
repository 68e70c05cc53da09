/-
  A region that draws its order, under a condition on the world that may fail behind the region's last operation, which waits for all others: an append to a variable that the region itself loads.
-/
import Derived.Deep.RegionHeld3
import Derived.Deep.AppendLies
import Derived.StillTailTactics
import Derived.Test.YtegghimjmbgghaaGreatKit
set_option linter.unusedSimpArgs false
set_option linter.unusedVariables false
namespace Go.Proofs.YtegghimjmbgghaaGreat
open Go.RowKit

section
variable {P : Program} {l : List Oper} {Q : Exit → Act → World → Prop} {md : Region.Mode} {S : World → Prop} {s : Nat}

/-- Whatever order is picked from here on, and S holds behind every operation, as long as number s has not come up. -/
def wpAnyE (P : Program) (md : Region.Mode) (l : List Oper) (Q : Exit → Act → World → Prop) (S : World → Prop) (s : Nat) : Nat → Array Bool → Act → World → Prop
  | 0, listed, a, w => Region.ready md l.toArray listed = [] ∧ Q .normal a w
  | f + 1, listed, a, w =>
    (Region.ready md l.toArray listed = [] → Q .normal a w) ∧
    ∀ i ∈ Region.ready md l.toArray listed, wpOp P l.toArray Q i (fun a' w' => ((listed.setIfInBounds i true).getD s true = false → S w') ∧ wpAnyE P md l Q S s f (listed.setIfInBounds i true) a' w') a w

theorem wpAny_of_E : ∀ (f : Nat) (listed : Array Bool) (a : Act) (w : World), wpAnyE P md l Q S s f listed a w → wpAny P md l.toArray Q f listed a w
  | 0, _, _, _, h => h
  | f + 1, _, _, _, h => ⟨h.1, fun i hi => wpOp_mono (fun _ _ h' => wpAny_of_E f _ _ _ h'.2) (h.2 i hi)⟩

theorem wpAnyE_first {i : Nat} {oi : Oper} {v : Value} (hi : l.toArray[i]? = some oi) (hsel : ∀ (j : Nat) (o : Oper) cs b, l.toArray[j]? = some o → o.op ≠ .select cs b)
    (hs : Region.sinkB md l.toArray s = true) (hc : Region.chainB md l.toArray s = true) (hn : s < l.toArray.size) (his : i < s)
    (hQ : ∀ c a w, Q (.panic c) (a.put oi.dst v) w → Q (.panic c) a w) :
    ∀ (f : Nat) (listed : Array Bool) (a : Act) (w : World), HeadInv md l.toArray s listed →
      (∀ j oj, l.toArray[j]? = some oj → j ≠ i → listed.getD j true = false → (∀ e ∈ oj.after, Region.binds md e = true → e.on ≠ i) → oi.apart l.toArray oj = true) →
      i ∈ Region.ready md l.toArray listed → YieldsIf P l.toArray S oi v a → S w →
      wpAnyE P md l Q S s f (listed.setIfInBounds i true) (a.put oi.dst v) w → wpAnyE P md l Q S s (f + 1) listed a w := by
  intro f
  induction f with
  | zero =>
    intro listed a w _ _ hr hy hS H
    refine ⟨fun h => (by rw [h] at hr; cases hr), fun j hj => ?_⟩
    by_cases hji : j = i
    · subst hji; exact hy.wpOp hi hS ⟨fun _ => hS, H⟩
    · have := ready_mono hj hji
      rw [H.1] at this
      cases this
  | succ f ih =>
    intro listed a w inv hfree hr hy hS H
    refine ⟨fun h => (by rw [h] at hr; cases hr), fun j hj => ?_⟩
    by_cases hji : j = i
    · subst hji; exact hy.wpOp hi hS ⟨fun _ => hS, H⟩
    · have h1 := H.2 j (ready_mono hj hji)
      have hri := ready_mono hr (Ne.symm hji)
      have hun := (mem_ready.1 hr).1
      have hjs : j < s := by
        rcases Nat.lt_or_ge j s with h | h
        · exact h
        · exact absurd hj (tail_waits hs hc hn inv _ i rfl his hun j h)
      obtain ⟨hjun, oj, hoj, hall⟩ := mem_ready.1 hj
      have hnot : ∀ e ∈ oj.after, Region.binds md e = true → e.on ≠ i := fun e he hb heq => by
        have h2 := hall e he hb
        rw [heq, getD_both hun] at h2
        cases h2
      have h2 := wpOp_putIf hoj (hfree j oj hoj hji hjun hnot) (fun cs b => hsel i oi cs b hi) (fun cs b => hsel j oj cs b hoj) hQ hy h1
      have hls : ((listed.setIfInBounds i true).setIfInBounds j true).getD s true = false := by
        rw [getD_set_ne true (by omega), getD_set_ne true (by omega)]
        exact inv.tail s (Nat.le_refl _) hn
      refine wpOp_mono (fun a' w' h3 => ?_) h2
      have hS' := h3.2.1 hls
      refine ⟨fun _ => hS', ih (listed.setIfInBounds j true) a' w' (inv.set hj hjs) ?_ hri h3.1 hS' ?_⟩
      · intro k ok hk hki hkun hno
        refine hfree k ok hk hki ?_ hno
        by_cases hjk : j = k
        · subst hjk; exact hjun
        · rw [getD_set_ne true hjk] at hkun; exact hkun
      · rw [Array.setIfInBounds_comm _ _ hji]
        exact h3.2.2

/-- The same, where the walk keeps the list of what has come up by itself. -/
def WE (P : Program) (md : Region.Mode) (l : List Oper) (Q : Exit → Act → World → Prop) (S : World → Prop) (s f : Nat) (listed : Array Bool) (a : Act) (w : World) : Prop :=
  HeadInv md l.toArray s listed → wpAnyE P md l Q S s f listed a w

def tailOkB (md : Region.Mode) (l : List Oper) (s : Nat) : Bool :=
  Region.noSelect l.toArray && decide (s < l.toArray.size) && Region.sinkB md l.toArray s && Region.chainB md l.toArray s

theorem WE_take {i : Nat} {oi : Oper} {v : Value} {f : Nat} {listed : Array Bool} {a : Act} {w : World} (hi : l[i]? = some oi) (hT : tailOkB md l s = true) (his : i < s)
    (hf : Region.free md l.toArray listed i = true) (hr : (Region.ready md l.toArray listed).contains i = true)
    (hQ : ∀ c a w, Q (.panic c) (a.put oi.dst v) w → Q (.panic c) a w) (hw : Region.wanted oi (yielded l.toArray a.tmps) = true) (hS : S w)
    (hy : ∀ w, S w → (execOp a.eval oi).run P w = .ok (.value v) w)
    (h : WE P md l Q S s f (listed.setIfInBounds i true) (a.put oi.dst v) w) : WE P md l Q S s (f + 1) listed a w := fun inv => by
  have hi' : l.toArray[i]? = some oi := by simpa using hi
  simp only [tailOkB, Bool.and_eq_true, decide_eq_true_eq] at hT
  obtain ⟨⟨⟨hsel, hn⟩, hs⟩, hc⟩ := hT
  have hr' : i ∈ Region.ready md l.toArray listed := by simpa using hr
  exact wpAnyE_first hi' (Region.noSelect_spec hsel) hs hc hn his hQ f listed a w inv (Region.free_spec hi' hf) hr' (.inl ⟨hw, hy⟩) hS (h (inv.set hr' his))

theorem WE_one {i : Nat} {o : Oper} {f : Nat} {listed : Array Bool} {a : Act} {w : World} (hi : l[i]? = some o) (his : i < s) (hr : Region.ready md l.toArray listed = [i])
    (h : ∀ K : Act → World → Prop, Shut (∀ a w, S w → (S w → WE P md l Q S s f (listed.setIfInBounds i true) a w) → K a w) → if Region.wanted o (yielded l.toArray a.tmps) = true then Oper.wp P o a w K Q else K (a.put o.dst undef) w) :
    WE P md l Q S s (f + 1) listed a w := fun inv => by
  have hi' : l.toArray[i]? = some o := by simpa using hi
  have hm : i ∈ Region.ready md l.toArray listed := by rw [hr]; simp
  refine ⟨fun h => (by rw [h] at hr; cases hr), fun j hj => ?_⟩
  rw [hr] at hj
  obtain rfl : j = i := by simpa using hj
  exact wpOp_step hi' (fun K hK => h K (fun a w hS hW => hK a w ⟨fun _ => hS, hW hS (inv.set hm his)⟩))

theorem WE_last {o : Oper} {f : Nat} {listed : Array Bool} {a : Act} {w : World} (hi : l[s]? = some o) (hr : Region.ready md l.toArray listed = [s]) (hr2 : Region.ready md l.toArray (listed.setIfInBounds s true) = []) (hb : (listed.setIfInBounds s true).getD s true = true)
    (h : ∀ K : Act → World → Prop, Shut (∀ a w, Q .normal a w → K a w) → if Region.wanted o (yielded l.toArray a.tmps) = true then Oper.wp P o a w K Q else K (a.put o.dst undef) w) :
    WE P md l Q S s (f + 1) listed a w := fun _ => by
  have hi' : l.toArray[s]? = some o := by simpa using hi
  refine ⟨fun h => (by rw [h] at hr; cases hr), fun j hj => ?_⟩
  rw [hr] at hj
  obtain rfl : j = s := by simpa using hj
  refine wpOp_step hi' (fun K hK => h K (fun a w hQ => hK a w ⟨fun e => (by rw [hb] at e; cases e), ?_⟩))
  cases f with
  | zero => exact ⟨hr2, hQ⟩
  | succ f => exact ⟨fun _ => hQ, by rw [hr2]; simp⟩

theorem wp_region_E {id : Nat} {a : Act} {w : World} (s n : Nat) (hn : l.length = n) (hm : P.follows .mixedOrders = true) (hT : tailOkB .any l s = true) (hS : S w.drew)
    (h : S w.drew → WE P .any l Q S s n (Array.replicate n false) a w.drew) : (Code.region id l.toArray true).wp P Q a w := by
  have hsz : l.toArray.size = n := by simpa using hn
  refine wp_region_any hm (wpAny_of_E (S := S) (s := s) _ _ _ _ ?_)
  rw [hsz]
  exact h hS ⟨by simp [hsz], fun j oj _ hl => (by rw [getD_replicate_false] at hl; cases hl), fun t _ ht => getD_in (by simpa [hsz] using ht) (getD_replicate_false _ _)⟩
end
end Go.Proofs.YtegghimjmbgghaaGreat
