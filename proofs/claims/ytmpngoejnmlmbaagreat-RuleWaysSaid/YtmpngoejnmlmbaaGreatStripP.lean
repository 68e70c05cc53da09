/-
  The strip of what holds, metre by metre; stretches of both packages agree. Plain: no walk.
-/
import Derived.Test.YtmpngoejnmlmbaaGreatHoldP
import Derived.Test.YtmpngoejnmlmbaaGreatHeld2
set_option linter.unusedSimpArgs false
set_option linter.unusedVariables false
namespace Go.Proofs.YtmpngoejnmlmbaaGreat
open Go.RowKit

/-- The events of a row are in order. -/
structure EvInv (st : List (Int × Int) × Int) (f : Int) : Prop where
  sorted : st.1.Pairwise (fun a b => a.1 ≤ b.1)
  upto : ∀ x ∈ st.1, x.1 ≤ f
  stop : st.2 = -1 ∨ f ≤ st.2
theorem EvInv.stopped {st : List (Int × Int) × Int} {f far : Int} (h : EvInv st f) (hf : f ≤ far) : (stopP st.1 st.2 far).1.Pairwise (fun a b => a.1 ≤ b.1) ∧ ∀ x ∈ (stopP st.1 st.2 far).1, x.1 ≤ far := by
  unfold stopP
  by_cases h1 : 0 ≤ st.2 ∧ st.2 ≤ far
  · rw [if_pos h1]
    have h2 : f ≤ st.2 := by rcases h.stop with h3 | h3 <;> omega
    refine ⟨List.pairwise_append.2 ⟨h.sorted, by simp, fun a ha b hb => ?_⟩, fun x hx => ?_⟩
    · simp at hb; subst hb; have := h.upto a ha; dsimp only; omega
    · rcases List.mem_append.1 hx with hx | hx
      · have := h.upto x hx; omega
      · simp at hx; subst hx; exact h1.2
  · rw [if_neg h1]
    exact ⟨h.sorted, fun x hx => by have := h.upto x hx; omega⟩
theorem evRun_inv {len : Int} {js : List Int} {R : List Mt} {dir topic : Int} (hl0 : 0 ≤ len) (hok : RowOk len R) (hs : R.Pairwise (fun a b => a.far ≤ b.far)) (n : Nat) (hn : n ≤ R.length) :
    ∃ f, EvInv (evRun len js R dir topic n) f ∧ f ≤ len ∧ ∀ i (h : i < R.length), n ≤ i → f ≤ R[i].far := by
  induction n with
  | zero =>
    exact ⟨0, ⟨by simp [evRun], by simp [evRun], .inl rfl⟩, hl0, fun i h _ => (hok _ (List.getElem_mem h)).1⟩
  | succ n ih =>
    obtain ⟨f, hf, hfl, hfr⟩ := ih (by omega)
    rw [evRun_succ]
    unfold evStep
    rw [List.getElem?_eq_getElem (show n < R.length by omega)]
    dsimp only
    cases hsay : saysP R[n].s topic with
    | none => exact ⟨f, hf, hfl, fun i h hi => hfr i h (by omega)⟩
    | some v =>
      have h1 := hfr n (by omega) (Nat.le_refl _)
      have h2 := hf.stopped h1
      refine ⟨R[n].far, ⟨?_, ?_, ?_⟩, (hok _ (List.getElem_mem (show n < R.length by omega))).2.1, fun i h hi => List.pairwise_iff_getElem.1 hs n i (by omega) h (by omega)⟩
      · refine List.pairwise_append.2 ⟨h2.1, by simp, fun a ha b hb => ?_⟩
        simp at hb; subst hb; exact h2.2 a ha
      · intro x hx
        rcases List.mem_append.1 hx with hx | hx
        · exact h2.2 x hx
        · simp at hx; subst hx; exact Int.le_refl _
      · dsimp only
        split
        · exact .inl rfl
        · exact .inr (reachP_ge hok (by omega))
theorem events_sorted {len : Int} {js : List Int} {R : List Mt} {dir topic : Int} (hl0 : 0 ≤ len) (hok : RowOk len R) (hs : R.Pairwise (fun a b => a.far ≤ b.far)) : (eventsP len js R dir topic).Pairwise (fun a b => a.1 ≤ b.1) := by
  obtain ⟨f, hf, hfl, -⟩ := evRun_inv (js := js) (dir := dir) (topic := topic) hl0 hok hs R.length (Nat.le_refl _)
  exact (hf.stopped hfl).1

def lastV (l : List (Int × Int)) : Int := l.foldl (fun _ e => e.2) 0
theorem advP_spec {ev : List (Int × Int)} (hs : ev.Pairwise (fun a b => a.1 ≤ b.1)) (k : Int) : ∀ (d n : Nat), d = ev.length - n → n ≤ ev.length → (∀ e ∈ ev.take n, e.1 ≤ k) →
    ∃ n', n' ≤ ev.length ∧ advP (ev.drop n) (lastV (ev.take n)) n k = (lastV (ev.take n'), n') ∧ (∀ e ∈ ev.take n', e.1 ≤ k) ∧ ∀ e ∈ ev.drop n', k < e.1 := by
  intro d
  induction d with
  | zero =>
    intro n hd hn h
    have : n = ev.length := by omega
    subst this
    exact ⟨ev.length, Nat.le_refl _, by simp [advP], h, by simp⟩
  | succ d ih =>
    intro n hd hn h
    have hlt : n < ev.length := by omega
    by_cases hk : ev[n].1 ≤ k
    · rw [advP_on hlt hk]
      have h2 : lastV (ev.take (n + 1)) = ev[n].2 := by rw [List.take_succ_eq_append_getElem hlt, lastV, List.foldl_append]; rfl
      have h3 := ih (n + 1) (by omega) (by omega) (fun e he => by
        rw [List.take_succ_eq_append_getElem hlt] at he
        rcases List.mem_append.1 he with he | he
        · exact h e he
        · simp at he; subst he; exact hk)
      rw [h2] at h3
      exact h3
    · rw [advP_off (fun _ => hk)]
      refine ⟨n, hn, rfl, h, fun e he => ?_⟩
      obtain ⟨i, hi, rfl⟩ := List.getElem_of_mem he
      rw [List.getElem_drop]
      rcases Nat.eq_zero_or_pos i with h0 | h0
      · subst h0; simp; omega
      · have := List.pairwise_iff_getElem.1 hs n (n + i) hlt (by simp at hi; omega) (by omega)
        omega
theorem atP_split {ev : List (Int × Int)} {k : Int} {n : Nat} (h1 : ∀ e ∈ ev.take n, e.1 ≤ k) (h2 : ∀ e ∈ ev.drop n, k < e.1) : atP ev k = lastV (ev.take n) := by
  have a1 : ∀ (l : List (Int × Int)) v, (∀ e ∈ l, k < e.1) → l.foldl (fun v e => if e.1 ≤ k then e.2 else v) v = v := by
    intro l
    induction l with
    | nil => intro v _; rfl
    | cons x l ih =>
      intro v h
      rw [List.foldl_cons, if_neg (by have := h x (by simp); omega)]
      exact ih v fun e he => h e (by simp [he])
  have a2 : ∀ (l : List (Int × Int)) v, (∀ e ∈ l, e.1 ≤ k) → l.foldl (fun v e => if e.1 ≤ k then e.2 else v) v = l.foldl (fun _ e => e.2) v := by
    intro l
    induction l with
    | nil => intro v _; rfl
    | cons x l ih =>
      intro v h
      rw [List.foldl_cons, List.foldl_cons, if_pos (h x (by simp))]
      exact ih _ fun e he => h e (by simp [he])
  have h := List.take_append_drop n ev
  unfold atP
  conv => lhs; rw [← h]
  rw [List.foldl_append, a2 _ _ h1, a1 _ _ h2]
  rfl

theorem metreI_inv {n dir m : Int} : metreI n dir (metreI n dir m) = m := by unfold metreI; split <;> omega
theorem strip_run {ev : List (Int × Int)} (hs : ev.Pairwise (fun a b => a.1 ≤ b.1)) (n : Nat) (dir : Int) (k : Nat) (hk : k ≤ n) :
    ∃ m, m ≤ ev.length ∧ (stRun ev n dir k).1 = (lastV (ev.take m), m) ∧ (∀ e ∈ ev.take m, e.1 < k) ∧ (stRun ev n dir k).2.length = n ∧
      ∀ i : Nat, i < n → (stRun ev n dir k).2[i]? = some (if metreI n dir i < k then atP ev (metreI n dir i) else 0) := by
  induction k with
  | zero =>
    refine ⟨0, Nat.zero_le _, rfl, by simp, by simp [stRun], fun i hi => ?_⟩
    have := metreI_lt (len := n) (dir := dir) (k := i) (by omega) (by omega)
    rw [if_neg (by omega)]
    simp [stRun, hi]
  | succ k ih =>
    obtain ⟨m, hm, h1, h2, h3, h4⟩ := ih (by omega)
    obtain ⟨m', hm', g1, g2, g3⟩ := advP_spec hs (k : Int) (ev.length - m) m rfl hm (fun e he => by have := h2 e he; omega)
    have hat := atP_split g2 g3
    have hmi := metreI_lt (len := n) (dir := dir) (k := k) (by omega) (by omega)
    rw [stRun_succ, stStep, h1]
    dsimp only
    rw [g1]
    refine ⟨m', hm', rfl, fun e he => by have := g2 e he; omega, by simp [h3], fun i hi => ?_⟩
    have hii := metreI_lt (len := n) (dir := dir) (k := i) (by omega) (by omega)
    by_cases e : metreI n dir i = k
    · have e2 : (metreI n dir k).toNat = i := by rw [← e, metreI_inv]; simp
      rw [e2, List.getElem?_set_self (by omega), e, if_pos (by omega), hat]
    · have e2 : (metreI n dir k).toNat ≠ i := by
        intro h
        apply e
        have h5 : metreI n dir k = i := by omega
        rw [← h5, metreI_inv]
      rw [List.getElem?_set_ne e2, h4 i hi]
      by_cases h6 : metreI n dir i < k
      · rw [if_pos h6, if_pos (by omega)]
      · rw [if_neg h6, if_neg (by omega)]
/-- What holds on each metre. -/
def holdS (n : Nat) (js : List Int) (R : List Mt) (dir topic : Int) : List Int := (List.range n).map fun m => holdP n js R dir topic (metreI n dir (m : Nat))
@[simp] theorem holdS_len (n : Nat) (js : List Int) (R : List Mt) (dir topic : Int) : (holdS n js R dir topic).length = n := by simp [holdS]
theorem strip_hold {n : Nat} {js : List Int} {R : List Mt} {dir topic : Int} (hok : RowOk n R) (hs : R.Pairwise (fun a b => a.far ≤ b.far)) : stripP (eventsP n js R dir topic) n dir = holdS n js R dir topic := by
  obtain ⟨m, -, -, -, h3, h4⟩ := strip_run (events_sorted (js := js) (dir := dir) (topic := topic) (by omega) hok hs) n dir n (Nat.le_refl _)
  apply List.ext_getElem?
  intro i
  by_cases hi : i < n
  · have hii := metreI_lt (len := n) (dir := dir) (k := i) (by omega) (by omega)
    rw [stripP, h4 i hi, if_pos hii.2, at_events hok hii.2]
    simp [holdS, hi]
  · rw [List.getElem?_eq_none (by rw [stripP, h3]; omega), List.getElem?_eq_none (by simp; omega)]
theorem IsRow.far {len hour dir : Int} {l : List Sg} {R : List Mt} (h : IsRow len hour dir l R) : R.Pairwise (fun a b => a.far ≤ b.far) :=
  h.sorted.imp fun {a b} hn => by unfold mtLt at hn; omega

/-! stretches -/
theorem hdStep_zero {out : List Hd} {m : Int} (h : ∀ x ∈ out, x.val ≠ 0) : hdStep out m 0 = out := by
  unfold hdStep
  cases hg : out.getLast? with
  | none => simp
  | some x =>
    have := h x (List.mem_of_getLast? hg)
    simp [this]
theorem hdStep_vals {out : List Hd} {m v : Int} (h : ∀ x ∈ out, x.val ≠ 0) : ∀ x ∈ hdStep out m v, x.val ≠ 0 := by
  unfold hdStep
  cases hg : out.getLast? with
  | none =>
    dsimp only
    split
    · exact h
    · intro x hx; rcases List.mem_append.1 hx with hx | hx
      · exact h x hx
      · simp at hx; subst hx; assumption
  | some y =>
    dsimp only
    split
    · intro x hx
      rcases List.mem_or_eq_of_mem_set hx with hx | hx
      · exact h x hx
      · subst hx; exact h y (List.mem_of_getLast? hg)
    · split
      · exact h
      · intro x hx; rcases List.mem_append.1 hx with hx | hx
        · exact h x hx
        · simp at hx; subst hx; assumption
theorem hdRun_vals (s : List Int) (k : Nat) (hk : k ≤ s.length) : ∀ x ∈ hdRun s k, x.val ≠ 0 := by
  induction k with
  | zero => simp [hdRun]
  | succ k ih => rw [hdRun_succ s k hk]; exact hdStep_vals (ih (by omega))

end Go.Proofs.YtmpngoejnmlmbaaGreat
