/-
  How the reference finds what counts: forks of a sorted list, prefixes, passes. No program in sight.
-/
import Derived.Test.YtegghimjmbgghaaGreatBkQ
set_option linter.unusedSimpArgs false
set_option linter.unusedVariables false
namespace Go.Proofs.YtegghimjmbgghaaGreat

/-! ### Forks of a sorted list -/
/-- Two neighbours of one tablet with one number. -/
def adjB (L : List Rc) (t : Nat) (i : Nat) : Prop := ∃ (h : i + 1 < L.length), (L[i]'(by omega)).tb = t ∧ (L[i + 1]).tb = t ∧ (L[i]'(by omega)).num = (L[i + 1]).num
theorem asc_get {L : List Rc} (hA : Asc L) {i j : Nat} (hi : i < L.length) (hj : j < L.length) (h : i < j) : rls L[i] L[j] = true := (List.pairwise_iff_getElem.1 hA) i j hi hj h
theorem asc_num {L : List Rc} (hv : ∀ r ∈ L, rcB r = true) (hA : Asc L) {i j : Nat} (hi : i < L.length) (hj : j < L.length) (h : i < j) (e : L[i].tb = L[j].tb) : L[i].num ≤ L[j].num := by
  have o1 := (rc_ok (hv _ (List.getElem_mem hi))).tb
  have o2 := (rc_ok (hv _ (List.getElem_mem hj))).tb
  rcases rls_tab (asc_get hA hi hj h) with h | h
  · omega
  · exact h.2
theorem asc_mid {L : List Rc} (hv : ∀ r ∈ L, rcB r = true) (hA : Asc L) {i j k : Nat} (hk : k < L.length) (h1 : i < j) (h2 : j < k) (e : (L[i]'(by omega)).tb = L[k].tb) (en : (L[i]'(by omega)).num = L[k].num) :
    (L[j]'(by omega)).tb = L[k].tb ∧ (L[j]'(by omega)).num = L[k].num := by
  have o1 := (rc_ok (hv _ (List.getElem_mem (show i < L.length by omega)))).tb
  have o2 := (rc_ok (hv _ (List.getElem_mem (show j < L.length by omega)))).tb
  have o3 := (rc_ok (hv _ (List.getElem_mem hk))).tb
  have a := rls_tab (asc_get hA (show i < L.length by omega) (show j < L.length by omega) h1)
  have b := rls_tab (asc_get hA (show j < L.length by omega) hk h2)
  constructor <;> omega
/-- The first such pair tells the fork. -/
theorem adj_frk {L : List Rc} (hv : ∀ r ∈ L, rcB r = true) (hA : Asc L) {t i : Nat} (hi : adjB L t i) (hmin : ∀ j, j < i → ¬ adjB L t j) : frk L t = (L[i + 1]'hi.1).num := by
  obtain ⟨h, e1, e2, e3⟩ := hi
  refine (frk_is hv t).eq ⟨?_, ?_, fun _ => ⟨L[i]'(by omega), List.getElem_mem _, L[i + 1], List.getElem_mem _, e1, e2, e3, rfl, ?_⟩⟩
  · have := (rc_ok (hv _ (List.getElem_mem h))).num
    omega
  · intro r hr q hq f1 f2 f3 hne
    obtain ⟨a, ha, rfl⟩ := List.getElem_of_mem hr
    obtain ⟨b, hb, rfl⟩ := List.getElem_of_mem hq
    have key : ∀ a b (ha : a < L.length) (hb : b < L.length), a < b → L[a].tb = t → L[b].tb = t → L[a].num = L[b].num → (L[i + 1]'h).num ≤ L[a].num := by
      intro a b ha hb hab f1 f2 f3
      have hadj : adjB L t a := by
        by_cases e : a + 1 = b
        · subst e; exact ⟨hb, f1, f2, f3⟩
        · have := asc_mid hv hA hb (show a < a + 1 by omega) (by omega) (by rw [f1, f2]) f3
          exact ⟨by omega, f1, by rw [this.1, f2], by rw [this.2, f3]⟩
      have hle : i ≤ a := by
        rcases Nat.lt_or_ge a i with h | h
        · exact absurd hadj (hmin a h)
        · exact h
      rcases Nat.lt_or_ge a (i + 1) with h1 | h1
      · have : a = i := by omega
        subst this; omega
      · by_cases e : a = i + 1
        · subst e; exact Int.le_refl _
        · exact asc_num hv hA h ha (by omega) (by rw [e2, f1])
    rcases Nat.lt_trichotomy a b with hab | hab | hab
    · exact key a b ha hb hab f1 f2 f3
    · subst hab; exact absurd rfl hne
    · rw [f3]; exact key b a hb ha hab f2 f1 f3.symm
  · intro e
    have := asc_get hA (show i < L.length by omega) h (by omega)
    rw [e, rls_irr] at this
    cases this
theorem no_adj_frk {L : List Rc} (hv : ∀ r ∈ L, rcB r = true) (hA : Asc L) {t : Nat} (hno : ∀ i, ¬ adjB L t i) : frk L t = 1000001 := by
  refine (frk_is hv t).eq ⟨Int.le_refl _, ?_, fun h => by omega⟩
  intro r hr q hq f1 f2 f3 hne
  exfalso
  obtain ⟨a, ha, rfl⟩ := List.getElem_of_mem hr
  obtain ⟨b, hb, rfl⟩ := List.getElem_of_mem hq
  have key : ∀ a b (ha : a < L.length) (hb : b < L.length), a < b → L[a].tb = t → L[b].tb = t → L[a].num = L[b].num → False := by
    intro a b ha hb hab f1 f2 f3
    refine hno a ?_
    by_cases e : a + 1 = b
    · subst e; exact ⟨hb, f1, f2, f3⟩
    · have := asc_mid hv hA hb (show a < a + 1 by omega) (by omega) (by rw [f1, f2]) f3
      exact ⟨by omega, f1, by rw [this.1, f2], by rw [this.2, f3]⟩
  rcases Nat.lt_trichotomy a b with hab | hab | hab
  · exact key a b ha hb hab f1 f2 f3
  · subst hab; exact absurd rfl hne
  · exact key b a hb ha hab f2 f1 f3.symm
/-- The fork as the reference says it: 0 where there is none. -/
def frk0 (L : List Rc) (t : Nat) : Int := if frk L t ≤ 1000000 then frk L t else 0

/-! ### Prefixes -/
/-- One step of the search for the prefix of a tablet. -/
def pfxS (t : Nat) (n : Int) (r : Rc) (c : Bool) : Int := if r.tb = t ∧ r.num = n + 1 ∧ c = true then n + 1 else n
/-- The prefix of a tablet after i records. -/
def pfx (L : List Rc) (C : List Bool) (t : Nat) : Nat → Int
  | 0 => 0
  | i + 1 => match L[i]?, C[i]? with
    | some r, some c => pfxS t (pfx L C t i) r c
    | _, _ => pfx L C t i
theorem pfx_succ {L : List Rc} {C : List Bool} {t i : Nat} (h1 : i < L.length) (h2 : i < C.length) : pfx L C t (i + 1) = pfxS t (pfx L C t i) L[i] C[i] := by
  simp [pfx, h1, h2]
theorem pfx_pos (L : List Rc) (C : List Bool) (t : Nat) : ∀ i, 0 ≤ pfx L C t i
  | 0 => Int.le_refl _
  | i + 1 => by
    have := pfx_pos L C t i
    unfold pfx
    split
    · unfold pfxS; split <;> omega
    · exact this
theorem pfx_mono (L : List Rc) (C : List Bool) (t : Nat) : ∀ i, pfx L C t i ≤ pfx L C t (i + 1) := fun i => by
  conv => rhs; unfold pfx
  split
  · unfold pfxS; split <;> omega
  · exact Int.le_refl _
theorem pfx_le (L : List Rc) (C : List Bool) (t : Nat) {i j : Nat} (h : i ≤ j) : pfx L C t i ≤ pfx L C t j := by
  induction j with
  | zero => have : i = 0 := by omega
            subst this; exact Int.le_refl _
  | succ j ih =>
    by_cases e : i = j + 1
    · subst e; exact Int.le_refl _
    · exact Int.le_trans (ih (by omega)) (pfx_mono L C t j)
theorem pfx_len (L : List Rc) (C : List Bool) (t : Nat) : ∀ i, pfx L C t i ≤ i
  | 0 => Int.le_refl _
  | i + 1 => by
    have := pfx_len L C t i
    unfold pfx
    split
    · unfold pfxS; split <;> omega
    · omega
/-- What is reached was met and counts. -/
theorem pfx_met {L : List Rc} {C : List Bool} (hC : C.length = L.length) {t : Nat} : ∀ {i : Nat}, i ≤ L.length → ∀ k : Int, 1 ≤ k → k ≤ pfx L C t i → ∃ (j : Nat) (hj : j < L.length), j < i ∧ L[j].tb = t ∧ L[j].num = k ∧ C[j]'(by omega) = true ∧ pfx L C t (j + 1) = k
  | 0, _, k, h1, h2 => by simp only [pfx] at h2; omega
  | i + 1, hi, k, h1, h2 => by
    have e := pfx_succ (L := L) (C := C) (t := t) (show i < L.length by omega) (show i < C.length by omega)
    by_cases hk : k ≤ pfx L C t i
    · obtain ⟨j, hj, hji, rest⟩ := pfx_met hC (i := i) (by omega) k h1 hk
      exact ⟨j, hj, by omega, rest⟩
    · rw [e] at h2
      unfold pfxS at h2
      split at h2
      · rename_i h
        have : k = pfx L C t i + 1 := by omega
        refine ⟨i, by omega, by omega, h.1, by rw [h.2.1, this], h.2.2, ?_⟩
        rw [e]
        unfold pfxS
        rw [if_pos h, this]
      · omega
/-- The next one was not met, or does not count. -/
theorem pfx_next {L : List Rc} {C : List Bool} (hv : ∀ r ∈ L, rcB r = true) (hA : Asc L) (hC : C.length = L.length) {t : Nat} {j : Nat} (hj : j < L.length) (e1 : L[j].tb = t) (e2 : L[j].num = pfx L C t L.length + 1) (hc : C[j]'(by omega) = true) : False := by
  have hpos := pfx_pos L C t L.length
  have hb : pfx L C t j = pfx L C t L.length := by
    rcases Int.lt_or_le 0 (pfx L C t L.length) with h0 | h0
    · obtain ⟨i, hi, _, f1, f2, _, f4⟩ := pfx_met hC (Nat.le_refl _) (pfx L C t L.length) (by omega) (Int.le_refl _)
      have hij : i < j := by
        rcases Nat.lt_trichotomy i j with h | h | h
        · exact h
        · subst h; omega
        · have := asc_num hv hA hj hi h (by rw [e1, f1])
          omega
      have h1 := pfx_le L C t (show i + 1 ≤ j by omega)
      have h2 := pfx_le L C t (show j ≤ L.length by omega)
      omega
    · have h1 := pfx_pos L C t j
      have h2 := pfx_le L C t (show j ≤ L.length by omega)
      omega
  have h1 := pfx_succ (L := L) (C := C) (t := t) hj (by omega)
  have h2 := pfx_le L C t (show j + 1 ≤ L.length by omega)
  rw [h1, hb] at h2
  unfold pfxS at h2
  rw [if_pos ⟨e1, e2, hc⟩] at h2
  omega

/-! ### A pass -/
/-- The conditions of a record by the prefixes. -/
def okR (L : List Rc) (u : Nat → Int) (r : Rc) : Bool := decide (r.num < frk L r.tb) && (List.range 8).all fun t => decide (min (r.sn t) (frk L t - 1) ≤ u t)
/-- What counts, as found till now. -/
structure Half (L : List Rc) (C : List Bool) : Prop where
  len : C.length = L.length
  cnt : ∀ (i : Nat) (h : i < L.length), C[i]'(by omega) = true → Cnt L L[i]
/-- The prefixes by what was found. -/
def pfxU (L : List Rc) (C : List Bool) : Nat → Int := fun t => pfx L C t L.length
theorem Half.up {L : List Rc} {C : List Bool} (h : Half L C) : Up L (pfxU L C) := by
  refine ⟨fun t => pfx_pos _ _ _ _, fun t _ n h1 h2 => ?_⟩
  obtain ⟨j, hj, _, e1, e2, hc, _⟩ := pfx_met h.len (Nat.le_refl _) n h1 h2
  exact ⟨L[j], e1, e2, h.cnt j hj hc⟩
theorem okR_cnt {L : List Rc} (hv : ∀ r ∈ L, rcB r = true) {u : Nat → Int} (hu : Up L u) {r : Rc} (hr : r ∈ L) (h : okR L u r = true) : Cnt L r := by
  have o := rc_ok (hv r hr)
  simp only [okR, Bool.and_eq_true, decide_eq_true_eq, List.all_eq_true, List.mem_range] at h
  refine hu.cnt_next hr (((frk_is hv _).straight hv o.num.2).2 h.1) (fun s h1 n h2 h3 h4 => ?_)
  have := ((frk_is hv s).straight hv (by have := o.seen s h1; omega)).1 h4
  have := h.2 s h1
  omega
open Classical in
/-- Behind a pass that found nothing new what counts is found. -/
theorem half_end {L : List Rc} {C : List Bool} (hv : ∀ r ∈ L, rcB r = true) (hA : Asc L) (h : Half L C) (hq : ∀ (i : Nat) (hi : i < L.length), C[i]'(by have := h.len; omega) = false → okR L (pfxU L C) L[i] = false) :
    C = L.map (cntB L) ∧ ∀ t, t < 8 → pfxU L C t = upT L t := by
  have hu := h.up
  have su : Shut L (pfxU L C) := by
    intro t ht hn
    obtain ⟨r, hr, e1, e2, e3, e4⟩ := (next_iff hv hu).1 hn
    obtain ⟨j, hj, rfl⟩ := List.getElem_of_mem hr
    cases hc : C[j]'(by have := h.len; omega) with
    | true => exact pfx_next hv hA h.len hj e1 e2 hc
    | false =>
      have := hq j hj hc
      have h2 : okR L (pfxU L C) L[j] = true := by
        simp only [okR, Bool.and_eq_true, decide_eq_true_eq, List.all_eq_true, List.mem_range]
        exact ⟨by rw [e1, e2]; exact e3, e4⟩
      rw [h2] at this
      cases this
  refine ⟨List.ext_getElem (by simp [h.len]) (fun i h1 h2 => ?_), fun t ht => up_is hv hu su ht⟩
  have hi : i < L.length := by have := h.len; omega
  rw [List.getElem_map]
  cases hc : C[i]'h1 with
  | true => exact (decide_eq_true (h.cnt i hi hc)).symm
  | false =>
    have hf := hq i hi hc
    have o := rc_ok (hv _ (List.getElem_mem hi))
    rw [cntB_eq hv hu su (List.getElem_mem hi)]
    refine (decide_eq_false fun hle => ?_).symm
    have hcnt := cnt_of hu (List.getElem_mem hi) o.tb.1 o.num.1 hle
    have hpn : ∀ t, t < 8 → min (L[i].sn t) (frk L t - 1) ≤ pfxU L C t := by
      intro t ht
      rcases Int.lt_or_le (pfxU L C t) (min (L[i].sn t) (frk L t - 1)) with hlt | hle
      · exfalso
        have hp := hu.pos t
        have hs := o.seen t ht
        cases hcnt with
        | mk _ hr hst ha hcs =>
          obtain ⟨q, hq2, f1, f2⟩ := ha t ht (min (L[i].sn t) (frk L t - 1)) (by omega) (by omega) (((frk_is hv t).straight hv (by omega)).2 (by omega))
          have hst2 : Straight L q.tb q.num := by rw [f1, f2]; exact ((frk_is hv t).straight hv (by omega)).2 (by omega)
          have := cnt_le hv hu su (hcs q hq2 (by omega) (by omega) (by rw [f1, f2]; omega) hst2)
          rw [f1, f2] at this
          omega
      · exact hle
    have h2 : okR L (pfxU L C) L[i] = true := by
      simp only [okR, Bool.and_eq_true, decide_eq_true_eq, List.all_eq_true, List.mem_range]
      exact ⟨((frk_is hv _).straight hv o.num.2).1 hcnt.straight, hpn⟩
    rw [h2] at hf
    cases hf
theorem half_zero (L : List Rc) : Half L (List.replicate L.length false) := ⟨by simp, fun i h hc => by simp at hc⟩

end Go.Proofs.YtegghimjmbgghaaGreat
