/-
  A block of records that is written in place.
-/
import Derived.Test.YtegghimjmbgghaaBkHs
set_option linter.unusedSimpArgs false
set_option linter.unusedVariables false
namespace Go.Proofs.Ytegghimjmbgghaa
open Go.RowKit Go.Shelf Go.Sort

theorem heap_setCells_same (g : Nat) (ty : TypeId) : ∀ (vs : List Value) (o : Nat) (w : World) (cur : Array Value), w.heap[g]? = some (.cells cur ty (0, 0)) → (w.setCells g o vs).heap[g]? = some (.cells (setMany cur o vs) ty (0, 0))
  | [], _, _, _, h => h
  | v :: r, o, w, cur, h => heap_setCells_same g ty r (o + 1) _ _ (heap_setCell_same w g o cur ty v h)
theorem setCells_grown (g : Nat) (ty : TypeId) : ∀ (vs : List Value) (o : Nat) (w : World) (cur : Array Value), w.heap[g]? = some (.cells cur ty (0, 0)) → w.grownBy (w.setCells g o vs) (some g)
  | [], _, w, _, _ => World.grownBy.refl w _
  | v :: r, o, w, cur, h => (setCell_grown w h v).trans (setCells_grown g ty r (o + 1) _ _ (heap_setCell_same w g o cur ty v h))
theorem setMany_at {vs : List Value} {s : Nat} {Z : Array Value} {t : Nat} (ht : t < Z.size) : (setMany Z s vs)[t]? = if s ≤ t ∧ t < s + vs.length then vs[t - s]? else Z[t]? := by
  have h := get_setMany vs s Z t ht
  have h1 : t < (setMany Z s vs).size := by simpa using ht
  rw [getElem!_pos (setMany Z s vs) t h1] at h
  rw [Array.getElem?_eq_getElem h1, h]
  split
  · rename_i hc
    rw [List.getElem?_eq_getElem (show t - s < vs.length by omega), getElem!_pos vs (t - s) (by omega)]
  · rw [Array.getElem?_eq_getElem ht, getElem!_pos Z t ht]

/-- A block with room for cap records: these lie at its front. -/
structure RowG (w : World) (g cap : Nat) (dk : List Rc) : Prop where
  blk : ∃ cur : Array Value, w.heap[g]? = some (.cells cur 33 (0, 0)) ∧ cur.size = cap * 14 ∧ ∀ k (hk : k < dk.length) t, t < 14 → cur[k * 14 + t]? = (rcC dk[k])[t]?
  le : dk.length ≤ cap
  top : cap ≤ maxLen
section
variable {w w' : World} {g cap : Nat} {dk : List Rc}
theorem RowG.lt (h : RowG w g cap dk) : g < w.heap.size := by
  obtain ⟨cur, hh, -, -⟩ := h.blk
  exact (Array.getElem?_eq_some_iff.1 hh).1
theorem RowG.kept (h : RowG w g cap dk) (e : w'.heap[g]? = w.heap[g]?) : RowG w' g cap dk := ⟨by rw [e]; exact h.blk, h.le, h.top⟩
theorem RowG.below (h : RowG w g cap dk) (hb : Below w.heap.size w w') : RowG w' g cap dk := h.kept (hb.block g h.lt)
theorem RowG.take (h : RowG w g cap dk) (i : Nat) : RowG w g cap (dk.take i) := by
  obtain ⟨cur, hh, hs, hc⟩ := h.blk
  refine ⟨⟨cur, hh, hs, fun k hk t ht => ?_⟩, by have := h.le; rw [List.length_take]; omega, h.top⟩
  rw [List.length_take] at hk
  rw [hc k (by omega) t ht, List.getElem_take]
theorem recs_at {L : List Rc} {k t : Nat} (hk : k < L.length) (ht : t < 14) : (recs L)[k * 14 + t]? = (rcC L[k])[t]? := flat_at (f := rcC) (K := 14) (fun _ => rfl) L k t hk ht
theorem RowG.rd (h : RowG w g cap dk) : Rd w (some ⟨g, 0, none⟩) (recs dk) := fun _ => by
  obtain ⟨cur, hh, hs, hc⟩ := h.blk
  refine ⟨g, 0, rfl, h.lt, fun j u hu => ?_⟩
  have hj : j < dk.length * 14 := by
    have := (List.getElem?_eq_some_iff.1 hu).1
    rwa [recs_len] at this
  have h1 := hc (j / 14) (by omega) (j % 14) (by omega)
  have h2 := recs_at (L := dk) (k := j / 14) (t := j % 14) (by omega) (by omega)
  rw [show j / 14 * 14 + j % 14 = j by omega] at h1 h2
  rw [Nat.zero_add, cell_of_row w g j cur _ _ hh, h1, ← h2]
  exact hu
theorem RowG.own (h : RowG w g cap dk) {base : Nat} (hb : base ≤ g) : w.ownsRow base 33 14 (.slice (some ⟨g, 0, none⟩) dk.length cap) dk.length (recs dk) := by
  obtain ⟨cur, hh, hs, hc⟩ := h.blk
  have hle := h.le
  refine ⟨recs_len dk, .inr ⟨g, cap, cur, rfl, hb, hh, h.le, h.top, hs, ?_⟩⟩
  apply List.ext_getElem?
  intro j
  by_cases hj : j < dk.length * 14
  · have h1 := hc (j / 14) (by omega) (j % 14) (by omega)
    have h2 := recs_at (L := dk) (k := j / 14) (t := j % 14) (by omega) (by omega)
    rw [show j / 14 * 14 + j % 14 = j by omega] at h1 h2
    rw [List.getElem?_take_of_lt hj, Array.getElem?_toList, h1, h2]
  · rw [List.getElem?_eq_none (by rw [List.length_take]; omega), List.getElem?_eq_none (by rw [recs_len]; omega)]
theorem RowG.of {base : Nat} {v : Value} {l : List Rc} (h : w.ownsRow base 33 14 v l.length (recs l)) (hne : l ≠ []) : ∃ g cap, v = .slice (some ⟨g, 0, none⟩) l.length cap ∧ base ≤ g ∧ RowG w g cap l := by
  rcases h.2 with ⟨rfl, h0⟩ | ⟨g, cap, cur, rfl, hb, hh, h1, h2, h3, h4⟩
  · exact absurd (List.eq_nil_of_length_eq_zero h0) hne
  · refine ⟨g, cap, rfl, hb, ⟨cur, hh, h3, fun k hk t ht => ?_⟩, h1, h2⟩
    rw [← recs_at hk ht, ← h4, List.getElem?_take_of_lt (by omega), Array.getElem?_toList]
/-- A record is laid into the row. -/
theorem RowG.store (h : RowG w g cap dk) {i : Nat} (hi : i < dk.length) (x : Rc) :
    Sem.run Try.prog (storeCells ⟨g, i * 14, none⟩ (rcC x) 0) w = .ok () (w.setCells g (i * 14) (rcC x)) ∧ RowG (w.setCells g (i * 14) (rcC x)) g cap (dk.set i x) ∧ w.grownBy (w.setCells g (i * 14) (rcC x)) (some g) := by
  obtain ⟨cur, hh, hs, hc⟩ := h.blk
  have hle := h.le
  have hlen : (rcC x).length = 14 := rfl
  refine ⟨?_, ⟨⟨_, heap_setCells_same g _ (rcC x) (i * 14) w cur hh, by simpa using hs, fun k hk t ht => ?_⟩, by simpa using hle, h.top⟩, setCells_grown g _ _ _ _ _ hh⟩
  · have hH : Holds id w g 0 cur := fun j hj => ⟨by rw [Nat.zero_add, cell_of_row w g j cur _ _ hh, Array.getElem?_eq_getElem hj, getElem!_pos cur j hj]; rfl, by simp [World.frozen?, hh]⟩
    have := stores_of_holds Try.prog hH (i * 14) (rcC x) (by rw [hlen, hs]; omega) (fun v hv => rcC_one (l := [x]) v (by rw [recs_one]; exact hv))
    rwa [Nat.zero_add] at this
  · rw [List.length_set] at hk
    rw [setMany_at (by rw [hs]; omega), hlen]
    by_cases e : i = k
    · subst e
      rw [if_pos (by omega), List.getElem_set_self]
      congr 1
      omega
    · rw [if_neg (by omega), List.getElem_set_ne e, hc k hk t ht]
/-- The rest of the row is overwritten. -/
theorem RowG.wipe (h : RowG w g cap dk) {i n : Nat} (hi : i ≤ dk.length) (C : List Value) : RowG (w.setCells g (i * 14) C) g cap (dk.take i) ∧ w.grownBy (w.setCells g (i * 14) C) (some g) := by
  obtain ⟨cur, hh, hs, hc⟩ := h.blk
  have hle := h.le
  refine ⟨⟨⟨_, heap_setCells_same g _ C (i * 14) w cur hh, by simpa using hs, fun k hk t ht => ?_⟩, by rw [List.length_take]; omega, h.top⟩, setCells_grown g _ _ _ _ _ hh⟩
  rw [List.length_take] at hk
  rw [setMany_at (by rw [hs]; omega), if_neg (by omega), List.getElem_take, hc k (by omega) t ht]
end

end Go.Proofs.Ytegghimjmbgghaa
