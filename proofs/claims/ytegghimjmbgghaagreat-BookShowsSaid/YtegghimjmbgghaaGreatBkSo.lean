/-
  History of the program: its two functions, and slices.IndexFunc at records. A block of records that is written in place. The merge of a stable sort. No program in sight. slices.SortStableFunc at records: swapRange, rotate. slices.SortStableFunc at records: symMerge.
-/
import Derived.Test.YtegghimjmbgghaaGreatBkDp
import Derived.Sort.LotA
import Derived.Test.YtegghimjmbgghaaGreatAnyE
import Derived.Shelf.SlSortCmp.KitK
import Derived.Deep.LoopGhost
set_option linter.unusedSimpArgs false
set_option linter.unusedVariables false
namespace Go.Proofs.YtegghimjmbgghaaGreat
open Go.RowKit

section
open Go.RowKit Go.Shelf

theorem signOf_calls (r : Rc) (s : Int) {X : Nat} (w : World) (hX : w.cell? ⟨X, 0, none⟩ = some (.int .i64 s)) (hlt : X < w.heap.size) :
    Calls Tryz.prog 81 #[rcV r, .pointer (some ⟨X, 0, none⟩)] w fun e w' => e = .returned (.bool (r.sign != s)) ∧ Below w.heap.size w w' := by
  have hb0 := below_alloc w (.cells (rcA r) 82)
  have hc := (World.cell?_of_block (hb0.block X hlt)).trans hX
  have HR := hid (RcAt.new w r)
  have HB := hid hb0
  clear hX hlt hb0
  show Calls Tryz.prog 81 #[.agg #[.int .i64 r.tab, .int .i64 r.num, .int .i64 r.hour, .int .i64 r.sign, .int .i64 r.fld, .int .i64 r.val, .int .i64 r.s0, .int .i64 r.s1, .int .i64 r.s2, .int .i64 r.s3, .int .i64 r.s4, .int .i64 r.s5, .int .i64 r.s6, .int .i64 r.s7], .pointer (some ⟨X, 0, none⟩)] w _
  go_enter Tryz.func81, Tryz.ntmps81
  go_upto_region 1 with (fail)
  change Code.wp _ _ _ _ (w.alloc (.cells (rcA r) 82))
  generalize w.alloc (.cells (rcA r) 82) = W at *
  obtain ⟨d0, d1, d2, d3, d4, d5⟩ := (unhid HR).cells
  go_wp2_with fail
  go_ret
  exact ⟨rfl, unhid HB⟩

theorem byHour_calls (r q : Rc) (w : World) (hr : I64 (r.hour - q.hour)) :
    Calls Tryz.prog 83 #[rcV r, rcV q] w fun e w' => e = .returned (.int .i64 (r.hour - q.hour)) ∧ w' = (w.alloc (.cells (rcA r) 82)).alloc (.cells (rcA q) 82) := by
  have hw : IntKind.i64.wrap (r.hour - q.hour) = r.hour - q.hour := by
    rw [IntKind.wrap_i64]
    unfold I64 at hr
    omega
  have HR := hid ((RcAt.new w r).below (below_alloc _ (.cells (rcA q) 82)) (by simp))
  have hq := RcAt.new (w.alloc (.cells (rcA r) 82)) q
  rw [show (w.alloc (.cells (rcA r) 82)).heap.size = w.heap.size + 1 by simp] at hq
  have HQ := hid hq
  clear hq
  show Calls Tryz.prog 83 #[.agg #[.int .i64 r.tab, .int .i64 r.num, .int .i64 r.hour, .int .i64 r.sign, .int .i64 r.fld, .int .i64 r.val, .int .i64 r.s0, .int .i64 r.s1, .int .i64 r.s2, .int .i64 r.s3, .int .i64 r.s4, .int .i64 r.s5, .int .i64 r.s6, .int .i64 r.s7], .agg #[.int .i64 q.tab, .int .i64 q.num, .int .i64 q.hour, .int .i64 q.sign, .int .i64 q.fld, .int .i64 q.val, .int .i64 q.s0, .int .i64 q.s1, .int .i64 q.s2, .int .i64 q.s3, .int .i64 q.s4, .int .i64 q.s5, .int .i64 q.s6, .int .i64 q.s7]] w _
  go_enter Tryz.func83, Tryz.ntmps83
  go_upto_region 1 with (fail)
  change Code.wp _ _ _ _ ((w.alloc (.cells (rcA r) 82)).alloc (.cells (rcA q) 82))
  obtain ⟨d0, d1, d2, d3, d4, d5⟩ := (unhid HR).cells
  obtain ⟨e0, e1, e2, e3, e4, e5⟩ := (unhid HQ).cells
  obtain ⟨W, hW⟩ : ∃ W, W = (w.alloc (.cells (rcA r) 82)).alloc (.cells (rcA q) 82) := ⟨_, rfl⟩
  have HW := hid (show ∀ Q : World → Prop, Q W → Q ((w.alloc (.cells (rcA r) 82)).alloc (.cells (rcA q) 82)) from fun Q h => hW ▸ h)
  rw [← hW] at d0 d1 d2 d3 d4 d5 e0 e1 e2 e3 e4 e5 ⊢
  clear hW
  go_wp2_with fail
  go_ret
  exact ⟨reti (by first | rfl | exact hw), unhid HW (fun z => W = z) rfl⟩

/-- The first record of another sign, or the end. -/
def FstI (l : List Rc) (s : Int) (k : Nat) : Prop := k ≤ l.length ∧ (∀ j (h : j < l.length), j < k → l[j].sign = s) ∧ ∀ h : k < l.length, l[k].sign ≠ s
set_option maxHeartbeats 4000000 in
set_option maxRecDepth 100000 in
theorem indexSign_calls (l : List Rc) (s : Int) (A : Option Addr) (c : Nat) {X : Nat} (w : World) (hX : w.cell? ⟨X, 0, none⟩ = some (.int .i64 s)) (hlt : X < w.heap.size) (hrd : Rd w A (recs l)) (hl : l.length ≤ 1000000) :
    Calls Tryz.prog 110 #[.slice A l.length c, .func (.func 81) #[] #[.pointer (some ⟨X, 0, none⟩)]] w fun e w' => ∃ k, FstI l s k ∧ e = .returned (.int .i64 (if k < l.length then (k : Int) else -1)) ∧ Below w.heap.size w w' := by
  have HR := hid hrd
  have HX := hid (show ∀ W : World, Below w.heap.size w W → W.cell? ⟨X, 0, none⟩ = some (.int .i64 s) ∧ X < W.heap.size from fun W hb => ⟨(World.cell?_of_block (hb.block X hlt)).trans hX, Nat.lt_of_lt_of_le hlt hb.size⟩)
  clear hrd hX hlt
  go_enter Tryz.func110, Tryz.ntmps110
  go_wp2_with fail
  go_loopw [8] (fun iv wr => ∃ k : Nat, k ≤ l.length ∧ iv = .int .i64 k ∧ (∀ j (h : j < l.length), j < k → l[j].sign = s) ∧ Below w.heap.size w wr) (fun iv _ => l.length - (intOf iv).toNat)
  case atStart => exact ⟨0, Nat.zero_le _, rfl, fun j _ h => absurd h (by omega), Below.refl _ _⟩
  case round =>
    obtain ⟨k, hk, rfl, hall, hb⟩ := hrel
    have HA := hid hall
    have HB := hid hb
    clear hall hb
    by_cases hlt : k < l.length
    · have hki : (k : Int) < (l.length : Int) := by omega
      obtain ⟨b, off, hAe, hbl, hc⟩ := ((unhid HR).below (unhid HB)) (recs_ne hlt)
      subst hAe
      obtain ⟨x, hx⟩ : ∃ x, l[k] = x := ⟨_, rfl⟩
      obtain ⟨m0, m1, m2, m3, m4, m5, m6, m7, m8, m9, m10, m11, m12, m13⟩ := recs_cells hc hlt hx
      have HXX := hid hx
      have HC := hid (signOf_calls x s wr ((unhid HX) _ (unhid HB)).1 ((unhid HX) _ (unhid HB)).2)
      clear hx hc
      go_wp2_with fail
      refine (unhid HC).mono ?_
      rintro e w5 ⟨rfl, hb5⟩
      have HB := hid ((unhid HB).trans (hb5.mono (unhid HB).size))
      clear hb5 m0 m1 m2 m3 m4 m5 m6 m7 m8 m9 m10 m11 m12 m13 HC
      by_cases hs : x.sign = s
      · have hse : (x.sign != s) = false := by simpa using hs
        have HA := hid (show ∀ j (h : j < l.length), j < k + 1 → l[j].sign = s from fun j h hj => by
          by_cases e : j = k
          · subst e
            rw [unhid HXX]
            exact hs
          · exact unhid HA j h (by omega))
        clear hs
        go_wp2_with fail
        go_roundw
        case rel => exact ⟨k + 1, by omega, by go_num, unhid HA, unhid HB⟩
        case measure => simp [intOf]; omega
      · have hse : (x.sign != s) = true := by simpa using hs
        have HF := hid (show FstI l s k from ⟨Nat.le_of_lt hlt, unhid HA, fun h => by rw [unhid HXX]; exact hs⟩)
        have HLT := hid hlt
        clear hs
        go_wp2_with fail
        go_ret
        exact ⟨k, unhid HF, by rw [if_pos (unhid HLT)]; rfl, unhid HB⟩
    · obtain rfl : k = l.length := by omega
      have HF := hid (show FstI l s l.length from ⟨Nat.le_refl _, unhid HA, fun h => absurd h (Nat.lt_irrefl _)⟩)
      go_wp2_with fail
      go_ret
      exact ⟨l.length, unhid HF, by rw [if_neg (Nat.lt_irrefl _)]; rfl, unhid HB⟩
end

section
open Go.RowKit Go.Shelf Go.Sort

theorem heap_setCells_same (g : Nat) (ty : TypeId) : ∀ (vs : List Value) (o : Nat) (w : World) (cur : Array Value), w.heap[g]? = some (.cells cur ty (0, 0)) → (w.setCells g o vs).heap[g]? = some (.cells (setMany cur o vs) ty (0, 0))
  | [], _, _, _, h => h
  | v :: r, o, w, cur, h => heap_setCells_same g ty r (o + 1) _ _ (heap_setCell_same w g o cur ty v h)
theorem setCells_grown (g : Nat) (ty : TypeId) : ∀ (vs : List Value) (o : Nat) (w : World) (cur : Array Value), w.heap[g]? = some (.cells cur ty (0, 0)) → w.grownBy (w.setCells g o vs) (some g)
  | [], _, w, _, _ => World.grownBy.refl w _
  | v :: r, o, w, cur, h => (setCell_grown w h v).trans (setCells_grown g ty r (o + 1) _ _ (heap_setCell_same w g o cur ty v h))
theorem setMany_at {vs : List Value} {s : Nat} {Z : Array Value} {t : Nat} (ht : t < Z.size) : (setMany Z s vs)[t]? = if s ≤ t ∧ t < s + vs.length then vs[t - s]? else Z[t]? := by
  have h := get_setMany vs s Z t ht
  have h1 : t < (setMany Z s vs).size := by simpa using ht
  rw [getElem!_pos (setMany Z s vs) t h1] at h
  rw [Array.getElem?_eq_getElem h1, h]
  split
  · rename_i hc
    rw [List.getElem?_eq_getElem (show t - s < vs.length by omega), getElem!_pos vs (t - s) (by omega)]
  · rw [Array.getElem?_eq_getElem ht, getElem!_pos Z t ht]

/-- A block with room for cap records: these lie at its front. -/
structure RowG (w : World) (g cap : Nat) (dk : List Rc) : Prop where
  blk : ∃ cur : Array Value, w.heap[g]? = some (.cells cur 82 (0, 0)) ∧ cur.size = cap * 14 ∧ ∀ k (hk : k < dk.length) t, t < 14 → cur[k * 14 + t]? = (rcC dk[k])[t]?
  le : dk.length ≤ cap
  top : cap ≤ maxLen
section
variable {w w' : World} {g cap : Nat} {dk : List Rc}
theorem RowG.lt (h : RowG w g cap dk) : g < w.heap.size := by
  obtain ⟨cur, hh, -, -⟩ := h.blk
  exact (Array.getElem?_eq_some_iff.1 hh).1
theorem RowG.kept (h : RowG w g cap dk) (e : w'.heap[g]? = w.heap[g]?) : RowG w' g cap dk := ⟨by rw [e]; exact h.blk, h.le, h.top⟩
theorem RowG.below (h : RowG w g cap dk) (hb : Below w.heap.size w w') : RowG w' g cap dk := h.kept (hb.block g h.lt)
theorem RowG.take (h : RowG w g cap dk) (i : Nat) : RowG w g cap (dk.take i) := by
  obtain ⟨cur, hh, hs, hc⟩ := h.blk
  refine ⟨⟨cur, hh, hs, fun k hk t ht => ?_⟩, by have := h.le; rw [List.length_take]; omega, h.top⟩
  rw [List.length_take] at hk
  rw [hc k (by omega) t ht, List.getElem_take]
theorem recs_at {L : List Rc} {k t : Nat} (hk : k < L.length) (ht : t < 14) : (recs L)[k * 14 + t]? = (rcC L[k])[t]? := flat_at (f := rcC) (K := 14) (fun _ => rfl) L k t hk ht
theorem RowG.rd (h : RowG w g cap dk) : Rd w (some ⟨g, 0, none⟩) (recs dk) := fun _ => by
  obtain ⟨cur, hh, hs, hc⟩ := h.blk
  refine ⟨g, 0, rfl, h.lt, fun j u hu => ?_⟩
  have hj : j < dk.length * 14 := by
    have := (List.getElem?_eq_some_iff.1 hu).1
    rwa [recs_len] at this
  have h1 := hc (j / 14) (by omega) (j % 14) (by omega)
  have h2 := recs_at (L := dk) (k := j / 14) (t := j % 14) (by omega) (by omega)
  rw [show j / 14 * 14 + j % 14 = j by omega] at h1 h2
  rw [Nat.zero_add, cell_of_row w g j cur _ _ hh, h1, ← h2]
  exact hu
theorem RowG.own (h : RowG w g cap dk) {base : Nat} (hb : base ≤ g) : w.ownsRow base 82 14 (.slice (some ⟨g, 0, none⟩) dk.length cap) dk.length (recs dk) := by
  obtain ⟨cur, hh, hs, hc⟩ := h.blk
  have hle := h.le
  refine ⟨recs_len dk, .inr ⟨g, cap, cur, rfl, hb, hh, h.le, h.top, hs, ?_⟩⟩
  apply List.ext_getElem?
  intro j
  by_cases hj : j < dk.length * 14
  · have h1 := hc (j / 14) (by omega) (j % 14) (by omega)
    have h2 := recs_at (L := dk) (k := j / 14) (t := j % 14) (by omega) (by omega)
    rw [show j / 14 * 14 + j % 14 = j by omega] at h1 h2
    rw [List.getElem?_take_of_lt hj, Array.getElem?_toList, h1, h2]
  · rw [List.getElem?_eq_none (by rw [List.length_take]; omega), List.getElem?_eq_none (by rw [recs_len]; omega)]
theorem RowG.of {base : Nat} {v : Value} {l : List Rc} (h : w.ownsRow base 82 14 v l.length (recs l)) (hne : l ≠ []) : ∃ g cap, v = .slice (some ⟨g, 0, none⟩) l.length cap ∧ base ≤ g ∧ RowG w g cap l := by
  rcases h.2 with ⟨rfl, h0⟩ | ⟨g, cap, cur, rfl, hb, hh, h1, h2, h3, h4⟩
  · exact absurd (List.eq_nil_of_length_eq_zero h0) hne
  · refine ⟨g, cap, rfl, hb, ⟨cur, hh, h3, fun k hk t ht => ?_⟩, h1, h2⟩
    rw [← recs_at hk ht, ← h4, List.getElem?_take_of_lt (by omega), Array.getElem?_toList]
/-- A record is laid into the row. -/
theorem RowG.store (h : RowG w g cap dk) {i : Nat} (hi : i < dk.length) (x : Rc) :
    Sem.run Tryz.prog (storeCells ⟨g, i * 14, none⟩ (rcC x) 0) w = .ok () (w.setCells g (i * 14) (rcC x)) ∧ RowG (w.setCells g (i * 14) (rcC x)) g cap (dk.set i x) ∧ w.grownBy (w.setCells g (i * 14) (rcC x)) (some g) := by
  obtain ⟨cur, hh, hs, hc⟩ := h.blk
  have hle := h.le
  have hlen : (rcC x).length = 14 := rfl
  refine ⟨?_, ⟨⟨_, heap_setCells_same g _ (rcC x) (i * 14) w cur hh, by simpa using hs, fun k hk t ht => ?_⟩, by simpa using hle, h.top⟩, setCells_grown g _ _ _ _ _ hh⟩
  · have hH : Holds id w g 0 cur := fun j hj => ⟨by rw [Nat.zero_add, cell_of_row w g j cur _ _ hh, Array.getElem?_eq_getElem hj, getElem!_pos cur j hj]; rfl, by simp [World.frozen?, hh]⟩
    have := stores_of_holds Tryz.prog hH (i * 14) (rcC x) (by rw [hlen, hs]; omega) (fun v hv => rcC_one (l := [x]) v (by rw [recs_one]; exact hv))
    rwa [Nat.zero_add] at this
  · rw [List.length_set] at hk
    rw [setMany_at (by rw [hs]; omega), hlen]
    by_cases e : i = k
    · subst e
      rw [if_pos (by omega), List.getElem_set_self]
      congr 1
      omega
    · rw [if_neg (by omega), List.getElem_set_ne e, hc k hk t ht]
/-- The rest of the row is overwritten. -/
theorem RowG.wipe (h : RowG w g cap dk) {i n : Nat} (hi : i ≤ dk.length) (C : List Value) : RowG (w.setCells g (i * 14) C) g cap (dk.take i) ∧ w.grownBy (w.setCells g (i * 14) C) (some g) := by
  obtain ⟨cur, hh, hs, hc⟩ := h.blk
  have hle := h.le
  refine ⟨⟨⟨_, heap_setCells_same g _ C (i * 14) w cur hh, by simpa using hs, fun k hk t ht => ?_⟩, by rw [List.length_take]; omega, h.top⟩, setCells_grown g _ _ _ _ _ hh⟩
  rw [List.length_take] at hk
  rw [setMany_at (by rw [hs]; omega), if_neg (by omega), List.getElem_take, hc k (by omega) t ht]
end
end

section
open Go.Sort
variable {α : Type} [Inhabited α]

theorem swpIn (d : Array α) {A B i j : Nat} (h1 : A ≤ i) (h2 : i < B) (h3 : A ≤ j) (h4 : j < B) (hB : B ≤ d.size) : PermIn A B d (swp d i j) := swp_permIn d A B i j h1 h2 h3 h4 hB
theorem swp_at (d : Array α) {i j : Nat} (hi : i < d.size) (hj : j < d.size) (t : Nat) : (swp d i j)[t]! = if t = j then d[i]! else if t = i then d[j]! else d[t]! := by
  by_cases e : t = j
  · rw [if_pos e, e, swp_right d i j hj]
  · rw [if_neg e]
    by_cases e2 : t = i
    · rw [if_pos e2, e2, swp_left d i j hi (fun h => e (e2.trans h))]
    · rw [if_neg e2, swp_other d i j t e2 e]

/-- Two ranges are exchanged. -/
structure SwR (d : Array α) (a b n : Nat) (d' : Array α) : Prop where
  size : d'.size = d.size
  left : ∀ t, t < n → d'[a + t]! = d[b + t]!
  right : ∀ t, t < n → d'[b + t]! = d[a + t]!
  other : ∀ t, ¬ (a ≤ t ∧ t < a + n) → ¬ (b ≤ t ∧ t < b + n) → d'[t]! = d[t]!
  perm : ∀ A B, A ≤ a → b + n ≤ B → B ≤ d.size → PermIn A B d d'
theorem SwR.zero (d : Array α) (a b : Nat) : SwR d a b 0 d :=
  ⟨rfl, fun t h => absurd h (Nat.not_lt_zero _), fun t h => absurd h (Nat.not_lt_zero _), fun _ _ _ => rfl, fun A B _ _ _ => permIn_refl d A B⟩
theorem SwR.step {d d' : Array α} {a b n : Nat} (h : SwR d a b n d') (h1 : a + n < b) (h2 : b + n < d.size) : SwR d a b (n + 1) (swp d' (a + n) (b + n)) := by
  have hs := h.size
  have hat := swp_at d' (i := a + n) (j := b + n) (by omega) (by omega)
  refine ⟨by rw [size_swp, hs], fun t ht => ?_, fun t ht => ?_, fun t n1 n2 => ?_, fun A B hA hB hd => ?_⟩
  · rw [hat, if_neg (by omega)]
    by_cases e : t = n
    · rw [if_pos (by omega), h.other _ (by omega) (by omega), e]
    · rw [if_neg (by omega), h.left t (by omega)]
  · rw [hat]
    by_cases e : t = n
    · rw [if_pos (by omega), h.other _ (by omega) (by omega), e]
    · rw [if_neg (by omega), if_neg (by omega), h.right t (by omega)]
  · rw [hat, if_neg (by omega), if_neg (by omega), h.other _ (by omega) (by omega)]
  · exact permIn_trans _ _ _ _ _ (h.perm A B hA (by omega) hd) (swpIn d' (by omega) (by omega) (by omega) (by omega) (by omega))

/-- Two ranges beside one another change places. -/
structure RotI (d : Array α) (a m b : Nat) (d' : Array α) : Prop where
  size : d'.size = d.size
  lo : ∀ t, t < b - m → d'[a + t]! = d[m + t]!
  hi : ∀ t, t < m - a → d'[a + (b - m) + t]! = d[a + t]!
  other : ∀ t, t < a ∨ b ≤ t → d'[t]! = d[t]!
  perm : ∀ A B, A ≤ a → b ≤ B → B ≤ d.size → PermIn A B d d'
theorem RotI.none (d : Array α) {a m b : Nat} (h : a = m ∨ m = b) (h1 : a ≤ m) (h2 : m ≤ b) : RotI d a m b d := by
  refine ⟨rfl, fun t ht => ?_, fun t ht => ?_, fun _ _ => rfl, fun A B _ _ _ => permIn_refl d A B⟩
  · rw [show a + t = m + t by omega]
  · rw [show a + (b - m) + t = a + t by omega]
theorem SwR.rot {d d' : Array α} {m i : Nat} (h : SwR d (m - i) m i d') (hi : i ≤ m) : RotI d (m - i) m (m + i) d' := by
  refine ⟨h.size, fun t ht => h.left t (by omega), fun t ht => ?_, fun t ht => h.other t (by omega) (by omega), h.perm⟩
  rw [show m - i + (m + i - m) + t = m + t by omega]
  exact h.right t (by omega)
theorem SwR.rot_gt {d d' D : Array α} {m i j : Nat} (hi : i ≤ m) (hj : j < i) (hs : m + j ≤ d.size) (h : SwR d (m - i) m j d') (hr : RotI d' (m - (i - j)) m (m + j) D) : RotI d (m - i) m (m + j) D := by
  have e := h.size
  refine ⟨hr.size.trans e, fun t ht => ?_, fun t ht => ?_, fun t ht => ?_, fun A B hA hB hd => permIn_trans _ _ _ _ _ (h.perm A B hA hB hd) (hr.perm A B (by omega) hB (by omega))⟩
  · rw [hr.other _ (by omega), h.left t (by omega)]
  · by_cases c : t < j
    · have := hr.lo t (by omega)
      rw [show m - (i - j) + t = m - i + (m + j - m) + t by omega] at this
      rw [this, h.right t c]
    · have := hr.hi (t - j) (by omega)
      rw [show m - (i - j) + (m + j - m) + (t - j) = m - i + (m + j - m) + t by omega] at this
      rw [this, h.other _ (by omega) (by omega)]
      congr 1
      omega
  · rw [hr.other _ (by omega), h.other _ (by omega) (by omega)]
theorem SwR.rot_lt {d d' D : Array α} {m i j : Nat} (hi : i ≤ m) (hj : i < j) (hs : m + j ≤ d.size) (h : SwR d (m - i) (m + j - i) i d') (hr : RotI d' (m - i) m (m + (j - i)) D) : RotI d (m - i) m (m + j) D := by
  have e := h.size
  refine ⟨hr.size.trans e, fun t ht => ?_, fun t ht => ?_, fun t ht => ?_, fun A B hA hB hd => permIn_trans _ _ _ _ _ (h.perm A B hA (by omega) hd) (hr.perm A B hA (by omega) (by omega))⟩
  · by_cases c : t < j - i
    · rw [hr.lo t (by omega), h.other _ (by omega) (by omega)]
    · have := hr.hi (t - (j - i)) (by omega)
      rw [show m - i + (m + (j - i) - m) + (t - (j - i)) = m - i + t by omega] at this
      rw [this, h.left _ (by omega)]
      congr 1
      omega
  · rw [hr.other _ (by omega)]
    have := h.right t (by omega)
    rw [show m + j - i + t = m - i + (m + j - m) + t by omega] at this
    exact this
  · rw [hr.other _ (by omega), h.other _ (by omega) (by omega)]
/-- One step of the first element upwards. -/
theorem RotI.up {d d' : Array α} {a k : Nat} (h : RotI d a (a + 1) (k + 1) d') (ha : a ≤ k) (hk : k + 1 < d.size) : RotI d a (a + 1) (k + 2) (swp d' k (k + 1)) := by
  have e := h.size
  have hat := swp_at d' (i := k) (j := k + 1) (by omega) (by omega)
  refine ⟨by rw [size_swp, e], fun t ht => ?_, fun t ht => ?_, fun t ht => ?_, fun A B hA hB hd => permIn_trans _ _ _ _ _ (h.perm A B hA (by omega) hd) (swpIn d' (by omega) (by omega) (by omega) (by omega) (by omega))⟩
  · rw [hat, if_neg (by omega)]
    by_cases c : a + t = k
    · rw [if_pos c, h.other _ (by omega)]
      congr 1
      omega
    · rw [if_neg c, h.lo t (by omega)]
  · have := h.hi t (by omega)
    rw [hat, if_pos (by omega), ← this]
    congr 1
    omega
  · rw [hat, if_neg (by omega), if_neg (by omega), h.other _ (by omega)]
/-- One step of the last element downwards. -/
theorem RotI.down {d d' : Array α} {k m : Nat} (h : RotI d (k + 1) m (m + 1) d') (hk : k + 1 ≤ m) (hm : m < d.size) : RotI d k m (m + 1) (swp d' (k + 1) k) := by
  have e := h.size
  have hat := swp_at d' (i := k + 1) (j := k) (by omega) (by omega)
  refine ⟨by rw [size_swp, e], fun t ht => ?_, fun t ht => ?_, fun t ht => ?_, fun A B hA hB hd => permIn_trans _ _ _ _ _ (h.perm A B (by omega) hB hd) (swpIn d' (by omega) (by omega) (by omega) (by omega) (by omega))⟩
  · obtain rfl : t = 0 := by omega
    rw [hat, if_pos (by omega)]
    have := h.lo 0 (by omega)
    simpa using this
  · rw [hat, if_neg (by omega)]
    by_cases c : t = 0
    · subst c
      rw [if_pos (by omega), h.other _ (by omega)]
      rfl
    · rw [if_neg (by omega)]
      have := h.hi (t - 1) (by omega)
      rw [show k + 1 + (m + 1 - m) + (t - 1) = k + (m + 1 - m) + t by omega] at this
      rw [this]
      congr 1
      omega
  · rw [hat, if_neg (by omega), if_neg (by omega), h.other _ (by omega)]

/-! ### A binary search -/
structure Cut (p : Nat → Prop) (lo hi i j : Nat) : Prop where
  li : lo ≤ i
  ij : i ≤ j
  jh : j ≤ hi
  yes : ∀ t, lo ≤ t → t < i → p t
  no : ∀ t, j ≤ t → t < hi → ¬ p t
def MonoP (p : Nat → Prop) (lo hi : Nat) : Prop := ∀ t t', lo ≤ t → t < t' → t' < hi → p t' → p t
variable {p : Nat → Prop} {lo hi i j h : Nat}
theorem Cut.start (hl : lo ≤ hi) : Cut p lo hi lo hi := ⟨Nat.le_refl _, hl, Nat.le_refl _, fun t h1 h2 => by omega, fun t h1 h2 => by omega⟩
theorem Cut.right (H : Cut p lo hi i j) (hM : MonoP p lo hi) (h1 : i ≤ h) (h2 : h < j) (hp : p h) : Cut p lo hi (h + 1) j := by
  have := H.jh
  have := H.li
  refine ⟨by omega, by omega, H.jh, fun t t1 t2 => ?_, H.no⟩
  by_cases e : t = h
  · rw [e]; exact hp
  · exact hM t h t1 (by omega) (by omega) hp
theorem Cut.left (H : Cut p lo hi i j) (hM : MonoP p lo hi) (h1 : i ≤ h) (h2 : h < j) (hp : ¬ p h) : Cut p lo hi i h := by
  have := H.jh
  have := H.li
  refine ⟨H.li, h1, by omega, H.yes, fun t t1 t2 ht => ?_⟩
  by_cases e : t = h
  · rw [e] at ht; exact hp ht
  · exact hp (hM h t (by omega) (by omega) t2 ht)

/-! ### The merge -/
structure Strict (R : α → α → Prop) : Prop where
  trans : ∀ x y z, R x y → R y z → R x z
  irr : ∀ x, ¬ R x x
/-- Two ascending ranges, and what a comparison across them tells. -/
structure MrgIn (R : α → α → Prop) (cf : α → α → Int) (d : Array α) (a m b : Nat) : Prop where
  sl : ∀ i j, a ≤ i → i < j → j < m → R d[i]! d[j]!
  sr : ∀ i j, m ≤ i → i < j → j < b → R d[i]! d[j]!
  less : ∀ i j, a ≤ i → i < m → m ≤ j → j < b → cf d[j]! d[i]! < 0 → R d[j]! d[i]!
  not : ∀ i j, a ≤ i → i < m → m ≤ j → j < b → ¬ cf d[j]! d[i]! < 0 → R d[i]! d[j]!
structure MrgOut (R : α → α → Prop) (d : Array α) (a b : Nat) (d' : Array α) : Prop where
  perm : PermIn a b d d'
  asc : ∀ i j, a ≤ i → i < j → j < b → R d'[i]! d'[j]!
variable {R : α → α → Prop} {cf : α → α → Int} {d d' D : Array α} {a m b s e : Nat}
theorem MrgIn.congr (h : MrgIn R cf d a m b) (hh : ∀ t, a ≤ t → t < b → d'[t]! = d[t]!) (h1 : a ≤ m) (h2 : m ≤ b) : MrgIn R cf d' a m b := by
  refine ⟨fun i j x y z => ?_, fun i j x y z => ?_, fun i j x y z u => ?_, fun i j x y z u => ?_⟩
  · rw [hh i (by omega) (by omega), hh j (by omega) (by omega)]; exact h.sl i j x y z
  · rw [hh i (by omega) (by omega), hh j (by omega) (by omega)]; exact h.sr i j x y z
  · rw [hh i (by omega) (by omega), hh j (by omega) (by omega)]; exact h.less i j x y z u
  · rw [hh i (by omega) (by omega), hh j (by omega) (by omega)]; exact h.not i j x y z u
theorem MrgIn.edge (h : MrgIn R cf d a m b) (he : m = a ∨ m = b) : MrgOut R d a b d := by
  refine ⟨permIn_refl d a b, fun i j x y z => ?_⟩
  rcases he with rfl | rfl
  · exact h.sr i j x y z
  · exact h.sl i j x y z
/-- Across: less is before, not less is behind. -/
theorem MrgIn.iff (h : MrgIn R cf d a m b) (hR : Strict R) {i j : Nat} (h1 : a ≤ i) (h2 : i < m) (h3 : m ≤ j) (h4 : j < b) : cf d[j]! d[i]! < 0 ↔ R d[j]! d[i]! := by
  refine ⟨h.less i j h1 h2 h3 h4, fun hr => ?_⟩
  by_cases c : cf d[j]! d[i]! < 0
  · exact c
  · exact absurd (hR.trans _ _ _ hr (h.not i j h1 h2 h3 h4 c)) (hR.irr _)
theorem MrgIn.mono1 (h : MrgIn R cf d a (a + 1) b) (hR : Strict R) : MonoP (fun t => cf d[t]! d[a]! < 0) (a + 1) b := by
  intro t t' h1 h2 h3 hp
  rw [h.iff hR (Nat.le_refl _) (by omega) (by omega) (by omega)] at hp ⊢
  exact hR.trans _ _ _ (h.sr t t' h1 h2 h3) hp
theorem MrgIn.mono2 (h : MrgIn R cf d a m (m + 1)) (hR : Strict R) : MonoP (fun t => ¬ cf d[m]! d[t]! < 0) a m := by
  intro t t' h1 h2 h3 hp hn
  have r1 := h.not t' m (by omega) h3 (Nat.le_refl _) (by omega) hp
  have r2 := h.less t m h1 (by omega) (Nat.le_refl _) (by omega) hn
  exact hR.irr _ (hR.trans _ _ _ (hR.trans _ _ _ r1 r2) (h.sl t t' h1 h2 h3))
/-- The pieces behind a rotation that stand as they are. -/
theorem MrgIn.whole (h : MrgIn R cf d a m b) (hr : RotI d s m e D) (h1 : a ≤ s) (h2 : s ≤ m) (h3 : m ≤ e) (h4 : e ≤ b) (hb : b ≤ d.size)
    (c1 : ∀ x y, a ≤ x → x < s → e ≤ y → y < b → R d[x]! d[y]!) (c2 : ∀ y x, m ≤ y → y < e → s ≤ x → x < m → R d[y]! d[x]!)
    (c3 : ∀ x y, a ≤ x → x < s → m ≤ y → y < e → R d[x]! d[y]!) (c4 : ∀ x y, s ≤ x → x < m → e ≤ y → y < b → R d[x]! d[y]!) : MrgOut R d a b D := by
  have at1 : ∀ t, t < s → D[t]! = d[t]! := fun t ht => hr.other t (.inl ht)
  have at2 : ∀ t, s ≤ t → t < s + (e - m) → D[t]! = d[m + (t - s)]! := fun t ht hu => by
    have := hr.lo (t - s) (by omega)
    rwa [show s + (t - s) = t by omega] at this
  have at3 : ∀ t, s + (e - m) ≤ t → t < e → D[t]! = d[s + (t - (s + (e - m)))]! := fun t ht hu => by
    have := hr.hi (t - (s + (e - m))) (by omega)
    rwa [show s + (e - m) + (t - (s + (e - m))) = t by omega] at this
  have at4 : ∀ t, e ≤ t → D[t]! = d[t]! := fun t ht => hr.other t (.inr ht)
  refine ⟨hr.perm a b h1 h4 hb, fun i j hi hij hj => ?_⟩
  rcases Nat.lt_or_ge i s with i1 | i1
  · rw [at1 i i1]
    rcases Nat.lt_or_ge j s with j1 | j1
    · rw [at1 j j1]; exact h.sl _ _ hi hij (by omega)
    · rcases Nat.lt_or_ge j (s + (e - m)) with j2 | j2
      · rw [at2 j j1 j2]; exact c3 _ _ hi i1 (by omega) (by omega)
      · rcases Nat.lt_or_ge j e with j3 | j3
        · rw [at3 j j2 j3]; exact h.sl _ _ hi (by omega) (by omega)
        · rw [at4 j j3]; exact c1 _ _ hi i1 j3 hj
  · rcases Nat.lt_or_ge i (s + (e - m)) with i2 | i2
    · rw [at2 i i1 i2]
      rcases Nat.lt_or_ge j (s + (e - m)) with j2 | j2
      · rw [at2 j (by omega) j2]; exact h.sr _ _ (by omega) (by omega) (by omega)
      · rcases Nat.lt_or_ge j e with j3 | j3
        · rw [at3 j j2 j3]; exact c2 _ _ (by omega) (by omega) (by omega) (by omega)
        · rw [at4 j j3]; exact h.sr _ _ (by omega) (by omega) hj
    · rcases Nat.lt_or_ge i e with i3 | i3
      · rw [at3 i i2 i3]
        rcases Nat.lt_or_ge j e with j3 | j3
        · rw [at3 j (by omega) j3]; exact h.sl _ _ (by omega) (by omega) (by omega)
        · rw [at4 j j3]; exact c4 _ _ (by omega) (by omega) j3 hj
      · rw [at4 i i3, at4 j (by omega)]; exact h.sr _ _ (by omega) hij hj
/-- One element in front. -/
theorem MrgIn.one1 {i : Nat} (h : MrgIn R cf d a (a + 1) b) (hc : Cut (fun t => cf d[t]! d[a]! < 0) (a + 1) b i i) (hr : RotI d a (a + 1) i D) (hb : b ≤ d.size) : MrgOut R d a b D := by
  refine h.whole hr (Nat.le_refl _) (by omega) hc.li hc.jh hb (fun x y h1 h2 => by omega) (fun y x h1 h2 h3 h4 => ?_) (fun x y h1 h2 => by omega) (fun x y h1 h2 h3 h4 => ?_)
  · obtain rfl : x = a := by omega
    exact h.less _ _ (Nat.le_refl _) (by omega) h1 (by have := hc.jh; omega) (hc.yes y h1 h2)
  · obtain rfl : x = a := by omega
    exact h.not _ _ (Nat.le_refl _) (by omega) (by have := hc.li; omega) h4 (hc.no y h3 h4)
/-- One element behind. -/
theorem MrgIn.one2 {i : Nat} (h : MrgIn R cf d a m (m + 1)) (hc : Cut (fun t => ¬ cf d[m]! d[t]! < 0) a m i i) (hr : RotI d i m (m + 1) D) (hb : m + 1 ≤ d.size) : MrgOut R d a (m + 1) D := by
  refine h.whole hr hc.li hc.jh (by omega) (Nat.le_refl _) hb (fun x y h1 h2 h3 h4 => by omega) (fun y x h1 h2 h3 h4 => ?_) (fun x y h1 h2 h3 h4 => ?_) (fun x y h1 h2 h3 h4 => by omega)
  · obtain rfl : y = m := by omega
    have := hc.no x h3 h4
    exact h.less _ _ (by have := hc.li; omega) h4 (Nat.le_refl _) (by omega) (Decidable.not_not.1 this)
  · obtain rfl : y = m := by omega
    exact h.not _ _ h1 (by have := hc.jh; omega) (Nat.le_refl _) (by omega) (hc.yes x h1 h2)
/-- The middle of a merge: where it is cut. -/
structure Mid (a m b mid s0 r0 : Nat) : Prop where
  am : a + 2 ≤ m
  mb : m + 2 ≤ b
  mid1 : mid * 2 ≤ a + b
  mid2 : a + b ≤ mid * 2 + 1
  lo : (mid < m ∧ s0 + b = mid + m ∧ r0 = mid) ∨ (m ≤ mid ∧ s0 = a ∧ r0 = m)
theorem MrgIn.monoM {mid s0 r0 : Nat} (h : MrgIn R cf d a m b) (hR : Strict R) (hM : Mid a m b mid s0 r0) : MonoP (fun c => ¬ cf d[mid + m - 1 - c]! d[c]! < 0) s0 r0 := by
  intro t t' h1 h2 h3 hp hn
  obtain ⟨q1, q2, q3, q4, q5⟩ := hM
  have r1 := h.not t' (mid + m - 1 - t') (by omega) (by omega) (by omega) (by omega) hp
  have r2 := h.less t (mid + m - 1 - t) (by omega) (by omega) (by omega) (by omega) hn
  have r3 := h.sr (mid + m - 1 - t') (mid + m - 1 - t) (by omega) (by omega) (by omega)
  have r4 := h.sl t t' (by omega) h2 (by omega)
  exact hR.irr _ (hR.trans _ _ _ (hR.trans _ _ _ r1 r3) (hR.trans _ _ _ r2 r4))
/-- Behind the cut and the rotation: two merges that do not meet. -/
theorem MrgIn.split {mid s0 r0 : Nat} (h : MrgIn R cf d a m b) (hR : Strict R) (hM : Mid a m b mid s0 r0) (hc : Cut (fun c => ¬ cf d[mid + m - 1 - c]! d[c]! < 0) s0 r0 s s) (hr : RotI d s m (mid + m - s) D) (hb : b ≤ d.size) :
    MrgIn R cf D a s mid ∧ MrgIn R cf D mid (mid + m - s) b ∧ ∀ x y, a ≤ x → x < mid → mid ≤ y → y < b → R D[x]! D[y]! := by
  obtain ⟨q1, q2, q3, q4, q5⟩ := hM
  obtain ⟨z1, -, z2, z3, z4⟩ := hc
  have at1 : ∀ t, t < s → D[t]! = d[t]! := fun t ht => hr.other t (.inl ht)
  have at2 : ∀ t, s ≤ t → t < mid → D[t]! = d[m + (t - s)]! := fun t ht hu => by
    have := hr.lo (t - s) (by omega)
    rwa [show s + (t - s) = t by omega] at this
  have at3 : ∀ t, mid ≤ t → t < mid + m - s → D[t]! = d[s + (t - mid)]! := fun t ht hu => by
    have := hr.hi (t - mid) (by omega)
    rwa [show s + (mid + m - s - m) + (t - mid) = t by omega] at this
  have at4 : ∀ t, mid + m - s ≤ t → D[t]! = d[t]! := fun t ht => hr.other t (.inr ht)
  -- the left front lies before the right rest
  have c1 : ∀ x y, a ≤ x → x < s → mid + m - s ≤ y → y < b → R d[x]! d[y]! := by
    intro x y h1 h2 h3 h4
    have hs : s0 < s := by omega
    have r1 := h.not (s - 1) (mid + m - 1 - (s - 1)) (by omega) (by omega) (by omega) (by omega) (z3 (s - 1) (by omega) (by omega))
    have r2 : R d[x]! d[mid + m - 1 - (s - 1)]! := by
      by_cases c : x = s - 1
      · rw [c]; exact r1
      · exact hR.trans _ _ _ (h.sl x (s - 1) h1 (by omega) (by omega)) r1
    by_cases c : y = mid + m - 1 - (s - 1)
    · rw [c]; exact r2
    · exact hR.trans _ _ _ r2 (h.sr _ y (by omega) (by omega) h4)
  have c2 : ∀ y x, m ≤ y → y < mid + m - s → s ≤ x → x < m → R d[y]! d[x]! := by
    intro y x h1 h2 h3 h4
    have hs : s < r0 := by omega
    have r1 := h.less s (mid + m - 1 - s) (by omega) (by omega) (by omega) (by omega) (Decidable.not_not.1 (z4 s (Nat.le_refl _) hs))
    have r2 : R d[mid + m - 1 - s]! d[x]! := by
      by_cases c : x = s
      · rw [c]; exact r1
      · exact hR.trans _ _ _ r1 (h.sl s x (by omega) (by omega) h4)
    by_cases c : y = mid + m - 1 - s
    · rw [c]; exact r2
    · exact hR.trans _ _ _ (h.sr y _ h1 (by omega) (by omega)) r2
  refine ⟨⟨fun i j x y z => ?_, fun i j x y z => ?_, fun i j x y z u => ?_, fun i j x y z u => ?_⟩, ⟨fun i j x y z => ?_, fun i j x y z => ?_, fun i j x y z u => ?_, fun i j x y z u => ?_⟩, fun x y h1 h2 h3 h4 => ?_⟩
  · rw [at1 i (by omega), at1 j (by omega)]; exact h.sl _ _ x y (by omega)
  · rw [at2 i x (by omega), at2 j (by omega) z]; exact h.sr _ _ (by omega) (by omega) (by omega)
  · rw [at1 i y, at2 j z u]; exact h.less _ _ x (by omega) (by omega) (by omega)
  · rw [at1 i y, at2 j z u]; exact h.not _ _ x (by omega) (by omega) (by omega)
  · rw [at3 i x (by omega), at3 j (by omega) (by omega)]; exact h.sl _ _ (by omega) (by omega) (by omega)
  · rw [at4 i x, at4 j (by omega)]; exact h.sr _ _ (by omega) y z
  · rw [at3 i x y, at4 j z]; exact h.less _ _ (by omega) (by omega) (by omega) u
  · rw [at3 i x y, at4 j z]; exact h.not _ _ (by omega) (by omega) (by omega) u
  · rcases Nat.lt_or_ge x s with x1 | x1 <;> rcases Nat.lt_or_ge y (mid + m - s) with y1 | y1
    · rw [at1 x x1, at3 y h3 y1]; exact h.sl _ _ h1 (by omega) (by omega)
    · rw [at1 x x1, at4 y y1]; exact c1 _ _ h1 x1 y1 h4
    · rw [at2 x x1 h2, at3 y h3 y1]; exact c2 _ _ (by omega) (by omega) (by omega) (by omega)
    · rw [at2 x x1 h2, at4 y y1]; exact h.sr _ _ (by omega) (by omega) h4
/-- Both merges done, all is done. -/
theorem merged {mid : Nat} {d1 d2 d3 : Array α} (h1 : PermIn a b d d1) (hx : ∀ x y, a ≤ x → x < mid → mid ≤ y → y < b → R d1[x]! d1[y]!) (h2 : MrgOut R d1 a mid d2) (h3 : MrgOut R d2 mid b d3) (ha : a ≤ mid) (hb : mid ≤ b) (hs : b ≤ d.size) : MrgOut R d a b d3 := by
  have e1 := h1.1
  have e2 := h2.perm.1
  refine ⟨permIn_trans _ _ _ _ _ h1 (permIn_trans _ _ _ _ _ (permIn_mono d1 d2 a mid a b (Nat.le_refl _) hb (by omega) h2.perm) (permIn_mono d2 d3 mid b a b ha (Nat.le_refl _) (by omega) h3.perm)), fun i j hi hij hj => ?_⟩
  have low : ∀ t, t < mid → d3[t]! = d2[t]! := fun t ht => h3.perm.2.1 t (.inl ht)
  have high : ∀ t, mid ≤ t → d2[t]! = d1[t]! := fun t ht => h2.perm.2.1 t (.inr ht)
  rcases Nat.lt_or_ge j mid with j1 | j1
  · rw [low i (by omega), low j j1]; exact h2.asc i j hi hij j1
  · rcases Nat.lt_or_ge i mid with i1 | i1
    · rw [low i i1]
      refine permIn_all d2 d3 mid b (fun z => R d2[i]! z) (by omega) h3.perm (fun y y1 y2 => ?_) j j1 hj
      rw [high y y1]
      exact permIn_all d1 d2 a mid (fun z => R z d1[y]!) (by omega) h2.perm (fun x x1 x2 => hx x y x1 x2 y1 y2) i hi i1
    · exact h3.asc i j i1 hij hj

/-! ### The insertion sort is stable -/
variable {lt1 lt2 : α → α → Bool}
theorem insInner_congr (a : Nat) : ∀ (j : Nat) (d : Array α), j < d.size → (∀ t, a ≤ t → t < j → lt1 d[j]! d[t]! = lt2 d[j]! d[t]!) → insInner lt1 a j d = insInner lt2 a j d
  | 0, d, _, _ => rfl
  | j + 1, d, hj, h => by
    unfold insInner
    by_cases hja : j + 1 > a
    · have hl := h j (by omega) (by omega)
      rw [hl]
      split
      · refine insInner_congr a j _ (by rw [size_swp]; omega) (fun t h1 h2 => ?_)
        have hat := swp_at d (i := j + 1) (j := j) hj (by omega)
        rw [hat j, if_pos rfl, hat t, if_neg (by omega), if_neg (by omega)]
        exact h t h1 (by omega)
      · rfl
    · simp [hja]
theorem insOuter_congr (hS : SWO lt2) (a b : Nat) : ∀ (n i : Nat) (d : Array α), b - i = n → a < i → i ≤ b → b ≤ d.size → (∀ q t, i ≤ q → q < b → a ≤ t → t < q → lt1 d[q]! d[t]! = lt2 d[q]! d[t]!) → SortedIn lt2 a i d → insOuter lt1 a b i d = insOuter lt2 a b i d
  | 0, i, d, hn, h1, h2, h3, h, hso => by
    unfold insOuter
    rw [if_neg (by omega), if_neg (by omega)]
  | n + 1, i, d, hn, h1, h2, h3, h, hso => by
    have hib : i < b := by omega
    rw [show insOuter lt1 a b i d = insOuter lt1 a b (i + 1) (insInner lt1 a i d) by rw [insOuter, if_pos hib], show insOuter lt2 a b i d = insOuter lt2 a b (i + 1) (insInner lt2 a i d) by rw [insOuter, if_pos hib]]
    rw [insInner_congr a i d (by omega) (fun t t1 t2 => h i t (Nat.le_refl _) hib t1 t2)]
    obtain ⟨hp, hs2⟩ := insInner_spec hS swp_permIn permIn_refl permIn_trans a (i + 1) i (Nat.lt_succ_self i) i d (by omega) (Nat.le_refl _) (by omega) ⟨fun p q hap hpq hqi _ hq => hso p q hap hpq (by omega), fun q h1 h2 => by omega⟩
    have hsz := hp.1
    refine insOuter_congr hS a b n (i + 1) _ (by omega) (by omega) hib (by omega) (fun q t q1 q2 t1 t2 => ?_) hs2
    rw [hp.2.1 q (.inr q1)]
    rcases Nat.lt_or_ge t (i + 1) with c | c
    · exact permIn_all d _ a (i + 1) (fun z => lt1 d[q]! z = lt2 d[q]! z) (by omega) hp (fun y y1 y2 => h q y (by omega) q2 y1 (by omega)) t t1 c
    · rw [hp.2.1 t (.inr c)]
      exact h q t (by omega) q2 t1 t2
/-- Where a finer order tells the same of any two that stand as they came, the sort is the finer one's. -/
theorem insertion_stable (hS : SWO lt2) (d : Array α) {a b : Nat} (hab : a ≤ b) (hb : b ≤ d.size) (h : ∀ q t, a ≤ t → t < q → q < b → lt1 d[q]! d[t]! = lt2 d[q]! d[t]!) :
    PermIn a b d (insertionSort lt1 d a b) ∧ SortedIn lt2 a b (insertionSort lt1 d a b) := by
  have e : insertionSort lt1 d a b = insertionSort lt2 d a b := by
    unfold insertionSort
    by_cases c : a = b
    · subst c
      unfold insOuter
      rw [if_neg (by omega), if_neg (by omega)]
    · exact insOuter_congr hS a b (b - (a + 1)) (a + 1) d rfl (by omega) (by omega) hb (fun q t q1 q2 t1 t2 => h q t t1 t2 q2) (fun i j h1 h2 h3 => by omega)
  rw [e]
  exact insertionSort_holds hS d a b hab hb
end

section
open Go.RowKit Go.Shelf Go.Sort

/-- History's order: by hours. -/
def hrI (r q : Rc) : Int := IntKind.i64.wrap (r.hour - q.hour)
theorem byHourW_calls (r q : Rc) (w : World) :
    Calls Tryz.prog 83 #[.agg (rcC r).toArray, .agg (rcC q).toArray] w fun e w' => e = .returned (.int .i64 (hrI r q)) ∧ ∃ n os, w' = grow (w.drewN n) os := by
  have HR := hid ((RcAt.new w r).below (below_alloc _ (.cells (rcA q) 82)) (by simp))
  have hq := RcAt.new (w.alloc (.cells (rcA r) 82)) q
  rw [show (w.alloc (.cells (rcA r) 82)).heap.size = w.heap.size + 1 by simp] at hq
  have HQ := hid hq
  have HG := hid (show (w.alloc (.cells (rcA r) 82)).alloc (.cells (rcA q) 82) = grow (w.drewN 0) #[.cells (rcA r) 82, .cells (rcA q) 82] from by
    rw [alloc_eq_grow (w.alloc (.cells (rcA r) 82)), alloc_eq_grow w, grow_grow]
    rfl)
  clear hq
  show Calls Tryz.prog 83 #[.agg #[.int .i64 r.tab, .int .i64 r.num, .int .i64 r.hour, .int .i64 r.sign, .int .i64 r.fld, .int .i64 r.val, .int .i64 r.s0, .int .i64 r.s1, .int .i64 r.s2, .int .i64 r.s3, .int .i64 r.s4, .int .i64 r.s5, .int .i64 r.s6, .int .i64 r.s7], .agg #[.int .i64 q.tab, .int .i64 q.num, .int .i64 q.hour, .int .i64 q.sign, .int .i64 q.fld, .int .i64 q.val, .int .i64 q.s0, .int .i64 q.s1, .int .i64 q.s2, .int .i64 q.s3, .int .i64 q.s4, .int .i64 q.s5, .int .i64 q.s6, .int .i64 q.s7]] w _
  go_enter Tryz.func83, Tryz.ntmps83
  go_upto_region 1 with (fail)
  change Code.wp _ _ _ _ ((w.alloc (.cells (rcA r) 82)).alloc (.cells (rcA q) 82))
  obtain ⟨d0, d1, d2, d3, d4, d5⟩ := (unhid HR).cells
  obtain ⟨e0, e1, e2, e3, e4, e5⟩ := (unhid HQ).cells
  obtain ⟨W, hW⟩ : ∃ W, W = (w.alloc (.cells (rcA r) 82)).alloc (.cells (rcA q) 82) := ⟨_, rfl⟩
  have HG := hid (show W = grow (w.drewN 0) #[.cells (rcA r) 82, .cells (rcA q) 82] from hW.trans (unhid HG))
  rw [← hW] at d0 d1 d2 d3 d4 d5 e0 e1 e2 e3 e4 e5 ⊢
  clear hW
  go_wp2_with fail
  go_ret
  exact ⟨reti (by first | rfl | (unfold hrI; rw [IntKind.wrap_i64]; rfl) | (unfold hrI wrap64; rw [IntKind.wrap_i64])), 0, _, unhid HG⟩
theorem hr_lays (blk off size : Nat) (w : World) : CmpLays Tryz.prog 83 #[] rcC 14 hrI blk off size w := fun _ _ _ _ x y => byHourW_calls x y _

/-- The cells of a record in a world of the sort's. -/
theorem SWKc {W : World} {blk off i : Nat} {dk : Array Rc} {x : Rc} (h : HoldsK rcC 14 W blk off dk) (hi : i < dk.size) (hx : x = dk[i]!) : W.cell? ⟨blk, off + i * 14, none⟩ = some (.int .i64 x.tab) ∧ W.cell? ⟨blk, off + i * 14 + 1, none⟩ = some (.int .i64 x.num) ∧ W.cell? ⟨blk, off + i * 14 + 2, none⟩ = some (.int .i64 x.hour) ∧ W.cell? ⟨blk, off + i * 14 + 3, none⟩ = some (.int .i64 x.sign) ∧ W.cell? ⟨blk, off + i * 14 + 4, none⟩ = some (.int .i64 x.fld) ∧ W.cell? ⟨blk, off + i * 14 + 5, none⟩ = some (.int .i64 x.val) ∧ W.cell? ⟨blk, off + i * 14 + 6, none⟩ = some (.int .i64 x.s0) ∧ W.cell? ⟨blk, off + i * 14 + 7, none⟩ = some (.int .i64 x.s1) ∧ W.cell? ⟨blk, off + i * 14 + 8, none⟩ = some (.int .i64 x.s2) ∧ W.cell? ⟨blk, off + i * 14 + 9, none⟩ = some (.int .i64 x.s3) ∧ W.cell? ⟨blk, off + i * 14 + 10, none⟩ = some (.int .i64 x.s4) ∧ W.cell? ⟨blk, off + i * 14 + 11, none⟩ = some (.int .i64 x.s5) ∧ W.cell? ⟨blk, off + i * 14 + 12, none⟩ = some (.int .i64 x.s6) ∧ W.cell? ⟨blk, off + i * 14 + 13, none⟩ = some (.int .i64 x.s7) := by
  subst hx
  have hc := fun t v e => HoldsK.cells h (fun _ => rfl) hi t v e
  exact ⟨hc 0 _ rfl, hc 1 _ rfl, hc 2 _ rfl, hc 3 _ rfl, hc 4 _ rfl, hc 5 _ rfl, hc 6 _ rfl, hc 7 _ rfl, hc 8 _ rfl, hc 9 _ rfl, hc 10 _ rfl, hc 11 _ rfl, hc 12 _ rfl, hc 13 _ rfl⟩
theorem swk_cells14 {w0 W : World} {blk off i : Nat} {d0 dk : Array Rc} {x : Rc} (h : SWK rcC 14 w0 blk off dk W) (R : RowK rcC 14 w0 blk off d0) (hs : dk.size = d0.size) (hi : i < dk.size) (hx : x = dk[i]!) : W.cell? ⟨blk, off + i * 14, none⟩ = some (.int .i64 x.tab) ∧ W.cell? ⟨blk, off + i * 14 + 1, none⟩ = some (.int .i64 x.num) ∧ W.cell? ⟨blk, off + i * 14 + 2, none⟩ = some (.int .i64 x.hour) ∧ W.cell? ⟨blk, off + i * 14 + 3, none⟩ = some (.int .i64 x.sign) ∧ W.cell? ⟨blk, off + i * 14 + 4, none⟩ = some (.int .i64 x.fld) ∧ W.cell? ⟨blk, off + i * 14 + 5, none⟩ = some (.int .i64 x.val) ∧ W.cell? ⟨blk, off + i * 14 + 6, none⟩ = some (.int .i64 x.s0) ∧ W.cell? ⟨blk, off + i * 14 + 7, none⟩ = some (.int .i64 x.s1) ∧ W.cell? ⟨blk, off + i * 14 + 8, none⟩ = some (.int .i64 x.s2) ∧ W.cell? ⟨blk, off + i * 14 + 9, none⟩ = some (.int .i64 x.s3) ∧ W.cell? ⟨blk, off + i * 14 + 10, none⟩ = some (.int .i64 x.s4) ∧ W.cell? ⟨blk, off + i * 14 + 11, none⟩ = some (.int .i64 x.s5) ∧ W.cell? ⟨blk, off + i * 14 + 12, none⟩ = some (.int .i64 x.s6) ∧ W.cell? ⟨blk, off + i * 14 + 13, none⟩ = some (.int .i64 x.s7) := SWKc (h.holds R.hblk R.hH hs) hi hx
/-- A struct stored in the middle of a row. -/
theorem wp_store_mid {P : Program} {o : Oper} {a : Act} {w : World} {K : Act → World → Prop} {Q : Exit → Act → World → Prop} (ty : TypeId) (x y : Operand) (ho : o.op = .store ty x y) (b : Addr) (cells : Array Value) (w' : World)
    (hx : a.eval x = .pointer (some b)) (hy : a.eval y = .agg cells) (hi : (P.info? ty).map (·.size) = some cells.size) (hr : Sem.run P (storeCells b cells.toList 0) w = .ok () w') (h : K (a.put o.dst undef) w') : o.wp P a w K Q := by
  have hs : (storeVar ty b (.agg cells)).run P w = .ok () w' := by
    cases hq : P.info? ty with
    | none => simp [hq] at hi
    | some i =>
      have hz : cells.size = i.size := by simp [hq] at hi; omega
      simp [storeVar, Go.sizeOf, typeInfo, hq, Value.cells, hz, hr]
  unfold Oper.wp execOp
  simp only [ho, hx, hy, Instr.storeAt, Instr.sureAddr, Sem.run_bind, Sem.run_pure, Result.andThen_ok, hs]
  exact h
/-- Two operations may come up. -/
theorem WE_two {P : Program} {l : List Oper} {Q : Exit → Act → World → Prop} {md : Region.Mode} {S : World → Prop} {s i j : Nat} {o o' : Oper} {f : Nat} {listed : Array Bool} {a : Act} {w : World} (hi : l[i]? = some o) (hj : l[j]? = some o') (his : i < s) (hjs : j < s) (hr : Region.ready md l.toArray listed = [i, j])
    (h : ∀ K : Act → World → Prop, Go.Shut (∀ a w, S w → (S w → WE P md l Q S s f (listed.setIfInBounds i true) a w) → K a w) → if Region.wanted o (yielded l.toArray a.tmps) = true then Oper.wp P o a w K Q else K (a.put o.dst undef) w)
    (h' : ∀ K : Act → World → Prop, Go.Shut (∀ a w, S w → (S w → WE P md l Q S s f (listed.setIfInBounds j true) a w) → K a w) → if Region.wanted o' (yielded l.toArray a.tmps) = true then Oper.wp P o' a w K Q else K (a.put o'.dst undef) w) :
    WE P md l Q S s (f + 1) listed a w := fun inv => by
  have hi' : l.toArray[i]? = some o := by simpa using hi
  have hj' : l.toArray[j]? = some o' := by simpa using hj
  have hmi : i ∈ Region.ready md l.toArray listed := by rw [hr]; simp
  have hmj : j ∈ Region.ready md l.toArray listed := by rw [hr]; simp
  refine ⟨fun h => (by rw [h] at hr; cases hr), fun q hq => ?_⟩
  rw [hr] at hq
  rcases (show q = i ∨ q = j from by simpa using hq) with rfl | rfl
  · exact wpOp_step hi' (fun K hK => h K (fun a w hS hW => hK a w ⟨fun _ => hS, hW hS (inv.set hmi his)⟩))
  · exact wpOp_step hj' (fun K hK => h' K (fun a w hS hW => hK a w ⟨fun _ => hS, hW hS (inv.set hmj hjs)⟩))
def SwPost (w0 : World) (blk off a b n : Nat) (d : Array Rc) (e : Ending) (w' : World) : Prop := e = .returned (.tuple #[]) ∧ ∃ d', SwR d a b n d' ∧ SWK rcC 14 w0 blk off d' w'
set_option maxHeartbeats 4000000 in
set_option maxRecDepth 100000 in
theorem swapRange_calls {w0 : World} {blk off : Nat} {d0 : Array Rc} (R : RowK rcC 14 w0 blk off d0) (fv : Value) (a b n cap : Nat) (ai bi ni : Int) (d : Array Rc) (w : World) (h : SWK rcC 14 w0 blk off d w) (hs : d.size = d0.size) (hab : a + n ≤ b) (hb : b + n ≤ d0.size) (hsz : d0.size ≤ 1000000) (ha : ai = (a : Int)) (hbi : bi = (b : Int)) (hni : ni = (n : Int)) :
    Calls Tryz.prog 165 #[.slice (some ⟨blk, off, none⟩) d0.size cap, .int .i64 ai, .int .i64 bi, .int .i64 ni, fv] w fun e w' => SwPost w0 blk off a b n d e w' := by
  subst ha hbi hni
  have mixed : Tryz.prog.follows .mixedOrders = true := by kernel_rfl
  have H := hid h
  have HR := hid R
  have HS0 := hid hs
  clear h R hs
  go_enter Tryz.func165, Tryz.ntmps165
  go_upto_region 1 with (fail)
  go_loopw [10] (fun iv wr => ∃ (i : Nat) (dk : Array Rc), i ≤ n ∧ iv = .int .i64 i ∧ SwR d a b i dk ∧ SWK rcC 14 w0 blk off dk wr) (fun iv _ => n - (intOf iv).toNat)
  case atStart => exact ⟨0, d, Nat.zero_le _, rfl, SwR.zero _ _ _, unhid H⟩
  case round =>
    clear H
    obtain ⟨i, dk, hi, rfl, hsw, hk⟩ := hrel
    have HSW := hid hsw
    have HK := hid hk
    have hds : dk.size = d0.size := hsw.size.trans (unhid HS0)
    clear hsw hk
    by_cases hlt : i < n
    · have hlti : (i : Int) < (n : Int) := by omega
      have HN := hid ((unhid HSW).step (by omega) (by have := unhid HS0; omega))
      have eax : ((a : Int) + (i : Int)).toNat = a + i := by omega
      have pax : (0 : Int) ≤ (a : Int) + (i : Int) := by omega
      have bax : (a : Int) + (i : Int) < (d0.size : Int) := by omega
      have rax : IntKind.i64.wrap ((a : Int) + (i : Int)) = (a : Int) + (i : Int) := by rw [IntKind.wrap_i64]; omega
      have eay : ((b : Int) + (i : Int)).toNat = b + i := by omega
      have pay : (0 : Int) ≤ (b : Int) + (i : Int) := by omega
      have bay : (b : Int) + (i : Int) < (d0.size : Int) := by omega
      have ray : IntKind.i64.wrap ((b : Int) + (i : Int)) = (b : Int) + (i : Int) := by rw [IntKind.wrap_i64]; omega
      obtain ⟨x, hx⟩ : ∃ x, x = dk[a + i]! := ⟨_, rfl⟩
      obtain ⟨y, hy⟩ : ∃ y, y = dk[b + i]! := ⟨_, rfl⟩
      obtain ⟨x0, x1, x2, x3, x4, x5, x6, x7, x8, x9, x10, x11, x12, x13⟩ := swk_cells14 (i := a + i) (unhid HK).drew (unhid HR) (by omega) (by omega) hx
      obtain ⟨y0, y1, y2, y3, y4, y5, y6, y7, y8, y9, y10, y11, y12, y13⟩ := swk_cells14 (i := b + i) (unhid HK).drew (unhid HR) (by omega) (by omega) hy
      obtain ⟨W1, W2, sa, sb, s2⟩ : ∃ W1 W2, Sem.run Tryz.prog (storeCells ⟨blk, off + (a + i) * 14, none⟩ (rcC y) 0) wr.drew = .ok () W1 ∧ Sem.run Tryz.prog (storeCells ⟨blk, off + (b + i) * 14, none⟩ (rcC x) 0) W1 = .ok () W2 ∧ SWK rcC 14 w0 blk off (swp dk (a + i) (b + i)) W2 := by
        refine ⟨_, _, (unhid HK).st1 (unhid HR) (by omega) Tryz.prog (a + i) (by omega) y, (unhid HK).st2 (unhid HR) (by omega) Tryz.prog (a + i) (b + i) (by omega) (by omega) y x, ?_⟩
        rw [hx, hy]
        exact (unhid HK).swapped (unhid HR) (a + i) (b + i) (by omega) (by omega)
      have S2 := hid s2
      clear s2
      clear HK hx hy
      go_wp2_with fail
      refine wp_region_noPanic ?_
      refine wp_region_E (S := fun _ => True) 23 24 rfl (by kernel_rfl) (by kernel_rfl) trivial ?_
      intro hSE
      generalize wr.drew = Wd at *
      (refine WE_take (i := 0) (v := ?_) rfl (by kernel_rfl) (by decide) (by kernel_rfl) (by kernel_rfl) (fun _ _ _ h => h) (by rfl) hSE ?_ ?_; rotate_left; (focus (intro w hSw; (try dsimp only at hSw); go_simp; (try with_reducible rfl))); simp only [Act.put, List.setIfInBounds_toArray, List.set_cons_zero, List.set_cons_succ])
      (refine WE_take (i := 1) (v := ?_) rfl (by kernel_rfl) (by decide) (by kernel_rfl) (by kernel_rfl) (fun _ _ _ h => h) (by rfl) hSE ?_ ?_; rotate_left; (focus (intro w hSw; (try dsimp only at hSw); go_simp; (try with_reducible rfl))); simp only [Act.put, List.setIfInBounds_toArray, List.set_cons_zero, List.set_cons_succ])
      (refine WE_take (i := 2) (v := ?_) rfl (by kernel_rfl) (by decide) (by kernel_rfl) (by kernel_rfl) (fun _ _ _ h => h) (by rfl) hSE ?_ ?_; rotate_left; (focus (intro w hSw; (try dsimp only at hSw); go_simp; (try with_reducible rfl))); simp only [Act.put, List.setIfInBounds_toArray, List.set_cons_zero, List.set_cons_succ])
      (refine WE_take (i := 3) (v := ?_) rfl (by kernel_rfl) (by decide) (by kernel_rfl) (by kernel_rfl) (fun _ _ _ h => h) (by rfl) hSE ?_ ?_; rotate_left; (focus (intro w hSw; (try dsimp only at hSw); go_simp; (try with_reducible rfl))); simp only [Act.put, List.setIfInBounds_toArray, List.set_cons_zero, List.set_cons_succ])
      (refine WE_take (i := 4) (v := ?_) rfl (by kernel_rfl) (by decide) (by kernel_rfl) (by kernel_rfl) (fun _ _ _ h => h) (by rfl) hSE ?_ ?_; rotate_left; (focus (intro w hSw; (try dsimp only at hSw); go_simp; (try with_reducible rfl))); simp only [Act.put, List.setIfInBounds_toArray, List.set_cons_zero, List.set_cons_succ])
      (refine WE_take (i := 5) (v := ?_) rfl (by kernel_rfl) (by decide) (by kernel_rfl) (by kernel_rfl) (fun _ _ _ h => h) (by rfl) hSE ?_ ?_; rotate_left; (focus (intro w hSw; (try dsimp only at hSw); go_simp; (try with_reducible rfl))); simp only [Act.put, List.setIfInBounds_toArray, List.set_cons_zero, List.set_cons_succ])
      (refine WE_take (i := 6) (v := ?_) rfl (by kernel_rfl) (by decide) (by kernel_rfl) (by kernel_rfl) (fun _ _ _ h => h) (by rfl) hSE ?_ ?_; rotate_left; (focus (intro w hSw; (try dsimp only at hSw); go_simp; (try with_reducible rfl))); simp only [Act.put, List.setIfInBounds_toArray, List.set_cons_zero, List.set_cons_succ])
      (refine WE_take (i := 7) (v := ?_) rfl (by kernel_rfl) (by decide) (by kernel_rfl) (by kernel_rfl) (fun _ _ _ h => h) (by rfl) hSE ?_ ?_; rotate_left; (focus (intro w hSw; (try dsimp only at hSw); go_simp; (try with_reducible rfl))); simp only [Act.put, List.setIfInBounds_toArray, List.set_cons_zero, List.set_cons_succ])
      (refine WE_take (i := 8) (v := ?_) rfl (by kernel_rfl) (by decide) (by kernel_rfl) (by kernel_rfl) (fun _ _ _ h => h) (by rfl) hSE ?_ ?_; rotate_left; (focus (intro w hSw; (try dsimp only at hSw); go_simp; (try with_reducible rfl))); simp only [Act.put, List.setIfInBounds_toArray, List.set_cons_zero, List.set_cons_succ])
      (refine WE_take (i := 9) (v := ?_) rfl (by kernel_rfl) (by decide) (by kernel_rfl) (by kernel_rfl) (fun _ _ _ h => h) (by rfl) hSE ?_ ?_; rotate_left; (focus (intro w hSw; (try dsimp only at hSw); go_simp; (try with_reducible rfl))); simp only [Act.put, List.setIfInBounds_toArray, List.set_cons_zero, List.set_cons_succ])
      (refine WE_take (i := 10) (v := ?_) rfl (by kernel_rfl) (by decide) (by kernel_rfl) (by kernel_rfl) (fun _ _ _ h => h) (by rfl) hSE ?_ ?_; rotate_left; (focus (intro w hSw; (try dsimp only at hSw); go_simp; (try with_reducible rfl))); simp only [Act.put, List.setIfInBounds_toArray, List.set_cons_zero, List.set_cons_succ])
      (refine WE_take (i := 11) (v := ?_) rfl (by kernel_rfl) (by decide) (by kernel_rfl) (by kernel_rfl) (fun _ _ _ h => h) (by rfl) hSE ?_ ?_; rotate_left; (focus (intro w hSw; (try dsimp only at hSw); go_simp; (try with_reducible rfl))); simp only [Act.put, List.setIfInBounds_toArray, List.set_cons_zero, List.set_cons_succ])
      (refine WE_take (i := 12) (v := ?_) rfl (by kernel_rfl) (by decide) (by kernel_rfl) (by kernel_rfl) (fun _ _ _ h => h) (by rfl) hSE ?_ ?_; rotate_left; (focus (intro w hSw; (try dsimp only at hSw); go_simp; (try with_reducible rfl))); simp only [Act.put, List.setIfInBounds_toArray, List.set_cons_zero, List.set_cons_succ])
      (refine WE_take (i := 14) (v := ?_) rfl (by kernel_rfl) (by decide) (by kernel_rfl) (by kernel_rfl) (fun _ _ _ h => h) (by rfl) hSE ?_ ?_; rotate_left; (focus (intro w hSw; (try dsimp only at hSw); go_simp; (try with_reducible rfl))); simp only [Act.put, List.setIfInBounds_toArray, List.set_cons_zero, List.set_cons_succ])
      (refine WE_take (i := 15) (v := ?_) rfl (by kernel_rfl) (by decide) (by kernel_rfl) (by kernel_rfl) (fun _ _ _ h => h) (by rfl) hSE ?_ ?_; rotate_left; (focus (intro w hSw; (try dsimp only at hSw); go_simp; (try with_reducible rfl))); simp only [Act.put, List.setIfInBounds_toArray, List.set_cons_zero, List.set_cons_succ])
      (refine WE_take (i := 16) (v := ?_) rfl (by kernel_rfl) (by decide) (by kernel_rfl) (by kernel_rfl) (fun _ _ _ h => h) (by rfl) hSE ?_ ?_; rotate_left; (focus (intro w hSw; (try dsimp only at hSw); go_simp; (try with_reducible rfl))); simp only [Act.put, List.setIfInBounds_toArray, List.set_cons_zero, List.set_cons_succ])
      (refine WE_take (i := 17) (v := ?_) rfl (by kernel_rfl) (by decide) (by kernel_rfl) (by kernel_rfl) (fun _ _ _ h => h) (by rfl) hSE ?_ ?_; rotate_left; (focus (intro w hSw; (try dsimp only at hSw); go_simp; (try with_reducible rfl))); simp only [Act.put, List.setIfInBounds_toArray, List.set_cons_zero, List.set_cons_succ])
      (refine WE_take (i := 18) (v := ?_) rfl (by kernel_rfl) (by decide) (by kernel_rfl) (by kernel_rfl) (fun _ _ _ h => h) (by rfl) hSE ?_ ?_; rotate_left; (focus (intro w hSw; (try dsimp only at hSw); go_simp; (try with_reducible rfl))); simp only [Act.put, List.setIfInBounds_toArray, List.set_cons_zero, List.set_cons_succ])
      refine WE_two (i := 13) (j := 19) rfl rfl (by decide) (by decide) (by kernel_rfl) ?_ ?_
      · intro K hK
        go_simp
        refine hK.out _ _ trivial ?_
        clear hSE hK K
        intro hSE
        (try simp only [Act.put, List.setIfInBounds_toArray, List.set_cons_zero, List.set_cons_succ])
        (refine WE_one (i := 19) rfl (by decide) (by kernel_rfl) ?_; intro K hK)
        go_simp
        refine hK.out _ _ trivial ?_
        clear hSE hK K
        intro hSE
        (try simp only [Act.put, List.setIfInBounds_toArray, List.set_cons_zero, List.set_cons_succ])
        (refine WE_one (i := 20) rfl (by decide) (by kernel_rfl) ?_; intro K hK)
        go_simp
        refine hK.out _ _ trivial ?_
        clear hSE hK K
        intro hSE
        (try simp only [Act.put, List.setIfInBounds_toArray, List.set_cons_zero, List.set_cons_succ])
        (refine WE_one (i := 21) rfl (by decide) (by kernel_rfl) ?_; intro K hK)
        rw [if_pos (by rfl)]
        refine wp_store_mid 82 (.tmp 36) (.tmp 29) rfl ⟨blk, off + (a + i) * 14, none⟩ (rcA y) _ rfl rfl (rc_size y) sa ?_
        refine hK.out _ _ trivial ?_
        clear hSE hK K
        intro hSE
        (try simp only [Act.put, List.setIfInBounds_toArray, List.set_cons_zero, List.set_cons_succ])
        (refine WE_one (i := 22) rfl (by decide) (by kernel_rfl) ?_; intro K hK)
        go_simp
        refine hK.out _ _ trivial ?_
        clear hSE hK K
        intro hSE
        (try simp only [Act.put, List.setIfInBounds_toArray, List.set_cons_zero, List.set_cons_succ])
        refine WE_last rfl (by kernel_rfl) (by kernel_rfl) (by kernel_rfl) ?_
        intro K hK
        rw [if_pos (by rfl)]
        refine wp_store_mid 82 (.tmp 37) (.tmp 35) rfl ⟨blk, off + (b + i) * 14, none⟩ (rcA x) _ rfl rfl (rc_size x) sb ?_
        refine hK.out _ _ (NoPanic.normal ?_)
        clear hK K
        clear hSE sa sb x0 x1 x2 x3 x4 x5 x6 x7 x8 x9 x10 x11 x12 x13 y0 y1 y2 y3 y4 y5 y6 y7 y8 y9 y10 y11 y12 y13
        go_wp2_with fail
        go_roundw
        case rel => exact ⟨i + 1, _, by omega, by go_num, unhid HN, unhid S2⟩
        case measure => simp [intOf]; omega
      · intro K hK
        go_simp
        refine hK.out _ _ trivial ?_
        clear hSE hK K
        intro hSE
        (try simp only [Act.put, List.setIfInBounds_toArray, List.set_cons_zero, List.set_cons_succ])
        (refine WE_one (i := 13) rfl (by decide) (by kernel_rfl) ?_; intro K hK)
        go_simp
        refine hK.out _ _ trivial ?_
        clear hSE hK K
        intro hSE
        (try simp only [Act.put, List.setIfInBounds_toArray, List.set_cons_zero, List.set_cons_succ])
        (refine WE_one (i := 20) rfl (by decide) (by kernel_rfl) ?_; intro K hK)
        go_simp
        refine hK.out _ _ trivial ?_
        clear hSE hK K
        intro hSE
        (try simp only [Act.put, List.setIfInBounds_toArray, List.set_cons_zero, List.set_cons_succ])
        (refine WE_one (i := 21) rfl (by decide) (by kernel_rfl) ?_; intro K hK)
        rw [if_pos (by rfl)]
        refine wp_store_mid 82 (.tmp 36) (.tmp 29) rfl ⟨blk, off + (a + i) * 14, none⟩ (rcA y) _ rfl rfl (rc_size y) sa ?_
        refine hK.out _ _ trivial ?_
        clear hSE hK K
        intro hSE
        (try simp only [Act.put, List.setIfInBounds_toArray, List.set_cons_zero, List.set_cons_succ])
        (refine WE_one (i := 22) rfl (by decide) (by kernel_rfl) ?_; intro K hK)
        go_simp
        refine hK.out _ _ trivial ?_
        clear hSE hK K
        intro hSE
        (try simp only [Act.put, List.setIfInBounds_toArray, List.set_cons_zero, List.set_cons_succ])
        refine WE_last rfl (by kernel_rfl) (by kernel_rfl) (by kernel_rfl) ?_
        intro K hK
        rw [if_pos (by rfl)]
        refine wp_store_mid 82 (.tmp 37) (.tmp 35) rfl ⟨blk, off + (b + i) * 14, none⟩ (rcA x) _ rfl rfl (rc_size x) sb ?_
        refine hK.out _ _ (NoPanic.normal ?_)
        clear hK K
        clear hSE sa sb x0 x1 x2 x3 x4 x5 x6 x7 x8 x9 x10 x11 x12 x13 y0 y1 y2 y3 y4 y5 y6 y7 y8 y9 y10 y11 y12 y13
        go_wp2_with fail
        go_roundw
        case rel => exact ⟨i + 1, _, by omega, by go_num, unhid HN, unhid S2⟩
        case measure => simp [intOf]; omega
    · have hlti : ¬ (i : Int) < (n : Int) := by omega
      obtain rfl : i = n := by omega
      have HP := hid (show SwPost w0 blk off a b i d (.returned (.tuple #[])) wr from ⟨rfl, dk, unhid HSW, unhid HK⟩)
      go_wp2_with fail
      go_end0
      exact unhid HP

def RtPost (w0 : World) (blk off a m b : Nat) (d : Array Rc) (e : Ending) (w' : World) : Prop := e = .returned (.tuple #[]) ∧ ∃ d', RotI d a m b d' ∧ SWK rcC 14 w0 blk off d' w'
/-- How far rotate has come. -/
structure RtI (w0 : World) (blk off a m b : Nat) (d : Array Rc) (i j : Nat) (dk : Array Rc) (w : World) : Prop where
  ib : 0 < i ∧ i ≤ m
  jb : 0 < j ∧ m + j ≤ dk.size
  size : dk.size = d.size
  tgt : ∀ D, RotI dk (m - i) m (m + j) D → RotI d a m b D
  k : SWK rcC 14 w0 blk off dk w
theorem RtI.gt {w0 w w' : World} {blk off a m b i j : Nat} {d dk d' : Array Rc} (h : RtI w0 blk off a m b d i j dk w) (hij : j < i) (hs : SwR dk (m - i) m j d') (hk : SWK rcC 14 w0 blk off d' w') : RtI w0 blk off a m b d (i - j) j d' w' := by
  have h1 := h.ib
  have h2 := h.jb
  exact ⟨by omega, ⟨h2.1, by rw [hs.size]; exact h2.2⟩, hs.size.trans h.size, fun D hD => h.tgt D (hs.rot_gt h1.2 hij h2.2 hD), hk⟩
theorem RtI.lt {w0 w w' : World} {blk off a m b i j : Nat} {d dk d' : Array Rc} (h : RtI w0 blk off a m b d i j dk w) (hij : i < j) (hs : SwR dk (m - i) (m + j - i) i d') (hk : SWK rcC 14 w0 blk off d' w') : RtI w0 blk off a m b d i (j - i) d' w' := by
  have h1 := h.ib
  have h2 := h.jb
  exact ⟨h1, ⟨by omega, by rw [hs.size]; omega⟩, hs.size.trans h.size, fun D hD => h.tgt D (hs.rot_lt h1.2 hij h2.2 hD), hk⟩
set_option maxHeartbeats 4000000 in
set_option maxRecDepth 100000 in
theorem rotate_calls {w0 : World} {blk off : Nat} {d0 : Array Rc} (R : RowK rcC 14 w0 blk off d0) (fv : Value) (a m b cap : Nat) (ai mi bi : Int) (d : Array Rc) (w : World) (h : SWK rcC 14 w0 blk off d w) (hs : d.size = d0.size) (ham : a < m) (hmb : m < b) (hb : b ≤ d0.size) (hsz : d0.size ≤ 1000000) (hai : ai = (a : Int)) (hmi : mi = (m : Int)) (hbi : bi = (b : Int)) :
    Calls Tryz.prog 158 #[.slice (some ⟨blk, off, none⟩) d0.size cap, .int .i64 ai, .int .i64 mi, .int .i64 bi, fv] w fun e w' => RtPost w0 blk off a m b d e w' := by
  subst hai hmi hbi
  have HR := hid R
  have H0 := hid (⟨⟨by omega, by omega⟩, ⟨by omega, by omega⟩, rfl, fun D hD => by
    rwa [show m - (m - a) = a by omega, show m + (b - m) = b by omega] at hD, h⟩ : RtI w0 blk off a m b d (m - a) (b - m) d w)
  have HS0 := hid hs
  have HC1 := hid (show ((m : Int) - (a : Int)) = ((m - a : Nat) : Int) ∧ ((b : Int) - (m : Int)) = ((b - m : Nat) : Int) from by omega)
  have HSZ := hid (show d0.size ≤ 1000000 ∧ m < b ∧ b ≤ d0.size from ⟨hsz, hmb, hb⟩)
  have hb1 : (a : Int) < (m : Int) ∧ (m : Int) < (b : Int) ∧ (b : Int) ≤ 1000000 := by omega
  clear h R hs ham hmb hb hsz
  go_enter Tryz.func158, Tryz.ntmps158
  go_upto_region 2 with (fail)
  go_loopw [10, 11] (fun iv jv wr => ∃ (i j : Nat) (dk : Array Rc), iv = .int .i64 i ∧ jv = .int .i64 j ∧ RtI w0 blk off a m b d i j dk wr) (fun iv jv _ => (intOf iv).toNat + (intOf jv).toNat)
  case atStart => exact ⟨m - a, b - m, d, by rw [← (unhid HC1).1], by rw [← (unhid HC1).2], unhid H0⟩
  case round =>
    clear H0 HC1 hb1
    obtain ⟨i, j, dk, rfl, rfl, hi⟩ := hrel
    have HI := hid hi
    have hds : dk.size = d0.size := hi.size.trans (unhid HS0)
    have hb2 : 0 < i ∧ i ≤ m ∧ 0 < j ∧ m + j ≤ d0.size ∧ d0.size ≤ 1000000 := by
      have h1 := hi.ib
      have h2 := hi.jb
      have h3 := (unhid HSZ).1
      rw [hds] at h2
      exact ⟨h1.1, h1.2, h2.1, h2.2, h3⟩
    have HDS := hid hds
    have HB2 := hid hb2
    clear hi hds
    by_cases hgt : j < i
    · have hne : ((i : Int) != (j : Int)) = true := bne_iff_ne.2 (by omega)
      have hgi : (i : Int) > (j : Int) := by omega
      have bi : 0 ≤ (i : Int) ∧ (i : Int) ≤ 1000000 ∧ 0 ≤ (j : Int) ∧ (j : Int) ≤ 1000000 ∧ (i : Int) ≤ (m : Int) ∧ (m : Int) ≤ 1000000 := by omega
      clear hb2
      go_wp2_with fail
      refine (swapRange_calls (unhid HR) fv (m - i) m j cap _ _ _ dk wr (unhid HI).k (unhid HDS) (by have := unhid HB2; omega) (by have := unhid HB2; omega) (unhid HSZ).1 (by have := unhid HB2; omega) rfl rfl).mono ?_
      rintro e w5 ⟨rfl, d', hsw, hk5⟩
      have HN := hid ((unhid HI).gt hgt hsw hk5)
      clear hsw hk5
      go_wp2_with fail
      go_roundw
      case rel => exact ⟨i - j, j, d', by rw [show (i : Int) - (j : Int) = ((i - j : Nat) : Int) by omega], rfl, unhid HN⟩
      case measure => have := unhid HB2; simp [intOf]; omega
    · by_cases hlt : i < j
      · have hne : ((i : Int) != (j : Int)) = true := bne_iff_ne.2 (by omega)
        have hgi : ¬ (i : Int) > (j : Int) := by omega
        have bi : 0 ≤ (i : Int) ∧ (i : Int) ≤ 1000000 ∧ 0 ≤ (j : Int) ∧ (j : Int) ≤ 1000000 ∧ (i : Int) ≤ (m : Int) ∧ (m : Int) ≤ 1000000 := by omega
        clear hb2
        go_wp2_with fail
        refine (swapRange_calls (unhid HR) fv (m - i) (m + j - i) i cap _ _ _ dk wr (unhid HI).k (unhid HDS) (by have := unhid HB2; omega) (by have := unhid HB2; omega) (unhid HSZ).1 (by have := unhid HB2; omega) (by have := unhid HB2; omega) rfl).mono ?_
        rintro e w5 ⟨rfl, d', hsw, hk5⟩
        have HN := hid ((unhid HI).lt hlt hsw hk5)
        clear hsw hk5
        go_wp2_with fail
        go_roundw
        case rel => exact ⟨i, j - i, d', rfl, by rw [show (j : Int) - (i : Int) = ((j - i : Nat) : Int) by omega], unhid HN⟩
        case measure => have := unhid HB2; simp [intOf]; omega
      · obtain rfl : i = j := by omega
        have hne : ((i : Int) != (i : Int)) = false := by simp
        have bi : 0 ≤ (i : Int) ∧ (i : Int) ≤ 1000000 ∧ (i : Int) ≤ (m : Int) ∧ (m : Int) ≤ 1000000 := by omega
        clear hb2
        go_wp2_with fail
        refine (swapRange_calls (unhid HR) fv (m - i) m i cap _ _ _ dk wr (unhid HI).k (unhid HDS) (by have := unhid HB2; omega) (by have := unhid HB2; omega) (unhid HSZ).1 (by have := unhid HB2; omega) rfl rfl).mono ?_
        rintro e w5 ⟨rfl, d', hsw, hk5⟩
        have HP := hid (show RtPost w0 blk off a m b d (.returned (.tuple #[])) w5 from ⟨rfl, d', (unhid HI).tgt d' (hsw.rot (unhid HI).ib.2), hk5⟩)
        clear hsw hk5
        go_wp2_with fail
        go_end0
        exact unhid HP
end

section
open Go.RowKit Go.Shelf Go.Sort

theorem swk_grown14 {w0 W : World} {blk off i : Nat} {d0 dk : Array Rc} {x : Rc} (h : SWK rcC 14 w0 blk off dk W) (R : RowK rcC 14 w0 blk off d0) (hs : dk.size = d0.size) (hi : i < dk.size) (hx : x = dk[i]!) (n : Nat) (os : Array Obj) : (grow (W.drewN n) os).cell? ⟨blk, off + i * 14, none⟩ = some (.int .i64 x.tab) ∧ (grow (W.drewN n) os).cell? ⟨blk, off + i * 14 + 1, none⟩ = some (.int .i64 x.num) ∧ (grow (W.drewN n) os).cell? ⟨blk, off + i * 14 + 2, none⟩ = some (.int .i64 x.hour) ∧ (grow (W.drewN n) os).cell? ⟨blk, off + i * 14 + 3, none⟩ = some (.int .i64 x.sign) ∧ (grow (W.drewN n) os).cell? ⟨blk, off + i * 14 + 4, none⟩ = some (.int .i64 x.fld) ∧ (grow (W.drewN n) os).cell? ⟨blk, off + i * 14 + 5, none⟩ = some (.int .i64 x.val) ∧ (grow (W.drewN n) os).cell? ⟨blk, off + i * 14 + 6, none⟩ = some (.int .i64 x.s0) ∧ (grow (W.drewN n) os).cell? ⟨blk, off + i * 14 + 7, none⟩ = some (.int .i64 x.s1) ∧ (grow (W.drewN n) os).cell? ⟨blk, off + i * 14 + 8, none⟩ = some (.int .i64 x.s2) ∧ (grow (W.drewN n) os).cell? ⟨blk, off + i * 14 + 9, none⟩ = some (.int .i64 x.s3) ∧ (grow (W.drewN n) os).cell? ⟨blk, off + i * 14 + 10, none⟩ = some (.int .i64 x.s4) ∧ (grow (W.drewN n) os).cell? ⟨blk, off + i * 14 + 11, none⟩ = some (.int .i64 x.s5) ∧ (grow (W.drewN n) os).cell? ⟨blk, off + i * 14 + 12, none⟩ = some (.int .i64 x.s6) ∧ (grow (W.drewN n) os).cell? ⟨blk, off + i * 14 + 13, none⟩ = some (.int .i64 x.s7) := swk_cells14 (h.grown n os) R hs hi hx
theorem half_u64 {i j h : Nat} (hh : h = (i + j) / 2) : ((i : Int) + (j : Int)) / 2 = (h : Int) := by omega
/-- The tests of the binary searches. -/
def tst1 (d : Array Rc) (a t : Nat) : Prop := hrI d[t]! d[a]! < 0
def tst2 (d : Array Rc) (m t : Nat) : Prop := ¬ hrI d[m]! d[t]! < 0
def tst3 (d : Array Rc) (q c : Nat) : Prop := ¬ hrI d[q - c]! d[c]! < 0
def MgPost (w0 : World) (blk off : Nat) (Rl : Rc → Rc → Prop) (a b : Nat) (d : Array Rc) (e : Ending) (w' : World) : Prop := e = .returned (.tuple #[]) ∧ ∃ d', MrgOut Rl d a b d' ∧ SWK rcC 14 w0 blk off d' w'

set_option maxHeartbeats 8000000 in
set_option maxRecDepth 100000 in
theorem mg1_calls {w0 : World} {blk off : Nat} {d0 : Array Rc} (R : RowK rcC 14 w0 blk off d0) {Rl : Rc → Rc → Prop} (hRl : Strict Rl) (cap : Nat) (hsz : d0.size ≤ 1000000) (N : Nat) (ih : ∀ (a m b : Nat) (ai mi bi : Int) (d : Array Rc) (w : World), b - a ≤ N → ai = (a : Int) → mi = (m : Int) → bi = (b : Int) → SWK rcC 14 w0 blk off d w → d.size = d0.size → a < m → m < b → b ≤ d0.size → MrgIn Rl hrI d a m b →
    Calls Tryz.prog 140 #[.slice (some ⟨blk, off, none⟩) d0.size cap, .int .i64 ai, .int .i64 mi, .int .i64 bi, .func (.func 83) #[] #[]] w fun e w' => MgPost w0 blk off Rl a b d e w')
    (a m b : Nat) (d : Array Rc) (w : World) (hN : b - a ≤ N + 1) (h : SWK rcC 14 w0 blk off d w) (hs : d.size = d0.size) (ham : a < m) (hmb : m < b) (hb : b ≤ d0.size) (hin : MrgIn Rl hrI d a m b) (h1 : m = a + 1) :
    Calls Tryz.prog 140 #[.slice (some ⟨blk, off, none⟩) d0.size cap, .int .i64 (a : Int), .int .i64 (m : Int), .int .i64 (b : Int), .func (.func 83) #[] #[]] w fun e w' => MgPost w0 blk off Rl a b d e w' := by
  have mixed : Tryz.prog.follows .mixedOrders = true := by kernel_rfl
  have HR := hid R
  have HRL := hid hRl
  have HK := hid h
  have HIN := hid hin
  have IH := hid ih
  have HSZ := hid (show d0.size ≤ 1000000 ∧ d.size = d0.size ∧ b ≤ d0.size ∧ a < m ∧ m < b ∧ b - a ≤ N + 1 from ⟨hsz, hs, hb, ham, hmb, hN⟩)
  clear h hin ih
  go_enter Tryz.func140, Tryz.ntmps140
  have q1 : ((m : Int) - (a : Int) == 1) = true := beq_iff_eq.2 (by omega)
  have r1 : IntKind.i64.wrap ((m : Int) - (a : Int)) = (m : Int) - (a : Int) := by rw [IntKind.wrap_i64]; omega
  have HM := hid h1
  clear h1
  go_upto_region 3 with (fail)
  clear q1 r1
  go_loopw [10, 11] (fun iv jv wr => ∃ (i j : Nat), iv = .int .i64 i ∧ jv = .int .i64 j ∧ Cut (tst1 d a) (a + 1) b i j ∧ SWK rcC 14 w0 blk off d wr) (fun iv jv _ => (intOf jv).toNat - (intOf iv).toNat)
  case atStart => exact ⟨m, b, rfl, rfl, by rw [unhid HM]; exact Cut.start (by omega), unhid HK⟩
  case round =>
    clear HK
    obtain ⟨i, j, rfl, rfl, hcut, hk⟩ := hrel
    have HCUT := hid hcut
    have HK := hid hk
    have hb3 : (a + 1) ≤ i ∧ i ≤ j ∧ j ≤ b := ⟨hcut.li, hcut.ij, hcut.jh⟩
    clear hcut hk
    by_cases hlt : i < j
    · have hlti : (i : Int) < (j : Int) := by omega
      go_upto_region 5 with (fail)
      obtain ⟨h, hh⟩ : ∃ h, h = (i + j) / 2 := ⟨_, rfl⟩
      have hq := half_u64 hh
      rw [hq]
      have HB3 := hid (show i ≤ h ∧ h < j from by omega)
      have hb4 : i ≤ h ∧ h < j := unhid HB3
      clear hq hh
      by_cases hp : hrI d[h]! d[a]! < 0
      · have HN := hid ((unhid HCUT).right ((show MrgIn Rl hrI d a (a + 1) b from by have h1 := unhid HIN; rwa [unhid HM] at h1).mono1 (unhid HRL)) (by omega) (by omega) hp)
        have eax : ((h : Int)).toNat = h := by omega
        have pax : (0 : Int) ≤ (h : Int) := by omega
        have bax : (h : Int) < (d0.size : Int) := by omega
        have rax : IntKind.i64.wrap ((h : Int)) = (h : Int) := by rw [IntKind.wrap_i64]; omega
        have eay : ((a : Int)).toNat = a := by omega
        have pay : (0 : Int) ≤ (a : Int) := by omega
        have bay : (a : Int) < (d0.size : Int) := by omega
        have ray : IntKind.i64.wrap ((a : Int)) = (a : Int) := by rw [IntKind.wrap_i64]; omega
        obtain ⟨x, hx⟩ : ∃ x, x = d[h]! := ⟨_, rfl⟩
        obtain ⟨y, hy⟩ : ∃ y, y = d[a]! := ⟨_, rfl⟩
        have HSF := hid (show ∀ w', SWK rcC 14 w0 blk off d w' → (w'.cell? ⟨blk, off + (h) * 14, none⟩ = some (.int .i64 x.tab) ∧ w'.cell? ⟨blk, off + (h) * 14 + 1, none⟩ = some (.int .i64 x.num) ∧ w'.cell? ⟨blk, off + (h) * 14 + 2, none⟩ = some (.int .i64 x.hour) ∧ w'.cell? ⟨blk, off + (h) * 14 + 3, none⟩ = some (.int .i64 x.sign) ∧ w'.cell? ⟨blk, off + (h) * 14 + 4, none⟩ = some (.int .i64 x.fld) ∧ w'.cell? ⟨blk, off + (h) * 14 + 5, none⟩ = some (.int .i64 x.val) ∧ w'.cell? ⟨blk, off + (h) * 14 + 6, none⟩ = some (.int .i64 x.s0) ∧ w'.cell? ⟨blk, off + (h) * 14 + 7, none⟩ = some (.int .i64 x.s1) ∧ w'.cell? ⟨blk, off + (h) * 14 + 8, none⟩ = some (.int .i64 x.s2) ∧ w'.cell? ⟨blk, off + (h) * 14 + 9, none⟩ = some (.int .i64 x.s3) ∧ w'.cell? ⟨blk, off + (h) * 14 + 10, none⟩ = some (.int .i64 x.s4) ∧ w'.cell? ⟨blk, off + (h) * 14 + 11, none⟩ = some (.int .i64 x.s5) ∧ w'.cell? ⟨blk, off + (h) * 14 + 12, none⟩ = some (.int .i64 x.s6) ∧ w'.cell? ⟨blk, off + (h) * 14 + 13, none⟩ = some (.int .i64 x.s7)) ∧ (w'.cell? ⟨blk, off + (a) * 14, none⟩ = some (.int .i64 y.tab) ∧ w'.cell? ⟨blk, off + (a) * 14 + 1, none⟩ = some (.int .i64 y.num) ∧ w'.cell? ⟨blk, off + (a) * 14 + 2, none⟩ = some (.int .i64 y.hour) ∧ w'.cell? ⟨blk, off + (a) * 14 + 3, none⟩ = some (.int .i64 y.sign) ∧ w'.cell? ⟨blk, off + (a) * 14 + 4, none⟩ = some (.int .i64 y.fld) ∧ w'.cell? ⟨blk, off + (a) * 14 + 5, none⟩ = some (.int .i64 y.val) ∧ w'.cell? ⟨blk, off + (a) * 14 + 6, none⟩ = some (.int .i64 y.s0) ∧ w'.cell? ⟨blk, off + (a) * 14 + 7, none⟩ = some (.int .i64 y.s1) ∧ w'.cell? ⟨blk, off + (a) * 14 + 8, none⟩ = some (.int .i64 y.s2) ∧ w'.cell? ⟨blk, off + (a) * 14 + 9, none⟩ = some (.int .i64 y.s3) ∧ w'.cell? ⟨blk, off + (a) * 14 + 10, none⟩ = some (.int .i64 y.s4) ∧ w'.cell? ⟨blk, off + (a) * 14 + 11, none⟩ = some (.int .i64 y.s5) ∧ w'.cell? ⟨blk, off + (a) * 14 + 12, none⟩ = some (.int .i64 y.s6) ∧ w'.cell? ⟨blk, off + (a) * 14 + 13, none⟩ = some (.int .i64 y.s7)) from fun w' hk => ⟨swk_cells14 (i := h) hk (unhid HR) (by omega) (by omega) hx, swk_cells14 (i := a) hk (unhid HR) (by omega) (by omega) hy⟩)
        have hd : decide (hrI x y < 0) = true := decide_eq_true (by rw [hx, hy]; exact hp)
        clear hx hy hp
        go_wp2_with fail
        refine wp_region_noPanic ?_
        refine wp_region_E (S := fun w' => (w'.cell? ⟨blk, off + (h) * 14, none⟩ = some (.int .i64 x.tab) ∧ w'.cell? ⟨blk, off + (h) * 14 + 1, none⟩ = some (.int .i64 x.num) ∧ w'.cell? ⟨blk, off + (h) * 14 + 2, none⟩ = some (.int .i64 x.hour) ∧ w'.cell? ⟨blk, off + (h) * 14 + 3, none⟩ = some (.int .i64 x.sign) ∧ w'.cell? ⟨blk, off + (h) * 14 + 4, none⟩ = some (.int .i64 x.fld) ∧ w'.cell? ⟨blk, off + (h) * 14 + 5, none⟩ = some (.int .i64 x.val) ∧ w'.cell? ⟨blk, off + (h) * 14 + 6, none⟩ = some (.int .i64 x.s0) ∧ w'.cell? ⟨blk, off + (h) * 14 + 7, none⟩ = some (.int .i64 x.s1) ∧ w'.cell? ⟨blk, off + (h) * 14 + 8, none⟩ = some (.int .i64 x.s2) ∧ w'.cell? ⟨blk, off + (h) * 14 + 9, none⟩ = some (.int .i64 x.s3) ∧ w'.cell? ⟨blk, off + (h) * 14 + 10, none⟩ = some (.int .i64 x.s4) ∧ w'.cell? ⟨blk, off + (h) * 14 + 11, none⟩ = some (.int .i64 x.s5) ∧ w'.cell? ⟨blk, off + (h) * 14 + 12, none⟩ = some (.int .i64 x.s6) ∧ w'.cell? ⟨blk, off + (h) * 14 + 13, none⟩ = some (.int .i64 x.s7)) ∧ (w'.cell? ⟨blk, off + (a) * 14, none⟩ = some (.int .i64 y.tab) ∧ w'.cell? ⟨blk, off + (a) * 14 + 1, none⟩ = some (.int .i64 y.num) ∧ w'.cell? ⟨blk, off + (a) * 14 + 2, none⟩ = some (.int .i64 y.hour) ∧ w'.cell? ⟨blk, off + (a) * 14 + 3, none⟩ = some (.int .i64 y.sign) ∧ w'.cell? ⟨blk, off + (a) * 14 + 4, none⟩ = some (.int .i64 y.fld) ∧ w'.cell? ⟨blk, off + (a) * 14 + 5, none⟩ = some (.int .i64 y.val) ∧ w'.cell? ⟨blk, off + (a) * 14 + 6, none⟩ = some (.int .i64 y.s0) ∧ w'.cell? ⟨blk, off + (a) * 14 + 7, none⟩ = some (.int .i64 y.s1) ∧ w'.cell? ⟨blk, off + (a) * 14 + 8, none⟩ = some (.int .i64 y.s2) ∧ w'.cell? ⟨blk, off + (a) * 14 + 9, none⟩ = some (.int .i64 y.s3) ∧ w'.cell? ⟨blk, off + (a) * 14 + 10, none⟩ = some (.int .i64 y.s4) ∧ w'.cell? ⟨blk, off + (a) * 14 + 11, none⟩ = some (.int .i64 y.s5) ∧ w'.cell? ⟨blk, off + (a) * 14 + 12, none⟩ = some (.int .i64 y.s6) ∧ w'.cell? ⟨blk, off + (a) * 14 + 13, none⟩ = some (.int .i64 y.s7))) 10 11 rfl (by kernel_rfl) (by kernel_rfl) ((unhid HSF) _ (unhid HK).drew) ?_
        intro hSE
        have HK := hid (unhid HK).drew
        generalize wr.drew = Wd at *
        (refine WE_take (i := 0) (v := ?_) rfl (by kernel_rfl) (by decide) (by kernel_rfl) (by kernel_rfl) (fun _ _ _ h => h) (by rfl) hSE ?_ ?_; rotate_left; (focus (intro w hSw; (try dsimp only at hSw); go_simp; (try with_reducible rfl))); simp only [Act.put, List.setIfInBounds_toArray, List.set_cons_zero, List.set_cons_succ])
        (refine WE_take (i := 1) (v := ?_) rfl (by kernel_rfl) (by decide) (by kernel_rfl) (by kernel_rfl) (fun _ _ _ h => h) (by rfl) hSE ?_ ?_; rotate_left; (focus (intro w hSw; (try dsimp only at hSw); go_simp; (try with_reducible rfl))); simp only [Act.put, List.setIfInBounds_toArray, List.set_cons_zero, List.set_cons_succ])
        (refine WE_take (i := 2) (v := ?_) rfl (by kernel_rfl) (by decide) (by kernel_rfl) (by kernel_rfl) (fun _ _ _ h => h) (by rfl) hSE ?_ ?_; rotate_left; (focus (intro w hSw; (try dsimp only at hSw); go_simp; (try with_reducible rfl))); simp only [Act.put, List.setIfInBounds_toArray, List.set_cons_zero, List.set_cons_succ])
        (refine WE_take (i := 3) (v := ?_) rfl (by kernel_rfl) (by decide) (by kernel_rfl) (by kernel_rfl) (fun _ _ _ h => h) (by rfl) hSE ?_ ?_; rotate_left; (focus (intro w hSw; (try dsimp only at hSw); go_simp; (try with_reducible rfl))); simp only [Act.put, List.setIfInBounds_toArray, List.set_cons_zero, List.set_cons_succ])
        (refine WE_take (i := 4) (v := ?_) rfl (by kernel_rfl) (by decide) (by kernel_rfl) (by kernel_rfl) (fun _ _ _ h => h) (by rfl) hSE ?_ ?_; rotate_left; (focus (intro w hSw; (try dsimp only at hSw); go_simp; (try with_reducible rfl))); simp only [Act.put, List.setIfInBounds_toArray, List.set_cons_zero, List.set_cons_succ])
        (refine WE_take (i := 5) (v := ?_) rfl (by kernel_rfl) (by decide) (by kernel_rfl) (by kernel_rfl) (fun _ _ _ h => h) (by rfl) hSE ?_ ?_; rotate_left; (focus (intro w hSw; (try dsimp only at hSw); go_simp; (try with_reducible rfl))); simp only [Act.put, List.setIfInBounds_toArray, List.set_cons_zero, List.set_cons_succ])
        (refine WE_take (i := 6) (v := ?_) rfl (by kernel_rfl) (by decide) (by kernel_rfl) (by kernel_rfl) (fun _ _ _ h => h) (by rfl) hSE ?_ ?_; rotate_left; (focus (intro w hSw; (try dsimp only at hSw); go_simp; (try with_reducible rfl))); simp only [Act.put, List.setIfInBounds_toArray, List.set_cons_zero, List.set_cons_succ])
        (refine WE_take (i := 7) (v := ?_) rfl (by kernel_rfl) (by decide) (by kernel_rfl) (by kernel_rfl) (fun _ _ _ h => h) (by rfl) hSE ?_ ?_; rotate_left; (focus (intro w hSw; (try dsimp only at hSw); go_simp; (try with_reducible rfl))); simp only [Act.put, List.setIfInBounds_toArray, List.set_cons_zero, List.set_cons_succ])
        (refine WE_take (i := 8) (v := ?_) rfl (by kernel_rfl) (by decide) (by kernel_rfl) (by kernel_rfl) (fun _ _ _ h => h) (by rfl) hSE ?_ ?_; rotate_left; (focus (intro w hSw; (try dsimp only at hSw); go_simp; (try with_reducible rfl))); simp only [Act.put, List.setIfInBounds_toArray, List.set_cons_zero, List.set_cons_succ])
        (refine WE_one (i := 9) rfl (by decide) (by kernel_rfl) ?_; intro K hK)
        go_simp
        refine (byHourW_calls x y Wd).mono ?_
        rintro e wz ⟨rfl, nz, oz, rfl⟩
        have HK := hid ((unhid HK).grown nz oz)
        generalize grow (Wd.drewN nz) oz = w5 at *
        refine hK.out _ _ ((unhid HSF) _ (unhid HK)) ?_
        clear hSE hK K
        intro hSE
        (try simp only [Act.put, List.setIfInBounds_toArray, List.set_cons_zero, List.set_cons_succ])
        (refine WE_last rfl (by kernel_rfl) (by kernel_rfl) (by kernel_rfl) ?_; intro K hK; go_simp; refine hK.out _ _ (NoPanic.normal ?_); clear hK K)
        clear hSE HSF
        go_wp2_with fail
        go_roundw
        case rel => exact ⟨h + 1, j, by go_num, rfl, unhid HN, unhid HK⟩
        case measure => have h1 := unhid HB3; simp [intOf]; omega
      · have HN := hid ((unhid HCUT).left ((show MrgIn Rl hrI d a (a + 1) b from by have h1 := unhid HIN; rwa [unhid HM] at h1).mono1 (unhid HRL)) (by omega) (by omega) hp)
        have eax : ((h : Int)).toNat = h := by omega
        have pax : (0 : Int) ≤ (h : Int) := by omega
        have bax : (h : Int) < (d0.size : Int) := by omega
        have rax : IntKind.i64.wrap ((h : Int)) = (h : Int) := by rw [IntKind.wrap_i64]; omega
        have eay : ((a : Int)).toNat = a := by omega
        have pay : (0 : Int) ≤ (a : Int) := by omega
        have bay : (a : Int) < (d0.size : Int) := by omega
        have ray : IntKind.i64.wrap ((a : Int)) = (a : Int) := by rw [IntKind.wrap_i64]; omega
        obtain ⟨x, hx⟩ : ∃ x, x = d[h]! := ⟨_, rfl⟩
        obtain ⟨y, hy⟩ : ∃ y, y = d[a]! := ⟨_, rfl⟩
        have HSF := hid (show ∀ w', SWK rcC 14 w0 blk off d w' → (w'.cell? ⟨blk, off + (h) * 14, none⟩ = some (.int .i64 x.tab) ∧ w'.cell? ⟨blk, off + (h) * 14 + 1, none⟩ = some (.int .i64 x.num) ∧ w'.cell? ⟨blk, off + (h) * 14 + 2, none⟩ = some (.int .i64 x.hour) ∧ w'.cell? ⟨blk, off + (h) * 14 + 3, none⟩ = some (.int .i64 x.sign) ∧ w'.cell? ⟨blk, off + (h) * 14 + 4, none⟩ = some (.int .i64 x.fld) ∧ w'.cell? ⟨blk, off + (h) * 14 + 5, none⟩ = some (.int .i64 x.val) ∧ w'.cell? ⟨blk, off + (h) * 14 + 6, none⟩ = some (.int .i64 x.s0) ∧ w'.cell? ⟨blk, off + (h) * 14 + 7, none⟩ = some (.int .i64 x.s1) ∧ w'.cell? ⟨blk, off + (h) * 14 + 8, none⟩ = some (.int .i64 x.s2) ∧ w'.cell? ⟨blk, off + (h) * 14 + 9, none⟩ = some (.int .i64 x.s3) ∧ w'.cell? ⟨blk, off + (h) * 14 + 10, none⟩ = some (.int .i64 x.s4) ∧ w'.cell? ⟨blk, off + (h) * 14 + 11, none⟩ = some (.int .i64 x.s5) ∧ w'.cell? ⟨blk, off + (h) * 14 + 12, none⟩ = some (.int .i64 x.s6) ∧ w'.cell? ⟨blk, off + (h) * 14 + 13, none⟩ = some (.int .i64 x.s7)) ∧ (w'.cell? ⟨blk, off + (a) * 14, none⟩ = some (.int .i64 y.tab) ∧ w'.cell? ⟨blk, off + (a) * 14 + 1, none⟩ = some (.int .i64 y.num) ∧ w'.cell? ⟨blk, off + (a) * 14 + 2, none⟩ = some (.int .i64 y.hour) ∧ w'.cell? ⟨blk, off + (a) * 14 + 3, none⟩ = some (.int .i64 y.sign) ∧ w'.cell? ⟨blk, off + (a) * 14 + 4, none⟩ = some (.int .i64 y.fld) ∧ w'.cell? ⟨blk, off + (a) * 14 + 5, none⟩ = some (.int .i64 y.val) ∧ w'.cell? ⟨blk, off + (a) * 14 + 6, none⟩ = some (.int .i64 y.s0) ∧ w'.cell? ⟨blk, off + (a) * 14 + 7, none⟩ = some (.int .i64 y.s1) ∧ w'.cell? ⟨blk, off + (a) * 14 + 8, none⟩ = some (.int .i64 y.s2) ∧ w'.cell? ⟨blk, off + (a) * 14 + 9, none⟩ = some (.int .i64 y.s3) ∧ w'.cell? ⟨blk, off + (a) * 14 + 10, none⟩ = some (.int .i64 y.s4) ∧ w'.cell? ⟨blk, off + (a) * 14 + 11, none⟩ = some (.int .i64 y.s5) ∧ w'.cell? ⟨blk, off + (a) * 14 + 12, none⟩ = some (.int .i64 y.s6) ∧ w'.cell? ⟨blk, off + (a) * 14 + 13, none⟩ = some (.int .i64 y.s7)) from fun w' hk => ⟨swk_cells14 (i := h) hk (unhid HR) (by omega) (by omega) hx, swk_cells14 (i := a) hk (unhid HR) (by omega) (by omega) hy⟩)
        have hd : decide (hrI x y < 0) = false := decide_eq_false (by rw [hx, hy]; exact hp)
        clear hx hy hp
        go_wp2_with fail
        refine wp_region_noPanic ?_
        refine wp_region_E (S := fun w' => (w'.cell? ⟨blk, off + (h) * 14, none⟩ = some (.int .i64 x.tab) ∧ w'.cell? ⟨blk, off + (h) * 14 + 1, none⟩ = some (.int .i64 x.num) ∧ w'.cell? ⟨blk, off + (h) * 14 + 2, none⟩ = some (.int .i64 x.hour) ∧ w'.cell? ⟨blk, off + (h) * 14 + 3, none⟩ = some (.int .i64 x.sign) ∧ w'.cell? ⟨blk, off + (h) * 14 + 4, none⟩ = some (.int .i64 x.fld) ∧ w'.cell? ⟨blk, off + (h) * 14 + 5, none⟩ = some (.int .i64 x.val) ∧ w'.cell? ⟨blk, off + (h) * 14 + 6, none⟩ = some (.int .i64 x.s0) ∧ w'.cell? ⟨blk, off + (h) * 14 + 7, none⟩ = some (.int .i64 x.s1) ∧ w'.cell? ⟨blk, off + (h) * 14 + 8, none⟩ = some (.int .i64 x.s2) ∧ w'.cell? ⟨blk, off + (h) * 14 + 9, none⟩ = some (.int .i64 x.s3) ∧ w'.cell? ⟨blk, off + (h) * 14 + 10, none⟩ = some (.int .i64 x.s4) ∧ w'.cell? ⟨blk, off + (h) * 14 + 11, none⟩ = some (.int .i64 x.s5) ∧ w'.cell? ⟨blk, off + (h) * 14 + 12, none⟩ = some (.int .i64 x.s6) ∧ w'.cell? ⟨blk, off + (h) * 14 + 13, none⟩ = some (.int .i64 x.s7)) ∧ (w'.cell? ⟨blk, off + (a) * 14, none⟩ = some (.int .i64 y.tab) ∧ w'.cell? ⟨blk, off + (a) * 14 + 1, none⟩ = some (.int .i64 y.num) ∧ w'.cell? ⟨blk, off + (a) * 14 + 2, none⟩ = some (.int .i64 y.hour) ∧ w'.cell? ⟨blk, off + (a) * 14 + 3, none⟩ = some (.int .i64 y.sign) ∧ w'.cell? ⟨blk, off + (a) * 14 + 4, none⟩ = some (.int .i64 y.fld) ∧ w'.cell? ⟨blk, off + (a) * 14 + 5, none⟩ = some (.int .i64 y.val) ∧ w'.cell? ⟨blk, off + (a) * 14 + 6, none⟩ = some (.int .i64 y.s0) ∧ w'.cell? ⟨blk, off + (a) * 14 + 7, none⟩ = some (.int .i64 y.s1) ∧ w'.cell? ⟨blk, off + (a) * 14 + 8, none⟩ = some (.int .i64 y.s2) ∧ w'.cell? ⟨blk, off + (a) * 14 + 9, none⟩ = some (.int .i64 y.s3) ∧ w'.cell? ⟨blk, off + (a) * 14 + 10, none⟩ = some (.int .i64 y.s4) ∧ w'.cell? ⟨blk, off + (a) * 14 + 11, none⟩ = some (.int .i64 y.s5) ∧ w'.cell? ⟨blk, off + (a) * 14 + 12, none⟩ = some (.int .i64 y.s6) ∧ w'.cell? ⟨blk, off + (a) * 14 + 13, none⟩ = some (.int .i64 y.s7))) 10 11 rfl (by kernel_rfl) (by kernel_rfl) ((unhid HSF) _ (unhid HK).drew) ?_
        intro hSE
        have HK := hid (unhid HK).drew
        generalize wr.drew = Wd at *
        (refine WE_take (i := 0) (v := ?_) rfl (by kernel_rfl) (by decide) (by kernel_rfl) (by kernel_rfl) (fun _ _ _ h => h) (by rfl) hSE ?_ ?_; rotate_left; (focus (intro w hSw; (try dsimp only at hSw); go_simp; (try with_reducible rfl))); simp only [Act.put, List.setIfInBounds_toArray, List.set_cons_zero, List.set_cons_succ])
        (refine WE_take (i := 1) (v := ?_) rfl (by kernel_rfl) (by decide) (by kernel_rfl) (by kernel_rfl) (fun _ _ _ h => h) (by rfl) hSE ?_ ?_; rotate_left; (focus (intro w hSw; (try dsimp only at hSw); go_simp; (try with_reducible rfl))); simp only [Act.put, List.setIfInBounds_toArray, List.set_cons_zero, List.set_cons_succ])
        (refine WE_take (i := 2) (v := ?_) rfl (by kernel_rfl) (by decide) (by kernel_rfl) (by kernel_rfl) (fun _ _ _ h => h) (by rfl) hSE ?_ ?_; rotate_left; (focus (intro w hSw; (try dsimp only at hSw); go_simp; (try with_reducible rfl))); simp only [Act.put, List.setIfInBounds_toArray, List.set_cons_zero, List.set_cons_succ])
        (refine WE_take (i := 3) (v := ?_) rfl (by kernel_rfl) (by decide) (by kernel_rfl) (by kernel_rfl) (fun _ _ _ h => h) (by rfl) hSE ?_ ?_; rotate_left; (focus (intro w hSw; (try dsimp only at hSw); go_simp; (try with_reducible rfl))); simp only [Act.put, List.setIfInBounds_toArray, List.set_cons_zero, List.set_cons_succ])
        (refine WE_take (i := 4) (v := ?_) rfl (by kernel_rfl) (by decide) (by kernel_rfl) (by kernel_rfl) (fun _ _ _ h => h) (by rfl) hSE ?_ ?_; rotate_left; (focus (intro w hSw; (try dsimp only at hSw); go_simp; (try with_reducible rfl))); simp only [Act.put, List.setIfInBounds_toArray, List.set_cons_zero, List.set_cons_succ])
        (refine WE_take (i := 5) (v := ?_) rfl (by kernel_rfl) (by decide) (by kernel_rfl) (by kernel_rfl) (fun _ _ _ h => h) (by rfl) hSE ?_ ?_; rotate_left; (focus (intro w hSw; (try dsimp only at hSw); go_simp; (try with_reducible rfl))); simp only [Act.put, List.setIfInBounds_toArray, List.set_cons_zero, List.set_cons_succ])
        (refine WE_take (i := 6) (v := ?_) rfl (by kernel_rfl) (by decide) (by kernel_rfl) (by kernel_rfl) (fun _ _ _ h => h) (by rfl) hSE ?_ ?_; rotate_left; (focus (intro w hSw; (try dsimp only at hSw); go_simp; (try with_reducible rfl))); simp only [Act.put, List.setIfInBounds_toArray, List.set_cons_zero, List.set_cons_succ])
        (refine WE_take (i := 7) (v := ?_) rfl (by kernel_rfl) (by decide) (by kernel_rfl) (by kernel_rfl) (fun _ _ _ h => h) (by rfl) hSE ?_ ?_; rotate_left; (focus (intro w hSw; (try dsimp only at hSw); go_simp; (try with_reducible rfl))); simp only [Act.put, List.setIfInBounds_toArray, List.set_cons_zero, List.set_cons_succ])
        (refine WE_take (i := 8) (v := ?_) rfl (by kernel_rfl) (by decide) (by kernel_rfl) (by kernel_rfl) (fun _ _ _ h => h) (by rfl) hSE ?_ ?_; rotate_left; (focus (intro w hSw; (try dsimp only at hSw); go_simp; (try with_reducible rfl))); simp only [Act.put, List.setIfInBounds_toArray, List.set_cons_zero, List.set_cons_succ])
        (refine WE_one (i := 9) rfl (by decide) (by kernel_rfl) ?_; intro K hK)
        go_simp
        refine (byHourW_calls x y Wd).mono ?_
        rintro e wz ⟨rfl, nz, oz, rfl⟩
        have HK := hid ((unhid HK).grown nz oz)
        generalize grow (Wd.drewN nz) oz = w5 at *
        refine hK.out _ _ ((unhid HSF) _ (unhid HK)) ?_
        clear hSE hK K
        intro hSE
        (try simp only [Act.put, List.setIfInBounds_toArray, List.set_cons_zero, List.set_cons_succ])
        (refine WE_last rfl (by kernel_rfl) (by kernel_rfl) (by kernel_rfl) ?_; intro K hK; go_simp; refine hK.out _ _ (NoPanic.normal ?_); clear hK K)
        clear hSE HSF
        go_wp2_with fail
        go_roundw
        case rel => exact ⟨i, h, rfl, rfl, unhid HN, unhid HK⟩
        case measure => have h1 := unhid HB3; simp [intOf]; omega
    · obtain rfl : i = j := by omega
      have hnn : ¬ (i : Int) < (i : Int) := by omega
      go_upto_region 9 with (fail)
      go_loopw [13] (fun kv wr => ∃ (k : Nat) (dk : Array Rc), kv = .int .i64 k ∧ a ≤ k ∧ k + 1 ≤ i ∧ RotI d a (a + 1) (k + 1) dk ∧ SWK rcC 14 w0 blk off dk wr) (fun kv _ => i - (intOf kv).toNat)
      case atStart => exact ⟨a, d, rfl, Nat.le_refl _, by omega, RotI.none d (.inr rfl) (by omega) (Nat.le_refl _), unhid HK⟩
      case round =>
        clear HK
        obtain ⟨k, dk, rfl, hk1, hk2, hrot, hk⟩ := hrel
        have HROT := hid hrot
        have HK := hid hk
        have hds : dk.size = d0.size := hrot.size.trans (unhid HSZ).2.1
        clear hrot hk
        by_cases hki : k + 1 < i
        · have hkii : (k : Int) < (i : Int) - 1 := by omega
          have HN := hid ((unhid HROT).up hk1 (by have := (unhid HSZ).2.1; omega))
          have eax : ((k : Int)).toNat = k := by omega
          have pax : (0 : Int) ≤ (k : Int) := by omega
          have bax : (k : Int) < (d0.size : Int) := by omega
          have rax : IntKind.i64.wrap ((k : Int)) = (k : Int) := by rw [IntKind.wrap_i64]; omega
          have eay : ((k : Int) + 1).toNat = k + 1 := by omega
          have pay : (0 : Int) ≤ (k : Int) + 1 := by omega
          have bay : (k : Int) + 1 < (d0.size : Int) := by omega
          have ray : IntKind.i64.wrap ((k : Int) + 1) = (k : Int) + 1 := by rw [IntKind.wrap_i64]; omega
          obtain ⟨x, hx⟩ : ∃ x, x = dk[k]! := ⟨_, rfl⟩
          obtain ⟨y, hy⟩ : ∃ y, y = dk[k + 1]! := ⟨_, rfl⟩
          obtain ⟨x0, x1, x2, x3, x4, x5, x6, x7, x8, x9, x10, x11, x12, x13⟩ := swk_cells14 (i := k) (unhid HK).drew (unhid HR) (by omega) (by omega) hx
          obtain ⟨y0, y1, y2, y3, y4, y5, y6, y7, y8, y9, y10, y11, y12, y13⟩ := swk_cells14 (i := k + 1) (unhid HK).drew (unhid HR) (by omega) (by omega) hy
          obtain ⟨W1, W2, sa, sb, s2⟩ : ∃ W1 W2, Sem.run Tryz.prog (storeCells ⟨blk, off + (k) * 14, none⟩ (rcC y) 0) wr.drew = .ok () W1 ∧ Sem.run Tryz.prog (storeCells ⟨blk, off + (k + 1) * 14, none⟩ (rcC x) 0) W1 = .ok () W2 ∧ SWK rcC 14 w0 blk off (swp dk (k) (k + 1)) W2 := by
            refine ⟨_, _, (unhid HK).st1 (unhid HR) (by omega) Tryz.prog (k) (by omega) y, (unhid HK).st2 (unhid HR) (by omega) Tryz.prog (k) (k + 1) (by omega) (by omega) y x, ?_⟩
            rw [hx, hy]
            exact (unhid HK).swapped (unhid HR) (k) (k + 1) (by omega) (by omega)
          have S2 := hid s2
          clear s2
          clear HK hx hy
          go_wp2_with fail
          refine wp_region_noPanic ?_
          refine wp_region_E (S := fun _ => True) 17 18 rfl (by kernel_rfl) (by kernel_rfl) trivial ?_
          intro hSE
          generalize wr.drew = Wd at *
          (refine WE_take (i := 0) (v := ?_) rfl (by kernel_rfl) (by decide) (by kernel_rfl) (by kernel_rfl) (fun _ _ _ h => h) (by rfl) hSE ?_ ?_; rotate_left; (focus (intro w hSw; (try dsimp only at hSw); go_simp; (try with_reducible rfl))); simp only [Act.put, List.setIfInBounds_toArray, List.set_cons_zero, List.set_cons_succ])
          (refine WE_take (i := 1) (v := ?_) rfl (by kernel_rfl) (by decide) (by kernel_rfl) (by kernel_rfl) (fun _ _ _ h => h) (by rfl) hSE ?_ ?_; rotate_left; (focus (intro w hSw; (try dsimp only at hSw); go_simp; (try with_reducible rfl))); simp only [Act.put, List.setIfInBounds_toArray, List.set_cons_zero, List.set_cons_succ])
          (refine WE_take (i := 2) (v := ?_) rfl (by kernel_rfl) (by decide) (by kernel_rfl) (by kernel_rfl) (fun _ _ _ h => h) (by rfl) hSE ?_ ?_; rotate_left; (focus (intro w hSw; (try dsimp only at hSw); go_simp; (try with_reducible rfl))); simp only [Act.put, List.setIfInBounds_toArray, List.set_cons_zero, List.set_cons_succ])
          (refine WE_take (i := 3) (v := ?_) rfl (by kernel_rfl) (by decide) (by kernel_rfl) (by kernel_rfl) (fun _ _ _ h => h) (by rfl) hSE ?_ ?_; rotate_left; (focus (intro w hSw; (try dsimp only at hSw); go_simp; (try with_reducible rfl))); simp only [Act.put, List.setIfInBounds_toArray, List.set_cons_zero, List.set_cons_succ])
          (refine WE_take (i := 4) (v := ?_) rfl (by kernel_rfl) (by decide) (by kernel_rfl) (by kernel_rfl) (fun _ _ _ h => h) (by rfl) hSE ?_ ?_; rotate_left; (focus (intro w hSw; (try dsimp only at hSw); go_simp; (try with_reducible rfl))); simp only [Act.put, List.setIfInBounds_toArray, List.set_cons_zero, List.set_cons_succ])
          (refine WE_take (i := 5) (v := ?_) rfl (by kernel_rfl) (by decide) (by kernel_rfl) (by kernel_rfl) (fun _ _ _ h => h) (by rfl) hSE ?_ ?_; rotate_left; (focus (intro w hSw; (try dsimp only at hSw); go_simp; (try with_reducible rfl))); simp only [Act.put, List.setIfInBounds_toArray, List.set_cons_zero, List.set_cons_succ])
          (refine WE_take (i := 6) (v := ?_) rfl (by kernel_rfl) (by decide) (by kernel_rfl) (by kernel_rfl) (fun _ _ _ h => h) (by rfl) hSE ?_ ?_; rotate_left; (focus (intro w hSw; (try dsimp only at hSw); go_simp; (try with_reducible rfl))); simp only [Act.put, List.setIfInBounds_toArray, List.set_cons_zero, List.set_cons_succ])
          (refine WE_take (i := 7) (v := ?_) rfl (by kernel_rfl) (by decide) (by kernel_rfl) (by kernel_rfl) (fun _ _ _ h => h) (by rfl) hSE ?_ ?_; rotate_left; (focus (intro w hSw; (try dsimp only at hSw); go_simp; (try with_reducible rfl))); simp only [Act.put, List.setIfInBounds_toArray, List.set_cons_zero, List.set_cons_succ])
          (refine WE_take (i := 8) (v := ?_) rfl (by kernel_rfl) (by decide) (by kernel_rfl) (by kernel_rfl) (fun _ _ _ h => h) (by rfl) hSE ?_ ?_; rotate_left; (focus (intro w hSw; (try dsimp only at hSw); go_simp; (try with_reducible rfl))); simp only [Act.put, List.setIfInBounds_toArray, List.set_cons_zero, List.set_cons_succ])
          (refine WE_take (i := 10) (v := ?_) rfl (by kernel_rfl) (by decide) (by kernel_rfl) (by kernel_rfl) (fun _ _ _ h => h) (by rfl) hSE ?_ ?_; rotate_left; (focus (intro w hSw; (try dsimp only at hSw); go_simp; (try with_reducible rfl))); simp only [Act.put, List.setIfInBounds_toArray, List.set_cons_zero, List.set_cons_succ])
          (refine WE_take (i := 11) (v := ?_) rfl (by kernel_rfl) (by decide) (by kernel_rfl) (by kernel_rfl) (fun _ _ _ h => h) (by rfl) hSE ?_ ?_; rotate_left; (focus (intro w hSw; (try dsimp only at hSw); go_simp; (try with_reducible rfl))); simp only [Act.put, List.setIfInBounds_toArray, List.set_cons_zero, List.set_cons_succ])
          (refine WE_take (i := 12) (v := ?_) rfl (by kernel_rfl) (by decide) (by kernel_rfl) (by kernel_rfl) (fun _ _ _ h => h) (by rfl) hSE ?_ ?_; rotate_left; (focus (intro w hSw; (try dsimp only at hSw); go_simp; (try with_reducible rfl))); simp only [Act.put, List.setIfInBounds_toArray, List.set_cons_zero, List.set_cons_succ])
          refine WE_two (i := 9) (j := 13) rfl rfl (by decide) (by decide) (by kernel_rfl) ?_ ?_
          · intro K hK
            go_simp
            refine hK.out _ _ trivial ?_
            clear hSE hK K
            intro hSE
            (try simp only [Act.put, List.setIfInBounds_toArray, List.set_cons_zero, List.set_cons_succ])
            (refine WE_one (i := 13) rfl (by decide) (by kernel_rfl) ?_; intro K hK)
            go_simp
            refine hK.out _ _ trivial ?_
            clear hSE hK K
            intro hSE
            (try simp only [Act.put, List.setIfInBounds_toArray, List.set_cons_zero, List.set_cons_succ])
            (refine WE_one (i := 14) rfl (by decide) (by kernel_rfl) ?_; intro K hK)
            go_simp
            refine hK.out _ _ trivial ?_
            clear hSE hK K
            intro hSE
            (try simp only [Act.put, List.setIfInBounds_toArray, List.set_cons_zero, List.set_cons_succ])
            (refine WE_one (i := 15) rfl (by decide) (by kernel_rfl) ?_; intro K hK)
            rw [if_pos (by rfl)]
            refine wp_store_mid 82 (.tmp 75) (.tmp 70) rfl ⟨blk, off + (k) * 14, none⟩ (rcA y) _ rfl rfl (rc_size y) sa ?_
            refine hK.out _ _ trivial ?_
            clear hSE hK K
            intro hSE
            (try simp only [Act.put, List.setIfInBounds_toArray, List.set_cons_zero, List.set_cons_succ])
            (refine WE_one (i := 16) rfl (by decide) (by kernel_rfl) ?_; intro K hK)
            go_simp
            refine hK.out _ _ trivial ?_
            clear hSE hK K
            intro hSE
            (try simp only [Act.put, List.setIfInBounds_toArray, List.set_cons_zero, List.set_cons_succ])
            refine WE_last rfl (by kernel_rfl) (by kernel_rfl) (by kernel_rfl) ?_
            intro K hK
            rw [if_pos (by rfl)]
            refine wp_store_mid 82 (.tmp 76) (.tmp 74) rfl ⟨blk, off + (k + 1) * 14, none⟩ (rcA x) _ rfl rfl (rc_size x) sb ?_
            refine hK.out _ _ (NoPanic.normal ?_)
            clear hK K
            clear hSE sa sb x0 x1 x2 x3 x4 x5 x6 x7 x8 x9 x10 x11 x12 x13 y0 y1 y2 y3 y4 y5 y6 y7 y8 y9 y10 y11 y12 y13
            go_wp2_with fail
            go_roundw
            case rel => exact ⟨k + 1, _, by go_num, by omega, by omega, unhid HN, unhid S2⟩
            case measure => simp [intOf]; omega
          · intro K hK
            go_simp
            refine hK.out _ _ trivial ?_
            clear hSE hK K
            intro hSE
            (try simp only [Act.put, List.setIfInBounds_toArray, List.set_cons_zero, List.set_cons_succ])
            (refine WE_one (i := 9) rfl (by decide) (by kernel_rfl) ?_; intro K hK)
            go_simp
            refine hK.out _ _ trivial ?_
            clear hSE hK K
            intro hSE
            (try simp only [Act.put, List.setIfInBounds_toArray, List.set_cons_zero, List.set_cons_succ])
            (refine WE_one (i := 14) rfl (by decide) (by kernel_rfl) ?_; intro K hK)
            go_simp
            refine hK.out _ _ trivial ?_
            clear hSE hK K
            intro hSE
            (try simp only [Act.put, List.setIfInBounds_toArray, List.set_cons_zero, List.set_cons_succ])
            (refine WE_one (i := 15) rfl (by decide) (by kernel_rfl) ?_; intro K hK)
            rw [if_pos (by rfl)]
            refine wp_store_mid 82 (.tmp 75) (.tmp 70) rfl ⟨blk, off + (k) * 14, none⟩ (rcA y) _ rfl rfl (rc_size y) sa ?_
            refine hK.out _ _ trivial ?_
            clear hSE hK K
            intro hSE
            (try simp only [Act.put, List.setIfInBounds_toArray, List.set_cons_zero, List.set_cons_succ])
            (refine WE_one (i := 16) rfl (by decide) (by kernel_rfl) ?_; intro K hK)
            go_simp
            refine hK.out _ _ trivial ?_
            clear hSE hK K
            intro hSE
            (try simp only [Act.put, List.setIfInBounds_toArray, List.set_cons_zero, List.set_cons_succ])
            refine WE_last rfl (by kernel_rfl) (by kernel_rfl) (by kernel_rfl) ?_
            intro K hK
            rw [if_pos (by rfl)]
            refine wp_store_mid 82 (.tmp 76) (.tmp 74) rfl ⟨blk, off + (k + 1) * 14, none⟩ (rcA x) _ rfl rfl (rc_size x) sb ?_
            refine hK.out _ _ (NoPanic.normal ?_)
            clear hK K
            clear hSE sa sb x0 x1 x2 x3 x4 x5 x6 x7 x8 x9 x10 x11 x12 x13 y0 y1 y2 y3 y4 y5 y6 y7 y8 y9 y10 y11 y12 y13
            go_wp2_with fail
            go_roundw
            case rel => exact ⟨k + 1, _, by go_num, by omega, by omega, unhid HN, unhid S2⟩
            case measure => simp [intOf]; omega
        · have hkii : ¬ (k : Int) < (i : Int) - 1 := by omega
          obtain rfl : i = k + 1 := by omega
          have HP := hid (show MgPost w0 blk off Rl a b d (.returned (.tuple #[])) wr from ⟨rfl, dk, (show MrgIn Rl hrI d a (a + 1) b from by have h1 := unhid HIN; rwa [unhid HM] at h1).one1 (unhid HCUT) (unhid HROT) (by have := (unhid HSZ).2.1; omega), unhid HK⟩)
          go_wp2_with fail
          go_end0
          exact unhid HP

set_option maxHeartbeats 8000000 in
set_option maxRecDepth 100000 in
theorem mg2_calls {w0 : World} {blk off : Nat} {d0 : Array Rc} (R : RowK rcC 14 w0 blk off d0) {Rl : Rc → Rc → Prop} (hRl : Strict Rl) (cap : Nat) (hsz : d0.size ≤ 1000000) (N : Nat) (ih : ∀ (a m b : Nat) (ai mi bi : Int) (d : Array Rc) (w : World), b - a ≤ N → ai = (a : Int) → mi = (m : Int) → bi = (b : Int) → SWK rcC 14 w0 blk off d w → d.size = d0.size → a < m → m < b → b ≤ d0.size → MrgIn Rl hrI d a m b →
    Calls Tryz.prog 140 #[.slice (some ⟨blk, off, none⟩) d0.size cap, .int .i64 ai, .int .i64 mi, .int .i64 bi, .func (.func 83) #[] #[]] w fun e w' => MgPost w0 blk off Rl a b d e w')
    (a m b : Nat) (d : Array Rc) (w : World) (hN : b - a ≤ N + 1) (h : SWK rcC 14 w0 blk off d w) (hs : d.size = d0.size) (ham : a < m) (hmb : m < b) (hb : b ≤ d0.size) (hin : MrgIn Rl hrI d a m b) (h1 : ¬ m = a + 1) (h2 : b = m + 1) :
    Calls Tryz.prog 140 #[.slice (some ⟨blk, off, none⟩) d0.size cap, .int .i64 (a : Int), .int .i64 (m : Int), .int .i64 (b : Int), .func (.func 83) #[] #[]] w fun e w' => MgPost w0 blk off Rl a b d e w' := by
  have mixed : Tryz.prog.follows .mixedOrders = true := by kernel_rfl
  have HR := hid R
  have HRL := hid hRl
  have HK := hid h
  have HIN := hid hin
  have IH := hid ih
  have HSZ := hid (show d0.size ≤ 1000000 ∧ d.size = d0.size ∧ b ≤ d0.size ∧ a < m ∧ m < b ∧ b - a ≤ N + 1 from ⟨hsz, hs, hb, ham, hmb, hN⟩)
  clear h hin ih
  go_enter Tryz.func140, Tryz.ntmps140
  have q1 : ((m : Int) - (a : Int) == 1) = false := beq_eq_false_iff_ne.2 (by omega)
  have r1 : IntKind.i64.wrap ((m : Int) - (a : Int)) = (m : Int) - (a : Int) := by rw [IntKind.wrap_i64]; omega
  have q2 : ((b : Int) - (m : Int) == 1) = true := beq_iff_eq.2 (by omega)
  have r2 : IntKind.i64.wrap ((b : Int) - (m : Int)) = (b : Int) - (m : Int) := by rw [IntKind.wrap_i64]; omega
  have HM := hid h2
  clear h2
  go_upto_region 15 with (fail)
  clear q1 r1 q2 r2
  go_loopw [14, 15] (fun iv jv wr => ∃ (i j : Nat), iv = .int .i64 i ∧ jv = .int .i64 j ∧ Cut (tst2 d m) a m i j ∧ SWK rcC 14 w0 blk off d wr) (fun iv jv _ => (intOf jv).toNat - (intOf iv).toNat)
  case atStart => exact ⟨a, m, rfl, rfl, Cut.start (by omega), unhid HK⟩
  case round =>
    clear HK
    obtain ⟨i, j, rfl, rfl, hcut, hk⟩ := hrel
    have HCUT := hid hcut
    have HK := hid hk
    have hb3 : a ≤ i ∧ i ≤ j ∧ j ≤ m := ⟨hcut.li, hcut.ij, hcut.jh⟩
    clear hcut hk
    by_cases hlt : i < j
    · have hlti : (i : Int) < (j : Int) := by omega
      go_upto_region 17 with (fail)
      obtain ⟨h, hh⟩ : ∃ h, h = (i + j) / 2 := ⟨_, rfl⟩
      have hq := half_u64 hh
      rw [hq]
      have HB3 := hid (show i ≤ h ∧ h < j from by omega)
      have hb4 : i ≤ h ∧ h < j := unhid HB3
      clear hq hh
      by_cases hp : hrI d[m]! d[h]! < 0
      · have HN := hid ((unhid HCUT).left ((show MrgIn Rl hrI d a m (m + 1) from by have h1 := unhid HIN; rwa [unhid HM] at h1).mono2 (unhid HRL)) (by omega) (by omega) (fun hn => hn hp))
        have eax : ((m : Int)).toNat = m := by omega
        have pax : (0 : Int) ≤ (m : Int) := by omega
        have bax : (m : Int) < (d0.size : Int) := by omega
        have rax : IntKind.i64.wrap ((m : Int)) = (m : Int) := by rw [IntKind.wrap_i64]; omega
        have eay : ((h : Int)).toNat = h := by omega
        have pay : (0 : Int) ≤ (h : Int) := by omega
        have bay : (h : Int) < (d0.size : Int) := by omega
        have ray : IntKind.i64.wrap ((h : Int)) = (h : Int) := by rw [IntKind.wrap_i64]; omega
        obtain ⟨x, hx⟩ : ∃ x, x = d[m]! := ⟨_, rfl⟩
        obtain ⟨y, hy⟩ : ∃ y, y = d[h]! := ⟨_, rfl⟩
        have HSF := hid (show ∀ w', SWK rcC 14 w0 blk off d w' → (w'.cell? ⟨blk, off + (m) * 14, none⟩ = some (.int .i64 x.tab) ∧ w'.cell? ⟨blk, off + (m) * 14 + 1, none⟩ = some (.int .i64 x.num) ∧ w'.cell? ⟨blk, off + (m) * 14 + 2, none⟩ = some (.int .i64 x.hour) ∧ w'.cell? ⟨blk, off + (m) * 14 + 3, none⟩ = some (.int .i64 x.sign) ∧ w'.cell? ⟨blk, off + (m) * 14 + 4, none⟩ = some (.int .i64 x.fld) ∧ w'.cell? ⟨blk, off + (m) * 14 + 5, none⟩ = some (.int .i64 x.val) ∧ w'.cell? ⟨blk, off + (m) * 14 + 6, none⟩ = some (.int .i64 x.s0) ∧ w'.cell? ⟨blk, off + (m) * 14 + 7, none⟩ = some (.int .i64 x.s1) ∧ w'.cell? ⟨blk, off + (m) * 14 + 8, none⟩ = some (.int .i64 x.s2) ∧ w'.cell? ⟨blk, off + (m) * 14 + 9, none⟩ = some (.int .i64 x.s3) ∧ w'.cell? ⟨blk, off + (m) * 14 + 10, none⟩ = some (.int .i64 x.s4) ∧ w'.cell? ⟨blk, off + (m) * 14 + 11, none⟩ = some (.int .i64 x.s5) ∧ w'.cell? ⟨blk, off + (m) * 14 + 12, none⟩ = some (.int .i64 x.s6) ∧ w'.cell? ⟨blk, off + (m) * 14 + 13, none⟩ = some (.int .i64 x.s7)) ∧ (w'.cell? ⟨blk, off + (h) * 14, none⟩ = some (.int .i64 y.tab) ∧ w'.cell? ⟨blk, off + (h) * 14 + 1, none⟩ = some (.int .i64 y.num) ∧ w'.cell? ⟨blk, off + (h) * 14 + 2, none⟩ = some (.int .i64 y.hour) ∧ w'.cell? ⟨blk, off + (h) * 14 + 3, none⟩ = some (.int .i64 y.sign) ∧ w'.cell? ⟨blk, off + (h) * 14 + 4, none⟩ = some (.int .i64 y.fld) ∧ w'.cell? ⟨blk, off + (h) * 14 + 5, none⟩ = some (.int .i64 y.val) ∧ w'.cell? ⟨blk, off + (h) * 14 + 6, none⟩ = some (.int .i64 y.s0) ∧ w'.cell? ⟨blk, off + (h) * 14 + 7, none⟩ = some (.int .i64 y.s1) ∧ w'.cell? ⟨blk, off + (h) * 14 + 8, none⟩ = some (.int .i64 y.s2) ∧ w'.cell? ⟨blk, off + (h) * 14 + 9, none⟩ = some (.int .i64 y.s3) ∧ w'.cell? ⟨blk, off + (h) * 14 + 10, none⟩ = some (.int .i64 y.s4) ∧ w'.cell? ⟨blk, off + (h) * 14 + 11, none⟩ = some (.int .i64 y.s5) ∧ w'.cell? ⟨blk, off + (h) * 14 + 12, none⟩ = some (.int .i64 y.s6) ∧ w'.cell? ⟨blk, off + (h) * 14 + 13, none⟩ = some (.int .i64 y.s7)) from fun w' hk => ⟨swk_cells14 (i := m) hk (unhid HR) (by omega) (by omega) hx, swk_cells14 (i := h) hk (unhid HR) (by omega) (by omega) hy⟩)
        have hd : decide (hrI x y < 0) = true := decide_eq_true (by rw [hx, hy]; exact hp)
        clear hx hy hp
        go_wp2_with fail
        refine wp_region_noPanic ?_
        refine wp_region_E (S := fun w' => (w'.cell? ⟨blk, off + (m) * 14, none⟩ = some (.int .i64 x.tab) ∧ w'.cell? ⟨blk, off + (m) * 14 + 1, none⟩ = some (.int .i64 x.num) ∧ w'.cell? ⟨blk, off + (m) * 14 + 2, none⟩ = some (.int .i64 x.hour) ∧ w'.cell? ⟨blk, off + (m) * 14 + 3, none⟩ = some (.int .i64 x.sign) ∧ w'.cell? ⟨blk, off + (m) * 14 + 4, none⟩ = some (.int .i64 x.fld) ∧ w'.cell? ⟨blk, off + (m) * 14 + 5, none⟩ = some (.int .i64 x.val) ∧ w'.cell? ⟨blk, off + (m) * 14 + 6, none⟩ = some (.int .i64 x.s0) ∧ w'.cell? ⟨blk, off + (m) * 14 + 7, none⟩ = some (.int .i64 x.s1) ∧ w'.cell? ⟨blk, off + (m) * 14 + 8, none⟩ = some (.int .i64 x.s2) ∧ w'.cell? ⟨blk, off + (m) * 14 + 9, none⟩ = some (.int .i64 x.s3) ∧ w'.cell? ⟨blk, off + (m) * 14 + 10, none⟩ = some (.int .i64 x.s4) ∧ w'.cell? ⟨blk, off + (m) * 14 + 11, none⟩ = some (.int .i64 x.s5) ∧ w'.cell? ⟨blk, off + (m) * 14 + 12, none⟩ = some (.int .i64 x.s6) ∧ w'.cell? ⟨blk, off + (m) * 14 + 13, none⟩ = some (.int .i64 x.s7)) ∧ (w'.cell? ⟨blk, off + (h) * 14, none⟩ = some (.int .i64 y.tab) ∧ w'.cell? ⟨blk, off + (h) * 14 + 1, none⟩ = some (.int .i64 y.num) ∧ w'.cell? ⟨blk, off + (h) * 14 + 2, none⟩ = some (.int .i64 y.hour) ∧ w'.cell? ⟨blk, off + (h) * 14 + 3, none⟩ = some (.int .i64 y.sign) ∧ w'.cell? ⟨blk, off + (h) * 14 + 4, none⟩ = some (.int .i64 y.fld) ∧ w'.cell? ⟨blk, off + (h) * 14 + 5, none⟩ = some (.int .i64 y.val) ∧ w'.cell? ⟨blk, off + (h) * 14 + 6, none⟩ = some (.int .i64 y.s0) ∧ w'.cell? ⟨blk, off + (h) * 14 + 7, none⟩ = some (.int .i64 y.s1) ∧ w'.cell? ⟨blk, off + (h) * 14 + 8, none⟩ = some (.int .i64 y.s2) ∧ w'.cell? ⟨blk, off + (h) * 14 + 9, none⟩ = some (.int .i64 y.s3) ∧ w'.cell? ⟨blk, off + (h) * 14 + 10, none⟩ = some (.int .i64 y.s4) ∧ w'.cell? ⟨blk, off + (h) * 14 + 11, none⟩ = some (.int .i64 y.s5) ∧ w'.cell? ⟨blk, off + (h) * 14 + 12, none⟩ = some (.int .i64 y.s6) ∧ w'.cell? ⟨blk, off + (h) * 14 + 13, none⟩ = some (.int .i64 y.s7))) 11 12 rfl (by kernel_rfl) (by kernel_rfl) ((unhid HSF) _ (unhid HK).drew) ?_
        intro hSE
        have HK := hid (unhid HK).drew
        generalize wr.drew = Wd at *
        (refine WE_take (i := 0) (v := ?_) rfl (by kernel_rfl) (by decide) (by kernel_rfl) (by kernel_rfl) (fun _ _ _ h => h) (by rfl) hSE ?_ ?_; rotate_left; (focus (intro w hSw; (try dsimp only at hSw); go_simp; (try with_reducible rfl))); simp only [Act.put, List.setIfInBounds_toArray, List.set_cons_zero, List.set_cons_succ])
        (refine WE_take (i := 1) (v := ?_) rfl (by kernel_rfl) (by decide) (by kernel_rfl) (by kernel_rfl) (fun _ _ _ h => h) (by rfl) hSE ?_ ?_; rotate_left; (focus (intro w hSw; (try dsimp only at hSw); go_simp; (try with_reducible rfl))); simp only [Act.put, List.setIfInBounds_toArray, List.set_cons_zero, List.set_cons_succ])
        (refine WE_take (i := 2) (v := ?_) rfl (by kernel_rfl) (by decide) (by kernel_rfl) (by kernel_rfl) (fun _ _ _ h => h) (by rfl) hSE ?_ ?_; rotate_left; (focus (intro w hSw; (try dsimp only at hSw); go_simp; (try with_reducible rfl))); simp only [Act.put, List.setIfInBounds_toArray, List.set_cons_zero, List.set_cons_succ])
        (refine WE_take (i := 3) (v := ?_) rfl (by kernel_rfl) (by decide) (by kernel_rfl) (by kernel_rfl) (fun _ _ _ h => h) (by rfl) hSE ?_ ?_; rotate_left; (focus (intro w hSw; (try dsimp only at hSw); go_simp; (try with_reducible rfl))); simp only [Act.put, List.setIfInBounds_toArray, List.set_cons_zero, List.set_cons_succ])
        (refine WE_take (i := 4) (v := ?_) rfl (by kernel_rfl) (by decide) (by kernel_rfl) (by kernel_rfl) (fun _ _ _ h => h) (by rfl) hSE ?_ ?_; rotate_left; (focus (intro w hSw; (try dsimp only at hSw); go_simp; (try with_reducible rfl))); simp only [Act.put, List.setIfInBounds_toArray, List.set_cons_zero, List.set_cons_succ])
        (refine WE_take (i := 5) (v := ?_) rfl (by kernel_rfl) (by decide) (by kernel_rfl) (by kernel_rfl) (fun _ _ _ h => h) (by rfl) hSE ?_ ?_; rotate_left; (focus (intro w hSw; (try dsimp only at hSw); go_simp; (try with_reducible rfl))); simp only [Act.put, List.setIfInBounds_toArray, List.set_cons_zero, List.set_cons_succ])
        (refine WE_take (i := 6) (v := ?_) rfl (by kernel_rfl) (by decide) (by kernel_rfl) (by kernel_rfl) (fun _ _ _ h => h) (by rfl) hSE ?_ ?_; rotate_left; (focus (intro w hSw; (try dsimp only at hSw); go_simp; (try with_reducible rfl))); simp only [Act.put, List.setIfInBounds_toArray, List.set_cons_zero, List.set_cons_succ])
        (refine WE_take (i := 7) (v := ?_) rfl (by kernel_rfl) (by decide) (by kernel_rfl) (by kernel_rfl) (fun _ _ _ h => h) (by rfl) hSE ?_ ?_; rotate_left; (focus (intro w hSw; (try dsimp only at hSw); go_simp; (try with_reducible rfl))); simp only [Act.put, List.setIfInBounds_toArray, List.set_cons_zero, List.set_cons_succ])
        (refine WE_take (i := 8) (v := ?_) rfl (by kernel_rfl) (by decide) (by kernel_rfl) (by kernel_rfl) (fun _ _ _ h => h) (by rfl) hSE ?_ ?_; rotate_left; (focus (intro w hSw; (try dsimp only at hSw); go_simp; (try with_reducible rfl))); simp only [Act.put, List.setIfInBounds_toArray, List.set_cons_zero, List.set_cons_succ])
        (refine WE_one (i := 9) rfl (by decide) (by kernel_rfl) ?_; intro K hK)
        go_simp
        refine (byHourW_calls x y Wd).mono ?_
        rintro e wz ⟨rfl, nz, oz, rfl⟩
        have HK := hid ((unhid HK).grown nz oz)
        generalize grow (Wd.drewN nz) oz = w5 at *
        refine hK.out _ _ ((unhid HSF) _ (unhid HK)) ?_
        clear hSE hK K
        intro hSE
        (try simp only [Act.put, List.setIfInBounds_toArray, List.set_cons_zero, List.set_cons_succ])
        (refine WE_take (i := 10) (v := ?_) rfl (by kernel_rfl) (by decide) (by kernel_rfl) (by kernel_rfl) (fun _ _ _ h => h) (by rfl) hSE ?_ ?_; rotate_left; (focus (intro w hSw; (try dsimp only at hSw); go_simp; (try with_reducible rfl))); simp only [Act.put, List.setIfInBounds_toArray, List.set_cons_zero, List.set_cons_succ])
        (refine WE_last rfl (by kernel_rfl) (by kernel_rfl) (by kernel_rfl) ?_; intro K hK; go_simp; refine hK.out _ _ (NoPanic.normal ?_); clear hK K)
        clear hSE HSF
        go_wp2_with fail
        go_roundw
        case rel => exact ⟨i, h, rfl, rfl, unhid HN, unhid HK⟩
        case measure => have h1 := unhid HB3; simp [intOf]; omega
      · have HN := hid ((unhid HCUT).right ((show MrgIn Rl hrI d a m (m + 1) from by have h1 := unhid HIN; rwa [unhid HM] at h1).mono2 (unhid HRL)) (by omega) (by omega) hp)
        have eax : ((m : Int)).toNat = m := by omega
        have pax : (0 : Int) ≤ (m : Int) := by omega
        have bax : (m : Int) < (d0.size : Int) := by omega
        have rax : IntKind.i64.wrap ((m : Int)) = (m : Int) := by rw [IntKind.wrap_i64]; omega
        have eay : ((h : Int)).toNat = h := by omega
        have pay : (0 : Int) ≤ (h : Int) := by omega
        have bay : (h : Int) < (d0.size : Int) := by omega
        have ray : IntKind.i64.wrap ((h : Int)) = (h : Int) := by rw [IntKind.wrap_i64]; omega
        obtain ⟨x, hx⟩ : ∃ x, x = d[m]! := ⟨_, rfl⟩
        obtain ⟨y, hy⟩ : ∃ y, y = d[h]! := ⟨_, rfl⟩
        have HSF := hid (show ∀ w', SWK rcC 14 w0 blk off d w' → (w'.cell? ⟨blk, off + (m) * 14, none⟩ = some (.int .i64 x.tab) ∧ w'.cell? ⟨blk, off + (m) * 14 + 1, none⟩ = some (.int .i64 x.num) ∧ w'.cell? ⟨blk, off + (m) * 14 + 2, none⟩ = some (.int .i64 x.hour) ∧ w'.cell? ⟨blk, off + (m) * 14 + 3, none⟩ = some (.int .i64 x.sign) ∧ w'.cell? ⟨blk, off + (m) * 14 + 4, none⟩ = some (.int .i64 x.fld) ∧ w'.cell? ⟨blk, off + (m) * 14 + 5, none⟩ = some (.int .i64 x.val) ∧ w'.cell? ⟨blk, off + (m) * 14 + 6, none⟩ = some (.int .i64 x.s0) ∧ w'.cell? ⟨blk, off + (m) * 14 + 7, none⟩ = some (.int .i64 x.s1) ∧ w'.cell? ⟨blk, off + (m) * 14 + 8, none⟩ = some (.int .i64 x.s2) ∧ w'.cell? ⟨blk, off + (m) * 14 + 9, none⟩ = some (.int .i64 x.s3) ∧ w'.cell? ⟨blk, off + (m) * 14 + 10, none⟩ = some (.int .i64 x.s4) ∧ w'.cell? ⟨blk, off + (m) * 14 + 11, none⟩ = some (.int .i64 x.s5) ∧ w'.cell? ⟨blk, off + (m) * 14 + 12, none⟩ = some (.int .i64 x.s6) ∧ w'.cell? ⟨blk, off + (m) * 14 + 13, none⟩ = some (.int .i64 x.s7)) ∧ (w'.cell? ⟨blk, off + (h) * 14, none⟩ = some (.int .i64 y.tab) ∧ w'.cell? ⟨blk, off + (h) * 14 + 1, none⟩ = some (.int .i64 y.num) ∧ w'.cell? ⟨blk, off + (h) * 14 + 2, none⟩ = some (.int .i64 y.hour) ∧ w'.cell? ⟨blk, off + (h) * 14 + 3, none⟩ = some (.int .i64 y.sign) ∧ w'.cell? ⟨blk, off + (h) * 14 + 4, none⟩ = some (.int .i64 y.fld) ∧ w'.cell? ⟨blk, off + (h) * 14 + 5, none⟩ = some (.int .i64 y.val) ∧ w'.cell? ⟨blk, off + (h) * 14 + 6, none⟩ = some (.int .i64 y.s0) ∧ w'.cell? ⟨blk, off + (h) * 14 + 7, none⟩ = some (.int .i64 y.s1) ∧ w'.cell? ⟨blk, off + (h) * 14 + 8, none⟩ = some (.int .i64 y.s2) ∧ w'.cell? ⟨blk, off + (h) * 14 + 9, none⟩ = some (.int .i64 y.s3) ∧ w'.cell? ⟨blk, off + (h) * 14 + 10, none⟩ = some (.int .i64 y.s4) ∧ w'.cell? ⟨blk, off + (h) * 14 + 11, none⟩ = some (.int .i64 y.s5) ∧ w'.cell? ⟨blk, off + (h) * 14 + 12, none⟩ = some (.int .i64 y.s6) ∧ w'.cell? ⟨blk, off + (h) * 14 + 13, none⟩ = some (.int .i64 y.s7)) from fun w' hk => ⟨swk_cells14 (i := m) hk (unhid HR) (by omega) (by omega) hx, swk_cells14 (i := h) hk (unhid HR) (by omega) (by omega) hy⟩)
        have hd : decide (hrI x y < 0) = false := decide_eq_false (by rw [hx, hy]; exact hp)
        clear hx hy hp
        go_wp2_with fail
        refine wp_region_noPanic ?_
        refine wp_region_E (S := fun w' => (w'.cell? ⟨blk, off + (m) * 14, none⟩ = some (.int .i64 x.tab) ∧ w'.cell? ⟨blk, off + (m) * 14 + 1, none⟩ = some (.int .i64 x.num) ∧ w'.cell? ⟨blk, off + (m) * 14 + 2, none⟩ = some (.int .i64 x.hour) ∧ w'.cell? ⟨blk, off + (m) * 14 + 3, none⟩ = some (.int .i64 x.sign) ∧ w'.cell? ⟨blk, off + (m) * 14 + 4, none⟩ = some (.int .i64 x.fld) ∧ w'.cell? ⟨blk, off + (m) * 14 + 5, none⟩ = some (.int .i64 x.val) ∧ w'.cell? ⟨blk, off + (m) * 14 + 6, none⟩ = some (.int .i64 x.s0) ∧ w'.cell? ⟨blk, off + (m) * 14 + 7, none⟩ = some (.int .i64 x.s1) ∧ w'.cell? ⟨blk, off + (m) * 14 + 8, none⟩ = some (.int .i64 x.s2) ∧ w'.cell? ⟨blk, off + (m) * 14 + 9, none⟩ = some (.int .i64 x.s3) ∧ w'.cell? ⟨blk, off + (m) * 14 + 10, none⟩ = some (.int .i64 x.s4) ∧ w'.cell? ⟨blk, off + (m) * 14 + 11, none⟩ = some (.int .i64 x.s5) ∧ w'.cell? ⟨blk, off + (m) * 14 + 12, none⟩ = some (.int .i64 x.s6) ∧ w'.cell? ⟨blk, off + (m) * 14 + 13, none⟩ = some (.int .i64 x.s7)) ∧ (w'.cell? ⟨blk, off + (h) * 14, none⟩ = some (.int .i64 y.tab) ∧ w'.cell? ⟨blk, off + (h) * 14 + 1, none⟩ = some (.int .i64 y.num) ∧ w'.cell? ⟨blk, off + (h) * 14 + 2, none⟩ = some (.int .i64 y.hour) ∧ w'.cell? ⟨blk, off + (h) * 14 + 3, none⟩ = some (.int .i64 y.sign) ∧ w'.cell? ⟨blk, off + (h) * 14 + 4, none⟩ = some (.int .i64 y.fld) ∧ w'.cell? ⟨blk, off + (h) * 14 + 5, none⟩ = some (.int .i64 y.val) ∧ w'.cell? ⟨blk, off + (h) * 14 + 6, none⟩ = some (.int .i64 y.s0) ∧ w'.cell? ⟨blk, off + (h) * 14 + 7, none⟩ = some (.int .i64 y.s1) ∧ w'.cell? ⟨blk, off + (h) * 14 + 8, none⟩ = some (.int .i64 y.s2) ∧ w'.cell? ⟨blk, off + (h) * 14 + 9, none⟩ = some (.int .i64 y.s3) ∧ w'.cell? ⟨blk, off + (h) * 14 + 10, none⟩ = some (.int .i64 y.s4) ∧ w'.cell? ⟨blk, off + (h) * 14 + 11, none⟩ = some (.int .i64 y.s5) ∧ w'.cell? ⟨blk, off + (h) * 14 + 12, none⟩ = some (.int .i64 y.s6) ∧ w'.cell? ⟨blk, off + (h) * 14 + 13, none⟩ = some (.int .i64 y.s7))) 11 12 rfl (by kernel_rfl) (by kernel_rfl) ((unhid HSF) _ (unhid HK).drew) ?_
        intro hSE
        have HK := hid (unhid HK).drew
        generalize wr.drew = Wd at *
        (refine WE_take (i := 0) (v := ?_) rfl (by kernel_rfl) (by decide) (by kernel_rfl) (by kernel_rfl) (fun _ _ _ h => h) (by rfl) hSE ?_ ?_; rotate_left; (focus (intro w hSw; (try dsimp only at hSw); go_simp; (try with_reducible rfl))); simp only [Act.put, List.setIfInBounds_toArray, List.set_cons_zero, List.set_cons_succ])
        (refine WE_take (i := 1) (v := ?_) rfl (by kernel_rfl) (by decide) (by kernel_rfl) (by kernel_rfl) (fun _ _ _ h => h) (by rfl) hSE ?_ ?_; rotate_left; (focus (intro w hSw; (try dsimp only at hSw); go_simp; (try with_reducible rfl))); simp only [Act.put, List.setIfInBounds_toArray, List.set_cons_zero, List.set_cons_succ])
        (refine WE_take (i := 2) (v := ?_) rfl (by kernel_rfl) (by decide) (by kernel_rfl) (by kernel_rfl) (fun _ _ _ h => h) (by rfl) hSE ?_ ?_; rotate_left; (focus (intro w hSw; (try dsimp only at hSw); go_simp; (try with_reducible rfl))); simp only [Act.put, List.setIfInBounds_toArray, List.set_cons_zero, List.set_cons_succ])
        (refine WE_take (i := 3) (v := ?_) rfl (by kernel_rfl) (by decide) (by kernel_rfl) (by kernel_rfl) (fun _ _ _ h => h) (by rfl) hSE ?_ ?_; rotate_left; (focus (intro w hSw; (try dsimp only at hSw); go_simp; (try with_reducible rfl))); simp only [Act.put, List.setIfInBounds_toArray, List.set_cons_zero, List.set_cons_succ])
        (refine WE_take (i := 4) (v := ?_) rfl (by kernel_rfl) (by decide) (by kernel_rfl) (by kernel_rfl) (fun _ _ _ h => h) (by rfl) hSE ?_ ?_; rotate_left; (focus (intro w hSw; (try dsimp only at hSw); go_simp; (try with_reducible rfl))); simp only [Act.put, List.setIfInBounds_toArray, List.set_cons_zero, List.set_cons_succ])
        (refine WE_take (i := 5) (v := ?_) rfl (by kernel_rfl) (by decide) (by kernel_rfl) (by kernel_rfl) (fun _ _ _ h => h) (by rfl) hSE ?_ ?_; rotate_left; (focus (intro w hSw; (try dsimp only at hSw); go_simp; (try with_reducible rfl))); simp only [Act.put, List.setIfInBounds_toArray, List.set_cons_zero, List.set_cons_succ])
        (refine WE_take (i := 6) (v := ?_) rfl (by kernel_rfl) (by decide) (by kernel_rfl) (by kernel_rfl) (fun _ _ _ h => h) (by rfl) hSE ?_ ?_; rotate_left; (focus (intro w hSw; (try dsimp only at hSw); go_simp; (try with_reducible rfl))); simp only [Act.put, List.setIfInBounds_toArray, List.set_cons_zero, List.set_cons_succ])
        (refine WE_take (i := 7) (v := ?_) rfl (by kernel_rfl) (by decide) (by kernel_rfl) (by kernel_rfl) (fun _ _ _ h => h) (by rfl) hSE ?_ ?_; rotate_left; (focus (intro w hSw; (try dsimp only at hSw); go_simp; (try with_reducible rfl))); simp only [Act.put, List.setIfInBounds_toArray, List.set_cons_zero, List.set_cons_succ])
        (refine WE_take (i := 8) (v := ?_) rfl (by kernel_rfl) (by decide) (by kernel_rfl) (by kernel_rfl) (fun _ _ _ h => h) (by rfl) hSE ?_ ?_; rotate_left; (focus (intro w hSw; (try dsimp only at hSw); go_simp; (try with_reducible rfl))); simp only [Act.put, List.setIfInBounds_toArray, List.set_cons_zero, List.set_cons_succ])
        (refine WE_one (i := 9) rfl (by decide) (by kernel_rfl) ?_; intro K hK)
        go_simp
        refine (byHourW_calls x y Wd).mono ?_
        rintro e wz ⟨rfl, nz, oz, rfl⟩
        have HK := hid ((unhid HK).grown nz oz)
        generalize grow (Wd.drewN nz) oz = w5 at *
        refine hK.out _ _ ((unhid HSF) _ (unhid HK)) ?_
        clear hSE hK K
        intro hSE
        (try simp only [Act.put, List.setIfInBounds_toArray, List.set_cons_zero, List.set_cons_succ])
        (refine WE_take (i := 10) (v := ?_) rfl (by kernel_rfl) (by decide) (by kernel_rfl) (by kernel_rfl) (fun _ _ _ h => h) (by rfl) hSE ?_ ?_; rotate_left; (focus (intro w hSw; (try dsimp only at hSw); go_simp; (try with_reducible rfl))); simp only [Act.put, List.setIfInBounds_toArray, List.set_cons_zero, List.set_cons_succ])
        (refine WE_last rfl (by kernel_rfl) (by kernel_rfl) (by kernel_rfl) ?_; intro K hK; go_simp; refine hK.out _ _ (NoPanic.normal ?_); clear hK K)
        clear hSE HSF
        go_wp2_with fail
        go_roundw
        case rel => exact ⟨h + 1, j, by go_num, rfl, unhid HN, unhid HK⟩
        case measure => have h1 := unhid HB3; simp [intOf]; omega
    · obtain rfl : i = j := by omega
      have hnn : ¬ (i : Int) < (i : Int) := by omega
      go_upto_region 21 with (fail)
      go_loopw [17] (fun kv wr => ∃ (k : Nat) (dk : Array Rc), kv = .int .i64 k ∧ i ≤ k ∧ k ≤ m ∧ RotI d k m (m + 1) dk ∧ SWK rcC 14 w0 blk off dk wr) (fun kv _ => (intOf kv).toNat)
      case atStart => exact ⟨m, d, rfl, by omega, Nat.le_refl _, RotI.none d (.inl rfl) (Nat.le_refl _) (by omega), unhid HK⟩
      case round =>
        clear HK
        obtain ⟨k, dk, rfl, hk1, hk2, hrot, hk⟩ := hrel
        have HROT := hid hrot
        have HK := hid hk
        have hds : dk.size = d0.size := hrot.size.trans (unhid HSZ).2.1
        clear hrot hk
        by_cases hki : i < k
        · obtain ⟨q, rfl⟩ : ∃ q, k = q + 1 := ⟨k - 1, by omega⟩
          have hkii : (q : Int) + 1 > (i : Int) := by omega
          have HN := hid ((unhid HROT).down hk2 (by have := (unhid HSZ).2.1; omega))
          have eax : ((q : Int) + 1).toNat = q + 1 := by omega
          have pax : (0 : Int) ≤ (q : Int) + 1 := by omega
          have bax : (q : Int) + 1 < (d0.size : Int) := by omega
          have rax : IntKind.i64.wrap ((q : Int) + 1) = (q : Int) + 1 := by rw [IntKind.wrap_i64]; omega
          have eay : ((q : Int)).toNat = q := by omega
          have pay : (0 : Int) ≤ (q : Int) := by omega
          have bay : (q : Int) < (d0.size : Int) := by omega
          have ray : IntKind.i64.wrap ((q : Int)) = (q : Int) := by rw [IntKind.wrap_i64]; omega
          obtain ⟨x, hx⟩ : ∃ x, x = dk[q + 1]! := ⟨_, rfl⟩
          obtain ⟨y, hy⟩ : ∃ y, y = dk[q]! := ⟨_, rfl⟩
          obtain ⟨x0, x1, x2, x3, x4, x5, x6, x7, x8, x9, x10, x11, x12, x13⟩ := swk_cells14 (i := q + 1) (unhid HK).drew (unhid HR) (by omega) (by omega) hx
          obtain ⟨y0, y1, y2, y3, y4, y5, y6, y7, y8, y9, y10, y11, y12, y13⟩ := swk_cells14 (i := q) (unhid HK).drew (unhid HR) (by omega) (by omega) hy
          obtain ⟨W1, W2, sa, sb, s2⟩ : ∃ W1 W2, Sem.run Tryz.prog (storeCells ⟨blk, off + (q + 1) * 14, none⟩ (rcC y) 0) wr.drew = .ok () W1 ∧ Sem.run Tryz.prog (storeCells ⟨blk, off + (q) * 14, none⟩ (rcC x) 0) W1 = .ok () W2 ∧ SWK rcC 14 w0 blk off (swp dk (q + 1) (q)) W2 := by
            refine ⟨_, _, (unhid HK).st1 (unhid HR) (by omega) Tryz.prog (q + 1) (by omega) y, (unhid HK).st2 (unhid HR) (by omega) Tryz.prog (q + 1) (q) (by omega) (by omega) y x, ?_⟩
            rw [hx, hy]
            exact (unhid HK).swapped (unhid HR) (q + 1) (q) (by omega) (by omega)
          have S2 := hid s2
          clear s2
          clear HK hx hy
          go_wp2_with fail
          refine wp_region_noPanic ?_
          refine wp_region_E (S := fun _ => True) 17 18 rfl (by kernel_rfl) (by kernel_rfl) trivial ?_
          intro hSE
          generalize wr.drew = Wd at *
          (refine WE_take (i := 0) (v := ?_) rfl (by kernel_rfl) (by decide) (by kernel_rfl) (by kernel_rfl) (fun _ _ _ h => h) (by rfl) hSE ?_ ?_; rotate_left; (focus (intro w hSw; (try dsimp only at hSw); go_simp; (try with_reducible rfl))); simp only [Act.put, List.setIfInBounds_toArray, List.set_cons_zero, List.set_cons_succ])
          (refine WE_take (i := 1) (v := ?_) rfl (by kernel_rfl) (by decide) (by kernel_rfl) (by kernel_rfl) (fun _ _ _ h => h) (by rfl) hSE ?_ ?_; rotate_left; (focus (intro w hSw; (try dsimp only at hSw); go_simp; (try with_reducible rfl))); simp only [Act.put, List.setIfInBounds_toArray, List.set_cons_zero, List.set_cons_succ])
          (refine WE_take (i := 2) (v := ?_) rfl (by kernel_rfl) (by decide) (by kernel_rfl) (by kernel_rfl) (fun _ _ _ h => h) (by rfl) hSE ?_ ?_; rotate_left; (focus (intro w hSw; (try dsimp only at hSw); go_simp; (try with_reducible rfl))); simp only [Act.put, List.setIfInBounds_toArray, List.set_cons_zero, List.set_cons_succ])
          (refine WE_take (i := 3) (v := ?_) rfl (by kernel_rfl) (by decide) (by kernel_rfl) (by kernel_rfl) (fun _ _ _ h => h) (by rfl) hSE ?_ ?_; rotate_left; (focus (intro w hSw; (try dsimp only at hSw); go_simp; (try with_reducible rfl))); simp only [Act.put, List.setIfInBounds_toArray, List.set_cons_zero, List.set_cons_succ])
          (refine WE_take (i := 4) (v := ?_) rfl (by kernel_rfl) (by decide) (by kernel_rfl) (by kernel_rfl) (fun _ _ _ h => h) (by rfl) hSE ?_ ?_; rotate_left; (focus (intro w hSw; (try dsimp only at hSw); go_simp; (try with_reducible rfl))); simp only [Act.put, List.setIfInBounds_toArray, List.set_cons_zero, List.set_cons_succ])
          (refine WE_take (i := 5) (v := ?_) rfl (by kernel_rfl) (by decide) (by kernel_rfl) (by kernel_rfl) (fun _ _ _ h => h) (by rfl) hSE ?_ ?_; rotate_left; (focus (intro w hSw; (try dsimp only at hSw); go_simp; (try with_reducible rfl))); simp only [Act.put, List.setIfInBounds_toArray, List.set_cons_zero, List.set_cons_succ])
          (refine WE_take (i := 6) (v := ?_) rfl (by kernel_rfl) (by decide) (by kernel_rfl) (by kernel_rfl) (fun _ _ _ h => h) (by rfl) hSE ?_ ?_; rotate_left; (focus (intro w hSw; (try dsimp only at hSw); go_simp; (try with_reducible rfl))); simp only [Act.put, List.setIfInBounds_toArray, List.set_cons_zero, List.set_cons_succ])
          (refine WE_take (i := 7) (v := ?_) rfl (by kernel_rfl) (by decide) (by kernel_rfl) (by kernel_rfl) (fun _ _ _ h => h) (by rfl) hSE ?_ ?_; rotate_left; (focus (intro w hSw; (try dsimp only at hSw); go_simp; (try with_reducible rfl))); simp only [Act.put, List.setIfInBounds_toArray, List.set_cons_zero, List.set_cons_succ])
          (refine WE_take (i := 8) (v := ?_) rfl (by kernel_rfl) (by decide) (by kernel_rfl) (by kernel_rfl) (fun _ _ _ h => h) (by rfl) hSE ?_ ?_; rotate_left; (focus (intro w hSw; (try dsimp only at hSw); go_simp; (try with_reducible rfl))); simp only [Act.put, List.setIfInBounds_toArray, List.set_cons_zero, List.set_cons_succ])
          (refine WE_take (i := 10) (v := ?_) rfl (by kernel_rfl) (by decide) (by kernel_rfl) (by kernel_rfl) (fun _ _ _ h => h) (by rfl) hSE ?_ ?_; rotate_left; (focus (intro w hSw; (try dsimp only at hSw); go_simp; (try with_reducible rfl))); simp only [Act.put, List.setIfInBounds_toArray, List.set_cons_zero, List.set_cons_succ])
          (refine WE_take (i := 11) (v := ?_) rfl (by kernel_rfl) (by decide) (by kernel_rfl) (by kernel_rfl) (fun _ _ _ h => h) (by rfl) hSE ?_ ?_; rotate_left; (focus (intro w hSw; (try dsimp only at hSw); go_simp; (try with_reducible rfl))); simp only [Act.put, List.setIfInBounds_toArray, List.set_cons_zero, List.set_cons_succ])
          (refine WE_take (i := 12) (v := ?_) rfl (by kernel_rfl) (by decide) (by kernel_rfl) (by kernel_rfl) (fun _ _ _ h => h) (by rfl) hSE ?_ ?_; rotate_left; (focus (intro w hSw; (try dsimp only at hSw); go_simp; (try with_reducible rfl))); simp only [Act.put, List.setIfInBounds_toArray, List.set_cons_zero, List.set_cons_succ])
          refine WE_two (i := 9) (j := 13) rfl rfl (by decide) (by decide) (by kernel_rfl) ?_ ?_
          · intro K hK
            go_simp
            refine hK.out _ _ trivial ?_
            clear hSE hK K
            intro hSE
            (try simp only [Act.put, List.setIfInBounds_toArray, List.set_cons_zero, List.set_cons_succ])
            (refine WE_one (i := 13) rfl (by decide) (by kernel_rfl) ?_; intro K hK)
            go_simp
            refine hK.out _ _ trivial ?_
            clear hSE hK K
            intro hSE
            (try simp only [Act.put, List.setIfInBounds_toArray, List.set_cons_zero, List.set_cons_succ])
            (refine WE_one (i := 14) rfl (by decide) (by kernel_rfl) ?_; intro K hK)
            go_simp
            refine hK.out _ _ trivial ?_
            clear hSE hK K
            intro hSE
            (try simp only [Act.put, List.setIfInBounds_toArray, List.set_cons_zero, List.set_cons_succ])
            (refine WE_one (i := 15) rfl (by decide) (by kernel_rfl) ?_; intro K hK)
            rw [if_pos (by rfl)]
            refine wp_store_mid 82 (.tmp 127) (.tmp 122) rfl ⟨blk, off + (q + 1) * 14, none⟩ (rcA y) _ rfl rfl (rc_size y) sa ?_
            refine hK.out _ _ trivial ?_
            clear hSE hK K
            intro hSE
            (try simp only [Act.put, List.setIfInBounds_toArray, List.set_cons_zero, List.set_cons_succ])
            (refine WE_one (i := 16) rfl (by decide) (by kernel_rfl) ?_; intro K hK)
            go_simp
            refine hK.out _ _ trivial ?_
            clear hSE hK K
            intro hSE
            (try simp only [Act.put, List.setIfInBounds_toArray, List.set_cons_zero, List.set_cons_succ])
            refine WE_last rfl (by kernel_rfl) (by kernel_rfl) (by kernel_rfl) ?_
            intro K hK
            rw [if_pos (by rfl)]
            refine wp_store_mid 82 (.tmp 128) (.tmp 126) rfl ⟨blk, off + (q) * 14, none⟩ (rcA x) _ rfl rfl (rc_size x) sb ?_
            refine hK.out _ _ (NoPanic.normal ?_)
            clear hK K
            clear hSE sa sb x0 x1 x2 x3 x4 x5 x6 x7 x8 x9 x10 x11 x12 x13 y0 y1 y2 y3 y4 y5 y6 y7 y8 y9 y10 y11 y12 y13
            go_wp2_with fail
            go_roundw
            case rel => exact ⟨q, _, by first | rfl | go_num, by omega, by omega, unhid HN, unhid S2⟩
            case measure => simp [intOf]; try omega
          · intro K hK
            go_simp
            refine hK.out _ _ trivial ?_
            clear hSE hK K
            intro hSE
            (try simp only [Act.put, List.setIfInBounds_toArray, List.set_cons_zero, List.set_cons_succ])
            (refine WE_one (i := 9) rfl (by decide) (by kernel_rfl) ?_; intro K hK)
            go_simp
            refine hK.out _ _ trivial ?_
            clear hSE hK K
            intro hSE
            (try simp only [Act.put, List.setIfInBounds_toArray, List.set_cons_zero, List.set_cons_succ])
            (refine WE_one (i := 14) rfl (by decide) (by kernel_rfl) ?_; intro K hK)
            go_simp
            refine hK.out _ _ trivial ?_
            clear hSE hK K
            intro hSE
            (try simp only [Act.put, List.setIfInBounds_toArray, List.set_cons_zero, List.set_cons_succ])
            (refine WE_one (i := 15) rfl (by decide) (by kernel_rfl) ?_; intro K hK)
            rw [if_pos (by rfl)]
            refine wp_store_mid 82 (.tmp 127) (.tmp 122) rfl ⟨blk, off + (q + 1) * 14, none⟩ (rcA y) _ rfl rfl (rc_size y) sa ?_
            refine hK.out _ _ trivial ?_
            clear hSE hK K
            intro hSE
            (try simp only [Act.put, List.setIfInBounds_toArray, List.set_cons_zero, List.set_cons_succ])
            (refine WE_one (i := 16) rfl (by decide) (by kernel_rfl) ?_; intro K hK)
            go_simp
            refine hK.out _ _ trivial ?_
            clear hSE hK K
            intro hSE
            (try simp only [Act.put, List.setIfInBounds_toArray, List.set_cons_zero, List.set_cons_succ])
            refine WE_last rfl (by kernel_rfl) (by kernel_rfl) (by kernel_rfl) ?_
            intro K hK
            rw [if_pos (by rfl)]
            refine wp_store_mid 82 (.tmp 128) (.tmp 126) rfl ⟨blk, off + (q) * 14, none⟩ (rcA x) _ rfl rfl (rc_size x) sb ?_
            refine hK.out _ _ (NoPanic.normal ?_)
            clear hK K
            clear hSE sa sb x0 x1 x2 x3 x4 x5 x6 x7 x8 x9 x10 x11 x12 x13 y0 y1 y2 y3 y4 y5 y6 y7 y8 y9 y10 y11 y12 y13
            go_wp2_with fail
            go_roundw
            case rel => exact ⟨q, _, by first | rfl | go_num, by omega, by omega, unhid HN, unhid S2⟩
            case measure => simp [intOf]; try omega
        · have hkii : ¬ (k : Int) > (i : Int) := by omega
          obtain rfl : i = k := by omega
          have HP := hid (show MgPost w0 blk off Rl a b d (.returned (.tuple #[])) wr from ⟨rfl, dk, by
            have h1 := unhid HIN
            rw [unhid HM] at h1 ⊢
            exact h1.one2 (unhid HCUT) (unhid HROT) (by have := (unhid HSZ).2.1; omega), unhid HK⟩)
          go_wp2_with fail
          go_end0
          exact unhid HP
end

end Go.Proofs.YtegghimjmbgghaaGreat
