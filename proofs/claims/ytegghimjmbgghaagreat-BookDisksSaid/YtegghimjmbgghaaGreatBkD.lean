/-
  The ledger of a book.
-/
import Derived.Test.YtegghimjmbgghaaGreatBkC
import Derived.Test.YtegghimjmbgghaaGreatBkE
set_option linter.unusedSimpArgs false
set_option linter.unusedVariables false
namespace Go.Proofs.YtegghimjmbgghaaGreat
open Go.RowKit

/-! ### Plain: sums and forks along the way -/
def sumU (us : Nat → Int) : Nat := ((List.range 8).map fun t => (1000000 - us t).toNat).sum
theorem sumU_eq (us : Nat → Int) : sumU us = (1000000 - us 0).toNat + ((1000000 - us 1).toNat + ((1000000 - us 2).toNat + ((1000000 - us 3).toNat + ((1000000 - us 4).toNat + ((1000000 - us 5).toNat + ((1000000 - us 6).toNat + (1000000 - us 7).toNat)))))) := by
  simp [sumU, List.range, List.range.loop]
theorem sumU_lt {us : Nat → Int} {t : Nat} (ht : t < 8) (h : us t + 1 ≤ 1000000) : sumU (upS us t) < sumU us := by
  have key : (1000000 - (us t + 1)).toNat + 1 = (1000000 - us t).toNat := by omega
  have other : ∀ s, s ≠ t → upS us t s = us s := fun s hs => if_neg hs
  have same : upS us t t = us t + 1 := if_pos rfl
  rw [sumU_eq, sumU_eq]
  rcases lt8 ht with rfl | rfl | rfl | rfl | rfl | rfl | rfl | rfl
  all_goals (
    rw [same]
    repeat (rw [other _ (by decide)])
    generalize (1000000 - us 0).toNat = a0 at *
    generalize (1000000 - us 1).toNat = a1 at *
    generalize (1000000 - us 2).toNat = a2 at *
    generalize (1000000 - us 3).toNat = a3 at *
    generalize (1000000 - us 4).toNat = a4 at *
    generalize (1000000 - us 5).toNat = a5 at *
    generalize (1000000 - us 6).toNat = a6 at *
    generalize (1000000 - us 7).toNat = a7 at *
    omega)
theorem up_sum {S : List Rc} (hv : ∀ r ∈ S, rcB r = true) {us : Nat → Int} (hu : Up S us) {t : Nat} (ht : t < 8) (hn : Next S us t) : sumU (upS us t) < sumU us := by
  have := (hu.step hn).bound hv ht
  simp only [upS, if_pos] at this
  exact sumU_lt ht this
theorem isFrk_nil (t : Nat) : IsFrk [] t 1000001 := ⟨Int.le_refl _, fun r hr => by simp at hr, fun h => by omega⟩
theorem isFrk_congr {S T : List Rc} {t : Nat} {f : Int} (hm : ∀ r, r ∈ S ↔ r ∈ T) (h : IsFrk S t f) : IsFrk T t f :=
  ⟨h.le, fun r hr q hq => h.all r ((hm r).2 hr) q ((hm q).2 hq), fun hf => by
    obtain ⟨r, hr, q, hq, rest⟩ := h.is hf
    exact ⟨r, (hm r).1 hr, q, (hm q).1 hq, rest⟩⟩
/-- A further record of another tablet, or with a number that is not there. -/
theorem isFrk_no {S : List Rc} {t : Nat} {f : Int} {r : Rc} (h : IsFrk S t f) (hn : r.tb = t → ∀ q ∈ S, q.tb = t → q.num ≠ r.num) : IsFrk (r :: S) t f := by
  refine ⟨h.le, fun a ha b hb e1 e2 e3 hne => ?_, fun hf => ?_⟩
  · rcases List.mem_cons.1 ha with ea | ha2
    · rcases List.mem_cons.1 hb with eb | hb2
      · exact absurd (ea.trans eb.symm) hne
      · subst ea
        exact absurd e3.symm (hn e1 b hb2 e2)
    · rcases List.mem_cons.1 hb with eb | hb2
      · subst eb
        exact absurd e3 (hn e2 a ha2 e1)
      · exact h.all a ha2 b hb2 e1 e2 e3 hne
  · obtain ⟨a, ha, b, hb, rest⟩ := h.is hf
    exact ⟨a, List.mem_cons_of_mem _ ha, b, List.mem_cons_of_mem _ hb, rest⟩
/-- A further record with a number that is there. -/
theorem isFrk_yes {S : List Rc} {t : Nat} {f : Int} {r q : Rc} (h : IsFrk S t f) (hr : r.tb = t) (hb : r.num ≤ 1000000) (hq : q ∈ S) (hqt : q.tb = t) (hqn : q.num = r.num) (hne : r ∉ S) : IsFrk (r :: S) t (min f r.num) := by
  refine ⟨by omega, fun a ha b hb e1 e2 e3 hne => ?_, fun hf => ?_⟩
  · rcases List.mem_cons.1 ha with rfl | ha
    · omega
    · rcases List.mem_cons.1 hb with rfl | hb
      · omega
      · have := h.all a ha b hb e1 e2 e3 hne; omega
  · rcases Int.le_total f r.num with hc | hc
    · obtain ⟨a, ha, b, hb, e1, e2, e3, e4, e5⟩ := h.is (by omega)
      exact ⟨a, List.mem_cons_of_mem _ ha, b, List.mem_cons_of_mem _ hb, e1, e2, by omega, by omega, e5⟩
    · exact ⟨r, List.mem_cons_self, q, List.mem_cons_of_mem _ hq, hr, hqt, by omega, by omega, fun e => hne (e ▸ hq)⟩
theorem numE_nil (t : Nat) : NumE [] t [] := ⟨fun n v h => by simp at h, fun r hr => by simp at hr, Nat.le_refl _⟩
theorem numE_congr {S T : List Rc} {t : Nat} {E : List (Int × Value)} (hm : ∀ r, r ∈ S ↔ r ∈ T) (hl : S.length ≤ T.length) (h : NumE S t E) : NumE T t E :=
  ⟨fun n v hn => by obtain ⟨r, h1, h2⟩ := h.is n v hn; exact ⟨r, (hm r).1 h1, h2⟩, fun r hr => h.all r ((hm r).2 hr), Nat.le_trans h.len hl⟩
theorem numE_put {S : List Rc} {t : Nat} {E : List (Int × Value)} (h : NumE S t E) {r : Rc} (ht : r.tb = t) : NumE (r :: S) t (putE E r.num (rcV r)) := by
  refine ⟨fun n v hn => ?_, fun q hq hqt => ?_, ?_⟩
  · unfold putE at hn
    rcases List.mem_append.1 hn with hn | hn
    · obtain ⟨q, h1, h2⟩ := h.is n v (List.mem_filter.1 hn).1
      exact ⟨q, List.mem_cons_of_mem _ h1, h2⟩
    · rw [List.mem_singleton] at hn
      cases hn
      exact ⟨r, List.mem_cons_self, ht, rfl, rfl⟩
  · rw [keysE_put, List.mem_append, List.mem_singleton]
    by_cases e : q.num = r.num
    · exact .inr e
    · rcases List.mem_cons.1 hq with rfl | hq
      · exact absurd rfl e
      · exact .inl (mem_keysE_del.2 ⟨h.all q hq hqt, e⟩)
  · have h1 := h.len
    have h2 : (putE E r.num (rcV r)).length ≤ E.length + 1 := by
      unfold putE
      rw [List.length_append]
      exact Nat.add_le_add (List.length_filter_le _ _) (Nat.le_refl _)
    simp only [List.length_cons]
    omega
theorem numE_other {S : List Rc} {t : Nat} {E : List (Int × Value)} (h : NumE S t E) {r : Rc} (ht : r.tb ≠ t) : NumE (r :: S) t E :=
  ⟨fun n v hn => by obtain ⟨q, h1, h2⟩ := h.is n v hn; exact ⟨q, List.mem_cons_of_mem _ h1, h2⟩, fun q hq hqt => by
    rcases List.mem_cons.1 hq with rfl | hq
    · exact absurd hqt ht
    · exact h.all q hq hqt, Nat.le_trans h.len (Nat.le_succ _)⟩

/-! ### The first loop -/
theorem lgV_setM (mv : Nat → Option Nat) (fs us : Nat → Int) {t : Nat} (ht : t < 8) (n : Nat) : (lgV mv fs us).setIfInBounds t (.map (some n)) = lgV (fun s => if s = t then some n else mv s) fs us := by
  rcases lt8 ht with rfl | rfl | rfl | rfl | rfl | rfl | rfl | rfl <;> rfl
theorem lgV_setF (mv : Nat → Option Nat) (fs us : Nat → Int) {t : Nat} (ht : t < 8) (n : Int) : (lgV mv fs us).setIfInBounds (8 + t) (.int .i64 n) = lgV mv (updI fs t n) us := by
  rcases lt8 ht with rfl | rfl | rfl | rfl | rfl | rfl | rfl | rfl <;> rfl
theorem lgV_none (mv : Nat → Option Nat) (fs us : Nat → Int) {t : Nat} (ht : t < 8) (h : mv t = none) : (lgV mv fs us)[t]? = some (.map none) := by
  rw [← h]
  rcases lt8 ht with rfl | rfl | rfl | rfl | rfl | rfl | rfl | rfl <;> rfl
theorem lgV_num (mv : Nat → Option Nat) (fs us : Nat → Int) {t : Nat} (ht : t < 8) : (lgV mv fs us)[8 + t]? = some (.int .i64 (fs t)) := by
  rcases lt8 ht with rfl | rfl | rfl | rfl | rfl | rfl | rfl | rfl <;> rfl
/-- A ledger in the making: the maps of the first k tablets are there. -/
structure Lg0 (w : World) (B k : Nat) : Prop where
  b : w.heap[B]? = some (.cells (lgV (fun t => if t < k then some (B + 1 + t) else none) (fun t => if t < k then 1000001 else 0) (fun _ => 0)) 140 (0, 0))
  m : ∀ t, t < k → w.heap[B + 1 + t]? = some (.map #[] 0)
  s : w.heap.size = B + 1 + k
theorem Lg0.step {w : World} {B k : Nat} (h : Lg0 w B k) (hk : k < 8) :
    Lg0 (((w.alloc (.map #[] 0)).setCell ⟨B, k, none⟩ (.map (some (B + 1 + k)))).setCell ⟨B, 8 + k, none⟩ (.int .i64 1000001)) B (k + 1) ∧
    (∀ N, N ≤ B → Below N w (((w.alloc (.map #[] 0)).setCell ⟨B, k, none⟩ (.map (some (B + 1 + k)))).setCell ⟨B, 8 + k, none⟩ (.int .i64 1000001))) := by
  have hB : B < w.heap.size := (Array.getElem?_eq_some_iff.1 h.b).1
  have b1 : (w.alloc (.map #[] 0)).heap[B]? = _ := (below_alloc w _ |>.block B hB).trans h.b
  have n1 := heap_alloc_new w (.map #[] 0)
  rw [h.s] at n1
  have s1 : (w.alloc (.map #[] 0)).heap.size = B + 1 + (k + 1) := by simp [h.s]; omega
  have o1 : ∀ t, t < k → (w.alloc (.map #[] 0)).heap[B + 1 + t]? = some (.map #[] 0) := fun t ht => ((below_alloc w _).block _ (by rw [h.s]; omega)).trans (h.m t ht)
  have hb1 := below_alloc w (.map #[] 0)
  generalize w.alloc (.map #[] 0) = w1 at *
  have b2 := heap_setCell_same _ B k _ _ (.map (some (B + 1 + k))) b1
  have g2 := setCell_grown w1 b1 (i := k) (.map (some (B + 1 + k)))
  have s2 : (w1.setCell ⟨B, k, none⟩ (.map (some (B + 1 + k)))).heap.size = w1.heap.size := by simp [World.setCell]
  generalize w1.setCell ⟨B, k, none⟩ (.map (some (B + 1 + k))) = w2 at *
  rw [lgV_setM _ _ _ hk] at b2
  have b3 := heap_setCell_same _ B (8 + k) _ _ (.int .i64 1000001) b2
  have g3 := setCell_grown w2 b2 (i := 8 + k) (.int .i64 1000001)
  have s3 : (w2.setCell ⟨B, 8 + k, none⟩ (.int .i64 1000001)).heap.size = w2.heap.size := by simp [World.setCell]
  generalize w2.setCell ⟨B, 8 + k, none⟩ (.int .i64 1000001) = w3 at *
  rw [lgV_setF _ _ _ hk] at b3
  refine ⟨⟨?_, fun t ht => ?_, by rw [s3, s2, s1]⟩, fun N hN => ?_⟩
  · rw [b3]
    congr 2
    have e1 : (fun s => if s = k then some (B + 1 + k) else if s < k then some (B + 1 + s) else none) = fun t => if t < k + 1 then some (B + 1 + t) else none := by
      funext s
      by_cases e : s = k
      · subst e; simp
      · by_cases e2 : s < k
        · simp [e, e2, show s < k + 1 by omega]
        · simp [e, e2, show ¬ s < k + 1 by omega]
    have e2 : updI (fun t => if t < k then 1000001 else 0) k 1000001 = fun t => if t < k + 1 then 1000001 else 0 := by
      funext s
      unfold updI
      by_cases e : s = k
      · subst e; simp
      · by_cases e2 : s < k
        · simp [e, e2, show s < k + 1 by omega]
        · simp [e, e2, show ¬ s < k + 1 by omega]
    rw [e1, e2]
  · rw [g3.block _ (by omega) (fun e => by have := Option.some.inj e; omega), g2.block _ (by omega) (fun e => by have := Option.some.inj e; omega)]
    by_cases e : t = k
    · subst e; exact n1
    · exact o1 t (by omega)
  · refine ⟨g3.os.trans (g2.os.trans hb1.os), g3.tape.trans (g2.tape.trans hb1.tape), g3.output.trans (g2.output.trans hb1.output), Nat.le_trans hb1.size (Nat.le_trans g2.size g3.size), fun i hi => ?_⟩
    rw [g3.block i (by omega) (fun e => by have := Option.some.inj e; omega), g2.block i (by omega) (fun e => by have := Option.some.inj e; omega)]
    exact hb1.block i (by omega)


theorem lgC_congr {ms ms' : Nat → Nat} {fs fs' us us' : Nat → Int} (h1 : ∀ t, t < 8 → ms t = ms' t) (h2 : ∀ t, t < 8 → fs t = fs' t) (h3 : ∀ t, t < 8 → us t = us' t) : lgC ms fs us = lgC ms' fs' us' := by
  unfold lgC lgV
  simp only [h1 0 (by omega), h1 1 (by omega), h1 2 (by omega), h1 3 (by omega), h1 4 (by omega), h1 5 (by omega), h1 6 (by omega), h1 7 (by omega), h2 0 (by omega), h2 1 (by omega), h2 2 (by omega), h2 3 (by omega), h2 4 (by omega), h2 5 (by omega), h2 6 (by omega), h2 7 (by omega), h3 0 (by omega), h3 1 (by omega), h3 2 (by omega), h3 3 (by omega), h3 4 (by omega), h3 5 (by omega), h3 6 (by omega), h3 7 (by omega)]
theorem LgAt.congr {w : World} {B : Nat} {S T : List Rc} {ms : Nat → Nat} {fs fs' us : Nat → Int} (h : LgAt w B S ms fs us) (hm : ∀ r, r ∈ S ↔ r ∈ T) (hl : S.length ≤ T.length) (hf : ∀ t, t < 8 → fs t = fs' t) : LgAt w B T ms fs' us :=
  ⟨by rw [h.b, lgC_congr (fun _ _ => rfl) hf (fun _ _ => rfl)], fun t ht => by obtain ⟨E, h1, h2⟩ := h.m t ht; exact ⟨E, h1, numE_congr hm hl h2⟩⟩
theorem gmap_empty {w : World} {m : Nat} (h : w.heap[m]? = some (.map #[] 0)) : GMap intK w m [] := by
  have hlt : m < w.heap.size := (Array.getElem?_eq_some_iff.1 h).1
  exact ⟨.map [], ⟨#[], 0, h, ⟨by simp, MapKept.stamped_empty 0, by simp⟩, Nat.le_refl _, rfl⟩, List.nodup_nil, fun p hp => by simp at hp, rfl, fun a _ => by simp [Maps.has, keysE], fun p hp => by simp at hp⟩
theorem lg0_end {w : World} {L : Nat} (h : Lg0 w L 8) : LgAt w L [] (fun t => L + 1 + t) (fun _ => 1000001) (fun _ => 0) := by
  refine ⟨?_, fun t ht => ⟨[], gmap_empty (h.m t ht), numE_nil t⟩⟩
  rw [h.b]
  rfl

theorem rc_size (r : Rc) : (Tryz.prog.info? 82).map (·.size) = some (rcA r).size := by
  show _ = some 14
  kernel_rfl
theorem rc_one (r : Rc) : (rcA r).all (·.oneCell') = true := by
  unfold rcA
  simp [Value.oneCell']

theorem fork_yes {Dn : List Rc} {fs : Nat → Int} {x q : Rc} {T0 : Nat} (hF : ∀ t, t < 8 → IsFrk Dn t (fs t)) (hT : x.tb = T0) (hn : x.num ≤ 1000000) (hq : q ∈ Dn) (hqt : q.tb = T0) (hqn : q.num = x.num) (hx : x ∉ Dn) :
    ∀ t, t < 8 → IsFrk (x :: Dn) t (updI fs T0 (min (fs T0) x.num) t) := by
  intro t ht
  unfold updI
  by_cases e : t = T0
  · subst e
    rw [if_pos rfl]
    exact isFrk_yes (hF t ht) hT hn hq hqt hqn hx
  · rw [if_neg e]
    exact isFrk_no (hF t ht) (fun h => absurd (h.symm.trans hT) e)
theorem fork_no {Dn : List Rc} {fs : Nat → Int} {x : Rc} {T0 : Nat} (hF : ∀ t, t < 8 → IsFrk Dn t (fs t)) (hT : x.tb = T0) (hno : ∀ q ∈ Dn, q.tb = T0 → q.num ≠ x.num) :
    ∀ t, t < 8 → IsFrk (x :: Dn) t (fs t) := by
  intro t ht
  refine isFrk_no (hF t ht) (fun h q hq hqt => hno q hq ?_)
  rw [hqt, ← hT, h]

theorem dn_step {S Dn : List Rc} {todo : List (Rc × Value)} {x : Rc} (h : ∀ z, z ∈ Dn ↔ z ∈ S ∧ z ∉ keysE todo) (hx : x ∈ S) : ∀ z, z ∈ x :: Dn ↔ z ∈ S ∧ z ∉ keysE (delE todo x) := by
  intro z
  rw [List.mem_cons, h z]
  constructor
  · rintro (rfl | ⟨h1, h2⟩)
    · exact ⟨hx, fun h => (mem_keysE_del.1 h).2 rfl⟩
    · exact ⟨h1, fun h => h2 (mem_keysE_del.1 h).1⟩
  · rintro ⟨h1, h2⟩
    by_cases e : z = x
    · exact .inl e
    · exact .inr ⟨h1, fun h => h2 (mem_keysE_del.2 ⟨h, e⟩)⟩

theorem rc_ne_lg {w : World} {A L : Nat} {x : Rc} {S : List Rc} {ms : Nat → Nat} {fs us : Nat → Int} (h : RcAt w A x) (hl : LgAt w L S ms fs us) : A ≠ L := by
  intro e
  have h1 := h
  unfold RcAt at h1
  rw [e, hl.b] at h1
  injection h1 with h1
  injection h1 with h2 h3
  cases h3

/-! ### The second loop -/
/-- The ledger of the records that have come; the book stays. -/
structure Cur (w0 : World) (B : Nat) (w : World) (L m r : Nat) (S : List Rc) (todo : List (Rc × Value)) (Dn : List Rc) (ms : Nat → Nat) (fs : Nat → Int) : Prop where
  rng : GRng recK w m r (setE S) todo
  lg : LgAt w L Dn ms fs (fun _ => 0)
  sep : ∀ t, t < 8 → w0.heap.size ≤ ms t ∧ ∀ s, s < 8 → s ≠ t → ms s ≠ ms t
  bk : BkAt w B m S
  bl : Below w0.heap.size w0 w
  lo : B < w0.heap.size ∧ m < w0.heap.size ∧ w0.heap.size ≤ L ∧ w0.heap.size ≤ r
section
variable {w0 w w' : World} {B L m r : Nat} {S : List Rc} {todo : List (Rc × Value)} {Dn : List Rc} {ms : Nat → Nat} {fs : Nat → Int}
theorem Cur.below (h : Cur w0 B w L m r S todo Dn ms fs) (hb : Below w.heap.size w w') : Cur w0 B w' L m r S todo Dn ms fs :=
  ⟨h.rng.below hb h.rng.map.lt h.rng.lt, h.lg.below hb, h.sep, h.bk.below' hb, h.bl.trans (hb.mono h.bl.size), h.lo⟩
theorem Cur.left_below (h : Cur w0 B w L m r S todo Dn ms fs) (hb : Below w.heap.size w w') : w'.rangeLeft m r = w.rangeLeft m r := GRng.left_kept (hb.block m h.rng.map.lt) (hb.block r h.rng.lt)
theorem Cur.rL (h : Cur w0 B w L m r S todo Dn ms fs) : r ≠ L := by
  obtain ⟨D, left, cnt, ⟨es, clock, since, seen, c0, q1, q2, q3, q4, q5, q6⟩, _⟩ := h.rng
  intro e
  rw [e, h.lg.b] at q5
  cases q5
theorem Cur.rM (h : Cur w0 B w L m r S todo Dn ms fs) {t : Nat} (ht : t < 8) : r ≠ ms t := by
  obtain ⟨D, left, cnt, ⟨es, clock, since, seen, c0, q1, q2, q3, q4, q5, q6⟩, _⟩ := h.rng
  obtain ⟨E, h1, _⟩ := h.lg.m t ht
  obtain ⟨es, c, hm⟩ := h1.isMap
  intro e
  rw [e, hm] at q5
  cases q5
theorem Cur.setF (h : Cur w0 B w L m r S todo Dn ms fs) {t : Nat} (ht : t < 8) (n : Int) : Cur w0 B (w.setCell ⟨L, 8 + t, none⟩ (.int .i64 n)) L m r S todo Dn ms (updI fs t n) ∧ (w.setCell ⟨L, 8 + t, none⟩ (.int .i64 n)).rangeLeft m r = w.rangeLeft m r := by
  have hg := setCell_grown w h.lg.b (i := 8 + t) (.int .i64 n)
  have hb := heap_setCell_same _ L (8 + t) _ _ (.int .i64 n) h.lg.b
  rw [lg_setF ms fs _ ht n] at hb
  have hl := h.lo
  have hrL := h.rL
  have hmL : m ≠ L := by omega
  refine ⟨⟨h.rng.grown hg (fun e => hmL (Option.some.inj e)) (fun e => hrL (Option.some.inj e)), ⟨hb, fun s hs => ?_⟩, h.sep, h.bk.grown hg (fun e => by have := Option.some.inj e; omega) (fun e => hmL (Option.some.inj e)), ?_, hl⟩, ?_⟩
  · obtain ⟨E, h1, h2⟩ := h.lg.m s hs
    exact ⟨E, h1.grown hg (fun e => h.lg.mne hs (Option.some.inj e)), h2⟩
  · exact h.bl.grown hg h.bl.size (fun j hj => by cases hj; exact hl.2.2.1)
  · exact GRng.left_kept (hg.block m h.rng.map.lt (fun e => hmL (Option.some.inj e))) (hg.block r h.rng.lt (fun e => hrL (Option.some.inj e)))
theorem Cur.put (h : Cur w0 B w L m r S todo Dn ms fs) {x : Rc} (hx : x.tb < 8) {E : List (Int × Value)} (hE : NumE Dn x.tb E) (hm : GMap intK w' (ms x.tb) (putE E x.num (rcV x))) (hg : w.grownBy w' (some (ms x.tb))) :
    Cur w0 B w' L m r S todo (x :: Dn) ms fs ∧ w'.rangeLeft m r = w.rangeLeft m r := by
  have hl := h.lo
  have hrM := h.rM hx
  have hms := (h.sep x.tb hx).1
  have hmM : m ≠ ms x.tb := by omega
  refine ⟨⟨h.rng.grown hg (fun e => hmM (Option.some.inj e)) (fun e => hrM (Option.some.inj e)), ⟨?_, fun s hs => ?_⟩, h.sep, h.bk.grown hg (fun e => by have := Option.some.inj e; omega) (fun e => hmM (Option.some.inj e)), ?_, hl⟩, ?_⟩
  · rw [hg.block L h.lg.lt (fun e => h.lg.mne hx (Option.some.inj e).symm)]
    exact h.lg.b
  · by_cases e : s = x.tb
    · subst e
      exact ⟨_, hm, numE_put hE rfl⟩
    · obtain ⟨E2, h1, h2⟩ := h.lg.m s hs
      exact ⟨E2, h1.grown hg (fun e2 => (h.sep x.tb hx).2 s hs e (Option.some.inj e2)), numE_other h2 (fun e2 => e e2.symm)⟩
  · exact h.bl.grown hg h.bl.size (fun j hj => by cases hj; exact hms)
  · exact GRng.left_kept (hg.block m h.rng.map.lt (fun e => hmM (Option.some.inj e))) (hg.block r h.rng.lt (fun e => hrM (Option.some.inj e)))
end
/-- The next record has come. -/
theorem Cur.next {w0 w w' : World} {B L m r : Nat} {S : List Rc} {todo todo' : List (Rc × Value)} {Dn : List Rc} {ms : Nat → Nat} {fs : Nat → Int} (h : Cur w0 B w L m r S todo Dn ms fs) (hr : GRng recK w' m r (setE S) todo') (hg : w.grownBy w' (some r)) : Cur w0 B w' L m r S todo' Dn ms fs := by
  have hl := h.lo
  refine ⟨hr, ⟨?_, fun s hs => ?_⟩, h.sep, h.bk.grown hg (fun e => by have := Option.some.inj e; omega) (fun e => by have := Option.some.inj e; omega), ?_, hl⟩
  · rw [hg.block L h.lg.lt (fun e => h.rL (Option.some.inj e).symm)]
    exact h.lg.b
  · obtain ⟨E, h1, h2⟩ := h.lg.m s hs
    exact ⟨E, h1.grown hg (fun e => h.rM hs (Option.some.inj e).symm), h2⟩
  · exact h.bl.grown hg h.bl.size (fun j hj => by cases hj; exact hl.2.2.2)
theorem setE_mem {S : List Rc} {x : Rc} {v : Value} (h : (x, v) ∈ setE S) : x ∈ S ∧ v = .bool true := by
  unfold setE at h
  obtain ⟨q, hq, e⟩ := List.mem_map.1 h
  cases e
  exact ⟨hq, rfl⟩
theorem num_look_all {w : World} {m t : Nat} {S : List Rc} {E : List (Int × Value)} (h : GMap intK w m E) (hE : NumE S t E) {n : Int} (hn : I64 n) :
    ∃ r b, (∀ w', Below w.heap.size w w' → (Instr.lookup 137 (.map (some m)) (.int .i64 n) true).run Tryz.prog w' = .ok (.tuple #[.agg #[.int .i64 r.tab, .int .i64 r.num, .int .i64 r.hour, .int .i64 r.sign, .int .i64 r.fld, .int .i64 r.val, .int .i64 r.s0, .int .i64 r.s1, .int .i64 r.s2, .int .i64 r.s3, .int .i64 r.s4, .int .i64 r.s5, .int .i64 r.s6, .int .i64 r.s7], .bool b]) w') ∧
      ((b = true ∧ r ∈ S ∧ r.tb = t ∧ r.num = n) ∨ (b = false ∧ ∀ q ∈ S, q.tb = t → q.num ≠ n)) := by
  rcases num_get hE n with ⟨h1, h2⟩ | ⟨r, h1, h2, h3, h4⟩
  · refine ⟨rc0, false, fun w' hb => ?_, .inr ⟨rfl, h2⟩⟩
    have hl := GMap.look (h.below hb h.lt) true Tryz.underlying137 (zero_rc w') (a := n) hn
    rw [h1] at hl
    exact hl
  · refine ⟨r, true, fun w' hb => ?_, .inl ⟨rfl, h1, h2, h3⟩⟩
    have hl := GMap.look (h.below hb h.lt) true Tryz.underlying137 (zero_rc w') (a := n) hn
    rw [h4] at hl
    exact hl
def Lg2 (w0 : World) (B : Nat) (w : World) (L m r : Nat) (S : List Rc) : Prop :=
  ∃ (todo : List (Rc × Value)) (Dn : List Rc) (ms : Nat → Nat) (fs : Nat → Int), Cur w0 B w L m r S todo Dn ms fs ∧ (∀ x, x ∈ Dn ↔ x ∈ S ∧ x ∉ keysE todo) ∧ (∀ t, t < 8 → IsFrk Dn t (fs t)) ∧ Dn.length + todo.length = S.length
theorem lg2_start {w0 w : World} {B L m r : Nat} {S : List Rc} (hI : LgAt w L [] (fun t => L + 1 + t) (fun _ => 1000001) (fun _ => 0)) (hr : GRng recK w m r (setE S) (setE S)) (hk : BkAt w B m S) (hb : Below w0.heap.size w0 w)
    (lo : B < w0.heap.size ∧ m < w0.heap.size ∧ w0.heap.size ≤ L ∧ w0.heap.size ≤ r) : Lg2 w0 B w L m r S :=
  ⟨setE S, [], fun t => L + 1 + t, fun _ => 1000001, ⟨hr, hI, fun t ht => ⟨by omega, fun s hs hne => by omega⟩, hk, hb, lo⟩, fun x => by rw [keysE_setE]; simp, fun t _ => isFrk_nil t, by simp [setE]⟩

/-! ### The third loop -/
/-- How far the numbers can still grow, read off the memory. -/
def upW (w : World) (L : Nat) : Nat :=
  match w.heap[L]? with
  | some (.cells cs _ _) => sumU fun t => match cs[16 + t]? with | some (.int _ n) => n | _ => 0
  | _ => 0
theorem LgAt.upW {w : World} {B : Nat} {S : List Rc} {ms : Nat → Nat} {fs us : Nat → Int} (h : LgAt w B S ms fs us) : upW w B = sumU us := by
  unfold Go.Proofs.YtegghimjmbgghaaGreat.upW
  rw [h.b]
  simp only
  rw [sumU_eq, sumU_eq]
  rfl
def bOne : Value → Nat
  | .bool true => 1
  | _ => 0
/-- Along a pass: whether something grew, and what of the first k tablets is known if not. -/
structure Pas (S : List Rc) (us0 us : Nat → Int) (b : Bool) (k : Nat) : Prop where
  no : b = false → us = us0 ∧ ∀ t, t < k → ¬ Next S us0 t
  yes : b = true → sumU us < sumU us0
theorem Pas.start {S : List Rc} {us0 : Nat → Int} : Pas S us0 us0 false 0 := ⟨fun _ => ⟨rfl, fun t h => by omega⟩, fun h => Bool.noConfusion h⟩
theorem Pas.next {S : List Rc} {us0 us : Nat → Int} {b : Bool} {k : Nat} (h : Pas S us0 us b k) (hn : ¬ Next S us k) : Pas S us0 us b (k + 1) :=
  ⟨fun hb => ⟨(h.no hb).1, fun t ht => by
    by_cases e : t = k
    · subst e; rw [← (h.no hb).1]; exact hn
    · exact (h.no hb).2 t (by omega)⟩, h.yes⟩
theorem Pas.grow {S : List Rc} {us0 us us' : Nat → Int} {b : Bool} {k : Nat} (h : Pas S us0 us b k) (hs : sumU us' < sumU us) : Pas S us0 us' true k :=
  ⟨fun hb => Bool.noConfusion hb, fun _ => by
    cases b with
    | false => rw [← (h.no rfl).1]; exact hs
    | true => exact Nat.lt_trans hs (h.yes rfl)⟩
theorem Pas.shut {S : List Rc} {us0 us : Nat → Int} {b : Bool} (h : Pas S us0 us b 8) (hb : b = false) : Shut S us := by
  have := h.no hb
  rw [this.1]
  exact this.2

/-- What stays while the ledger is made: the book. -/
theorem lg2_end {w0 w : World} {B L m r : Nat} {S Dn : List Rc} {ms : Nat → Nat} {fs : Nat → Int} (hv : ∀ r ∈ S, rcB r = true) (h : Cur w0 B w L m r S [] Dn ms fs) (hd : ∀ x, x ∈ Dn ↔ x ∈ S ∧ x ∉ keysE ([] : List (Rc × Value))) (hf : ∀ t, t < 8 → IsFrk Dn t (fs t)) (hl : Dn.length + ([] : List (Rc × Value)).length = S.length) :
    LgAt w L S ms (frk S) (fun _ => 0) := by
  have hm : ∀ x, x ∈ Dn ↔ x ∈ S := fun x => by rw [hd x]; simp [keysE]
  exact h.lg.congr hm (by simp at hl; omega) (fun t ht => (isFrk_congr hm (hf t ht)).eq (frk_is hv t))
def LgPost (w : World) (S : List Rc) (e : Ending) (w' : World) : Prop := ∃ (LB : Nat) (ms : Nat → Nat) (us : Nat → Int), e = .returned (.pointer (some ⟨LB, 0, none⟩)) ∧ LgAt w' LB S ms (frk S) us ∧ Up S us ∧ Shut S us ∧ Below w.heap.size w w'

set_option maxHeartbeats 4000000 in
set_option maxRecDepth 100000 in
theorem ledger_calls {B m : Nat} {S : List Rc} (w : World) (h : BkAt w B m S) (hn : S.length ≤ 1000000) :
    Calls Tryz.prog 87 #[.pointer (some ⟨B, 0, none⟩)] w fun e w' => LgPost w S e w' := by
  have hmm := @run_makeMap Tryz.prog
  have HK := hid h
  have HLO := hid h.lt
  have HSN := hid hn
  have HV := hid h.v
  have h0 : Lg0 (w.alloc (.cells (lgV (fun _ => none) (fun _ => 0) (fun _ => 0)) 140)) w.heap.size 0 := ⟨heap_alloc_new w _, fun t ht => by omega, by simp⟩
  have hb0 := below_alloc w (.cells (lgV (fun _ => none) (fun _ => 0) (fun _ => 0)) 140)
  have H0 := hid h0
  have HB := hid hb0
  clear h h0 hb0
  go_enter Tryz.func87, Tryz.ntmps87
  go_upto_region 2 with (fail)
  change Code.wp _ _ _ _ (w.alloc (.cells (lgV (fun _ => none) (fun _ => 0) (fun _ => 0)) 140))
  generalize w.alloc (.cells (lgV (fun _ => none) (fun _ => 0) (fun _ => 0)) 140) = W at *
  obtain ⟨L, hL⟩ : ∃ L, L = w.heap.size := ⟨_, rfl⟩
  rw [← hL] at H0 ⊢
  have HL := hid hL
  clear hL
  go_upto_region 3 with (fail)
  go_loopw [13] (fun iv wr => ∃ k : Nat, k ≤ 8 ∧ iv = .int .i64 k ∧ Lg0 wr L k ∧ Below L W wr) (fun iv _ => 8 - (intOf iv).toNat)
  case atStart => exact ⟨0, Nat.zero_le _, rfl, unhid H0, Below.refl _ _⟩
  case round =>
    obtain ⟨k, hk, rfl, hg, hbw⟩ := hrel
    have HG := hid hg
    have HBW := hid hbw
    clear hg hbw
    by_cases hlt : k < 8
    · have hki : (k : Int) < 8 := by omega
      have hst := (unhid HG).step hlt
      have HS := hid hst
      clear hst
      have hws := (unhid HG).s
      have q2 : L < wr.heap.size := (Array.getElem?_eq_some_iff.1 (unhid HG).b).1
      have qa : (wr.alloc (.map #[] 0)).heap[L]? = _ := ((below_alloc wr (.map #[] 0)).block L q2).trans (unhid HG).b
      have q0 : (wr.alloc (.map #[] 0)).cell? ⟨L, k, none⟩ = some (.map none) := (cell_of_row _ L k _ _ _ qa).trans (lgV_none _ _ _ hlt (by simp))
      have q1 : (wr.alloc (.map #[] 0)).frozen? ⟨L, k, none⟩ = false := by simp only [World.frozen?, qa]; rfl
      clear qa
      go_upto_region 6 with (fail)
      change Code.wp _ _ _ _ ((wr.alloc (.map #[] 0)).setCell ⟨L, k, none⟩ (.map (some (L + 1 + k))))
      have hb2 : ((wr.alloc (.map #[] 0)).setCell ⟨L, k, none⟩ (.map (some (L + 1 + k)))).heap[L]? = _ := heap_setCell_same _ L k _ _ _ (((below_alloc wr (.map #[] 0)).block L q2).trans (unhid HG).b)
      rw [lgV_setM _ _ _ hlt] at hb2
      have q3 : ((wr.alloc (.map #[] 0)).setCell ⟨L, k, none⟩ (.map (some (L + 1 + k)))).cell? ⟨L, 8 + k, none⟩ = some (.int .i64 _) := (cell_of_row _ L (8 + k) _ _ _ hb2).trans (lgV_num _ _ _ hlt)
      have q4 : ((wr.alloc (.map #[] 0)).setCell ⟨L, k, none⟩ (.map (some (L + 1 + k)))).frozen? ⟨L, 8 + k, none⟩ = false := by simp only [World.frozen?, hb2]; rfl
      clear hb2 q0 q1 q2
      generalize (wr.alloc (.map #[] 0)).setCell ⟨L, k, none⟩ (.map (some (L + 1 + k))) = w2 at *
      clear hws
      go_wp2_with fail
      go_roundw
      case rel => exact ⟨k + 1, by omega, by go_num, (unhid HS).1, (unhid HBW).trans ((unhid HS).2 _ (Nat.le_refl _))⟩
      case measure => simp [intOf]; omega
    · obtain rfl : k = 8 := by omega
      rw [show (((8 : Nat)) : Int) = 8 from rfl]
      have HI := hid (lg0_end (unhid HG))
      have HK := hid ((unhid HK).below' ((unhid HB).trans ((unhid HBW).mono (by rw [unhid HL]; exact Nat.le_refl _))))
      have cb := (unhid HK).cell
      have HWW := hid ((unhid HB).trans ((unhid HBW).mono (by rw [unhid HL]; exact Nat.le_refl _)))
      have hLw := (unhid HI).lt
      go_wp2_with (first | (at_range; refine wpList_grange rfl _ 83 rfl 4 Tryz.underlying83 rfl (unhid HK).m ?_; intro w0 hr0 hg0 hs0) | go_in)
      go_frame
      have hb0 := below_of_grown hg0
      have HI := hid ((unhid HI).below hb0)
      have HK := hid ((unhid HK).below' hb0)
      have HWW := hid ((unhid HWW).trans (hb0.mono (unhid HWW).size))
      obtain ⟨r, hr⟩ : ∃ r, r = wr.heap.size := ⟨_, rfl⟩
      rw [← hr] at hr0 ⊢
      have HR := hid (lg2_start (unhid HI) hr0 (unhid HK) (unhid HWW) ⟨(unhid HLO).1, (unhid HLO).2, by rw [unhid HL]; exact Nat.le_refl _, by rw [hr]; exact Nat.le_trans (unhid HB).size (unhid HBW).size⟩)
      clear hg0 hs0 hb0 cb hr0 hr hLw HI HWW HK HG H0
      go_loopw [33] (fun _ wr => Lg2 w B wr L m r S) (fun _ wr => wr.rangeLeft m r)
      case atStart => exact unhid HR
      case round =>
        obtain ⟨todo, Dn, ms, fs, hcur, hdn, hfk, hln⟩ := hrel
        have HLN := hid hln
        have HC := hid hcur
        have HD := hid hdn
        have HF := hid hfk
        clear hcur hdn hfk hln
        go_wp2_with (first | (at_next; refine wpList_gnext rfl _ rfl rfl (unhid HC).rng ?_ ?_) | go_in)
        · intro hnil
          subst hnil
          have HI := hid (lg2_end (unhid HV) (unhid HC) (unhid HD) (unhid HF) (unhid HLN))
          have HB0 := hid (unhid HC).bl
          have HLL := hid (unhid HC).lo.2.2.1
          clear HC HD HF HLN HR HB HLO HBW
          go_upto_region 17 with (fail)
          go_loopw [9] (fun bv wr => ∃ (b : Bool) (us : Nat → Int), bv = .bool b ∧ LgAt wr L S ms (frk S) us ∧ Up S us ∧ (b = false → Shut S us) ∧ Below w.heap.size w wr) (fun bv wr => 2 * upW wr L + bOne bv)
          case atStart => exact ⟨true, _, rfl, unhid HI, up_zero S, fun h => Bool.noConfusion h, unhid HB0⟩
          case round =>
            obtain ⟨b, us0, rfl, hlg, hup, hsh, hbw⟩ := hrel
            have HG0 := hid hlg
            have HU0 := hid hup
            have HW0 := hid hbw
            have HM0 := hid (LgAt.upW hlg)
            cases b with
            | false =>
              have HSH := hid (hsh rfl)
              clear hlg hup hbw hsh HI HB0
              go_wp2_with fail
              go_ret
              exact ⟨L, ms, us0, rfl, unhid HG0, unhid HU0, unhid HSH, unhid HW0⟩
            | true =>
              clear hlg hup hbw hsh HI HB0
              obtain ⟨wO, hwO⟩ : ∃ wO, wO = wr := ⟨_, rfl⟩
              have HWO := hid hwO
              rw [← hwO] at HG0 HW0 HM0
              go_upto_region 20 with (fail)
              go_loopw [77, 9] (fun iv bv wr => ∃ (k : Nat) (b : Bool) (us : Nat → Int), k ≤ 8 ∧ iv = .int .i64 k ∧ bv = .bool b ∧ LgAt wr L S ms (frk S) us ∧ Up S us ∧ Below w.heap.size w wr ∧ Pas S us0 us b k) (fun iv _ _ => 8 - (intOf iv).toNat)
              case atStart => exact ⟨0, false, us0, Nat.zero_le _, rfl, rfl, by rw [← unhid HWO]; exact unhid HG0, unhid HU0, by rw [← unhid HWO]; exact unhid HW0, .start⟩
              case round =>
                obtain ⟨k, b, us, hk, rfl, rfl, hlg, hup, hbw, hps⟩ := hrel
                have HG1 := hid hlg
                have HU1 := hid hup
                have HW1 := hid hbw
                have HP1 := hid hps
                clear hlg hup hbw hps
                by_cases hlt : k < 8
                · have hki : (k : Int) < 8 := by omega
                  have HKI := hid hki
                  have HLT := hid hlt
                  obtain ⟨wM, hwM⟩ : ∃ wM, wM = wr := ⟨_, rfl⟩
                  have HWM := hid hwM
                  rw [← hwM] at HG1 HW1
                  go_upto_region 22 with (fail)
                  go_loopw [9] (fun bv wr => ∃ (b : Bool) (us : Nat → Int), bv = .bool b ∧ LgAt wr L S ms (frk S) us ∧ Up S us ∧ Below w.heap.size w wr ∧ Pas S us0 us b k) (fun _ wr => upW wr L)
                  case atStart => exact ⟨b, us, rfl, by rw [← unhid HWM]; exact unhid HG1, unhid HU1, by rw [← unhid HWM]; exact unhid HW1, unhid HP1⟩
                  case round =>
                    obtain ⟨b2, us2, rfl, hlg, hup, hbw, hps⟩ := hrel
                    have HG2 := hid hlg
                    have HU2 := hid hup
                    have HW2 := hid hbw
                    have HP2 := hid hps
                    have HM2 := hid (LgAt.upW hlg)
                    clear hlg hup hbw hps
                    go_wp2_with fail
                    refine (grow_calls k (unhid HLT) wr (unhid HV) (unhid HG2) (unhid HU2)).mono ?_
                    rintro e w3 ⟨⟨rfl, hno, hlg⟩ | ⟨rfl, hnx, hlg⟩, hg⟩
                    · have HG3 := hid hlg
                      have HW3 := hid ((unhid HW2).grown hg (unhid HW2).size (fun j hj => by cases hj; exact unhid HLL))
                      have HP3 := hid ((unhid HP2).next hno)
                      clear hlg hg hno
                      go_wp2_with fail
                      go_roundw
                      case rel => exact ⟨k + 1, b2, us2, by have := unhid HLT; omega, by go_num, rfl, unhid HG3, unhid HU2, unhid HW3, unhid HP3⟩
                      case measure => have := unhid HLT; simp [intOf]; omega
                    · have HG3 := hid hlg
                      have HW3 := hid ((unhid HW2).grown hg (unhid HW2).size (fun j hj => by cases hj; exact unhid HLL))
                      have HU3 := hid ((unhid HU2).step hnx)
                      have hsum := up_sum (unhid HV) (unhid HU2) (unhid HLT) hnx
                      have HP3 := hid ((unhid HP2).grow hsum)
                      have HM3 := hid (show upW w3 L < upW wr L by rw [unhid HM2, LgAt.upW hlg]; exact hsum)
                      clear hlg hg hnx hsum
                      go_wp2_with fail
                      go_roundw
                      case rel => exact ⟨true, upS us2 k, rfl, unhid HG3, unhid HU3, unhid HW3, unhid HP3⟩
                      case measure => exact unhid HM3
                · obtain rfl : k = 8 := by omega
                  have HM1 := hid (LgAt.upW (unhid HG1))
                  go_wp2_with fail
                  go_roundw
                  case rel => exact ⟨b, us, rfl, unhid HG1, unhid HU1, fun hb => (unhid HP1).shut hb, unhid HW1⟩
                  case measure =>
                    have h1 := unhid HM1
                    have h0 := unhid HM0
                    have hp := unhid HP1
                    cases b with
                    | false => rw [h1, (hp.no rfl).1, ← h0, ← unhid HWO]; simp [bOne]
                    | true => have h2 := hp.yes rfl; rw [← unhid HWO]; simp only [bOne]; omega
        · intro x xv w1 hx hrg1 hlt1 hg1 hs1 hen1
          obtain ⟨hxS, rfl⟩ := setE_mem ((unhid HC).rng.left.2 _ hx)
          have o := rc_ok ((unhid HV) x hxS)
          have hxk : x ∈ keysE todo := mem_keysE.2 ⟨_, hx⟩
          have hxD : x ∉ Dn := fun h => ((unhid HD x).1 h).2 hxk
          have HX := hid (⟨hxS, hxk, hxD⟩ : _ ∧ _ ∧ _)
          have HLT := hid hlt1
          have HLN := hid (show (x :: Dn).length + (delE todo x).length = S.length by have h1 := len_del (unhid HC).rng.left.1 x; rw [if_pos hxk] at h1; have h2 := unhid HLN; simp only [List.length_cons]; omega)
          have HDN := hid (show ∀ z, z ∈ x :: Dn ↔ z ∈ S ∧ z ∉ keysE (delE todo x) from dn_step (unhid HD) hxS)
          have HC := hid ((unhid HC).next hrg1 hg1)
          have HO := hid o
          obtain ⟨T0, hT⟩ : ∃ T0 : Nat, x.tb = T0 := ⟨_, rfl⟩
          have hT8 : T0 < 8 := by rw [← hT]; exact o.tb.1
          have hTI : x.tab - 1 = (T0 : Int) := by rw [← hT]; exact o.tb.2.symm
          have hTl : (T0 : Int) < 8 := by omega
          have w1w : IntKind.i64.wrap (x.tab - 1) = (T0 : Int) := by rw [hTI]; exact IntWalk.i64_in _ (by omega)
          have HT := hid hT
          change (Instr.entry (.pointer (some ⟨r, 0, none⟩))).run Tryz.prog w1 = .ok (.tuple #[.agg #[.int .i64 x.tab, .int .i64 x.num, .int .i64 x.hour, .int .i64 x.sign, .int .i64 x.fld, .int .i64 x.val, .int .i64 x.s0, .int .i64 x.s1, .int .i64 x.s2, .int .i64 x.s3, .int .i64 x.s4, .int .i64 x.s5, .int .i64 x.s6, .int .i64 x.s7], .bool true]) w1 at hen1
          clear hx hrg1 hg1 hs1 hlt1 hxS hxk hxD o hTI hT
          go_upto_region 11 with (fail)
          change Code.wp _ _ _ _ (w1.alloc (.cells (rcA x) 82))
          have hb1 := below_alloc w1 (.cells (rcA x) 82)
          have HA := hid (RcAt.new w1 x)
          have HLT := hid (show (w1.alloc (.cells (rcA x) 82)).rangeLeft m r < wr.rangeLeft m r by rw [(unhid HC).left_below hb1]; exact unhid HLT)
          have HC := hid ((unhid HC).below hb1)
          clear hen1 hb1
          obtain ⟨A, hA⟩ : ∃ A, A = w1.heap.size := ⟨_, rfl⟩
          rw [← hA] at HA ⊢
          clear hA
          generalize w1.alloc (.cells (rcA x) 82) = W1 at *
          obtain ⟨c0, c1, c2, c3, c4, c5⟩ := (unhid HA).cells
          obtain ⟨E, hE1, hE2⟩ := (unhid HC).lg.m T0 hT8
          obtain ⟨q, b1, hl, hq⟩ := num_look_all hE1 hE2 (n := x.num) (by have := (unhid HO).num; unfold I64; omega)
          have cm := (unhid HC).lg.map hT8
          have HSF := hid (show ∀ w', Below W1.heap.size W1 w' → (w'.cell? ⟨L, T0, none⟩ = some (.map (some (ms T0))) ∧ w'.cell? ⟨A, 1, none⟩ = some (.int .i64 x.num) ∧ (Instr.lookup 137 (.map (some (ms T0))) (.int .i64 x.num) true).run Tryz.prog w' = .ok (.tuple #[.agg #[.int .i64 q.tab, .int .i64 q.num, .int .i64 q.hour, .int .i64 q.sign, .int .i64 q.fld, .int .i64 q.val, .int .i64 q.s0, .int .i64 q.s1, .int .i64 q.s2, .int .i64 q.s3, .int .i64 q.s4, .int .i64 q.s5, .int .i64 q.s6, .int .i64 q.s7], .bool b1]) w') from
            fun w' hb => ⟨((unhid HC).lg.below hb).map hT8, ((unhid HA).below hb (unhid HA).lt).cells.2.1, hl w' hb⟩)
          have HE2 := hid hE2
          have HQ := hid hq
          have HT8 := hid hT8
          clear hl hq hE2 hE1
          go_upto_region 12 with (fail)
          refine wp_region_noPanic ?_
          refine wp_region_E (S := fun w' => (w'.cell? ⟨L, T0, none⟩ = some (.map (some (ms T0))) ∧ w'.cell? ⟨A, 1, none⟩ = some (.int .i64 x.num) ∧ (Instr.lookup 137 (.map (some (ms T0))) (.int .i64 x.num) true).run Tryz.prog w' = .ok (.tuple #[.agg #[.int .i64 q.tab, .int .i64 q.num, .int .i64 q.hour, .int .i64 q.sign, .int .i64 q.fld, .int .i64 q.val, .int .i64 q.s0, .int .i64 q.s1, .int .i64 q.s2, .int .i64 q.s3, .int .i64 q.s4, .int .i64 q.s5, .int .i64 q.s6, .int .i64 q.s7], .bool b1]) w')) 14 15 rfl (by kernel_rfl) (by kernel_rfl) ((unhid HSF) _ (Below.drew (Below.refl _ _))) ?_
          intro hSE
          have hbd : Below W1.heap.size W1 W1.drew := Below.drew (Below.refl _ _)
          have hsd : W1.drew.heap.size = W1.heap.size := rfl
          generalize W1.drew = Wd at *
          (refine WE_take (i := 0) (v := ?_) rfl (by kernel_rfl) (by decide) (by kernel_rfl) (by kernel_rfl) (fun _ _ _ h => h) (by rfl) hSE ?_ ?_; rotate_left; (focus (intro w hSw; (try dsimp only at hSw); go_simp; (try with_reducible rfl))); simp only [Act.put, List.setIfInBounds_toArray, List.set_cons_zero, List.set_cons_succ])
          (refine WE_take (i := 1) (v := ?_) rfl (by kernel_rfl) (by decide) (by kernel_rfl) (by kernel_rfl) (fun _ _ _ h => h) (by rfl) hSE ?_ ?_; rotate_left; (focus (intro w hSw; (try dsimp only at hSw); go_simp; (try with_reducible rfl))); simp only [Act.put, List.setIfInBounds_toArray, List.set_cons_zero, List.set_cons_succ])
          (refine WE_take (i := 2) (v := ?_) rfl (by kernel_rfl) (by decide) (by kernel_rfl) (by kernel_rfl) (fun _ _ _ h => h) (by rfl) hSE ?_ ?_; rotate_left; (focus (intro w hSw; (try dsimp only at hSw); go_simp; (try with_reducible rfl))); simp only [Act.put, List.setIfInBounds_toArray, List.set_cons_zero, List.set_cons_succ])
          (refine WE_take (i := 3) (v := ?_) rfl (by kernel_rfl) (by decide) (by kernel_rfl) (by kernel_rfl) (fun _ _ _ h => h) (by rfl) hSE ?_ ?_; rotate_left; (focus (intro w hSw; (try dsimp only at hSw); go_simp; (try with_reducible rfl))); simp only [Act.put, List.setIfInBounds_toArray, List.set_cons_zero, List.set_cons_succ])
          (refine WE_take (i := 4) (v := ?_) rfl (by kernel_rfl) (by decide) (by kernel_rfl) (by kernel_rfl) (fun _ _ _ h => h) (by rfl) hSE ?_ ?_; rotate_left; (focus (intro w hSw; (try dsimp only at hSw); go_simp; (try with_reducible rfl))); simp only [Act.put, List.setIfInBounds_toArray, List.set_cons_zero, List.set_cons_succ])
          (refine WE_take (i := 5) (v := ?_) rfl (by kernel_rfl) (by decide) (by kernel_rfl) (by kernel_rfl) (fun _ _ _ h => h) (by rfl) hSE ?_ ?_; rotate_left; (focus (intro w hSw; (try dsimp only at hSw); go_simp; (try with_reducible rfl))); simp only [Act.put, List.setIfInBounds_toArray, List.set_cons_zero, List.set_cons_succ])
          (refine WE_take (i := 6) (v := ?_) rfl (by kernel_rfl) (by decide) (by kernel_rfl) (by kernel_rfl) (fun _ _ _ h => h) (by rfl) hSE ?_ ?_; rotate_left; (focus (intro w hSw; (try dsimp only at hSw); go_simp; (try with_reducible rfl))); simp only [Act.put, List.setIfInBounds_toArray, List.set_cons_zero, List.set_cons_succ])
          (refine WE_take (i := 7) (v := ?_) rfl (by kernel_rfl) (by decide) (by kernel_rfl) (by kernel_rfl) (fun _ _ _ h => h) (by rfl) hSE ?_ ?_; rotate_left; (focus (intro w hSw; (try dsimp only at hSw); go_simp; (try with_reducible rfl))); simp only [Act.put, List.setIfInBounds_toArray, List.set_cons_zero, List.set_cons_succ])
          (refine WE_take (i := 8) (v := ?_) rfl (by kernel_rfl) (by decide) (by kernel_rfl) (by kernel_rfl) (fun _ _ _ h => h) (by rfl) hSE ?_ ?_; rotate_left; (focus (intro w hSw; (try dsimp only at hSw); go_simp; (try with_reducible rfl))); simp only [Act.put, List.setIfInBounds_toArray, List.set_cons_zero, List.set_cons_succ])
          (refine WE_take (i := 9) (v := ?_) rfl (by kernel_rfl) (by decide) (by kernel_rfl) (by kernel_rfl) (fun _ _ _ h => h) (by rfl) hSE ?_ ?_; rotate_left; (focus (intro w hSw; (try dsimp only at hSw); go_simp; (try with_reducible rfl))); simp only [Act.put, List.setIfInBounds_toArray, List.set_cons_zero, List.set_cons_succ])
          (refine WE_take (i := 10) (v := ?_) rfl (by kernel_rfl) (by decide) (by kernel_rfl) (by kernel_rfl) (fun _ _ _ h => h) (by rfl) hSE ?_ ?_; rotate_left; (focus (intro w hSw; (try dsimp only at hSw); go_simp; (try with_reducible rfl))); simp only [Act.put, List.setIfInBounds_toArray, List.set_cons_zero, List.set_cons_succ])
          (refine WE_take (i := 11) (v := ?_) rfl (by kernel_rfl) (by decide) (by kernel_rfl) (by kernel_rfl) (fun _ _ _ h => h) (by rfl) hSE ?_ ?_; rotate_left; (focus (intro w hSw; (try dsimp only at hSw); go_simp; (try with_reducible rfl))); simp only [Act.put, List.setIfInBounds_toArray, List.set_cons_zero, List.set_cons_succ])
          (refine WE_one (i := 12) rfl (by decide) (by kernel_rfl) ?_; intro K hK)
          go_simp
          have hba := hbd.alloc (Nat.le_of_eq hsd.symm) (.cells (rcA rc0) 82)
          have hna := heap_alloc_new Wd (.cells (rcA rc0) 82)
          rw [hsd] at hna
          refine hK.out _ _ ((unhid HSF) _ hba) ?_
          clear hSE hK K
          intro hSE
          (try simp only [Act.put, List.setIfInBounds_toArray, List.set_cons_zero, List.set_cons_succ])
          change WE _ _ _ _ _ _ _ _ _ (Wd.alloc (.cells (rcA rc0) 82))
          generalize Wd.alloc (.cells (rcA rc0) 82) = We at *
          clear hbd
          (refine WE_one (i := 13) rfl (by decide) (by kernel_rfl) ?_; intro K hK)
          rw [if_pos (by rfl)]
          refine wp_store_row 82 (.tmp 7) (.tmp 50) rfl W1.heap.size (rcA q) rfl rfl 82 _ hna (rc_size q) rfl (rc_one q) ?_
          have hbb := below_setRow hba (Nat.le_refl _) (rcA q)
          refine hK.out _ _ ((unhid HSF) _ hbb) ?_
          clear hSE hK K
          intro hSE
          (try simp only [Act.put, List.setIfInBounds_toArray, List.set_cons_zero, List.set_cons_succ])
          generalize We.setRow W1.heap.size (rcA q) = w2 at *
          (refine WE_last rfl (by kernel_rfl) (by kernel_rfl) (by kernel_rfl) ?_; intro K hK; go_simp; refine hK.out _ _ (NoPanic.normal ?_); clear hK K)
          have HLT := hid (show w2.rangeLeft m r < wr.rangeLeft m r by rw [(unhid HC).left_below hbb]; exact unhid HLT)
          have HC := hid ((unhid HC).below hbb)
          have HA := hid ((unhid HA).below hbb (unhid HA).lt)
          clear hba hna hbb hSE c0 c1 c2 c3 c4 c5 cm HSF
          obtain ⟨c0, c1, c2, c3, c4, c5⟩ := (unhid HA).cells
          have HC2 := HC
          cases b1 with
          | true =>
            have hq2 : q ∈ Dn ∧ q.tb = T0 ∧ q.num = x.num := (unhid HQ).elim (fun h => h.2) (fun h => by cases h.1)
            have hfb := (unhid HF T0 (unhid HT8)).le
            have cf := (unhid HC).lg.fork (unhid HT8)
            have fz : w2.frozen? ⟨L, 8 + T0, none⟩ = false := by simp only [World.frozen?, (unhid HC).lg.b]; rfl
            obtain ⟨y, hy⟩ : ∃ y, min (fs T0) x.num = y := ⟨_, rfl⟩
            have em : (if x.num < fs T0 then x.num else fs T0) = y := by rw [← hy]; split <;> omega
            have HFK := hid (fork_yes (unhid HF) (unhid HT) (unhid HO).num.2 hq2.1 hq2.2.1 hq2.2.2 (unhid HX).2.2)
            rw [hy] at HFK
            clear hq2 hfb hy
            go_wp2_with fail
            refine wp_region_still_tail 14 (by kernel_rfl) (by kernel_rfl) ?_
            simp only [List.take_succ_cons, List.take_zero, List.drop_succ_cons, List.drop_zero]
            iterate 14 still_step
            refine wpStill_nil ?_
            change wpList _ _ _ _ _ w2.drew
            go_upto_region 15 with (fail)
            change Code.wp _ _ _ _ (w2.drew.setCell ⟨L, 8 + T0, none⟩ (.int .i64 y))
            have hs3 := ((unhid HC).below (Below.drew (Below.refl w2.heap.size w2))).setF (unhid HT8) y
            have HLT := hid (show (w2.drew.setCell ⟨L, 8 + T0, none⟩ (.int .i64 y)).rangeLeft m r < wr.rangeLeft m r by rw [hs3.2]; exact unhid HLT)
            have HC := hid hs3.1
            have HA := hid (show RcAt (w2.drew.setCell ⟨L, 8 + T0, none⟩ (.int .i64 y)) A x from (heap_setCell_other _ _ _ _ (rc_ne_lg (unhid HA) (unhid HC2).lg)).trans (unhid HA))
            clear hs3 cf fz em c0 c1 c2 c3 c4 c5 HC2
            generalize w2.drew.setCell ⟨L, 8 + T0, none⟩ (.int .i64 y) = w3 at *
            have HFK3 := hid (unhid HFK)
            have cm := (unhid HC).lg.map (unhid HT8)
            obtain ⟨c0, c1, c2, c3, c4, c5⟩ := (unhid HA).cells
            obtain ⟨e0, e1, e2, e3, e4, e5, e6, e7⟩ := (unhid HA).seen8
            refine wp_region_still_tail 9 (by kernel_rfl) (by kernel_rfl) ?_
            simp only [List.take_succ_cons, List.take_zero, List.drop_succ_cons, List.drop_zero]
            iterate 9 still_step
            refine wpStill_nil ?_
            change wpList _ _ _ _ _ w3.drew
            clear c0 c1 c2 c3 c4 c5 e0 e1 e2 e3 e4 e5 e6 e7 cm
            have HLT := hid (show w3.drew.rangeLeft m r < wr.rangeLeft m r from unhid HLT)
            have HC := hid ((unhid HC).below (Below.drew (Below.refl _ _)))
            generalize w3.drew = w4 at *
            obtain ⟨E4, hm4, hE4⟩ := (unhid HC).lg.m T0 (unhid HT8)
            have HE4 := hid hE4
            have hl4 : E4.length < maxLen := by have h1 := hE4.len; have h2 := unhid HLN; have h3 := unhid HSN; simp only [List.length_cons] at h2; simp only [maxLen]; omega
            go_wp2_with (at_mapUpdate; refine wpList_gput rfl _ _ _ 137 rfl 82 Tryz.underlying137 rfl hm4 hl4 x.num (by have := (unhid HO).num; show I64 x.num; unfold I64; omega) rfl (rcV x) rfl ?_; intro w5 hm5 hg5; go_frame)
            have hp5 := Cur.put (unhid HC) (x := x) (by rw [unhid HT]; exact unhid HT8) (E := E4) (by rw [unhid HT]; exact unhid HE4) (by rw [unhid HT]; exact hm5) (by rw [unhid HT]; exact hg5)
            have HP5 := hid hp5
            clear hm4 hE4 hl4 hm5 hg5 hp5
            exact ⟨⟨delE todo x, x :: Dn, ms, _, (unhid HP5).1, unhid HDN, unhid HFK3, unhid HLN⟩, by rw [(unhid HP5).2]; exact unhid HLT⟩
          | false =>
            have hq2 : ∀ q ∈ Dn, q.tb = T0 → q.num ≠ x.num := (unhid HQ).elim (fun h => by cases h.1) (fun h => h.2)
            have HFK := hid (fork_no (unhid HF) (unhid HT) hq2)
            clear hq2 c0 c1 c2 c3 c4 c5 HC2
            go_upto_region 15 with (fail)
            obtain ⟨w3, hw3⟩ : ∃ w3, w3 = w2 := ⟨_, rfl⟩
            rw [← hw3] at HC HA HLT ⊢
            clear hw3
            have HFK3 := hid (unhid HFK)
            have cm := (unhid HC).lg.map (unhid HT8)
            obtain ⟨c0, c1, c2, c3, c4, c5⟩ := (unhid HA).cells
            obtain ⟨e0, e1, e2, e3, e4, e5, e6, e7⟩ := (unhid HA).seen8
            refine wp_region_still_tail 9 (by kernel_rfl) (by kernel_rfl) ?_
            simp only [List.take_succ_cons, List.take_zero, List.drop_succ_cons, List.drop_zero]
            iterate 9 still_step
            refine wpStill_nil ?_
            change wpList _ _ _ _ _ w3.drew
            clear c0 c1 c2 c3 c4 c5 e0 e1 e2 e3 e4 e5 e6 e7 cm
            have HLT := hid (show w3.drew.rangeLeft m r < wr.rangeLeft m r from unhid HLT)
            have HC := hid ((unhid HC).below (Below.drew (Below.refl _ _)))
            generalize w3.drew = w4 at *
            obtain ⟨E4, hm4, hE4⟩ := (unhid HC).lg.m T0 (unhid HT8)
            have HE4 := hid hE4
            have hl4 : E4.length < maxLen := by have h1 := hE4.len; have h2 := unhid HLN; have h3 := unhid HSN; simp only [List.length_cons] at h2; simp only [maxLen]; omega
            go_wp2_with (at_mapUpdate; refine wpList_gput rfl _ _ _ 137 rfl 82 Tryz.underlying137 rfl hm4 hl4 x.num (by have := (unhid HO).num; show I64 x.num; unfold I64; omega) rfl (rcV x) rfl ?_; intro w5 hm5 hg5; go_frame)
            have hp5 := Cur.put (unhid HC) (x := x) (by rw [unhid HT]; exact unhid HT8) (E := E4) (by rw [unhid HT]; exact unhid HE4) (by rw [unhid HT]; exact hm5) (by rw [unhid HT]; exact hg5)
            have HP5 := hid hp5
            clear hm4 hE4 hl4 hm5 hg5 hp5
            exact ⟨⟨delE todo x, x :: Dn, ms, _, (unhid HP5).1, unhid HDN, unhid HFK3, unhid HLN⟩, by rw [(unhid HP5).2]; exact unhid HLT⟩

end Go.Proofs.YtegghimjmbgghaaGreat
