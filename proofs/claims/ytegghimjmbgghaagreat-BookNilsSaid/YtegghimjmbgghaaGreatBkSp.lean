/-
  settle of the reference: what stands meanwhile.
-/
import Derived.Test.YtegghimjmbgghaaGreatBkRi
import Derived.Test.YtegghimjmbgghaaGreatBkRf
set_option linter.unusedSimpArgs false
set_option linter.unusedVariables false
namespace Go.Proofs.YtegghimjmbgghaaGreat
open Go.RowKit Go.Shelf

/-! ### Plain -/
theorem count_set_true {C : List Bool} {i : Nat} (hi : i < C.length) (hf : C[i]'hi = false) : (C.set i true).count false < C.count false := by
  induction C generalizing i with
  | nil => simp at hi
  | cons a C ih =>
    cases i with
    | zero =>
      have : a = false := hf
      subst this
      simp
    | succ i =>
      have := ih (i := i) (by simpa using hi) (by simpa using hf)
      simp only [List.set_cons_succ, List.count_cons]
      omega
def okK (L : List Rc) (u : Nat → Int) (r : Rc) (k : Nat) : Bool := (List.range k).all fun t => decide (min (r.sn t) (frk L t - 1) ≤ u t)
theorem okK_succ (L : List Rc) (u : Nat → Int) (r : Rc) (k : Nat) : okK L u r (k + 1) = (okK L u r k && decide (min (r.sn k) (frk L k - 1) ≤ u k)) := by
  simp [okK, List.range_succ, List.all_append]
theorem okR_eq (L : List Rc) (u : Nat → Int) (r : Rc) : okR L u r = (decide (r.num < frk L r.tb) && okK L u r 8) := rfl
theorem frk0_pos {L : List Rc} (hv : ∀ r ∈ L, rcB r = true) (t : Nat) : 0 ≤ frk0 L t ∧ frk0 L t ≤ 1000000 := by
  have := frk_pos hv t
  unfold frk0
  split <;> omega
theorem ask_eq {L : List Rc} (hv : ∀ r ∈ L, rcB r = true) {t : Nat} {s : Int} (hs : s ≤ 1000000) : (0 < frk0 L t → min s (frk0 L t - 1) = min s (frk L t - 1)) ∧ (¬ 0 < frk0 L t → s = min s (frk L t - 1)) := by
  have := frk_pos hv t
  unfold frk0
  split <;> constructor <;> intro h <;> omega
theorem ok0_eq {L : List Rc} (hv : ∀ r ∈ L, rcB r = true) {t : Nat} {n : Int} (hn : n ≤ 1000000) : (frk0 L t = 0 ∨ n < frk0 L t) ↔ n < frk L t := by
  have := frk_pos hv t
  unfold frk0
  split <;> constructor <;> intro h <;> omega
theorem pfxU_len (L : List Rc) (C : List Bool) (t : Nat) : 0 ≤ pfxU L C t ∧ pfxU L C t ≤ L.length := ⟨pfx_pos _ _ _ _, pfx_len _ _ _ _⟩

/-- Along a pass. -/
structure PasR (L : List Rc) (C0 C : List Bool) (b : Bool) (i : Nat) : Prop where
  half : Half L C
  le : C.count false ≤ C0.count false
  no : b = false → C = C0 ∧ ∀ (j : Nat) (h : j < L.length), j < i → C0[j]? = some false → okR L (pfxU L C0) L[j] = false
  yes : b = true → C.count false < C0.count false
theorem PasR.start {L : List Rc} {C0 : List Bool} (h : Half L C0) : PasR L C0 C0 false 0 := ⟨h, Nat.le_refl _, fun _ => ⟨rfl, fun j _ h => by omega⟩, fun h => Bool.noConfusion h⟩
theorem PasR.skip {L : List Rc} {C0 C : List Bool} {b : Bool} {i : Nat} (h : PasR L C0 C b i) (hi : i < L.length) {c : Bool} (hc : C[i]? = some c) {x : Rc} (hx : L[i]'hi = x) (hno : (!c && okR L (pfxU L C0) x) = false) : PasR L C0 C b (i + 1) :=
  ⟨h.half, h.le, fun hb => ⟨(h.no hb).1, fun j hj hji h0 => by
    by_cases e : j = i
    · subst e
      rw [(h.no hb).1, h0] at hc
      injection hc with hc
      subst hc
      rw [hx]
      simpa using hno
    · exact (h.no hb).2 j hj (by omega) h0⟩, h.yes⟩
theorem PasR.hit {L : List Rc} {C0 C : List Bool} {b : Bool} {i : Nat} (hv : ∀ r ∈ L, rcB r = true) (h0 : Half L C0) (h : PasR L C0 C b i) (hi : i < L.length) {c : Bool} (hc : C[i]? = some c) {x : Rc} (hx : L[i]'hi = x) (hyes : (!c && okR L (pfxU L C0) x) = true) : PasR L C0 (C.set i true) true (i + 1) := by
  simp only [Bool.and_eq_true, Bool.not_eq_true'] at hyes
  obtain ⟨hcf, hok⟩ := hyes
  subst hcf
  obtain ⟨hlt, hcf⟩ := List.getElem?_eq_some_iff.1 hc
  have hcs := count_set_true hlt hcf
  have hcnt : Cnt L x := okR_cnt hv h0.up (hx ▸ List.getElem_mem hi) hok
  refine ⟨⟨by simpa using h.half.len, fun j hj hcj => ?_⟩, by have := h.le; omega, fun e => Bool.noConfusion e, fun _ => by have := h.le; omega⟩
  rw [List.getElem_set] at hcj
  split at hcj
  · rename_i e; subst e; rw [hx]; exact hcnt
  · exact h.half.cnt j hj hcj
theorem PasR.end {L : List Rc} {C0 C : List Bool} (hv : ∀ r ∈ L, rcB r = true) (hA : Asc L) (h : PasR L C0 C false L.length) : C = L.map (cntB L) := by
  obtain ⟨e, hall⟩ := h.no rfl
  subst e
  refine (half_end hv hA h.half (fun i hi hc => hall i hi hi ?_)).1
  rw [List.getElem?_eq_some_iff]
  exact ⟨by have := h.half.len; omega, hc⟩

/-! ### Eight numbers in a block -/
def a8 (f : Nat → Int) : Array Value := #[.int .i64 (f 0), .int .i64 (f 1), .int .i64 (f 2), .int .i64 (f 3), .int .i64 (f 4), .int .i64 (f 5), .int .i64 (f 6), .int .i64 (f 7)]
theorem a8_get (f : Nat → Int) {t : Nat} (ht : t < 8) : (a8 f)[t]? = some (.int .i64 (f t)) := by
  rcases lt8 ht with rfl | rfl | rfl | rfl | rfl | rfl | rfl | rfl <;> rfl
theorem a8_set (f : Nat → Int) {t : Nat} (ht : t < 8) (n : Int) : (a8 f).setIfInBounds t (.int .i64 n) = a8 (updI f t n) := by
  rcases lt8 ht with rfl | rfl | rfl | rfl | rfl | rfl | rfl | rfl <;> rfl
theorem a8_congr {f g : Nat → Int} (h : ∀ t, t < 8 → f t = g t) : a8 f = a8 g := by
  unfold a8
  rw [h 0 (by omega), h 1 (by omega), h 2 (by omega), h 3 (by omega), h 4 (by omega), h 5 (by omega), h 6 (by omega), h 7 (by omega)]

theorem boolsV_len (C : List Bool) : (boolsV C).length = C.length := by simp [boolsV]
theorem boolsV_set (C : List Bool) (i : Nat) : (boolsV C).toArray.setIfInBounds i (.bool true) = (boolsV (C.set i true)).toArray := by
  simp [boolsV, List.map_set]

theorem gr_below {w w1 w2 : World} {row : Option Nat} (hg : w.grownBy w1 row) (hb : Below w1.heap.size w1 w2) : w.grownBy w2 row :=
  ⟨hb.os.trans hg.os, hb.tape.trans hg.tape, hb.output.trans hg.output, Nat.le_trans hg.size hb.size, fun k hk hne => (hb.block k (Nat.lt_of_lt_of_le hk hg.size)).trans (hg.block k hk hne)⟩
/-- What stands while settle runs: the book in block B, its new count in block G, forks in G + 1, prefixes in G + 2. -/
structure SetI (w0 : World) (B : Nat) (L : List Rc) (A : Option Addr) (c : Nat) (G : Nat) (fs us : Nat → Int) (C : List Bool) (w : World) : Prop where
  b : w.heap[B]? = some (.cells #[.slice A L.length c, .slice (some ⟨G, 0, none⟩) L.length L.length] 36 (0, 0))
  e : G = w0.heap.size
  lt : B < G
  l : RdB G w A (recs L)
  len : C.length = L.length
  n : w.heap[G]? = some (.cells (boolsV C).toArray 4 (0, 0))
  f : w.heap[G + 1]? = some (.cells (a8 fs) 80 (0, 0))
  h : w.heap[G + 2]? = some (.cells (a8 us) 80 (0, 0))
  g : w0.grownBy w (some B)
section
variable {w0 w w' : World} {B : Nat} {L : List Rc} {A : Option Addr} {c G : Nat} {fs us : Nat → Int} {C : List Bool}
theorem lt_of_heap {w : World} {k : Nat} {o : Obj} (h : w.heap[k]? = some o) : k < w.heap.size := (Array.getElem?_eq_some_iff.1 h).1
theorem SetI.below (h : SetI w0 B L A c G fs us C w) (hb : Below w.heap.size w w') : SetI w0 B L A c G fs us C w' :=
  ⟨(hb.block _ (lt_of_heap h.b)).trans h.b, h.e, h.lt, h.l.grown (grown_of_below hb none) (fun j e => by cases e), h.len, (hb.block _ (lt_of_heap h.n)).trans h.n, (hb.block _ (lt_of_heap h.f)).trans h.f, (hb.block _ (lt_of_heap h.h)).trans h.h, gr_below h.g hb⟩
theorem SetI.step (h : SetI w0 B L A c G fs us C w) {k : Nat} (hk : G ≤ k) (hg : w.grownBy w' (some k)) : w0.grownBy w' (some B) ∧ RdB G w' A (recs L) ∧ ∀ j, j ≠ k → ∀ o, w.heap[j]? = some o → w'.heap[j]? = some o :=
  ⟨⟨hg.os.trans h.g.os, hg.tape.trans h.g.tape, hg.output.trans h.g.output, Nat.le_trans h.g.size hg.size, fun j hj hne => (hg.block j (Nat.lt_of_lt_of_le hj h.g.size) (fun e => by have := Option.some.inj e; have := h.e; omega)).trans (h.g.block j hj hne)⟩,
    h.l.grown hg (fun j e => .inl (by have := Option.some.inj e; omega)), fun j hj o ho => (hg.block j (lt_of_heap ho) (fun e => hj (Option.some.inj e))).trans ho⟩
theorem SetI.setF (h : SetI w0 B L A c G fs us C w) {t : Nat} (ht : t < 8) (n : Int) : SetI w0 B L A c G (updI fs t n) us C (w.setCell ⟨G + 1, t, none⟩ (.int .i64 n)) := by
  obtain ⟨h1, h2, h3⟩ := h.step (by omega) (setCell_grown w h.f (i := t) (.int .i64 n))
  have := h.lt
  exact ⟨h3 B (by omega) _ h.b, h.e, h.lt, h2, h.len, h3 G (by omega) _ h.n, by rw [heap_setCell_same _ _ _ _ _ _ h.f, a8_set fs ht], h3 (G + 2) (by omega) _ h.h, h1⟩
theorem SetI.setH (h : SetI w0 B L A c G fs us C w) {t : Nat} (ht : t < 8) (n : Int) : SetI w0 B L A c G fs (updI us t n) C (w.setCell ⟨G + 2, t, none⟩ (.int .i64 n)) := by
  obtain ⟨h1, h2, h3⟩ := h.step (by omega) (setCell_grown w h.h (i := t) (.int .i64 n))
  have := h.lt
  exact ⟨h3 B (by omega) _ h.b, h.e, h.lt, h2, h.len, h3 G (by omega) _ h.n, h3 (G + 1) (by omega) _ h.f, by rw [heap_setCell_same _ _ _ _ _ _ h.h, a8_set us ht], h1⟩
theorem SetI.setC (h : SetI w0 B L A c G fs us C w) (i : Nat) : SetI w0 B L A c G fs us (C.set i true) (w.setCell ⟨G, i, none⟩ (.bool true)) := by
  obtain ⟨h1, h2, h3⟩ := h.step (Nat.le_refl _) (setCell_grown w h.n (i := i) (.bool true))
  have := h.lt
  exact ⟨h3 B (by omega) _ h.b, h.e, h.lt, h2, by simpa using h.len, by rw [heap_setCell_same _ _ _ _ _ _ h.n, boolsV_set], h3 (G + 1) (by omega) _ h.f, h3 (G + 2) (by omega) _ h.h, h1⟩
theorem SetI.cell0 (h : SetI w0 B L A c G fs us C w) : w.cell? ⟨B, 0, none⟩ = some (.slice A L.length c) := cell_of_row _ B 0 _ _ _ h.b
theorem SetI.cell1 (h : SetI w0 B L A c G fs us C w) : w.cell? ⟨B, 1, none⟩ = some (.slice (some ⟨G, 0, none⟩) L.length L.length) := cell_of_row _ B 1 _ _ _ h.b
theorem SetI.cf (h : SetI w0 B L A c G fs us C w) {t : Nat} (ht : t < 8) : w.cell? ⟨G + 1, t, none⟩ = some (.int .i64 (fs t)) := (cell_of_row _ _ t _ _ _ h.f).trans (a8_get fs ht)
theorem SetI.ch (h : SetI w0 B L A c G fs us C w) {t : Nat} (ht : t < 8) : w.cell? ⟨G + 2, t, none⟩ = some (.int .i64 (us t)) := (cell_of_row _ _ t _ _ _ h.h).trans (a8_get us ht)
theorem SetI.cc (h : SetI w0 B L A c G fs us C w) {i : Nat} {b : Bool} (hi : C[i]? = some b) : w.cell? ⟨G, i, none⟩ = some (.bool b) := by
  rw [cell_of_row _ _ i _ _ _ h.n]
  simp [boolsV, hi]
theorem SetI.fz (h : SetI w0 B L A c G fs us C w) (i : Nat) : w.frozen? ⟨G, i, none⟩ = false ∧ w.frozen? ⟨G + 1, i, none⟩ = false ∧ w.frozen? ⟨G + 2, i, none⟩ = false :=
  ⟨frozen_of_row _ _ _ _ _ h.n, frozen_of_row _ _ _ _ _ h.f, frozen_of_row _ _ _ _ _ h.h⟩
theorem SetI.rb (h : SetI w0 B L A c G fs us C w) : RBk w B L C A c (some ⟨G, 0, none⟩) L.length :=
  ⟨by rw [h.len]; exact h.b, h.l.rd, fun _ => ⟨G, 0, rfl, lt_of_heap h.n, fun j u hu => by
    rw [Nat.zero_add, cell_of_row _ _ j _ _ _ h.n]
    simpa using hu⟩⟩
theorem SetI.congrF (h : SetI w0 B L A c G fs us C w) {fs' : Nat → Int} (e : ∀ t, t < 8 → fs t = fs' t) : SetI w0 B L A c G fs' us C w := ⟨h.b, h.e, h.lt, h.l, h.len, h.n, by rw [← a8_congr e]; exact h.f, h.h, h.g⟩
theorem SetI.congrH (h : SetI w0 B L A c G fs us C w) {us' : Nat → Int} (e : ∀ t, t < 8 → us t = us' t) : SetI w0 B L A c G fs us' C w := ⟨h.b, h.e, h.lt, h.l, h.len, h.n, h.f, by rw [← a8_congr e]; exact h.h, h.g⟩
end
/-- How many records do not count yet, as the world tells it. -/
def falW (w : World) (G : Nat) : Nat := match w.heap[G]? with
  | some (.cells cs _ _) => (cs.toList.filter fun v => match v with | .bool false => true | _ => false).length
  | _ => 0
theorem filter_bools (C : List Bool) : ((boolsV C).filter fun v => match v with | .bool false => true | _ => false).length = C.count false := by
  induction C with
  | nil => rfl
  | cons b C ih =>
    rw [List.count_cons, ← ih]
    cases b <;> simp [boolsV]
theorem SetI.fal {w0 w : World} {B : Nat} {L : List Rc} {A : Option Addr} {c G : Nat} {fs us : Nat → Int} {C : List Bool} (h : SetI w0 B L A c G fs us C w) : falW w G = C.count false := by
  unfold falW
  rw [h.n]
  exact filter_bools C

end Go.Proofs.YtegghimjmbgghaaGreat
