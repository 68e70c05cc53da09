/-
  What the reading of a face comes to: lengths, lists of items, the two structs that Parse fills.
-/
import Derived.Test.YtmagidoodlkeoaaGreatDoorFcPw
set_option linter.unusedSimpArgs false
set_option linter.unusedVariables false
namespace Go.Proofs.YtmagidoodlkeoaaGreatDoor
open Go.RowKit

theorem fmtF_len {f : Fc} (h : fcB f = true) : (fmtF f).length ≤ 1700 := by
  obtain ⟨s0, s1⟩ := size_bounds h
  have hl16 : f.items.length ≤ 16 := by simp only [fcB, Bool.and_eq_true, decide_eq_true_eq] at h; exact h.1.1.2
  have hgt : 0 ≤ f.height ∧ f.height ≤ 200 := by
    simp only [fcB, Bool.and_eq_true, decide_eq_true_eq] at h
    have := h.1.2
    split at this <;> simp at this <;> omega
  have zz := itoa_len (n := f.size) (by omega) s1
  have zg := itoa_len hgt.1 hgt.2
  have zs := shapeW_len f.shape.toNat
  have hh : (Lib.join (headF f) [32]).length ≤ 18 := by rw [hdTxt_eq]; exact hdTxt_len zs zz zg
  have hj := join_len (sep := [59, 32]) (M := 100) (f.items.map fmtIt) (by
    intro w hw
    obtain ⟨x, hx, rfl⟩ := List.mem_map.1 hw
    exact fmtIt_len (items_valid h x hx))
  simp only [List.length_map, List.length_cons, List.length_nil] at hj
  unfold fmtF
  split
  · omega
  · simp only [List.length_append, List.length_cons, List.length_nil]; omega
theorem parse_long {s : List UInt8} (h : 5000 < s.length) : parseP s = none := by
  cases hp : parseP s with
  | none => rfl
  | some f =>
    obtain ⟨h1, h2⟩ := parseP_some.1 hp
    have := fmtF_len h1
    rw [h2] at this
    omega
theorem readAll_snoc : ∀ {l : List (List UInt8)} {xs : List It} {s : List UInt8} {x : It}, readAll l = some xs → readIt s = some x → readAll (l ++ [s]) = some (xs ++ [x])
  | [], xs, s, x, h1, h2 => by
    simp only [readAll] at h1
    injection h1 with h1
    subst h1
    simp [readAll, h2]
  | y :: l, xs, s, x, h1, h2 => by
    simp only [readAll] at h1
    cases hy : readIt y with
    | none => rw [hy] at h1; cases h1
    | some z =>
      rw [hy] at h1
      cases hl : readAll l with
      | none => rw [hl] at h1; cases h1
      | some zs =>
        rw [hl] at h1
        simp at h1
        subst h1
        simp [readAll, hy, readAll_snoc hl h2]
theorem readAll_no : ∀ {l : List (List UInt8)} {s : List UInt8}, s ∈ l → readIt s = none → readAll l = none
  | [], s, h, _ => by cases h
  | y :: l, s, h, h2 => by
    simp only [readAll]
    rcases List.mem_cons.1 h with rfl | h
    · rw [h2]
    · rw [readAll_no h h2]
      cases readIt y <;> rfl
theorem readAll_len : ∀ {l : List (List UInt8)} {xs : List It}, readAll l = some xs → xs.length = l.length
  | [], xs, h => by simp only [readAll] at h; injection h with h; subst h; rfl
  | y :: l, xs, h => by
    simp only [readAll] at h
    cases hy : readIt y with
    | none => rw [hy] at h; cases h
    | some z =>
      rw [hy] at h
      cases hl : readAll l with
      | none => rw [hl] at h; cases h
      | some zs =>
        rw [hl] at h
        simp at h
        subst h
        simp [readAll_len hl]

/-- A face as an array of cells. -/
def fi (a b c : Int) (v : Value) : Array Value := #[.int .i64 a, .int .i64 b, .int .i64 c, v]
theorem fi_one (a b c : Int) (A : Option Addr) (n m : Nat) : (fi a b c (.slice A n m)).all (·.oneCell') = true := by simp [fi, Value.oneCell']
theorem fi_size (a b c : Int) (v : Value) : (Tryz.prog.info? 25).map (·.size) = some (fi a b c v).size := by
  show _ = some 4
  kernel_rfl

/-- As XI, for faces. -/
structure FI (w : World) (B : Nat) (wr : World) (vs : Array Value) : Prop where
  hB : B = w.heap.size
  res : wr.heap[B]? = some (.cells (fi 0 0 0 (.slice none 0 0)) 25 (0, 0))
  x : wr.heap[B + 1]? = some (.cells vs 25 (0, 0))
  below : Below w.heap.size w wr

theorem FI.size {w wr : World} {B : Nat} {vs : Array Value} (h : FI w B wr vs) : B + 1 < wr.heap.size := (Array.getElem?_eq_some_iff.1 h.x).1
theorem FI.after {w wr wr' : World} {B : Nat} {vs : Array Value} (h : FI w B wr vs) (hb : Below wr.heap.size wr wr') : FI w B wr' vs :=
  ⟨h.hB, (hb.block B (Nat.lt_of_succ_lt h.size)).trans h.res, (hb.block (B + 1) h.size).trans h.x, h.below.trans (hb.mono h.below.size)⟩
theorem FI.set {w wr : World} {B : Nat} {vs : Array Value} (h : FI w B wr vs) (i : Nat) (v : Value) : FI w B (wr.setCell ⟨B + 1, i, none⟩ v) (vs.setIfInBounds i v) :=
  ⟨h.hB, (heap_setCell_other _ _ _ _ (by simp)).trans h.res, heap_setCell_same _ _ _ _ _ _ h.x, Below.setCell h.below (by rw [h.hB]; simp) v⟩
theorem FI.cell {w wr : World} {B : Nat} {vs : Array Value} (h : FI w B wr vs) (i : Nat) : wr.cell? ⟨B + 1, i, none⟩ = vs[i]? := cell_of_row _ _ _ _ _ _ h.x
theorem FI.cellB {w wr : World} {B : Nat} {vs : Array Value} (h : FI w B wr vs) (i : Nat) : wr.cell? ⟨B, i, none⟩ = (fi 0 0 0 (.slice none 0 0))[i]? := cell_of_row _ _ _ _ _ _ h.res
theorem FI.frozen {w wr : World} {B : Nat} {vs : Array Value} (h : FI w B wr vs) (i : Nat) : wr.frozen? ⟨B + 1, i, none⟩ = false := frozen_of_row _ _ _ _ _ h.x

theorem FI.done {w wr : World} {B : Nat} {vs : Array Value} (h : FI w B wr vs) (us : Array Value) (i : Nat) : (wr.setRow B us).cell? ⟨B, i, none⟩ = us[i]? := cell_of_row _ _ _ _ _ _ (setRow_heap _ _ _ _ _ _ h.res)
theorem FI.doneB {w wr : World} {B : Nat} {vs : Array Value} (h : FI w B wr vs) (us : Array Value) : Below w.heap.size w (wr.setRow B us) := below_setRow h.below (by rw [h.hB]; exact Nat.le_refl _) us
theorem FI.doneH {w wr : World} {B : Nat} {vs : Array Value} (h : FI w B wr vs) (us : Array Value) : (wr.setRow B us).heap[B]? = some (.cells us 25 (0, 0)) := setRow_heap _ _ _ _ _ _ h.res
theorem fi_start (w : World) : FI w w.heap.size ((w.alloc (.cells (fi 0 0 0 (.slice none 0 0)) 25)).alloc (.cells (fi 0 0 0 (.slice none 0 0)) 25)) (fi 0 0 0 (.slice none 0 0)) := by
  refine ⟨rfl, ?_, ?_, below_alloc' (below_alloc _ _) _⟩
  · exact ((below_alloc _ _).block _ (by simp)).trans (heap_alloc_new _ _)
  · have h := heap_alloc_new (w.alloc (.cells (fi 0 0 0 (.slice none 0 0)) 25)) (.cells (fi 0 0 0 (.slice none 0 0)) 25)
    simp only [World.size_alloc] at h
    exact h

theorem FI.grown {w wr wr' : World} {B : Nat} {vs : Array Value} {row : Option Nat} (h : FI w B wr vs) (hg : wr.grownBy wr' row) (hr : ∀ k, row = some k → B + 1 < k) : FI w B wr' vs := by
  have hne : ∀ i, i ≤ B + 1 → some i ≠ row := fun i hi e => by have := hr i e.symm; omega
  have hs := h.size
  refine ⟨h.hB, (hg.block B (by omega) (hne B (by omega))).trans h.res, (hg.block (B + 1) hs (hne _ (Nat.le_refl _))).trans h.x, Below.grown h.below hg h.below.size (fun k hk => ?_)⟩
  have := hr k hk
  have := h.hB
  omega
theorem own_setCell {w : World} {base e size n : Nat} {v : Value} {xs : List Value} (h : w.ownsRow base e size v n xs) {a : Addr} (ha : a.block < base) (u : Value) : (w.setCell a u).ownsRow base e size v n xs := by
  have hg : w.grownBy (w.setCell a u) (some a.block) := ⟨rfl, rfl, rfl, by simp, fun k _ hne => heap_setCell_other _ _ _ _ (fun e => hne (by rw [e]))⟩
  exact h.kept hg (Or.inr (own_ne h (Or.inl ha)))
theorem itsOk_setRow {w : World} {A : Option Addr} {l : List It} {B : Nat} (h : ItsOk w A l) (ha : ∀ a, A = some a → B + 1 < a.block) (us : Array Value) : ItsOk (w.setRow B us) A l := by
  refine ⟨h.n, fun hne => ?_, h.txt⟩
  obtain ⟨b, off, rfl, hb, hc⟩ := h.rd hne
  have hbB := ha _ rfl
  dsimp only at hbB
  refine ⟨b, off, rfl, by simpa [World.setRow] using hb, fun j u hu => ?_⟩
  rw [World.cell?_of_block (w := w) (setRow_other w B b us (by omega))]
  exact hc j u hu
theorem readR_cases {s : List UInt8} {w w' : World} {e : Ending} (h : readR s w e w') : Below w.heap.size w w' ∧
    ((readIt s = none ∧ ∃ (k c l o a b : Int) (t : List UInt8), e = .returned (.tuple #[.agg #[.int .i64 k, .int .i64 c, .int .i64 l, .int .i64 o, .int .i64 a, .int .i64 b, .string (SB t)], .bool false])) ∨
     ∃ x, readIt s = some x ∧ e = .returned (.tuple #[.agg #[.int .i64 x.kind, .int .i64 x.colour, .int .i64 x.left, .int .i64 x.low, .int .i64 x.a, .int .i64 x.b, .string (SB x.text)], .bool true])) := by
  obtain ⟨hb, h⟩ := h
  refine ⟨hb, ?_⟩
  cases hr : readIt s with
  | none => rw [hr] at h; exact Or.inl ⟨rfl, h⟩
  | some x => rw [hr] at h; exact Or.inr ⟨x, rfl, h⟩
theorem tailR_text {k c : Int} {t : List UInt8} {l o : Int} {m : Nat} {y z : List UInt8} {x : It} (h : tailR k c t l o m y z = some x) : x.text = t := by
  unfold tailR at h
  split at h
  · cases h
  · injection h with h
    subst h
    rfl
theorem readWs_text {t : List UInt8} {ws : List (List UInt8)} {x : It} (h : readWs t ws = some x) : x.text = t := by
  unfold readWs at h
  split at h
  · cases h
  · rw [readNs_eq] at h
    split at h <;> exact tailR_text h
theorem readIt_text {s : List UInt8} {x : It} (h : readIt s = some x) : x.text.length ≤ s.length := by
  unfold readIt at h
  split at h
  · dsimp only at h
    split at h
    · rw [readWs_text h]
      have h1 := cut_len s [32, 34]
      have h2 := cut_len (Lib.cut s [32, 34]).2.1 [34]
      omega
    · cases h
  · rw [readWs_text h]; simp
theorem par_none {s : List UInt8} (h : readF s = none) : parseP s = none := by unfold parseP; rw [h]
theorem par_some {s : List UInt8} {f : Fc} (h : readF s = some f) : parseP s = if (fcB f && decide (fmtF f = s)) = true then some f else none := by unfold parseP; rw [h]
theorem info_item : (Tryz.prog.info? 66).map (fun i => (i.zero, i.size, i.bytes)) = some (some (.agg #[.int .i64 0, .int .i64 0, .int .i64 0, .int .i64 0, .int .i64 0, .int .i64 0, .string ByteArray.empty]), 7, 64) := by kernel_rfl

/-- What Parse answers. -/
def parR (s : List UInt8) (w : World) (e : Ending) (w' : World) : Prop :=
  Below w.heap.size w w' ∧ match parseP s with
    | none => e = .returned (.tuple #[.agg (fi 0 0 0 (.slice none 0 0)), .int .i64 4])
    | some f => ∃ (A : Option Addr) (c : Nat), e = .returned (.tuple #[.agg (fi f.shape f.size f.height (.slice A f.items.length c)), .int .i64 0]) ∧ ItsOk w' A f.items
theorem parR_no {s : List UInt8} {w w' : World} (h : parseP s = none) (hb : Below w.heap.size w w') : parR s w (.returned (.tuple #[.agg (fi 0 0 0 (.slice none 0 0)), .int .i64 4])) w' := by
  refine ⟨hb, ?_⟩
  rw [h]
theorem parR_yes {s : List UInt8} {w w' : World} {f : Fc} {A : Option Addr} {c : Nat} (h : parseP s = some f) (hb : Below w.heap.size w w') (hi : ItsOk w' A f.items) : parR s w (.returned (.tuple #[.agg (fi f.shape f.size f.height (.slice A f.items.length c)), .int .i64 0])) w' := by
  refine ⟨hb, ?_⟩
  rw [h]
  exact ⟨A, c, rfl, hi⟩

end Go.Proofs.YtmagidoodlkeoaaGreatDoor
