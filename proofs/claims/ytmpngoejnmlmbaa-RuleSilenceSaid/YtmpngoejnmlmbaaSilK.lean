/-
  Three lists of signs that a call grows beside one another, and one slice of spans; what it keeps.
-/
import Derived.Test.YtmpngoejnmlmbaaRight
import Derived.Test.YtmpngoejnmlmbaaSilenceP
set_option linter.unusedSimpArgs false
set_option linter.unusedVariables false
namespace Go.Proofs.Ytmpngoejnmlmbaa
open Go.RowKit

structure SilI (w W : World) (a b c : Value) (la lb lc : List Sg) (cA : Option Addr) (cl : List Value) : Prop where
  owna : w.ownsRow W.heap.size 34 9 a la.length (signs la)
  ownb : w.ownsRow W.heap.size 34 9 b lb.length (signs lb)
  ownc : w.ownsRow W.heap.size 34 9 c lc.length (signs lc)
  ab : ∀ g, a.ownBlock = some g → b.ownBlock ≠ some g
  ac : ∀ g, a.ownBlock = some g → c.ownBlock ≠ some g
  bc : ∀ g, b.ownBlock = some g → c.ownBlock ≠ some g
  rd : Rd w cA cl
  fa : ∀ x, cA = some x → a.ownBlock ≠ some x.block
  fb : ∀ x, cA = some x → b.ownBlock ≠ some x.block
  fc : ∀ x, cA = some x → c.ownBlock ≠ some x.block
  flt : ∀ x, cA = some x → x.block < w.heap.size
  below : Below W.heap.size W w

theorem own_lt {w : World} {base e size n : Nat} {v : Value} {xs : List Value} (h : w.ownsRow base e size v n xs) {g : Nat} (hg : v.ownBlock = some g) : base ≤ g ∧ g < w.heap.size := by
  rcases h.2 with ⟨rfl, _⟩ | ⟨g', cap, cur, rfl, hb, hh, _⟩
  · cases hg
  · have : g' = g := by simpa [Value.ownBlock] using hg
    subst this
    exact ⟨hb, (Array.getElem?_eq_some_iff.1 hh).1⟩

variable {w w' W : World} {a b c : Value} {la lb lc : List Sg} {cA : Option Addr} {cl : List Value}

theorem SilI.start (W : World) : SilI W W (.slice none 0 0) (.slice none 0 0) (.slice none 0 0) [] [] [] none [] :=
  ⟨World.ownsRow_nil _ _ _ _, World.ownsRow_nil _ _ _ _, World.ownsRow_nil _ _ _ _, (fun g h => by cases h), (fun g h => by cases h), (fun g h => by cases h), Rd.nil _ _, (fun x h => by cases h), (fun x h => by cases h), (fun x h => by cases h), (fun x h => by cases h), Below.refl _ _⟩
theorem SilI.start' {w W : World} (h : Below W.heap.size W w) : SilI w W (.slice none 0 0) (.slice none 0 0) (.slice none 0 0) [] [] [] none [] :=
  ⟨World.ownsRow_nil _ _ _ _, World.ownsRow_nil _ _ _ _, World.ownsRow_nil _ _ _ _, (fun g h => by cases h), (fun g h => by cases h), (fun g h => by cases h), Rd.nil _ _, (fun x h => by cases h), (fun x h => by cases h), (fun x h => by cases h), (fun x h => by cases h), h⟩
theorem SilI.kept (h : SilI w W a b c la lb lc cA cl) (hb : Below w.heap.size w w') : SilI w' W a b c la lb lc cA cl :=
  ⟨own_below h.owna hb, own_below h.ownb hb, own_below h.ownc hb, h.ab, h.ac, h.bc, h.rd.below hb, h.fa, h.fb, h.fc, fun x hx => Nat.lt_of_lt_of_le (h.flt x hx) hb.size, h.below.trans (hb.mono h.below.size)⟩
theorem SilI.swap (h : SilI w W a b c la lb lc cA cl) : SilI w W b a c lb la lc cA cl :=
  ⟨h.ownb, h.owna, h.ownc, fun g h1 h2 => h.ab g h2 h1, h.bc, h.ac, h.rd, h.fb, h.fa, h.fc, h.flt, h.below⟩
theorem SilI.swap2 (h : SilI w W a b c la lb lc cA cl) : SilI w W c b a lc lb la cA cl :=
  ⟨h.ownc, h.ownb, h.owna, fun g h1 h2 => h.bc g h2 h1, fun g h1 h2 => h.ac g h2 h1, fun g h1 h2 => h.ab g h2 h1, h.rd, h.fc, h.fb, h.fa, h.flt, h.below⟩
theorem SilI.push (h : SilI w W a b c la lb lc cA cl) {a' : Value} {la' : List Sg} (ho : w'.ownsRow W.heap.size 34 9 a' la'.length (signs la')) (hg : w.grownBy w' a.ownBlock)
    (hn : ∀ g, a'.ownBlock = some g → a.ownBlock = some g ∨ w.heap.size ≤ g) : SilI w' W a' b c la' lb lc cA cl := by
  have far : ∀ {g : Nat} {v : Value} {l : List Sg}, w.ownsRow W.heap.size 34 9 v l.length (signs l) → (∀ g, a.ownBlock = some g → v.ownBlock ≠ some g) → ∀ g, a'.ownBlock = some g → v.ownBlock ≠ some g := by
    intro _ v l hv hs g hg' hv'
    rcases hn g hg' with h1 | h1
    · exact hs g h1 hv'
    · have := (own_lt hv hv').2; omega
  have keep : ∀ {v : Value} {l : List Sg}, w.ownsRow W.heap.size 34 9 v l.length (signs l) → (∀ g, a.ownBlock = some g → v.ownBlock ≠ some g) → w'.ownsRow W.heap.size 34 9 v l.length (signs l) := by
    intro v l hv hs
    refine hv.kept hg ?_
    cases hvb : v.ownBlock with
    | none => exact .inl rfl
    | some g =>
      refine .inr fun e => ?_
      exact hs g e.symm hvb
  refine ⟨ho, keep h.ownb h.ab, keep h.ownc h.ac, far (g := 0) h.ownb h.ab, far (g := 0) h.ownc h.ac, h.bc, ?_, ?_, h.fb, h.fc, fun x hx => Nat.lt_of_lt_of_le (h.flt x hx) hg.size, ?_⟩
  · intro hx
    obtain ⟨b0, off, rfl, hb, hc⟩ := h.rd hx
    refine ⟨b0, off, rfl, Nat.lt_of_lt_of_le hb hg.size, fun j u hu => ?_⟩
    rw [hg.cell_far ⟨b0, off + j, none⟩ hb (fun e => h.fa _ rfl e.symm)]
    exact hc j u hu
  · intro x hx e
    rcases hn _ e with h1 | h1
    · exact h.fa x hx h1
    · have := h.flt x hx; omega
  · refine Below.grown h.below hg h.below.size (fun i hi => ?_)
    exact (own_lt h.owna hi).1
/-- A new slice of spans is laid. -/
theorem SilI.span (h : SilI w W a b c la lb lc cA cl) {x : Addr} {cl' : List Value} (hb : Below w.heap.size w w') (hx : w.heap.size ≤ x.block) (hx2 : x.block < w'.heap.size) (hr : Rd w' (some x) cl') : SilI w' W a b c la lb lc (some x) cl' := by
  have k := h.kept hb
  refine ⟨k.owna, k.ownb, k.ownc, h.ab, h.ac, h.bc, hr, ?_, ?_, ?_, fun y hy => by cases hy; exact hx2, k.below⟩
  all_goals
    intro y hy e
    cases hy
  · have := (own_lt h.owna e).2; omega
  · have := (own_lt h.ownb e).2; omega
  · have := (own_lt h.ownc e).2; omega
/-- A cell of another block is written. -/
theorem SilI.set (h : SilI w W a b c la lb lc cA cl) {g : Nat} (i : Nat) (u : Value) (h0 : W.heap.size ≤ g) (h1 : a.ownBlock ≠ some g) (h2 : b.ownBlock ≠ some g) (h3 : c.ownBlock ≠ some g) (h4 : ∀ x, cA = some x → x.block ≠ g) : SilI (w.setCell ⟨g, i, none⟩ u) W a b c la lb lc cA cl := by
  have hg : w.grownBy (w.setCell ⟨g, i, none⟩ u) (some g) := ⟨rfl, rfl, rfl, by simp, fun k _ hk => block_set_other _ _ (fun e => hk (by rw [e]))⟩
  have keep : ∀ {v : Value} {l : List Sg}, w.ownsRow W.heap.size 34 9 v l.length (signs l) → v.ownBlock ≠ some g → (w.setCell ⟨g, i, none⟩ u).ownsRow W.heap.size 34 9 v l.length (signs l) := fun hv hs => hv.kept hg (.inr hs)
  refine ⟨keep h.owna h1, keep h.ownb h2, keep h.ownc h3, h.ab, h.ac, h.bc, ?_, h.fa, h.fb, h.fc, fun x hx => by simpa using h.flt x hx, Below.setCell h.below h0 _⟩
  intro hx
  obtain ⟨b0, off, rfl, hb, hc⟩ := h.rd hx
  refine ⟨b0, off, rfl, by simpa using hb, fun j u' hu => ?_⟩
  rw [hg.cell_far ⟨b0, off + j, none⟩ hb (fun e => h4 _ rfl (by simpa using e))]
  exact hc j u' hu

theorem ite_iff {α : Type} {p q : Prop} [Decidable p] [Decidable q] (h : p ↔ q) (a b : α) : (if p then a else b) = if q then a else b := by
  by_cases hp : p <;> simp [hp, ← h]

/-- The lists behind q signs. -/
def spoken (hour : Int) (l : List Sg) (q : Nat) : List Sg := (l.take q).filter fun s => spkB s hour
def covS (s : Sg) (A : Option Addr) (c : Nat) : Sg := { s with cA := A, cc := c, cov := [(s.up, s.down)] }
theorem spoken_succ {hour : Int} {l : List Sg} {q : Nat} (h : q < l.length) : spoken hour l (q + 1) = if spkB l[q] hour = true then spoken hour l q ++ [l[q]] else spoken hour l q := by
  unfold spoken
  rw [List.take_succ_eq_append_getElem h, List.filter_append]
  split <;> simp [*]
theorem filter_succ {p : Sg → Bool} {l : List Sg} {q : Nat} (h : q < l.length) : (l.take (q + 1)).filter p = if p l[q] = true then (l.take q).filter p ++ [l[q]] else (l.take q).filter p := by
  rw [List.take_succ_eq_append_getElem h, List.filter_append]
  split <;> simp [*]
theorem erase_succ {l : List Sg} {q k : Nat} (h : q < l.length) : (l.take (q + 1)).eraseIdx k = if q = k then (l.take q).eraseIdx k else (l.take q).eraseIdx k ++ [l[q]] := by
  rw [List.take_succ_eq_append_getElem h]
  have hl : (l.take q).length = q := by simp; omega
  by_cases e : q = k
  · rw [if_pos e, List.eraseIdx_append_of_length_le (by omega), show k - (l.take q).length = 0 by omega]
    simp; rw [List.eraseIdx_of_length_le (by omega)]
  · rw [if_neg e]
    rcases Nat.lt_or_ge k q with hlt | hge
    · rw [List.eraseIdx_append_of_lt_length (by omega)]
    · rw [List.eraseIdx_append_of_length_le (by omega), List.eraseIdx_of_length_le (l := l.take q) (by omega), List.eraseIdx_of_length_le (by simp; omega)]
theorem set_succ {l : List Sg} {q k : Nat} {s' : Sg} (h : q < l.length) : (l.take (q + 1)).set k s' = (l.take q).set k s' ++ [if q = k then s' else l[q]] := by
  rw [List.take_succ_eq_append_getElem h]
  have hl : (l.take q).length = q := by simp; omega
  by_cases e : q = k
  · rw [if_pos e, List.set_append_right _ _ (by omega), show k - (l.take q).length = 0 by omega, List.set_eq_of_length_le (l := l.take q) (by omega)]; rfl
  · rw [if_neg e]
    rcases Nat.lt_or_ge k q with hlt | hge
    · rw [List.set_append_left _ _ (by omega)]
    · rw [List.set_append_right _ _ (by omega), List.set_eq_of_length_le (l := l.take q) (by omega), List.set_eq_of_length_le (by simp; omega)]

end Go.Proofs.Ytmpngoejnmlmbaa
