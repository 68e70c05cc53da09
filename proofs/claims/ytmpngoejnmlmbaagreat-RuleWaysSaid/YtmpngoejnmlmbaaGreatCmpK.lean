/-
  The state of package rule's Compare between its closure's calls.
-/
import Derived.Test.YtmpngoejnmlmbaaGreatGapP
import Derived.Test.YtmpngoejnmlmbaaGreatHolds2
import Derived.StillTailTactics
set_option linter.unusedSimpArgs false
set_option linter.unusedVariables false
namespace Go.Proofs.YtmpngoejnmlmbaaGreat
open Go.RowKit

theorem own_lt' {w : World} {base e size n : Nat} {v : Value} {xs : List Value} (h : w.ownsRow base e size v n xs) {g : Nat} (hg : v.ownBlock = some g) : base ≤ g ∧ g < w.heap.size := by
  rcases h.2 with ⟨rfl, _⟩ | ⟨g', cap, cur, rfl, hb, hh, _⟩
  · cases hg
  · have : g' = g := by simpa [Value.ownBlock] using hg
    subst this
    exact ⟨hb, (Array.getElem?_eq_some_iff.1 hh).1⟩

structure CmpI (w w0 : World) (bl bs be bh O : Nat) (lv : Array Value) (sv ev hv : Value) (out : List Gp) (A : Option Addr) (c : Nat) : Prop where
  l : w.heap[bl]? = some (.cells lv 24 (0, 0))
  s : w.heap[bs]? = some (.cells #[sv] 25 (0, 0))
  e : w.heap[be]? = some (.cells #[ev] 26 (0, 0))
  h : w.heap[bh]? = some (.cells #[hv] 3 (0, 0))
  ll : bl < O
  sl : bs < O
  el : be < O
  hl : bh < O
  o : w.heap[O]? = some (.cells #[.slice A out.length c] 57 (0, 0))
  own : w.ownsRow (O + 1) 74 6 (.slice A out.length c) out.length (gps out)
  below : Below w0.heap.size w0 w
  base : w0.heap.size ≤ O

variable {w w' w0 wS : World} {bl bs be bh O : Nat} {lv : Array Value} {sv ev hv : Value} {out : List Gp} {A : Option Addr} {c : Nat}

theorem CmpI.lt (h : CmpI w w0 bl bs be bh O lv sv ev hv out A c) : O < w.heap.size := (Array.getElem?_eq_some_iff.1 h.o).1
theorem CmpI.kept (h : CmpI w w0 bl bs be bh O lv sv ev hv out A c) (hb : Below w.heap.size w w') : CmpI w' w0 bl bs be bh O lv sv ev hv out A c := by
  have hO := h.lt
  have k : ∀ i, i ≤ O → w'.heap[i]? = w.heap[i]? := fun i hi => hb.block i (by omega)
  have h1 := h.ll
  have h2 := h.sl
  have h3 := h.el
  have h4 := h.hl
  exact ⟨(k _ (by omega)).trans h.l, (k _ (by omega)).trans h.s, (k _ (by omega)).trans h.e, (k _ (by omega)).trans h.h, h1, h2, h3, h4, (k _ (Nat.le_refl _)).trans h.o, own_below h.own hb, h.below.trans (hb.mono h.below.size), h.base⟩

/-- What stays while gaps are laid: all blocks of wS but the variable's and its row. -/
structure GpFr (wS w : World) (O : Nat) (gS : Option Nat) (v : Value) : Prop where
  size : wS.heap.size ≤ w.heap.size
  same : ∀ b, b < wS.heap.size → b ≠ O → gS ≠ some b → w.heap[b]? = wS.heap[b]?
  ob : ∀ g, v.ownBlock = some g → gS = some g ∨ wS.heap.size ≤ g
theorem GpFr.rd {gS : Option Nat} {v : Value} (h : GpFr wS w O gS v) {B : Option Addr} {xs : List Value} (hr : Rd wS B xs) (h1 : ∀ a, B = some a → a.block ≠ O) (h2 : ∀ a, B = some a → gS ≠ some a.block) : Rd w B xs := by
  intro hx
  obtain ⟨b, off, rfl, hb, hc⟩ := hr hx
  refine ⟨b, off, rfl, Nat.lt_of_lt_of_le hb h.size, fun j u hu => ?_⟩
  rw [← hc j u hu]
  exact World.cell?_of_block (h.same b hb (h1 _ rfl) (h2 _ rfl))

theorem GpFr.drewN {wS w : World} {O : Nat} {gS : Option Nat} {v : Value} (h : GpFr wS w O gS v) (n : Nat) : GpFr wS (w.drewN n) O gS v := ⟨h.size, h.same, h.ob⟩

/-- An element's end moves. -/
theorem CmpI.inc {gS : Option Nat} (h : CmpI w w0 bl bs be bh O lv sv ev hv out A c) (hf : GpFr wS w O gS (.slice A out.length c)) {g q : Nat} (hg : (Value.slice A out.length c).ownBlock = some g) (hq : q < out.length) :
    CmpI (w.setCell ⟨g, q * 6 + 3, none⟩ (.int .i64 (out[q].to + 1))) w0 bl bs be bh O lv sv ev hv (out.set q out[q].up) A c ∧ GpFr wS (w.setCell ⟨g, q * 6 + 3, none⟩ (.int .i64 (out[q].to + 1))) O gS (.slice A out.length c) := by
  have hO := h.lt
  have hgo := own_lt' h.own hg
  have k : ∀ i, i ≠ g → (w.setCell ⟨g, q * 6 + 3, none⟩ (.int .i64 (out[q].to + 1))).heap[i]? = w.heap[i]? := fun i hi => block_set_other _ _ hi
  have h1 := h.ll
  have h2 := h.sl
  have h3 := h.el
  have h4 := h.hl
  have h5 := h.base
  obtain ⟨g', hA, hgg⟩ : ∃ g', A = some ⟨g', 0, none⟩ ∧ g' = g := by
    rcases h.own.2 with ⟨h6, h7⟩ | ⟨g', cap, cur, h6, -⟩
    · omega
    · injection h6 with h6; subst h6
      exact ⟨g', rfl, by simpa [Value.ownBlock] using hg⟩
  subst hA hgg
  have hs := h.own.stored (q * 6 + 3) (.int .i64 (out[q].to + 1))
  refine ⟨⟨(k _ (by omega)).trans h.l, (k _ (by omega)).trans h.s, (k _ (by omega)).trans h.e, (k _ (by omega)).trans h.h, h1, h2, h3, h4, ?_, ?_, Below.setCell h.below (by dsimp only; omega) _, h5⟩, ⟨by simpa using hf.size, fun b hb hb1 hb2 => ?_, hf.ob⟩⟩
  · rw [List.length_set]; exact (k _ (by omega)).trans h.o
  · rw [List.length_set, ← gps_set out q hq]
    exact hs.1
  · rw [k b (fun e => ?_)]
    · exact hf.same b hb hb1 hb2
    · subst e
      rcases hf.ob _ hg with h6 | h6
      · exact hb2 h6
      · omega
/-- A gap is added. -/
theorem CmpI.push {gS : Option Nat} {w3 : World} {A3 : Option Addr} {c3 : Nat} {o : Obj} {x : Gp} (h : CmpI w w0 bl bs be bh O lv sv ev hv out A c) (hf : GpFr wS w O gS (.slice A out.length c))
    (hown : w3.ownsRow (O + 1) 74 6 (.slice A3 (out.length + 1) c3) (out.length + 1) (gps out ++ gpC x)) (hg : (w.alloc o).grownBy w3 (Value.slice A out.length c).ownBlock)
    (hn : ∀ g, (Value.slice A3 (out.length + 1) c3).ownBlock = some g → (Value.slice A out.length c).ownBlock = some g ∨ w.heap.size ≤ g) :
    CmpI (w3.setCell ⟨O, 0, none⟩ (.slice A3 (out.length + 1) c3)) w0 bl bs be bh O lv sv ev hv (out ++ [x]) A3 c3 ∧ GpFr wS (w3.setCell ⟨O, 0, none⟩ (.slice A3 (out.length + 1) c3)) O gS (.slice A3 (out ++ [x]).length c3) := by
  have hO := h.lt
  have hsz := hg.size
  simp at hsz
  have k : ∀ i, i < w.heap.size → (Value.slice A out.length c).ownBlock ≠ some i → w3.heap[i]? = w.heap[i]? := fun i hi hne => by
    rw [hg.block i (by simp; omega) (fun e => hne e.symm), Below.heap_alloc _ _ _ hi]
  have k2 : ∀ i, i ≤ O → w3.heap[i]? = w.heap[i]? := fun i hi => k i (by omega) (fun e => by have := own_lt' h.own e; omega)
  have h1 := h.ll
  have h2 := h.sl
  have h3 := h.el
  have h4 := h.hl
  have h5 := h.base
  have hl : (out ++ [x]).length = out.length + 1 := by simp
  refine ⟨⟨?_, ?_, ?_, ?_, h1, h2, h3, h4, ?_, ?_, ?_, h5⟩, ⟨?_, fun b hb hb1 hb2 => ?_, fun g hg' => ?_⟩⟩
  · rw [block_set_other _ _ (by omega)]; exact (k2 _ (by omega)).trans h.l
  · rw [block_set_other _ _ (by omega)]; exact (k2 _ (by omega)).trans h.s
  · rw [block_set_other _ _ (by omega)]; exact (k2 _ (by omega)).trans h.e
  · rw [block_set_other _ _ (by omega)]; exact (k2 _ (by omega)).trans h.h
  · rw [hl]; exact block_set_same ((k2 _ (Nat.le_refl _)).trans h.o) 0 _
  · rw [hl, show gps (out ++ [x]) = gps out ++ gpC x from by simp [gps]]
    exact own_set hown (g := O) (by omega) 0 _
  · refine Below.setCell (Below.grown (h.below.alloc h.below.size o) hg (by simp; omega) (fun i hi => ?_)) (by dsimp only; omega) _
    have := own_lt' h.own hi; omega
  · have := hf.size; simp; omega
  · rw [block_set_other _ _ hb1, k b (by have := hf.size; omega) (fun e => ?_)]
    · exact hf.same b hb hb1 hb2
    · rcases hf.ob _ e with h6 | h6
      · exact hb2 h6
      · omega
  · rw [hl] at hg'
    rcases hn g hg' with h6 | h6
    · exact hf.ob g h6
    · exact .inr (by have := hf.size; omega)

/-- The own row keeps clear of what stays. -/
theorem GpFr.append {wS w w3 : World} {O : Nat} {gS : Option Nat} {v v2 : Value} {o : Obj} (hf : GpFr wS w O gS v) (hg : (w.alloc o).grownBy w3 v.ownBlock) (hn : ∀ g, v2.ownBlock = some g → v.ownBlock = some g ∨ w.heap.size ≤ g) : GpFr wS w3 O gS v2 := by
  have hsz := hg.size
  simp at hsz
  have hs0 := hf.size
  refine ⟨by omega, fun b hb hb1 hb2 => ?_, fun g hg' => ?_⟩
  · rw [hg.block b (by simp; omega) (fun e => ?_), Below.heap_alloc _ _ _ (by omega)]
    · exact hf.same b hb hb1 hb2
    · rcases hf.ob _ e.symm with h6 | h6
      · exact hb2 h6
      · omega
  · rcases hn g hg' with h6 | h6
    · exact hf.ob g h6
    · exact .inr (by omega)
theorem GpFr.kept {wS w w2 : World} {O : Nat} {gS : Option Nat} {v : Value} (hf : GpFr wS w O gS v) (hb : Below w.heap.size w w2) : GpFr wS w2 O gS v :=
  ⟨Nat.le_trans hf.size hb.size, fun b h1 h2 h3 => (hb.block b (Nat.lt_of_lt_of_le h1 hf.size)).trans (hf.same b h1 h2 h3), hf.ob⟩
theorem GpFr.stored {wS w : World} {O : Nat} {gS : Option Nat} {v : Value} (hf : GpFr wS w O gS v) {g : Nat} (hg : v.ownBlock = some g) (i : Nat) (u : Value) : GpFr wS (w.setCell ⟨g, i, none⟩ u) O gS v := by
  refine ⟨by simpa using hf.size, fun b hb hb1 hb2 => ?_, hf.ob⟩
  rw [block_set_other _ _ (fun e => ?_)]
  · exact hf.same b hb hb1 hb2
  · subst e
    rcases hf.ob _ hg with h6 | h6
    · exact hb2 h6
    · omega

end Go.Proofs.YtmpngoejnmlmbaaGreat
