/-
  A picture in the making: the block of its struct, the rows of its dots and of their owners.
-/
import Derived.Test.YtmagidoodlkeoaaGreatDoorFcPi
import Derived.Test.YtmagidoodlkeoaaGreatDoorFcRq
import Derived.Test.YtmagidoodlkeoaaGreatDoorFcPx
import Derived.Deep.AppendLies
set_option linter.unusedSimpArgs false
set_option linter.unusedVariables false
namespace Go.Proofs.YtmagidoodlkeoaaGreatDoor
open Go.RowKit

theorem info_i64d : (Tryz.prog.info? 3).map (fun i => (i.zero, i.size, i.bytes)) = some (some (.int .i64 0), 1, 8) := by kernel_rfl
theorem info_partsd {i : TypeId} {z : Value} {a b : Nat} (h : (Tryz.prog.info? i).map (fun i => (i.zero, i.size, i.bytes)) = some (some z, a, b)) : ∃ i0, Tryz.prog.info? i = some i0 ∧ i0.zero = some z ∧ i0.size = a ∧ i0.bytes = b := by
  cases hi : Tryz.prog.info? i with
  | none => rw [hi] at h; cases h
  | some i0 =>
    rw [hi] at h
    simp at h
    exact ⟨i0, rfl, h.1, h.2.1, h.2.2⟩
theorem own_belowd {w w' : World} {base e size n : Nat} {v : Value} {xs : List Value} (h : w.ownsRow base e size v n xs) (hb : Below w.heap.size w w') : w'.ownsRow base e size v n xs := by
  obtain ⟨h1, h2⟩ := h
  refine ⟨h1, ?_⟩
  rcases h2 with h2 | ⟨g, cap, cur, e1, e2, e3, e4⟩
  · exact .inl h2
  · exact .inr ⟨g, cap, cur, e1, e2, (hb.block g (Array.getElem?_eq_some_iff.1 e3).1).trans e3, e4⟩
theorem own_lt {w : World} {base e size n : Nat} {v : Value} {xs : List Value} (h : w.ownsRow base e size v n xs) {g : Nat} (hg : v.ownBlock = some g) : base ≤ g ∧ g < w.heap.size := by
  rcases h.2 with ⟨rfl, _⟩ | ⟨g', cap, cur, rfl, hb, hh, _⟩
  · cases hg
  · have : g' = g := by simpa [Value.ownBlock] using hg
    subst this
    exact ⟨hb, (Array.getElem?_eq_some_iff.1 hh).1⟩
theorem own_keep {w w' : World} {base e size n : Nat} {v v2 : Value} {xs : List Value} (h : w.ownsRow base e size v n xs) (hg : w.grownBy w' v2.ownBlock) (hs : ∀ g, v2.ownBlock = some g → v.ownBlock ≠ some g) : w'.ownsRow base e size v n xs := by
  refine h.kept hg ?_
  cases hvb : v.ownBlock with
  | none => exact .inl rfl
  | some g => exact .inr fun e => hs g e.symm hvb
/-- The row of a list of numbers, cell by cell. -/
theorem own_cell {w : World} {base e n g cap : Nat} {L : List Int} (h : w.ownsRow base e 1 (.slice (some ⟨g, 0, none⟩) n cap) n (ints L)) {k : Nat} {x : Int} (hk : L[k]? = some x) : w.cell? ⟨g, k, none⟩ = some (.int .i64 x) := by
  obtain ⟨A, c, hv, hr, -⟩ := own_slice h
  injection hv with e1 e2 e3
  subst e1 e3
  have hlt : k < L.length := (List.getElem?_eq_some_iff.1 hk).1
  obtain ⟨b, off, hA, hb, hc⟩ := hr (ints_ne hlt)
  injection hA with hA
  injection hA with h1 h2
  subst h1 h2
  have := hc k _ (ints_at L k hlt)
  rw [Nat.zero_add] at this
  rw [this]
  have : L[k] = x := (List.getElem?_eq_some_iff.1 hk).2
  rw [this]
theorem own_free {w : World} {base e n g cap size : Nat} {xs : List Value} (h : w.ownsRow base e size (.slice (some ⟨g, 0, none⟩) n cap) n xs) (k : Nat) : w.frozen? ⟨g, k, none⟩ = false := by
  rcases h.2 with ⟨hv, _⟩ | ⟨g', cap', cur, hv, hb, hh, _⟩
  · cases hv
  · injection hv with e1 e2 e3
    injection e1 with e1
    injection e1 with e1
    subst e1
    simp [World.frozen?, hh]
theorem own_set {w : World} {base e n g cap : Nat} {L : List Int} (h : w.ownsRow base e 1 (.slice (some ⟨g, 0, none⟩) n cap) n (ints L)) (k : Nat) (x : Int) : (w.setCell ⟨g, k, none⟩ (.int .i64 x)).ownsRow base e 1 (.slice (some ⟨g, 0, none⟩) n cap) n (ints (L.set k x)) := by
  obtain ⟨hlen, h2⟩ := h
  refine ⟨by simpa using hlen, ?_⟩
  rcases h2 with ⟨hv, _⟩ | ⟨g', cap', cur, hv, hb, hh, hnc, hcap, hcs, htk⟩
  · cases hv
  · injection hv with e1 e2 e3
    injection e1 with e1
    injection e1 with e1
    subst e1 e3
    refine .inr ⟨g, cap, cur.setIfInBounds k (.int .i64 x), rfl, hb, heap_setCell_same _ _ _ _ _ _ hh, hnc, hcap, by simpa using hcs, ?_⟩
    rw [Array.toList_setIfInBounds, Nat.mul_one, List.take_set, show cur.toList.take n = ints L by rw [← htk, Nat.mul_one]]
    simp [ints, List.map_set]
theorem own_other {w : World} {base e size n : Nat} {v : Value} {xs : List Value} (h : w.ownsRow base e size v n xs) {a : Addr} (ha : v.ownBlock ≠ some a.block) (u : Value) : (w.setCell a u).ownsRow base e size v n xs := by
  have hg : w.grownBy (w.setCell a u) (some a.block) := ⟨rfl, rfl, rfl, by simp, fun k _ hne => heap_setCell_other _ _ _ _ (fun e => hne (by rw [e]))⟩
  refine h.kept hg ?_
  cases hvb : v.ownBlock with
  | none => exact .inl rfl
  | some g => exact .inr fun e => ha (by rw [hvb, e])

/-- The picture of f in the making, in the block w1.heap.size. -/
structure PI (f : Fc) (w1 wr : World) (dv ov : Value) (L O : List Int) : Prop where
  bel : Below w1.heap.size w1 wr
  blk : wr.heap[w1.heap.size]? = some (.cells #[.int .i64 f.size, .int .i64 (heiF f), dv, ov] 36 (0, 0))
  od : wr.ownsRow (w1.heap.size + 1) 3 1 dv L.length (ints L)
  oo : wr.ownsRow (w1.heap.size + 1) 3 1 ov O.length (ints O)
  ne : ∀ g, dv.ownBlock = some g → ov.ownBlock ≠ some g
theorem PI.lt {f : Fc} {w1 wr : World} {dv ov : Value} {L O : List Int} (h : PI f w1 wr dv ov L O) : w1.heap.size < wr.heap.size := (Array.getElem?_eq_some_iff.1 h.blk).1
theorem PI.after {f : Fc} {w1 wr w' : World} {dv ov : Value} {L O : List Int} (h : PI f w1 wr dv ov L O) (hb : Below wr.heap.size wr w') : PI f w1 w' dv ov L O :=
  ⟨h.bel.trans (hb.mono h.bel.size), (hb.block _ h.lt).trans h.blk, own_belowd h.od hb, own_belowd h.oo hb, h.ne⟩
theorem PI.cells {f : Fc} {w1 wr : World} {dv ov : Value} {L O : List Int} (h : PI f w1 wr dv ov L O) :
    wr.cell? ⟨w1.heap.size, 2, none⟩ = some dv ∧ wr.cell? ⟨w1.heap.size, 3, none⟩ = some ov ∧ wr.frozen? ⟨w1.heap.size, 2, none⟩ = false ∧ wr.frozen? ⟨w1.heap.size, 3, none⟩ = false :=
  ⟨cell_of_row _ _ _ _ _ _ h.blk, cell_of_row _ _ _ _ _ _ h.blk, by simp [World.frozen?, h.blk], by simp [World.frozen?, h.blk]⟩
theorem PI.start (f : Fc) (w1 : World) : PI f w1 (w1.alloc (.cells #[.int .i64 f.size, .int .i64 (heiF f), .slice none 0 0, .slice none 0 0] 36)) (.slice none 0 0) (.slice none 0 0) [] [] :=
  ⟨below_alloc _ _, heap_alloc_new _ _, World.ownsRow_nil _ _ _ _, World.ownsRow_nil _ _ _ _, fun g h => by cases h⟩
theorem PI.pushD {f : Fc} {w1 wr w3 : World} {dv ov : Value} {L O : List Int} (h : PI f w1 wr dv ov L O) {g cap : Nat} {x : Int}
    (ho : w3.ownsRow (w1.heap.size + 1) 3 1 (.slice (some ⟨g, 0, none⟩) (L.length + 1) cap) (L.length + 1) (ints L ++ [.int .i64 x])) (hg : wr.grownBy w3 dv.ownBlock) (hat : dv.ownBlock = some g ∨ g = wr.heap.size) :
    PI f w1 (w3.setCell ⟨w1.heap.size, 2, none⟩ (.slice (some ⟨g, 0, none⟩) (L.length + 1) cap)) (.slice (some ⟨g, 0, none⟩) (L.length + 1) cap) ov (L ++ [x]) O := by
  have hlt := h.lt
  have hb3 : w3.heap[w1.heap.size]? = some (.cells #[.int .i64 f.size, .int .i64 (heiF f), dv, ov] 36 (0, 0)) :=
    (hg.block _ hlt (fun e => by have := (own_lt h.od e.symm).1; omega)).trans h.blk
  refine ⟨Below.setCell (Below.grown h.bel hg h.bel.size (fun i hi => by have := (own_lt h.od hi).1; omega)) (Nat.le_refl _) _, heap_setCell_same _ _ _ _ _ _ hb3, ?_, ?_, ?_⟩
  · rw [List.length_append, List.length_singleton, show ints (L ++ [x]) = ints L ++ [.int .i64 x] by simp [ints]]
    exact own_setCell ho (by dsimp only; omega) _
  · exact own_setCell (own_keep h.oo hg h.ne) (by dsimp only; omega) _
  · intro q hq hq2
    have e : q = g := by simpa [Value.ownBlock] using hq.symm
    subst e
    rcases hat with h1 | h1
    · exact h.ne q h1 hq2
    · have := (own_lt h.oo hq2).2; omega
theorem PI.pushO {f : Fc} {w1 wr w3 : World} {dv ov : Value} {L O : List Int} (h : PI f w1 wr dv ov L O) {g cap : Nat} {x : Int}
    (ho : w3.ownsRow (w1.heap.size + 1) 3 1 (.slice (some ⟨g, 0, none⟩) (O.length + 1) cap) (O.length + 1) (ints O ++ [.int .i64 x])) (hg : wr.grownBy w3 ov.ownBlock) (hat : ov.ownBlock = some g ∨ g = wr.heap.size) :
    PI f w1 (w3.setCell ⟨w1.heap.size, 3, none⟩ (.slice (some ⟨g, 0, none⟩) (O.length + 1) cap)) dv (.slice (some ⟨g, 0, none⟩) (O.length + 1) cap) L (O ++ [x]) := by
  have hlt := h.lt
  have hne' : ∀ q, ov.ownBlock = some q → dv.ownBlock ≠ some q := fun q h1 h2 => h.ne q h2 h1
  have hb3 : w3.heap[w1.heap.size]? = some (.cells #[.int .i64 f.size, .int .i64 (heiF f), dv, ov] 36 (0, 0)) :=
    (hg.block _ hlt (fun e => by have := (own_lt h.oo e.symm).1; omega)).trans h.blk
  refine ⟨Below.setCell (Below.grown h.bel hg h.bel.size (fun i hi => by have := (own_lt h.oo hi).1; omega)) (Nat.le_refl _) _, heap_setCell_same _ _ _ _ _ _ hb3, ?_, ?_, ?_⟩
  · exact own_setCell (own_keep h.od hg hne') (by dsimp only; omega) _
  · rw [List.length_append, List.length_singleton, show ints (O ++ [x]) = ints O ++ [.int .i64 x] by simp [ints]]
    exact own_setCell ho (by dsimp only; omega) _
  · intro q hq hq2
    have e : q = g := by simpa [Value.ownBlock] using hq2.symm
    subst e
    rcases hat with h1 | h1
    · exact h.ne q hq h1
    · have := (own_lt h.od hq).2; omega
theorem PI.setD {f : Fc} {w1 wr : World} {g n cap : Nat} {ov : Value} {L O : List Int} (h : PI f w1 wr (.slice (some ⟨g, 0, none⟩) L.length cap) ov L O) (k : Nat) (x : Int) : PI f w1 (wr.setCell ⟨g, k, none⟩ (.int .i64 x)) (.slice (some ⟨g, 0, none⟩) L.length cap) ov (L.set k x) O := by
  have hg := own_lt h.od (g := g) rfl
  refine ⟨Below.setCell h.bel (by dsimp only; omega) _, (heap_setCell_other _ _ _ _ (by dsimp only; omega)).trans h.blk, ?_, own_other h.oo (fun e => h.ne g rfl e) _, h.ne⟩
  rw [List.length_set]
  exact own_set h.od k x
theorem PI.setO {f : Fc} {w1 wr : World} {g n cap : Nat} {dv : Value} {L O : List Int} (h : PI f w1 wr dv (.slice (some ⟨g, 0, none⟩) O.length cap) L O) (k : Nat) (x : Int) : PI f w1 (wr.setCell ⟨g, k, none⟩ (.int .i64 x)) dv (.slice (some ⟨g, 0, none⟩) O.length cap) L (O.set k x) := by
  have hg := own_lt h.oo (g := g) rfl
  refine ⟨Below.setCell h.bel (by dsimp only; omega) _, (heap_setCell_other _ _ _ _ (by dsimp only; omega)).trans h.blk, own_other h.od (fun e => h.ne g e rfl) _, ?_, h.ne⟩
  rw [List.length_set]
  exact own_set h.oo k x

/-- The first n dots of the next layer, the others of this one. -/
def mixL (N : Nat) (d : Nat → Nat → Int) (k n : Nat) : List Int := (List.range N).map fun m => if m < n then d (k + 1) m else d k m
theorem mixL_len (N : Nat) (d : Nat → Nat → Int) (k n : Nat) : (mixL N d k n).length = N := by simp [mixL]
theorem mixL_zero (N : Nat) (d : Nat → Nat → Int) (k : Nat) : mixL N d k 0 = (List.range N).map (d k) := by simp [mixL]
theorem mixL_all (N : Nat) (d : Nat → Nat → Int) (k : Nat) : mixL N d k N = (List.range N).map (d (k + 1)) := by
  unfold mixL
  apply List.map_congr_left
  intro m hm
  rw [if_pos (List.mem_range.1 hm)]
theorem mixL_at (N : Nat) (d : Nat → Nat → Int) (k n : Nat) (h : n < N) : (mixL N d k n)[n]? = some (d k n) := by simp [mixL, h]
theorem mixL_set (N : Nat) (d : Nat → Nat → Int) (k n : Nat) : mixL N d k (n + 1) = (mixL N d k n).set n (d (k + 1) n) := by
  apply List.ext_getElem?
  intro m
  rw [List.getElem?_set]
  by_cases e : n = m
  · subst e
    by_cases hn : n < N <;> simp [mixL, hn]
  · rw [if_neg e]
    by_cases hm : m < N
    · simp [mixL, hm]
      by_cases h1 : m < n
      · rw [if_pos (by omega), if_pos h1]
      · rw [if_neg (by omega), if_neg h1]
    · simp [mixL, hm]
theorem mixL_same (N : Nat) (d : Nat → Nat → Int) (k n : Nat) (h : d (k + 1) n = d k n) : mixL N d k (n + 1) = mixL N d k n := by
  unfold mixL
  apply List.map_congr_left
  intro m hm
  by_cases e : m = n
  · subst e; rw [if_pos (by omega), if_neg (by omega), h]
  · by_cases h1 : m < n
    · rw [if_pos (by omega), if_pos h1]
    · rw [if_neg (by omega), if_neg h1]
theorem range_snoc (d : Nat → Int) (n : Nat) : (List.range (n + 1)).map d = (List.range n).map d ++ [d n] := by simp [List.range_succ]
theorem pi_one (a b : Int) (g1 g2 : Option Addr) (n1 n2 c1 c2 : Nat) : (#[Value.int .i64 a, .int .i64 b, .slice g1 n1 c1, .slice g2 n2 c2]).all (·.oneCell') = true := by simp [Value.oneCell']
theorem pi_size (a b : Int) (u v : Value) : (Tryz.prog.info? 36).map (·.size) = some (#[Value.int .i64 a, .int .i64 b, u, v]).size := by
  show _ = some 4
  kernel_rfl

end Go.Proofs.YtmagidoodlkeoaaGreatDoor
