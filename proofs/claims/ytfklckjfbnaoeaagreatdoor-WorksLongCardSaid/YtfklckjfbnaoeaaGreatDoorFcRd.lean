/-
  The reader of the reference: has, skip, word, number, text, place.
-/
import Derived.Test.YtfklckjfbnaoeaaGreatDoorWaK
import Derived.Test.YtfklckjfbnaoeaaGreatDoorWaP
import Derived.Test.YtfklckjfbnaoeaaGreatDoorFcD
set_option linter.unusedSimpArgs false
set_option linter.unusedVariables false
namespace Go.Proofs.YtfklckjfbnaoeaaGreatDoor
open Go.RowKit

/-- All blocks but those of p lie as they lay. -/
structure Mv (p : Nat → Prop) (w W : World) : Prop where
  os : W.os = w.os
  tape : W.tape = w.tape
  output : W.output = w.output
  size : w.heap.size ≤ W.heap.size
  block : ∀ k, k < w.heap.size → ¬ p k → W.heap[k]? = w.heap[k]?
theorem Mv.refl (p : Nat → Prop) (w : World) : Mv p w w := ⟨rfl, rfl, rfl, Nat.le_refl _, fun _ _ _ => rfl⟩
theorem Mv.trans {p : Nat → Prop} {w W V : World} (h : Mv p w W) (k : Mv p W V) : Mv p w V :=
  ⟨k.os.trans h.os, k.tape.trans h.tape, k.output.trans h.output, Nat.le_trans h.size k.size, fun i hi hn => (k.block i (Nat.lt_of_lt_of_le hi h.size) hn).trans (h.block i hi hn)⟩
theorem Mv.mono {p q : Nat → Prop} {w W : World} (h : Mv p w W) (hq : ∀ k, p k → q k) : Mv q w W := ⟨h.os, h.tape, h.output, h.size, fun k hk hn => h.block k hk (fun hp => hn (hq k hp))⟩
theorem Mv.set {p : Nat → Prop} (w : World) (R i : Nat) (v : Value) (hp : p R) : Mv p w (w.setCell ⟨R, i, none⟩ v) :=
  ⟨rfl, rfl, rfl, by simp, fun k _ hn => heap_setCell_other _ _ _ _ (fun e => hn (by rw [e]; exact hp))⟩
theorem Mv.after {p : Nat → Prop} {w W V : World} (h : Mv p w W) (hb : Below W.heap.size W V) : Mv p w V := h.trans ⟨hb.os, hb.tape, hb.output, hb.size, fun k hk _ => hb.block k hk⟩
theorem Mv.below {p : Nat → Prop} {w W : World} (h : Mv p w W) {B : Nat} (hB : ∀ k, k < B → ¬ p k) (hw : B ≤ w.heap.size) : Below B w W := ⟨h.os, h.tape, h.output, h.size, fun k hk => h.block k (by omega) (hB k hk)⟩
theorem Mv.kept {p : Nat → Prop} {w W : World} (h : Mv p w W) {k : Nat} {o : Obj} (ho : w.heap[k]? = some o) (hn : ¬ p k) : W.heap[k]? = some o := (h.block k (Array.getElem?_eq_some_iff.1 ho).1 hn).trans ho

theorem SB_take (l : List UInt8) (n : Nat) : (SB l).extract 0 n = SB (l.take n) := by
  apply ByteArray.ext
  apply Array.toList_inj.1
  simp [SB, ByteArray.data_extract, List.extract_eq_take_drop]
theorem SB_drop (l : List UInt8) (n : Nat) : (SB l).extract n l.length = SB (l.drop n) := by
  apply ByteArray.ext
  apply Array.toList_inj.1
  simp [SB, ByteArray.data_extract, List.extract_eq_take_drop]
  exact List.take_of_length_le (by simp)
theorem pre_take (t s : List UInt8) : ((SB (s.take t.length)).toList == (SB t).toList) = t.isPrefixOf s := by
  rw [SB_toList, SB_toList, Bool.eq_iff_iff, beq_iff_eq, List.isPrefixOf_iff_prefix, List.prefix_iff_eq_take]
  exact eq_comm
theorem pre_long {t s : List UInt8} (h : s.length < t.length) : t.isPrefixOf s = false := by
  cases e : t.isPrefixOf s with
  | false => rfl
  | true => have := (List.isPrefixOf_iff_prefix.1 e).length_le; omega
theorem while_take {α : Type} {f : α → Bool} : ∀ (s : List α) (m : Nat), m ≤ s.length → (∀ (i : Nat) (h : i < s.length), i < m → f s[i] = true) → (∀ h : m < s.length, f s[m] = false) → s.takeWhile f = s.take m
  | [], m, _, _, _ => by simp
  | x :: s, 0, _, _, h2 => by
    have := h2 (by simp)
    simp at this
    simp [this]
  | x :: s, m + 1, hm, h1, h2 => by
    have hx := h1 0 (by simp) (by omega)
    simp at hx
    rw [List.takeWhile_cons, if_pos hx, List.take_succ_cons, while_take s m (by simpa using hm) (fun i h hi => by have := h1 (i + 1) (by simpa using h) (by omega); rwa [List.getElem_cons_succ] at this) (fun h => by have := h2 (by simpa using h); rwa [List.getElem_cons_succ] at this)]

theorem valR_snoc (l : List UInt8) (c : UInt8) : valR (l ++ [c]) = 10 * valR l + ((c.toNat : Int) - 48) := by simp [valR]
theorem val_bound : ∀ (l : List UInt8) (n : Int) (k : Nat), 0 ≤ n → n < 10 ^ k → (∀ c ∈ l, isDig c = true) → 0 ≤ l.foldl (fun n c => 10 * n + ((c.toNat : Int) - 48)) n ∧ l.foldl (fun n c => 10 * n + ((c.toNat : Int) - 48)) n < 10 ^ (k + l.length)
  | [], n, k, h0, h1, _ => ⟨h0, by simpa using h1⟩
  | c :: l, n, k, h0, h1, h => by
    have h2 := h c (by simp)
    simp only [isDig, decide_eq_true_eq] at h2
    have h3 := val_bound l (10 * n + ((c.toNat : Int) - 48)) (k + 1) (by omega) (by rw [Int.pow_succ]; omega) (fun x hx => h x (by simp [hx]))
    rw [List.foldl_cons, List.length_cons, show k + (l.length + 1) = k + 1 + l.length by omega]
    exact h3
theorem valR_bound (l : List UInt8) (h : ∀ c ∈ l, isDig c = true) : 0 ≤ valR l ∧ valR l < 10 ^ l.length := by
  have := val_bound l 0 0 (by omega) (by simp) h
  simpa [valR] using this

/-- The block T holds an item. -/
def ItAt (w : World) (T : Nat) (x : It) : Prop := w.heap[T]? = some (.cells (itC x).toArray 320 (0, 0))
theorem ItAt.mv {p : Nat → Prop} {w W : World} {T : Nat} {x : It} (h : ItAt w T x) (hm : Mv p w W) (hn : ¬ p T) : ItAt W T x := hm.kept h hn
theorem ItAt.cell {w : World} {T : Nat} {x : It} (h : ItAt w T x) (i : Nat) : w.cell? ⟨T, i, none⟩ = (itC x).toArray[i]? := cell_of_row _ _ _ _ _ _ h
theorem ItAt.free {w : World} {T : Nat} {x : It} (h : ItAt w T x) (i : Nat) : w.frozen? ⟨T, i, none⟩ = false := frozen_of_row _ _ _ _ _ h
theorem ItAt.set {w : World} {T : Nat} {x y : It} (h : ItAt w T x) (i : Nat) (v : Value) (e : (itC x).toArray.setIfInBounds i v = (itC y).toArray) : ItAt (w.setCell ⟨T, i, none⟩ v) T y := by
  unfold ItAt
  rw [← e]
  exact heap_setCell_same _ _ _ _ _ _ h
theorem skip_len (t : List UInt8) (r : Rdr) : (skipR t r).s.length ≤ r.s.length := by
  unfold skipR
  split <;> simp
theorem num_len (r : Rdr) : (numR r).2.s.length ≤ r.s.length := by
  have := skip_len [32] r
  show ((skipR [32] r).s.drop _).length ≤ _
  rw [List.length_drop]
  omega
theorem word_len (r : Rdr) : (wordR r).2.s.length ≤ r.s.length ∧ (wordR r).1.length ≤ r.s.length := by
  refine ⟨?_, (List.takeWhile_prefix _).length_le⟩
  show (r.s.drop _).length ≤ _
  rw [List.length_drop]
  omega
theorem text_len (r : Rdr) : (textR r).2.s.length ≤ r.s.length ∧ (textR r).1.length ≤ r.s.length := by
  have h1 := skip_len [32, 34] r
  refine ⟨?_, Nat.le_trans ((List.takeWhile_prefix _).length_le) h1⟩
  refine Nat.le_trans (skip_len [34] _) ?_
  show ((skipR [32, 34] r).s.drop _).length ≤ _
  rw [List.length_drop]
  omega

end Go.Proofs.YtfklckjfbnaoeaaGreatDoor
