/-
  The arguments opened: what a slice of numbers, of spans, of signs, of edicts, a line, an ask that came in reads as.
-/
import Derived.Test.YtegghimjmbgghaaGreatKit2
import Derived.SizedLaws
import Derived.Deep.Slices
import Derived.Deep.Fields
import Derived.ChangeSame
set_option linter.unusedSimpArgs false
set_option linter.unusedVariables false
namespace Go.Proofs.YtegghimjmbgghaaGreat
open Go.RowKit Go.ChangeShapes Go.WideShapes Go.Deep

section
variable {H : Type} {enc : TypeId × Value → H} {P : Program} {w : World} {base : Nat} {spare : Nat → Bool} {held : Bool}

def Fit (P : Program) (t : TypeId) (d : DataW H) : Prop := ∀ n ∈ d.weights P t, n ≤ reachBytes

theorem mem_weightsAll {e : TypeId} : ∀ {l : List (DataW H)} {d : DataW H}, d ∈ l → ∀ n ∈ d.weights P e, n ∈ DataW.weightsAll P e l
  | d0 :: l, d, hd, n, hn => by
    simp only [DataW.weightsAll, List.mem_append]
    rcases List.mem_cons.1 hd with rfl | h
    · exact .inl hn
    · exact .inr (mem_weightsAll h n hn)
  | [], _, hd, _, _ => by cases hd
theorem Fit.part {t : TypeId} {fs : Array Field} (hs : P.underlying t = some (.struct fs)) {parts : List (DataW H)} (h : Fit P t (.agg parts)) {j : Nat} {f : Field} {d : DataW H} (hf : fs[j]? = some f) (hd : parts[j]? = some d) : Fit P f.type d :=
  fun n hn => h n (by simp only [DataW.weights, hs]; exact DataW.weights_mem_each (by simp [hf]) hd n hn)
theorem Fit.len {t e : TypeId} (ht : P.underlying t = some (.slice e)) {elems sp : List (DataW H)} (h : Fit P t (.slice elems sp)) : (elems.length + sp.length) * P.bytesOf e ≤ reachBytes := h _ (by simp [DataW.weights, ht])
theorem Fit.elem {t e : TypeId} (ht : P.underlying t = some (.slice e)) {elems sp : List (DataW H)} (h : Fit P t (.slice elems sp)) {d : DataW H} (hd : d ∈ elems) : Fit P e d :=
  fun n hn => h n (by simp only [DataW.weights, ht, List.mem_cons, List.mem_append]; exact .inr (.inl (mem_weightsAll hd n hn)))

theorem choose_list {α : Type} {Q : Nat → α → Prop} : ∀ (len : Nat), (∀ i, i < len → ∃ a, Q i a) → ∃ l : List α, l.length = len ∧ ∀ i (h : i < l.length), Q i l[i]
  | 0, _ => ⟨[], rfl, fun i h => by simp at h⟩
  | len + 1, hq => by
    obtain ⟨l, hl, h⟩ := choose_list len fun i hi => hq i (by omega)
    obtain ⟨a, ha⟩ := hq len (by omega)
    refine ⟨l ++ [a], by simp [hl], fun i hi => ?_⟩
    rcases Nat.lt_or_ge i l.length with h1 | h1
    · rw [List.getElem_append_left h1]; exact h i h1
    · have : i = l.length := by simp at hi; omega
      subst this
      simp only [List.getElem_concat_length]
      rw [hl]; exact ha

theorem open_rows {α : Type} (f : α → List Value) (K B : Nat) (Ok : α → Prop) {t e : TypeId} {fuel : Nat} {cs : List Value} {x : DataW H × List MemPlace} (ht : P.underlying t = some (.slice e)) (hC : P.cellsOf e = K) (hK : 0 < K) (hf : ∀ a, (f a).length = K) (hB : P.bytesOf e = B)
    (el : ∀ n cs x, DataW.trod enc P w base spare held n e cs = some x → Fit P e x.1 → ∃ a, cs = f a ∧ Ok a)
    (h : DataW.trod enc P w base spare held fuel t cs = some x) (hw : Fit P t x.1) :
    ∃ (A : Option Addr) (l : List α) (c : Nat), cs = [.slice A l.length c] ∧ Rd w A (l.flatMap f) ∧ (∀ a ∈ l, Ok a) ∧ l.length * B ≤ reachBytes := by
  rcases open_slice ht h with ⟨rfl, rfl⟩ | ⟨a, len, cap, m, n, D, Pl, rfl, hb, hl, hm, hmm, rfl, hi⟩
  · exact ⟨none, [], 0, rfl, Rd.nil _ _, by simp, by simp⟩
  · have hlm : len ≤ m := by rw [hmm]; split <;> omega
    rw [hC] at hi
    obtain ⟨l, rfl, hq⟩ := choose_list (Q := fun i a' => w.cells? base (a.add (i * K)) K = some (f a') ∧ Ok a') len fun i hlt => by
      obtain ⟨cs', hc, htr⟩ := hi i (by omega)
      obtain ⟨a', rfl, ho⟩ := el n cs' _ htr (hw.elem ht (List.mem_map.2 ⟨i, List.mem_range.2 hlt, rfl⟩))
      exact ⟨a', hc, ho⟩
    refine ⟨some a, l, cap, rfl, fun hne => ?_, fun a' ha => ?_, ?_⟩
    · have h0 : 0 < l.length := by
        rcases Nat.eq_zero_or_pos l.length with h | h
        · rw [List.eq_nil_of_length_eq_zero h] at hne; simp at hne
        · exact h
      obtain ⟨-, -, hat⟩ := World.cells?_some (hq 0 h0).1
      have h1 := hat 0 hK
      rw [Nat.zero_mul, Addr.add_zero', Addr.add_zero', List.getElem?_eq_getElem (by rw [hf]; exact hK)] at h1
      have hsp : a.spot = none ∧ a.block < w.heap.size := by
        unfold World.cell? at h1
        split at h1
        · rename_i hh
          refine ⟨?_, (Array.getElem?_eq_some_iff.1 hh).1⟩
          split at h1
          · cases h1
          · simpa using ‹¬ a.spot.isSome = true›
        · cases h1
      obtain ⟨b, off, sp⟩ := a
      obtain ⟨rfl, hbl⟩ := hsp
      refine ⟨b, off, rfl, hbl, fun j u hu => ?_⟩
      have hj : j < l.length * K := by
        rcases Nat.lt_or_ge j (l.length * K) with h | h
        · exact h
        · rw [List.getElem?_eq_none (by rw [flat_len hf]; exact h)] at hu; cases hu
      have hi' : j / K < l.length := Nat.div_lt_of_lt_mul (by rw [Nat.mul_comm]; exact hj)
      have hr : j % K < K := Nat.mod_lt _ hK
      have e : j / K * K + j % K = j := Nat.div_add_mod' j K
      have h2 := flat_at hf l (j / K) (j % K) hi' hr
      rw [e, hu] at h2
      obtain ⟨-, -, hat⟩ := World.cells?_some (hq (j / K) hi').1
      have h3 := hat _ hr
      rw [← h2, add_at, add_at, Nat.add_assoc, e] at h3
      exact h3
    · obtain ⟨i, hi', rfl⟩ := List.getElem_of_mem ha
      exact (hq i hi').2
    · have h4 := hw.len ht
      rw [hB] at h4
      simp only [List.length_map, List.length_range] at h4
      exact Nat.le_trans (Nat.mul_le_mul_right B (Nat.le_add_right _ _)) h4
end

end Go.Proofs.YtegghimjmbgghaaGreat
