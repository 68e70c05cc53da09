/-
  The dots of a box, one after the other; faces that look the same, in a mirror too. No program in sight.
-/
import Derived.Test.YtmagidoodlkeoaaGreatDoorFcPaint
set_option linter.unusedSimpArgs false
set_option linter.unusedVariables false
namespace Go.Proofs.YtmagidoodlkeoaaGreatDoor

theorem fin_take {N n : Nat} (h : n < N) : (List.finRange N).take n ++ [⟨n, h⟩] = (List.finRange N).take (n + 1) := by
  have hl : n < (List.finRange N).length := by rw [List.length_finRange]; exact h
  rw [← List.take_append_getElem hl, List.getElem_finRange]
  rfl
theorem fin_all (N : Nat) : (List.finRange N).take N = List.finRange N := by
  rw [List.take_of_length_le (by rw [List.length_finRange]; exact Nat.le_refl _)]
theorem fin_take_len {N n : Nat} (h : n ≤ N) : ((List.finRange N).take n).length = n := by
  rw [List.length_take, List.length_finRange]; omega
theorem pix_lt {f : Fc} {n : Nat} (hn : n < numD f) : ((n % f.size.toNat : Nat) : Int) < f.size ∧ ((n / f.size.toNat : Nat) : Int) < heiF f := by
  obtain ⟨a, b⟩ := pix_in hn
  generalize n % f.size.toNat = x at *
  generalize n / f.size.toNat = y at *
  constructor <;> omega
theorem look_dots {f g : Fc} : lookB f g = true ↔ f.size = g.size ∧ heiF f = heiF g ∧ ∀ n, n < numD f → dotK f f.items.length n = dotK g g.items.length n := by
  simp only [lookB, decide_eq_true_eq]
  constructor
  · rintro ⟨h1, h2, h3⟩
    refine ⟨h1, h2, fun n hn => ?_⟩
    obtain ⟨a, b⟩ := pix_lt hn
    have h := h3 ((n % f.size.toNat : Nat) : Int) ((n / f.size.toNat : Nat) : Int) (Int.natCast_nonneg _) a (Int.natCast_nonneg _) b
    unfold dotK
    rw [← h1]
    exact h
  · rintro ⟨h1, h2, h3⟩
    refine ⟨h1, h2, fun i j i0 i1 j0 j1 => ?_⟩
    obtain ⟨n, hn, e, d, -⟩ := pix_int (f := f) ⟨i0, i1⟩ ⟨j0, j1⟩
    obtain ⟨m, hm, e', d', -⟩ := pix_int (f := g) ⟨i0, by omega⟩ ⟨j0, by omega⟩
    obtain rfl : n = m := by rw [← h1] at e'; omega
    rw [← d, ← d']
    exact h3 n hn
theorem mir_dots {f : Fc} : mirB f = true ↔ ∀ n, n < numD f → dotK f f.items.length n = colI f (f.size - 1 - ((n % f.size.toNat : Nat) : Int)) ((n / f.size.toNat : Nat) : Int) := by
  simp only [mirB, decide_eq_true_eq]
  constructor
  · intro h n hn
    obtain ⟨a, b⟩ := pix_lt hn
    exact h ((n % f.size.toNat : Nat) : Int) ((n / f.size.toNat : Nat) : Int) (Int.natCast_nonneg _) a (Int.natCast_nonneg _) b
  · intro h i j i0 i1 j0 j1
    obtain ⟨a, rfl⟩ := Int.eq_ofNat_of_zero_le i0
    obtain ⟨b, rfl⟩ := Int.eq_ofNat_of_zero_le j0
    have ha : a < f.size.toNat := by omega
    have hb : b < (heiF f).toNat := by omega
    obtain ⟨p1, p2, p3⟩ := pix_at ha hb
    have := h _ p1
    rw [colI_dot ha hb, p2, p3] at this
    exact this
theorem look_true {f g : Fc} (h1 : f.size = g.size) (h2 : heiF f = heiF g) (h3 : ∀ n, n < numD f → dotK f f.items.length n = dotK g g.items.length n) : lookB f g = true := look_dots.2 ⟨h1, h2, h3⟩
theorem look_false {f g : Fc} (h : ¬ (f.size = g.size ∧ heiF f = heiF g)) : lookB f g = false := by
  cases e : lookB f g with
  | false => rfl
  | true => exact absurd ⟨(look_dots.1 e).1, (look_dots.1 e).2.1⟩ h
theorem look_dot {f g : Fc} {n : Nat} (hn : n < numD f) (h : dotK f f.items.length n ≠ dotK g g.items.length n) : lookB f g = false := by
  cases e : lookB f g with
  | false => rfl
  | true => exact absurd ((look_dots.1 e).2.2 n hn) h
theorem mir_true {f : Fc} (h : ∀ n, n < numD f → dotK f f.items.length n = colI f (f.size - 1 - ((n % f.size.toNat : Nat) : Int)) ((n / f.size.toNat : Nat) : Int)) : mirB f = true := mir_dots.2 h
theorem mir_dot {f : Fc} {n : Nat} (hn : n < numD f) (h : dotK f f.items.length n ≠ colI f (f.size - 1 - ((n % f.size.toNat : Nat) : Int)) ((n / f.size.toNat : Nat) : Int)) : mirB f = false := by
  cases e : mirB f with
  | false => rfl
  | true => exact absurd (mir_dots.1 e n hn) h

end Go.Proofs.YtmagidoodlkeoaaGreatDoor
