/-
  The seams that are taken, each as far as can be, are as few as can be. No program in sight.
-/
import Derived.Test.YtbnnnjkfhffekaaGreatDoorWaP
set_option linter.unusedSimpArgs false
set_option linter.unusedVariables false
namespace Go.Proofs.YtbnnnjkfhffekaaGreatDoor

/-- The column c is reached with n strips. -/
inductive Reach (f : Fc) (width : Nat) : Int → Nat → Prop where
  | start : Reach f width 0 0
  | step {b c : Int} {n : Nat} (h : Reach f width b n) (h1 : b < c) (h2 : c - b ≤ width) (h3 : c ≤ f.size) (h4 : c < f.size → cutF f c = false) : Reach f width c (n + 1)
theorem Reach.bounds {f : Fc} {width : Nat} {c : Int} {n : Nat} (hs : 0 ≤ f.size) (h : Reach f width c n) : 0 ≤ c ∧ c ≤ f.size := by
  induction h with
  | start => exact ⟨Int.le_refl _, hs⟩
  | step h h1 h2 h3 h4 ih => exact ⟨by omega, h3⟩
/-- Where letters are not cut, the last column is as far. -/
theorem dnS_far (f : Fc) (a : Int) (k : Nat) {c : Int} (h1 : a < c) (h2 : c ≤ a + k) (hc : cutF f c = false) : c ≤ dnS f a k := by
  induction k with
  | zero => omega
  | succ k ih =>
    unfold dnS
    split
    · rename_i h
      by_cases e : c = a + (k + 1 : Nat)
      · rw [← e, hc] at h; cases h
      · exact ih (by omega)
    · omega
theorem dnS_free (f : Fc) (a : Int) (k : Nat) (h : dnS f a k ≠ a) : cutF f (dnS f a k) = false := by
  induction k with
  | zero => exact absurd rfl h
  | succ k ih =>
    unfold dnS at h ⊢
    split
    · rename_i e
      rw [if_pos e] at h
      exact ih h
    · rename_i e
      simpa using e
/-- The columns that seams must keep. -/
def goodS (f : Fc) (width : Nat) : Int → List Int → Prop
  | a, [] => f.size - a ≤ width
  | a, c :: l => a < c ∧ c < f.size ∧ c - a ≤ width ∧ cutF f c = false ∧ goodS f width c l
/-- What the seams from the column a on are, a being the farthest that n strips reach. -/
theorem seamsN_best (f : Fc) (width : Nat) (m : Nat) (a : Int) (n : Nat) (hm : f.size ≤ a + m) (ha : Reach f width a n) (hlt : a < f.size)
    (hfar : ∀ c k, k ≤ n → Reach f width c k → c ≤ a) :
    (seamsN f width m a = none → ∀ k, ¬ Reach f width f.size k) ∧
    (∀ l, seamsN f width m a = some l → goodS f width a l ∧ Reach f width f.size (n + l.length + 1) ∧ ∀ k, Reach f width f.size k → n + l.length + 1 ≤ k) := by
  induction m generalizing a n with
  | zero => omega
  | succ m ih =>
    unfold seamsN
    by_cases h1 : f.size - a ≤ width
    · rw [if_pos h1]
      refine ⟨fun h => by simp at h, fun l hl => ?_⟩
      obtain rfl : [] = l := by injection hl
      refine ⟨h1, .step ha hlt h1 (Int.le_refl _) (fun h => absurd h (by omega)), fun k hk => ?_⟩
      have : ¬ k ≤ n := fun h => by have := hfar _ k h hk; omega
      simp; omega
    · rw [if_neg h1]
      obtain ⟨b1, b2⟩ := dnS_bounds f a width
      -- one strip more reaches no farther than the last column without a letter
      have hstep : ∀ c k, k ≤ n → Reach f width c (k + 1) → c ≤ dnS f a width := by
        intro c k hk hr
        cases hr with
        | step h g1 g2 g3 g4 =>
          have := hfar _ k hk h
          by_cases e : c ≤ a
          · omega
          · exact dnS_far f a width (by omega) (by omega) (g4 (by omega))
      by_cases h2 : dnS f a width = a
      · rw [if_pos h2]
        refine ⟨fun _ k hk => ?_, fun l h => by simp at h⟩
        have hall : ∀ c k, Reach f width c k → c ≤ a := by
          intro c k hr
          induction hr with
          | start => exact hfar 0 0 (Nat.zero_le _) .start
          | @step b c n' h g1 g2 g3 g4 ih2 =>
            by_cases e : c ≤ a
            · exact e
            · have := dnS_far f a width (show a < c by omega) (by omega) (g4 (by omega))
              omega
        have := hall _ _ hk
        omega
      · rw [if_neg h2]
        have hr : Reach f width (dnS f a width) (n + 1) := .step ha (by omega) (by omega) (by omega) (fun _ => dnS_free f a width h2)
        have hfar' : ∀ c k, k ≤ n + 1 → Reach f width c k → c ≤ dnS f a width := by
          intro c k hk hc
          cases k with
          | zero => have := hfar c 0 (Nat.zero_le _) hc; omega
          | succ k => exact hstep c k (by omega) hc
        obtain ⟨i1, i2⟩ := ih (dnS f a width) (n + 1) (by omega) hr (by omega) hfar'
        refine ⟨fun h => i1 (by simpa using h), fun l hl => ?_⟩
        simp only [Option.map_eq_some_iff] at hl
        obtain ⟨l', e, rfl⟩ := hl
        obtain ⟨j1, j2, j3⟩ := i2 l' e
        refine ⟨⟨by omega, by omega, by omega, dnS_free f a width h2, j1⟩, ?_, fun k hk => ?_⟩
        · have : n + (dnS f a width :: l').length + 1 = n + 1 + l'.length + 1 := by simp; omega
          rw [this]; exact j2
        · have := j3 k hk
          simp; omega
theorem seams_best {f : Fc} {width : Nat} (h : fcB f = true) :
    (seamsP f width = none → ∀ k, ¬ Reach f width f.size k) ∧
    (∀ l, seamsP f width = some l → goodS f width 0 l ∧ Reach f width f.size (l.length + 1) ∧ ∀ k, Reach f width f.size k → l.length + 1 ≤ k) := by
  obtain ⟨s1, s2⟩ := size_bounds h
  have := seamsN_best f width 200 0 0 (by omega) .start (by omega) (fun c k hk hr => by
    obtain rfl : k = 0 := by omega
    cases hr
    exact Int.le_refl _)
  simpa [seamsP] using this

end Go.Proofs.YtbnnnjkfhffekaaGreatDoor
