/-
  The runs of a row of colours, and how many dots they hold. No program in sight.
-/
import Derived.Test.YtmagidoodlkeoaaGreatDoorFcQ
set_option linter.unusedSimpArgs false
set_option linter.unusedVariables false
namespace Go.Proofs.YtmagidoodlkeoaaGreatDoor

structure Rn where
  fr : Int
  cnt : Int
  col : Int
/-- One dot more in the last run. -/
def bump : List Rn → List Rn
  | [] => []
  | [r] => [⟨r.fr, r.cnt + 1, r.col⟩]
  | r :: s :: l => r :: bump (s :: l)
theorem bump_snoc (l : List Rn) (r : Rn) : bump (l ++ [r]) = l ++ [⟨r.fr, r.cnt + 1, r.col⟩] := by
  induction l with
  | nil => rfl
  | cons a l ih =>
    cases l with
    | nil => rfl
    | cons b l => simpa [bump] using ih
/-- The runs of the first k dots. -/
def runsK (c : Nat → Int) : Nat → List Rn
  | 0 => []
  | k + 1 => if c k = 0 then runsK c k else if 0 < k ∧ c (k - 1) = c k then bump (runsK c k) else runsK c k ++ [⟨k, 1, c k⟩]
/-- What is known of the last run. -/
theorem runs_last (c : Nat → Int) (k : Nat) :
    (∀ (l : List Rn) (r : Rn), runsK c k = l ++ [r] → 0 ≤ r.fr ∧ 1 ≤ r.cnt ∧ r.fr + r.cnt ≤ k ∧ (r.fr + r.cnt = k → 0 < k ∧ c (k - 1) = r.col)) ∧
    (0 < k → c (k - 1) ≠ 0 → ∃ (l : List Rn) (r : Rn), runsK c k = l ++ [r] ∧ r.fr + r.cnt = k ∧ r.col = c (k - 1)) := by
  induction k with
  | zero => exact ⟨fun l r h => by simp [runsK] at h, fun h => absurd h (by omega)⟩
  | succ k ih =>
    by_cases h0 : c k = 0
    · have e : runsK c (k + 1) = runsK c k := by rw [runsK, if_pos h0]
      refine ⟨fun l r h => ?_, fun _ h => absurd h0 (by simpa using h)⟩
      rw [e] at h
      obtain ⟨a, b, d, -⟩ := ih.1 l r h
      exact ⟨a, b, by omega, fun h => by omega⟩
    · by_cases h1 : 0 < k ∧ c (k - 1) = c k
      · have e : runsK c (k + 1) = bump (runsK c k) := by rw [runsK, if_neg h0, if_pos h1]
        obtain ⟨l0, r0, e0, e1, e2⟩ := ih.2 h1.1 (by rw [h1.2]; exact h0)
        obtain ⟨a, b, d, -⟩ := ih.1 l0 r0 e0
        rw [e0, bump_snoc] at e
        refine ⟨fun l r h => ?_, fun _ _ => ⟨_, _, e, by simp; omega, by simp [e2, h1.2]⟩⟩
        rw [e] at h
        obtain ⟨-, h⟩ := List.append_inj' h rfl
        injection h with h
        subst h
        exact ⟨a, by simp; omega, by simp; omega, fun _ => ⟨by omega, by simp [e2, h1.2]⟩⟩
      · have e : runsK c (k + 1) = runsK c k ++ [⟨k, 1, c k⟩] := by rw [runsK, if_neg h0, if_neg h1]
        refine ⟨fun l r h => ?_, fun _ _ => ⟨_, _, e, by simp, by simp⟩⟩
        rw [e] at h
        obtain ⟨-, h⟩ := List.append_inj' h rfl
        injection h with h
        subst h
        exact ⟨by simp, by simp, by simp, fun _ => ⟨by omega, by simp⟩⟩
/-- The reference's test for 'the same run' is the program's. -/
theorem runs_same {c : Nat → Int} {k : Nat} (h0 : c k ≠ 0) : (∃ (l : List Rn) (r : Rn), runsK c k = l ++ [r] ∧ r.col = c k ∧ r.fr + r.cnt = k) ↔ (0 < k ∧ c (k - 1) = c k) := by
  obtain ⟨h1, h2⟩ := runs_last c k
  constructor
  · rintro ⟨l, r, e, e1, e2⟩
    obtain ⟨-, -, -, h⟩ := h1 l r e
    obtain ⟨a, b⟩ := h e2
    exact ⟨a, by rw [b, e1]⟩
  · rintro ⟨a, b⟩
    obtain ⟨l, r, e, e1, e2⟩ := h2 a (by rw [b]; exact h0)
    exact ⟨l, r, e, by rw [e2, b], e1⟩
/-- How many of the first k dots have the colour v. -/
def cntK (c : Nat → Int) (v : Int) : Nat → Int
  | 0 => 0
  | k + 1 => cntK c v k + (if c k = v then 1 else 0)
/-- How many dots the runs of the colour v hold. -/
def sumV (v : Int) : List Rn → Int
  | [] => 0
  | r :: l => (if r.col = v then r.cnt else 0) + sumV v l
def sumA : List Rn → Int
  | [] => 0
  | r :: l => r.cnt + sumA l
theorem sumV_app (v : Int) (l m : List Rn) : sumV v (l ++ m) = sumV v l + sumV v m := by
  induction l with
  | nil => simp [sumV]
  | cons r l ih => simp [sumV, ih]; omega
theorem sumA_app (l m : List Rn) : sumA (l ++ m) = sumA l + sumA m := by
  induction l with
  | nil => simp [sumA]
  | cons r l ih => simp [sumA, ih]; omega
theorem runs_sums (c : Nat → Int) (k : Nat) : (∀ v, v ≠ 0 → sumV v (runsK c k) = cntK c v k) ∧ sumA (runsK c k) + cntK c 0 k = k := by
  induction k with
  | zero => exact ⟨fun _ _ => rfl, rfl⟩
  | succ k ih =>
    by_cases h0 : c k = 0
    · have e : runsK c (k + 1) = runsK c k := by rw [runsK, if_pos h0]
      refine ⟨fun v hv => ?_, ?_⟩
      · rw [e, ih.1 v hv, cntK, if_neg (by rw [h0]; exact fun h => hv h.symm)]; omega
      · rw [e, cntK, if_pos h0]; have := ih.2; omega
    · by_cases h1 : 0 < k ∧ c (k - 1) = c k
      · have e : runsK c (k + 1) = bump (runsK c k) := by rw [runsK, if_neg h0, if_pos h1]
        obtain ⟨l0, r0, e0, e1, e2⟩ := (runs_last c k).2 h1.1 (by rw [h1.2]; exact h0)
        rw [e0, bump_snoc] at e
        refine ⟨fun v hv => ?_, ?_⟩
        · have := ih.1 v hv
          rw [e0, sumV_app] at this
          rw [e, sumV_app, cntK, ← this]
          simp only [sumV, e2, h1.2]
          split <;> omega
        · have := ih.2
          rw [e0, sumA_app] at this
          rw [e, sumA_app, cntK, if_neg h0]
          simp only [sumA] at this ⊢
          omega
      · have e : runsK c (k + 1) = runsK c k ++ [⟨k, 1, c k⟩] := by rw [runsK, if_neg h0, if_neg h1]
        refine ⟨fun v hv => ?_, ?_⟩
        · rw [e, sumV_app, cntK, ih.1 v hv]
          simp [sumV]
        · rw [e, sumA_app, cntK, if_neg h0]
          have := ih.2
          simp [sumA]
          omega

end Go.Proofs.YtmagidoodlkeoaaGreatDoor
