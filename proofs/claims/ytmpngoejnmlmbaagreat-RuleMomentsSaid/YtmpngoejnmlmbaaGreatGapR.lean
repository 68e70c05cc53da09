/-
  The reference's gaps are package rule's. Plain: no walk.
-/
import Derived.Test.YtmpngoejnmlmbaaGreatGapP
set_option linter.unusedSimpArgs false
set_option linter.unusedVariables false
namespace Go.Proofs.YtmpngoejnmlmbaaGreat
open Go.RowKit

def rgpStep (topic dir : Int) (out : List Gp) (m h s : Int) : List Gp :=
  if h = s then out else
    match out.getLast? with
    | some g => if g.topic = topic ∧ g.dir = dir ∧ g.to = m ∧ g.has = h ∧ g.should = s then out.set (out.length - 1) g.up else out ++ [⟨topic, dir, m, m + 1, h, s⟩]
    | none => out ++ [⟨topic, dir, m, m + 1, h, s⟩]
/-- From place F on the gaps are of this topic and direction, before it none is. -/
structure PartOk (topic dir : Int) (F : Nat) (out : List Gp) : Prop where
  le : F ≤ out.length
  pre : ∀ i g, i < F → out[i]? = some g → ¬ (g.topic = topic ∧ g.dir = dir)
  suf : ∀ i g, F ≤ i → out[i]? = some g → g.topic = topic ∧ g.dir = dir
theorem rgp_eq {topic dir : Int} {F : Nat} {out : List Gp} (h : PartOk topic dir F out) (m x s : Int) : rgpStep topic dir out m x s = gpStep topic dir F out m x s := by
  unfold rgpStep gpStep
  split
  · rfl
  · cases hg : out.getLast? with
    | none => rfl
    | some g =>
      dsimp only
      rw [List.getLast?_eq_getElem?] at hg
      have hlt : out.length - 1 < out.length := (List.getElem?_eq_some_iff.1 hg).1
      have hiff : (g.topic = topic ∧ g.dir = dir ∧ g.to = m ∧ g.has = x ∧ g.should = s) ↔ (F < out.length ∧ g.to = m ∧ g.has = x ∧ g.should = s) := by
        constructor
        · rintro ⟨h1, h2, h3⟩
          refine ⟨?_, h3⟩
          rcases Nat.lt_or_ge F out.length with h4 | h4
          · exact h4
          · exact absurd ⟨h1, h2⟩ (h.pre _ g (by omega) hg)
        · rintro ⟨h1, h3⟩
          have h4 := h.suf _ g (by omega) hg
          exact ⟨h4.1, h4.2, h3⟩
      by_cases hc : F < out.length ∧ g.to = m ∧ g.has = x ∧ g.should = s
      · rw [if_pos hc, if_pos (hiff.2 hc)]
      · rw [if_neg hc, if_neg (fun h => hc (hiff.1 h))]
theorem PartOk.push {topic dir : Int} {F : Nat} {out : List Gp} (h : PartOk topic dir F out) (g : Gp) (h1 : g.topic = topic) (h2 : g.dir = dir) : PartOk topic dir F (out ++ [g]) := by
  have hle := h.le
  refine ⟨by simp; omega, fun i x hi hx => ?_, fun i x hi hx => ?_⟩
  · rw [List.getElem?_append_left (by omega)] at hx; exact h.pre i x hi hx
  · rcases Nat.lt_or_ge i out.length with h3 | h3
    · rw [List.getElem?_append_left h3] at hx; exact h.suf i x hi hx
    · rw [List.getElem?_append_right h3] at hx
      have : i - out.length = 0 := by
        rcases Nat.eq_zero_or_pos (i - out.length) with h4 | h4
        · exact h4
        · rw [List.getElem?_eq_none (by simp; omega)] at hx; cases hx
      rw [this] at hx
      simp at hx
      subst hx
      exact ⟨h1, h2⟩
theorem PartOk.step {topic dir : Int} {F : Nat} {out : List Gp} (h : PartOk topic dir F out) (m x s : Int) : PartOk topic dir F (gpStep topic dir F out m x s) := by
  unfold gpStep
  split
  · exact h
  · cases hg : out.getLast? with
    | none => exact h.push _ rfl rfl
    | some g =>
      dsimp only
      split
      · rename_i hc
        rw [List.getLast?_eq_getElem?] at hg
        refine ⟨by simpa using h.le, fun i y hi hy => ?_, fun i y hi hy => ?_⟩
        · rw [List.getElem?_set_ne (by omega)] at hy; exact h.pre i y hi hy
        · by_cases e : out.length - 1 = i
          · subst e
            rw [List.getElem?_set_self (List.getElem?_eq_some_iff.1 hg).1] at hy
            injection hy with hy
            subst hy
            exact h.suf _ g (by omega) hg
          · rw [List.getElem?_set_ne e] at hy; exact h.suf i y hi hy
      · exact h.push _ rfl rfl
theorem PartOk.run {topic dir : Int} {F : Nat} {out : List Gp} (h : PartOk topic dir F out) (H S : List Int) (k : Nat) : PartOk topic dir F (gpRun topic dir F H S out k) := by
  induction k with
  | zero => exact h
  | succ k ih =>
    have e : gpRun topic dir F H S out (k + 1) = gpStep topic dir F (gpRun topic dir F H S out k) k (H.getD k 0) (S.getD k 0) := by simp [gpRun, List.range_succ]
    rw [e]; exact ih.step _ _ _
theorem gpAll_pair (n : Nat) (hold must : Int → Int → List Int) (i : Nat) (hi : i ≤ 4) : ∀ g ∈ gpAll n hold must i, ∃ j, j < i ∧ g.topic = topI j ∧ g.dir = dirI j := by
  induction i with
  | zero => intro g hg; cases hg
  | succ i ih =>
    have hp : PartOk (topI i) (dirI i) (gpAll n hold must i).length (gpAll n hold must i) := by
      refine ⟨Nat.le_refl _, fun k g hk hg hh => ?_, fun k g hk hg => by rw [List.getElem?_eq_none hk] at hg; cases hg⟩
      obtain ⟨j, hj, h1, h2⟩ := ih (by omega) g (List.mem_of_getElem? hg)
      rw [h1, h2] at hh
      rcases (show i = 0 ∨ i = 1 ∨ i = 2 ∨ i = 3 by omega) with rfl | rfl | rfl | rfl <;> rcases (show j = 0 ∨ j = 1 ∨ j = 2 by omega) with rfl | rfl | rfl <;> simp [topI, dirI] at hh hj
    have hr := hp.run (hold (topI i) (dirI i)) (must (topI i) (dirI i)) n
    have hkeep : ∀ k, ∀ g ∈ gpRun (topI i) (dirI i) (gpAll n hold must i).length (hold (topI i) (dirI i)) (must (topI i) (dirI i)) (gpAll n hold must i) k, (∃ j, j < i ∧ g.topic = topI j ∧ g.dir = dirI j) ∨ (g.topic = topI i ∧ g.dir = dirI i) := by
      intro k
      induction k with
      | zero => intro g hg; exact .inl (ih (by omega) g hg)
      | succ k ihk =>
        have e : gpRun (topI i) (dirI i) (gpAll n hold must i).length (hold (topI i) (dirI i)) (must (topI i) (dirI i)) (gpAll n hold must i) (k + 1) = gpStep (topI i) (dirI i) (gpAll n hold must i).length (gpRun (topI i) (dirI i) (gpAll n hold must i).length (hold (topI i) (dirI i)) (must (topI i) (dirI i)) (gpAll n hold must i) k) k ((hold (topI i) (dirI i)).getD k 0) ((must (topI i) (dirI i)).getD k 0) := by simp [gpRun, List.range_succ]
        rw [e]
        intro g hg
        unfold gpStep at hg
        split at hg
        · exact ihk g hg
        · split at hg
          · rename_i y hy
            split at hg
            · rcases List.mem_or_eq_of_mem_set hg with hg | hg
              · exact ihk g hg
              · subst hg; exact ihk y (List.mem_of_getLast? hy)
            · rcases List.mem_append.1 hg with hg | hg
              · exact ihk g hg
              · simp at hg; subst hg; exact .inr ⟨rfl, rfl⟩
          · rcases List.mem_append.1 hg with hg | hg
            · exact ihk g hg
            · simp at hg; subst hg; exact .inr ⟨rfl, rfl⟩
    intro g hg
    rcases hkeep n g hg with ⟨j, hj, h⟩ | h
    · exact ⟨j, by omega, h⟩
    · exact ⟨i, by omega, h⟩
theorem gpAll_part (n : Nat) (hold must : Int → Int → List Int) (i : Nat) (hi : i < 4) : PartOk (topI i) (dirI i) (gpAll n hold must i).length (gpAll n hold must i) := by
  refine ⟨Nat.le_refl _, fun k g hk hg hh => ?_, fun k g hk hg => by rw [List.getElem?_eq_none hk] at hg; cases hg⟩
  obtain ⟨j, hj, h1, h2⟩ := gpAll_pair n hold must i (by omega) g (List.mem_of_getElem? hg)
  rw [h1, h2] at hh
  rcases (show i = 0 ∨ i = 1 ∨ i = 2 ∨ i = 3 by omega) with rfl | rfl | rfl | rfl <;> rcases (show j = 0 ∨ j = 1 ∨ j = 2 by omega) with rfl | rfl | rfl <;> simp [topI, dirI] at hh hj

end Go.Proofs.YtmpngoejnmlmbaaGreat
