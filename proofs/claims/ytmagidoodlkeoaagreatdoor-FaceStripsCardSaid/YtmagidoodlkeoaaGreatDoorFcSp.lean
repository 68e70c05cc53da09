/-
  The least number of strips, column by column. No program in sight.
-/
import Derived.Test.YtmagidoodlkeoaaGreatDoorFcX
set_option linter.unusedSimpArgs false
set_option linter.unusedVariables false
namespace Go.Proofs.YtmagidoodlkeoaaGreatDoor

/-- v is the least number of strips that end at the column c, or -1. -/
def Bst (f : Fc) (wd : Nat) (c v : Int) : Prop := (v = -1 ∧ ∀ k, ¬ Reach f wd c k) ∨ (0 ≤ v ∧ Reach f wd c v.toNat ∧ ∀ k, Reach f wd c k → v ≤ k)
/-- The same of the columns from lo to b that come before. -/
def Prt (f : Fc) (wd lo b : Nat) (v : Int) : Prop := (v = -1 ∧ ∀ a : Nat, lo ≤ a → a < b → ∀ k, ¬ Reach f wd a k) ∨
  (0 < v ∧ (∃ a : Nat, lo ≤ a ∧ a < b ∧ Reach f wd a (v.toNat - 1)) ∧ ∀ a : Nat, lo ≤ a → a < b → ∀ k, Reach f wd a k → v ≤ k + 1)
theorem reach_le {f : Fc} {wd : Nat} {c : Int} {k : Nat} (h : Reach f wd c k) : (k : Int) ≤ c := by
  induction h with
  | start => omega
  | step h h1 h2 h3 h4 ih => omega
theorem Bst.bounds {f : Fc} {wd : Nat} {c v : Int} (h : Bst f wd c v) : -1 ≤ v ∧ (v = -1 ∨ v ≤ c) := by
  rcases h with ⟨h, -⟩ | ⟨h0, hr, -⟩
  · omega
  · have := reach_le hr; omega
theorem Bst.start (f : Fc) (wd : Nat) : Bst f wd 0 0 := .inr ⟨by omega, .start, fun k _ => by omega⟩
theorem Bst.cut {f : Fc} {wd : Nat} {c : Int} (h0 : 1 ≤ c) (h1 : c < f.size) (h2 : cutF f c = true) : Bst f wd c (-1) := .inl ⟨rfl, fun k hr => by
  cases hr with
  | start => omega
  | step h a b d e => rw [e h1] at h2; cases h2⟩
theorem Prt.start (f : Fc) (wd lo : Nat) : Prt f wd lo lo (-1) := .inl ⟨rfl, fun a h1 h2 => absurd h2 (by omega)⟩
theorem Prt.bounds {f : Fc} {wd lo b : Nat} {v : Int} (h : Prt f wd lo b v) : -1 ≤ v ∧ v ≤ b := by
  rcases h with ⟨h, -⟩ | ⟨h0, ⟨a, h1, h2, hr⟩, -⟩
  · omega
  · have := reach_le hr; omega
theorem Prt.none {f : Fc} {wd lo b : Nat} {u v : Int} (h : Prt f wd lo b v) (hb : Bst f wd b u) (hu : u < 0) : Prt f wd lo (b + 1) v := by
  have hno : ∀ k, ¬ Reach f wd b k := by
    rcases hb with ⟨-, h⟩ | ⟨h, -⟩
    · exact h
    · omega
  rcases h with ⟨e, h⟩ | ⟨h0, ⟨a, h1, h2, hr⟩, h⟩
  · exact .inl ⟨e, fun a h1 h2 k hk => by
      by_cases e : a = b
      · subst e; exact hno k hk
      · exact h a h1 (by omega) k hk⟩
  · exact .inr ⟨h0, ⟨a, h1, by omega, hr⟩, fun a h1 h2 k hk => by
      by_cases e : a = b
      · subst e; exact absurd hk (hno k)
      · exact h a h1 (by omega) k hk⟩
theorem Prt.worse {f : Fc} {wd lo b : Nat} {u v : Int} (h : Prt f wd lo b v) (hb : Bst f wd b u) (hu : 0 ≤ v) (hv : ¬ u + 1 < v) : Prt f wd lo (b + 1) v := by
  have hle : ∀ k, Reach f wd b k → v ≤ k + 1 := by
    intro k hk
    rcases hb with ⟨-, h⟩ | ⟨h, -, h'⟩
    · exact absurd hk (h k)
    · have := h' k hk; omega
  rcases h with ⟨e, h⟩ | ⟨h0, ⟨a, h1, h2, hr⟩, h⟩
  · omega
  · exact .inr ⟨h0, ⟨a, h1, by omega, hr⟩, fun a h1 h2 k hk => by
      by_cases e : a = b
      · subst e; exact hle k hk
      · exact h a h1 (by omega) k hk⟩
theorem Prt.better {f : Fc} {wd lo b : Nat} {u v : Int} (h : Prt f wd lo b v) (hlo : lo ≤ b) (hb : Bst f wd b u) (hu : 0 ≤ u) (hv : v < 0 ∨ u + 1 < v) : Prt f wd lo (b + 1) (u + 1) := by
  obtain ⟨hr, hmin⟩ : Reach f wd b u.toNat ∧ ∀ k, Reach f wd b k → u ≤ k := by
    rcases hb with ⟨h, -⟩ | ⟨-, h1, h2⟩
    · omega
    · exact ⟨h1, h2⟩
  refine .inr ⟨by omega, ⟨b, hlo, by omega, by rw [show (u + 1).toNat - 1 = u.toNat by omega]; exact hr⟩, fun a h1 h2 k hk => ?_⟩
  by_cases e : a = b
  · subst e; have := hmin k hk; omega
  · rcases h with ⟨-, h⟩ | ⟨h0, -, h⟩
    · exact absurd hk (h a h1 (by omega) k)
    · have := h a h1 (by omega) k hk; omega
theorem Prt.done {f : Fc} {wd lo c : Nat} {v : Int} (h : Prt f wd lo c v) (hlo : (lo : Int) = max 0 ((c : Int) - wd)) (hc : 1 ≤ c) (hs : (c : Int) ≤ f.size) (hcut : (c : Int) < f.size → cutF f c = false) : Bst f wd c v := by
  have hinv : ∀ k, Reach f wd c k → ∃ (a n : Nat), lo ≤ a ∧ a < c ∧ Reach f wd a n ∧ k = n + 1 := by
    intro k hk
    generalize hx : (c : Int) = x at hk
    cases hk with
    | start => omega
    | step hr h1 h2 h3 h4 =>
      rename_i b n
      obtain ⟨hb0, -⟩ := hr.bounds (by omega)
      obtain ⟨a, rfl⟩ := Int.eq_ofNat_of_zero_le hb0
      exact ⟨a, n, by omega, by omega, hr, rfl⟩
  rcases h with ⟨e, h⟩ | ⟨h0, ⟨a, h1, h2, hr⟩, h⟩
  · refine .inl ⟨e, fun k hk => ?_⟩
    obtain ⟨a, n, h1, h2, h3, -⟩ := hinv k hk
    exact h a h1 h2 n h3
  · refine .inr ⟨by omega, ?_, fun k hk => ?_⟩
    · have hst := Reach.step hr (c := c) (by omega) (by omega) hs hcut
      rwa [show v.toNat - 1 + 1 = v.toNat by omega] at hst
    · obtain ⟨a, n, h1, h2, h3, rfl⟩ := hinv k hk
      have := h a h1 h2 n h3
      omega
/-- The seams that are taken, one by one. -/
theorem goodS_at {f : Fc} {wd : Nat} : ∀ (l : List Int) (a : Int), goodS f wd a l → (∀ i, (h : i < l.length) → (a :: l)[i]'(by simp; omega) < l[i] ∧ l[i] < f.size ∧ l[i] - (a :: l)[i]'(by simp; omega) ≤ wd ∧ cutF f l[i] = false) ∧ f.size - (a :: l)[l.length]'(by simp) ≤ wd
  | [], a, h => ⟨fun i h => by simp at h, h⟩
  | c :: l, a, h => by
    obtain ⟨g1, g2, g3, g4, g5⟩ := h
    obtain ⟨i1, i2⟩ := goodS_at l c g5
    refine ⟨fun i hi => ?_, by simpa using i2⟩
    cases i with
    | zero => exact ⟨g1, g2, g3, g4⟩
    | succ i => exact i1 i (by simpa using hi)
theorem strips_none {f : Fc} {wd : Nat} {v : Int} (hf : fcB f = true) (h : Bst f wd f.size v) (hv : v < 0) : seamsP f wd = none := by
  cases hs : seamsP f wd with
  | none => rfl
  | some l =>
    obtain ⟨-, h2⟩ := seams_best (width := wd) hf
    obtain ⟨-, hr, -⟩ := h2 l hs
    rcases h with ⟨-, h⟩ | ⟨h, -⟩
    · exact absurd hr (h _)
    · omega
theorem strips_some {f : Fc} {wd : Nat} {v : Int} (hf : fcB f = true) (h : Bst f wd f.size v) (hv : 0 ≤ v) : ∃ l, seamsP f wd = some l ∧ goodS f wd 0 l ∧ v = l.length + 1 := by
  obtain ⟨hr, hmin⟩ : Reach f wd f.size v.toNat ∧ ∀ k, Reach f wd f.size k → v ≤ k := by
    rcases h with ⟨h, -⟩ | ⟨-, h1, h2⟩
    · omega
    · exact ⟨h1, h2⟩
  obtain ⟨h1, h2⟩ := seams_best (width := wd) hf
  cases hs : seamsP f wd with
  | none => exact absurd hr (h1 hs _)
  | some l =>
    obtain ⟨hg, hr', hm'⟩ := h2 l hs
    have a := hmin _ hr'
    have b := hm' _ hr
    exact ⟨l, rfl, hg, by omega⟩

end Go.Proofs.YtmagidoodlkeoaaGreatDoor
