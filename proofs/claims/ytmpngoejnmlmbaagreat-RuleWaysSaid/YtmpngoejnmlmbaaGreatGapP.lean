/-
  Gaps: package rule's and the reference's agree. Plain: no walk.
-/
import Derived.Test.YtmpngoejnmlmbaaGreatStripP
import Derived.Test.YtmpngoejnmlmbaaGreatMust
import Derived.Test.YtmpngoejnmlmbaaGreatEach
set_option linter.unusedSimpArgs false
set_option linter.unusedVariables false
namespace Go.Proofs.YtmpngoejnmlmbaaGreat
open Go.RowKit

structure Gp where
  topic : Int
  dir : Int
  fr : Int
  to : Int
  has : Int
  should : Int
def gpC (g : Gp) : List Value := [.int .i64 g.topic, .int .i64 g.dir, .int .i64 g.fr, .int .i64 g.to, .int .i64 g.has, .int .i64 g.should]
def gps (l : List Gp) : List Value := l.flatMap gpC
def Gp.up (g : Gp) : Gp := { g with to := g.to + 1 }

/-- One metre: the list, where its part of this topic and direction begins. -/
def gpStep (topic dir : Int) (first : Nat) (out : List Gp) (m h s : Int) : List Gp :=
  if h = s then out else
    match out.getLast? with
    | some g => if first < out.length ∧ g.to = m ∧ g.has = h ∧ g.should = s then out.set (out.length - 1) g.up else out ++ [⟨topic, dir, m, m + 1, h, s⟩]
    | none => out ++ [⟨topic, dir, m, m + 1, h, s⟩]
def gpRun (topic dir : Int) (first : Nat) (H S : List Int) (out : List Gp) (k : Nat) : List Gp :=
  (List.range k).foldl (fun o (m : Nat) => gpStep topic dir first o m (H.getD m 0) (S.getD m 0)) out
theorem gpRun_succ (topic dir : Int) (first : Nat) (H S : List Int) (out : List Gp) (k : Nat) (h1 : k < H.length) (h2 : k < S.length) : gpRun topic dir first H S out (k + 1) = gpStep topic dir first (gpRun topic dir first H S out k) k H[k] S[k] := by
  simp [gpRun, List.range_succ, List.getD_eq_getElem?_getD, h1, h2]
theorem gpStep_len (topic dir : Int) (first : Nat) (out : List Gp) (m h s : Int) : out.length ≤ (gpStep topic dir first out m h s).length ∧ (gpStep topic dir first out m h s).length ≤ out.length + 1 := by
  unfold gpStep
  split
  · omega
  · split
    · split <;> simp
    · simp
theorem gpRun_len (topic dir : Int) (first : Nat) (H S : List Int) (out : List Gp) (k : Nat) : out.length ≤ (gpRun topic dir first H S out k).length ∧ (gpRun topic dir first H S out k).length ≤ out.length + k := by
  induction k with
  | zero => simp [gpRun]
  | succ k ih =>
    have e : gpRun topic dir first H S out (k + 1) = gpStep topic dir first (gpRun topic dir first H S out k) k (H.getD k 0) (S.getD k 0) := by simp [gpRun, List.range_succ]
    have := gpStep_len topic dir first (gpRun topic dir first H S out k) k (H.getD k 0) (S.getD k 0)
    rw [e]; omega

theorem gpStep_push {topic dir : Int} {first : Nat} {out : List Gp} {m h s : Int} (hne : h ≠ s) (hn : ∀ g, out.getLast? = some g → ¬ (first < out.length ∧ g.to = m ∧ g.has = h ∧ g.should = s)) : gpStep topic dir first out m h s = out ++ [⟨topic, dir, m, m + 1, h, s⟩] := by
  unfold gpStep
  rw [if_neg hne]
  cases hg : out.getLast? with
  | none => rfl
  | some g => dsimp only; rw [if_neg (hn g hg)]
theorem gpStep_inc {topic dir : Int} {first : Nat} {out : List Gp} {m h s : Int} {q : Nat} {g : Gp} (hne : h ≠ s) (hq : out.length = q + 1) (hg : out[q]? = some g) (h1 : first < out.length) (h2 : g.to = m) (h3 : g.has = h) (h4 : g.should = s) : gpStep topic dir first out m h s = out.set q g.up := by
  unfold gpStep
  have hl : out.getLast? = some g := by rw [List.getLast?_eq_getElem?, hq]; exact hg
  rw [if_neg hne, hl]
  dsimp only
  rw [if_pos ⟨h1, h2, h3, h4⟩, hq]; rfl

/-- All four parts. -/
def gpAll (n : Nat) (hold must : Int → Int → List Int) : Nat → List Gp
  | 0 => []
  | i + 1 => gpRun (topI i) (dirI i) (gpAll n hold must i).length (hold (topI i) (dirI i)) (must (topI i) (dirI i)) (gpAll n hold must i) n
theorem gpAll_len (n : Nat) (hold must : Int → Int → List Int) (i : Nat) : (gpAll n hold must i).length ≤ i * n := by
  induction i with
  | zero => simp [gpAll]
  | succ i ih =>
    have := (gpRun_len (topI i) (dirI i) (gpAll n hold must i).length (hold (topI i) (dirI i)) (must (topI i) (dirI i)) (gpAll n hold must i) n).2
    rw [gpAll, Nat.succ_mul]; omega

theorem gpC_one {l : List Gp} : ∀ u ∈ gps l, u.oneCell' = true := by
  intro u hu
  obtain ⟨e, -, hu⟩ := List.mem_flatMap.1 hu
  simp [gpC] at hu
  rcases hu with rfl | rfl | rfl | rfl | rfl | rfl <;> rfl
theorem gps_set (l : List Gp) (q : Nat) (hq : q < l.length) : (gps l).set (q * 6 + 3) (.int .i64 (l[q].to + 1)) = gps (l.set q l[q].up) := by
  apply List.ext_getElem?
  intro t
  have hl : ∀ l : List Gp, (gps l).length = l.length * 6 := fun l => flat_len (f := gpC) (K := 6) (fun _ => rfl) l
  by_cases ht : t < l.length * 6
  · have hd : t / 6 < l.length := Nat.div_lt_of_lt_mul (by omega)
    have hm : t % 6 < 6 := Nat.mod_lt _ (by omega)
    have e : t / 6 * 6 + t % 6 = t := Nat.div_add_mod' t 6
    have h1 := flat_at (f := gpC) (K := 6) (fun _ => rfl) (l.set q l[q].up) (t / 6) (t % 6) (by simpa using hd) hm
    have h2 := flat_at (f := gpC) (K := 6) (fun _ => rfl) l (t / 6) (t % 6) hd hm
    rw [e] at h1 h2
    show ((gps l).set (q * 6 + 3) _)[t]? = (gps _)[t]?
    rw [show (gps (l.set q l[q].up))[t]? = _ from h1, List.getElem?_set]
    by_cases hq2 : q * 6 + 3 = t
    · have hqd : t / 6 = q := by omega
      have hqm : t % 6 = 3 := by omega
      rw [if_pos hq2, if_pos (by rw [hl]; omega)]
      simp only [hqd, hqm, List.getElem_set_self]
      rfl
    · rw [if_neg hq2, show (gps l)[t]? = _ from h2]
      by_cases hqd : q = t / 6
      · have hne : t % 6 ≠ 3 := by omega
        have hg : (l.set q l[q].up)[t / 6]'(by simpa using hd) = l[q].up := by simp [← hqd]
        have hg2 : l[t / 6] = l[q] := by simp [← hqd]
        rw [hg, hg2]
        rcases (show t % 6 = 0 ∨ t % 6 = 1 ∨ t % 6 = 2 ∨ t % 6 = 4 ∨ t % 6 = 5 by omega) with h | h | h | h | h <;> rw [h] <;> rfl
      · rw [List.getElem_set_ne hqd]
  · rw [List.getElem?_eq_none (by simp [hl]; omega), List.getElem?_eq_none (by rw [hl]; simp; omega)]

end Go.Proofs.YtmpngoejnmlmbaaGreat
