/-
  The runs of a row of colours and how many dots they hold; runs in a mirror; the areas of a face's colours, row by row, dot by dot, run by run. No program in sight.
-/
import Derived.Test.YtmagidoodlkeoaaGreatDoorFcT
set_option linter.unusedSimpArgs false
set_option linter.unusedVariables false
namespace Go.Proofs.YtmagidoodlkeoaaGreatDoor

structure Rn where
  fr : Int
  cnt : Int
  col : Int
/-- One dot more in the last run. -/
def bump : List Rn → List Rn
  | [] => []
  | [r] => [⟨r.fr, r.cnt + 1, r.col⟩]
  | r :: s :: l => r :: bump (s :: l)
theorem bump_snoc (l : List Rn) (r : Rn) : bump (l ++ [r]) = l ++ [⟨r.fr, r.cnt + 1, r.col⟩] := by
  induction l with
  | nil => rfl
  | cons a l ih =>
    cases l with
    | nil => rfl
    | cons b l => simpa [bump] using ih
/-- The runs of the first k dots. -/
def runsK (c : Nat → Int) : Nat → List Rn
  | 0 => []
  | k + 1 => if c k = 0 then runsK c k else if 0 < k ∧ c (k - 1) = c k then bump (runsK c k) else runsK c k ++ [⟨k, 1, c k⟩]
/-- What is known of the last run. -/
theorem runs_last (c : Nat → Int) (k : Nat) :
    (∀ (l : List Rn) (r : Rn), runsK c k = l ++ [r] → 0 ≤ r.fr ∧ 1 ≤ r.cnt ∧ r.fr + r.cnt ≤ k ∧ (r.fr + r.cnt = k → 0 < k ∧ c (k - 1) = r.col)) ∧
    (0 < k → c (k - 1) ≠ 0 → ∃ (l : List Rn) (r : Rn), runsK c k = l ++ [r] ∧ r.fr + r.cnt = k ∧ r.col = c (k - 1)) := by
  induction k with
  | zero => exact ⟨fun l r h => by simp [runsK] at h, fun h => absurd h (by omega)⟩
  | succ k ih =>
    by_cases h0 : c k = 0
    · have e : runsK c (k + 1) = runsK c k := by rw [runsK, if_pos h0]
      refine ⟨fun l r h => ?_, fun _ h => absurd h0 (by simpa using h)⟩
      rw [e] at h
      obtain ⟨a, b, d, -⟩ := ih.1 l r h
      exact ⟨a, b, by omega, fun h => by omega⟩
    · by_cases h1 : 0 < k ∧ c (k - 1) = c k
      · have e : runsK c (k + 1) = bump (runsK c k) := by rw [runsK, if_neg h0, if_pos h1]
        obtain ⟨l0, r0, e0, e1, e2⟩ := ih.2 h1.1 (by rw [h1.2]; exact h0)
        obtain ⟨a, b, d, -⟩ := ih.1 l0 r0 e0
        rw [e0, bump_snoc] at e
        refine ⟨fun l r h => ?_, fun _ _ => ⟨_, _, e, by simp; omega, by simp [e2, h1.2]⟩⟩
        rw [e] at h
        obtain ⟨-, h⟩ := List.append_inj' h rfl
        injection h with h
        subst h
        exact ⟨a, by simp; omega, by simp; omega, fun _ => ⟨by omega, by simp [e2, h1.2]⟩⟩
      · have e : runsK c (k + 1) = runsK c k ++ [⟨k, 1, c k⟩] := by rw [runsK, if_neg h0, if_neg h1]
        refine ⟨fun l r h => ?_, fun _ _ => ⟨_, _, e, by simp, by simp⟩⟩
        rw [e] at h
        obtain ⟨-, h⟩ := List.append_inj' h rfl
        injection h with h
        subst h
        exact ⟨by simp, by simp, by simp, fun _ => ⟨by omega, by simp⟩⟩
/-- The reference's test for 'the same run' is the program's. -/
theorem runs_same {c : Nat → Int} {k : Nat} (h0 : c k ≠ 0) : (∃ (l : List Rn) (r : Rn), runsK c k = l ++ [r] ∧ r.col = c k ∧ r.fr + r.cnt = k) ↔ (0 < k ∧ c (k - 1) = c k) := by
  obtain ⟨h1, h2⟩ := runs_last c k
  constructor
  · rintro ⟨l, r, e, e1, e2⟩
    obtain ⟨-, -, -, h⟩ := h1 l r e
    obtain ⟨a, b⟩ := h e2
    exact ⟨a, by rw [b, e1]⟩
  · rintro ⟨a, b⟩
    obtain ⟨l, r, e, e1, e2⟩ := h2 a (by rw [b]; exact h0)
    exact ⟨l, r, e, by rw [e2, b], e1⟩
/-- How many of the first k dots have the colour v. -/
def cntK (c : Nat → Int) (v : Int) : Nat → Int
  | 0 => 0
  | k + 1 => cntK c v k + (if c k = v then 1 else 0)
/-- How many dots the runs of the colour v hold. -/
def sumV (v : Int) : List Rn → Int
  | [] => 0
  | r :: l => (if r.col = v then r.cnt else 0) + sumV v l
def sumA : List Rn → Int
  | [] => 0
  | r :: l => r.cnt + sumA l
theorem sumV_app (v : Int) (l m : List Rn) : sumV v (l ++ m) = sumV v l + sumV v m := by
  induction l with
  | nil => simp [sumV]
  | cons r l ih => simp [sumV, ih]; omega
theorem sumA_app (l m : List Rn) : sumA (l ++ m) = sumA l + sumA m := by
  induction l with
  | nil => simp [sumA]
  | cons r l ih => simp [sumA, ih]; omega
theorem runs_sums (c : Nat → Int) (k : Nat) : (∀ v, v ≠ 0 → sumV v (runsK c k) = cntK c v k) ∧ sumA (runsK c k) + cntK c 0 k = k := by
  induction k with
  | zero => exact ⟨fun _ _ => rfl, rfl⟩
  | succ k ih =>
    by_cases h0 : c k = 0
    · have e : runsK c (k + 1) = runsK c k := by rw [runsK, if_pos h0]
      refine ⟨fun v hv => ?_, ?_⟩
      · rw [e, ih.1 v hv, cntK, if_neg (by rw [h0]; exact fun h => hv h.symm)]; omega
      · rw [e, cntK, if_pos h0]; have := ih.2; omega
    · by_cases h1 : 0 < k ∧ c (k - 1) = c k
      · have e : runsK c (k + 1) = bump (runsK c k) := by rw [runsK, if_neg h0, if_pos h1]
        obtain ⟨l0, r0, e0, e1, e2⟩ := (runs_last c k).2 h1.1 (by rw [h1.2]; exact h0)
        rw [e0, bump_snoc] at e
        refine ⟨fun v hv => ?_, ?_⟩
        · have := ih.1 v hv
          rw [e0, sumV_app] at this
          rw [e, sumV_app, cntK, ← this]
          simp only [sumV, e2, h1.2]
          split <;> omega
        · have := ih.2
          rw [e0, sumA_app] at this
          rw [e, sumA_app, cntK, if_neg h0]
          simp only [sumA] at this ⊢
          omega
      · have e : runsK c (k + 1) = runsK c k ++ [⟨k, 1, c k⟩] := by rw [runsK, if_neg h0, if_neg h1]
        refine ⟨fun v hv => ?_, ?_⟩
        · rw [e, sumV_app, cntK, ih.1 v hv]
          simp [sumV]
        · rw [e, sumA_app, cntK, if_neg h0]
          have := ih.2
          simp [sumA]
          omega


/-- These are the runs of the first k dots. -/
structure RunsOk (c : Nat → Int) (k : Nat) (l : List Rn) : Prop where
  each : ∀ r ∈ l, 0 ≤ r.fr ∧ 1 ≤ r.cnt ∧ r.fr + r.cnt ≤ k ∧ ∀ i : Nat, r.fr ≤ i → (i : Int) < r.fr + r.cnt → c i = r.col ∧ c i ≠ 0
  apart : l.Pairwise fun r s => r.fr + r.cnt ≤ s.fr ∧ (r.fr + r.cnt = s.fr → r.col ≠ s.col)
  all : ∀ i : Nat, i < k → c i ≠ 0 → ∃ r ∈ l, r.fr ≤ i ∧ (i : Int) < r.fr + r.cnt
theorem RunsOk.nil (c : Nat → Int) : RunsOk c 0 [] := ⟨by simp, by simp, fun i h => by omega⟩
theorem runs_ok (c : Nat → Int) (k : Nat) : RunsOk c k (runsK c k) := by
  induction k with
  | zero => exact RunsOk.nil c
  | succ k ih =>
    by_cases h0 : c k = 0
    · have e : runsK c (k + 1) = runsK c k := by rw [runsK, if_pos h0]
      rw [e]
      refine ⟨fun r hr => ?_, ih.apart, fun i hi hc => ?_⟩
      · obtain ⟨a, b, d, f⟩ := ih.each r hr
        exact ⟨a, b, by omega, f⟩
      · by_cases ei : i = k
        · subst ei; exact absurd h0 hc
        · exact ih.all i (by omega) hc
    · by_cases h1 : 0 < k ∧ c (k - 1) = c k
      · have e : runsK c (k + 1) = bump (runsK c k) := by rw [runsK, if_neg h0, if_pos h1]
        obtain ⟨l0, r0, e0, e1, e2⟩ := (runs_last c k).2 h1.1 (by rw [h1.2]; exact h0)
        rw [e, e0, bump_snoc]
        rw [e0] at ih
        have hap := List.pairwise_append.1 ih.apart
        refine ⟨fun r hr => ?_, List.pairwise_append.2 ⟨hap.1, by simp, fun a ha b hb => ?_⟩, fun i hi hc => ?_⟩
        · simp only [List.mem_append, List.mem_cons, List.not_mem_nil, or_false] at hr
          rcases hr with hr | rfl
          · obtain ⟨a, b, d, f⟩ := ih.each r (by simp [hr])
            exact ⟨a, b, by omega, f⟩
          · obtain ⟨a, b, d, f⟩ := ih.each r0 (by simp)
            refine ⟨a, by dsimp only; omega, by dsimp only; omega, fun i g1 g2 => ?_⟩
            dsimp only at g1 g2 ⊢
            by_cases ei : i = k
            · subst ei; exact ⟨by rw [e2, h1.2], h0⟩
            · exact f i g1 (by omega)
        · obtain rfl : b = ⟨r0.fr, r0.cnt + 1, r0.col⟩ := by simpa using hb
          exact hap.2.2 a ha r0 (by simp)
        · by_cases ei : i = k
          · subst ei; exact ⟨⟨r0.fr, r0.cnt + 1, r0.col⟩, by simp, by have := (ih.each r0 (by simp)); dsimp only; omega, by dsimp only; omega⟩
          · obtain ⟨r, hr, g1, g2⟩ := ih.all i (by omega) hc
            simp only [List.mem_append, List.mem_cons, List.not_mem_nil, or_false] at hr
            rcases hr with hr | rfl
            · exact ⟨r, by simp [hr], g1, g2⟩
            · exact ⟨⟨r.fr, r.cnt + 1, r.col⟩, by simp, g1, by dsimp only; omega⟩
      · have e : runsK c (k + 1) = runsK c k ++ [⟨k, 1, c k⟩] := by rw [runsK, if_neg h0, if_neg h1]
        rw [e]
        refine ⟨fun r hr => ?_, List.pairwise_append.2 ⟨ih.apart, by simp, fun a ha b hb => ?_⟩, fun i hi hc => ?_⟩
        · simp only [List.mem_append, List.mem_cons, List.not_mem_nil, or_false] at hr
          rcases hr with hr | rfl
          · obtain ⟨a, b, d, f⟩ := ih.each r hr
            exact ⟨a, b, by omega, f⟩
          · refine ⟨by simp, by simp, by simp, fun i g1 g2 => ?_⟩
            dsimp only at g1 g2 ⊢
            obtain rfl : i = k := by omega
            exact ⟨rfl, h0⟩
        · obtain rfl : b = ⟨k, 1, c k⟩ := by simpa using hb
          obtain ⟨g1, g2, g3, g4⟩ := ih.each a ha
          refine ⟨g3, fun g5 g6 => h1 ?_⟩
          dsimp only at g5 g6
          have hk : 0 < k := by omega
          refine ⟨hk, ?_⟩
          rw [(g4 (k - 1) (by omega) (by omega)).1, g6]
        · by_cases ei : i = k
          · subst ei; exact ⟨⟨i, 1, c i⟩, by simp, by dsimp only; omega, by dsimp only; omega⟩
          · obtain ⟨r, hr, g⟩ := ih.all i (by omega) hc
            exact ⟨r, by simp [hr], g⟩
/-- There is one list of runs. -/
theorem RunsOk.unique {c : Nat → Int} {k : Nat} : ∀ (l m : List Rn), (∀ r ∈ l, 0 ≤ r.fr ∧ 1 ≤ r.cnt ∧ r.fr + r.cnt ≤ k ∧ ∀ i : Nat, r.fr ≤ i → (i : Int) < r.fr + r.cnt → c i = r.col ∧ c i ≠ 0) →
    (∀ r ∈ m, 0 ≤ r.fr ∧ 1 ≤ r.cnt ∧ r.fr + r.cnt ≤ k ∧ ∀ i : Nat, r.fr ≤ i → (i : Int) < r.fr + r.cnt → c i = r.col ∧ c i ≠ 0) →
    (l.Pairwise fun r s => r.fr + r.cnt ≤ s.fr ∧ (r.fr + r.cnt = s.fr → r.col ≠ s.col)) → (m.Pairwise fun r s => r.fr + r.cnt ≤ s.fr ∧ (r.fr + r.cnt = s.fr → r.col ≠ s.col)) →
    (∀ i : Nat, (∃ r ∈ l, r.fr ≤ i ∧ (i : Int) < r.fr + r.cnt) ↔ (∃ r ∈ m, r.fr ≤ i ∧ (i : Int) < r.fr + r.cnt)) → l = m
  | [], [], _, _, _, _, _ => rfl
  | [], s :: m, _, hm, _, _, ha => by
    obtain ⟨a, b, -, -⟩ := hm s (by simp)
    obtain ⟨n, hn⟩ := Int.eq_ofNat_of_zero_le a
    obtain ⟨r, hr, -⟩ := (ha n).2 ⟨s, by simp, by omega, by omega⟩
    simp at hr
  | r :: l, [], hl, _, _, _, ha => by
    obtain ⟨a, b, -, -⟩ := hl r (by simp)
    obtain ⟨n, hn⟩ := Int.eq_ofNat_of_zero_le a
    obtain ⟨s, hs, -⟩ := (ha n).1 ⟨r, by simp, by omega, by omega⟩
    simp at hs
  | r :: l, s :: m, hl, hm, pl, pm, ha => by
    obtain ⟨pl1, pl2⟩ := List.pairwise_cons.1 pl
    obtain ⟨pm1, pm2⟩ := List.pairwise_cons.1 pm
    obtain ⟨r1, r2, r3, r4⟩ := hl r (by simp)
    obtain ⟨s1, s2, s3, s4⟩ := hm s (by simp)
    -- the first dot is the same
    have low : ∀ x ∈ r :: l, r.fr ≤ x.fr := fun x hx => by
      rcases List.mem_cons.1 hx with rfl | hx
      · exact Int.le_refl _
      · have := (pl1 x hx).1; omega
    have lowm : ∀ x ∈ s :: m, s.fr ≤ x.fr := fun x hx => by
      rcases List.mem_cons.1 hx with rfl | hx
      · exact Int.le_refl _
      · have := (pm1 x hx).1; omega
    have e1 : r.fr = s.fr := by
      obtain ⟨n, hn⟩ := Int.eq_ofNat_of_zero_le r1
      obtain ⟨n', hn'⟩ := Int.eq_ofNat_of_zero_le s1
      obtain ⟨x, hx, x1, -⟩ := (ha n).1 ⟨r, by simp, by omega, by omega⟩
      obtain ⟨y, hy, y1, -⟩ := (ha n').2 ⟨s, by simp, by omega, by omega⟩
      have := lowm x hx; have := low y hy
      omega
    obtain ⟨n, hn⟩ := Int.eq_ofNat_of_zero_le r1
    have e2 : r.col = s.col := by rw [← (r4 n (by omega) (by omega)).1, (s4 n (by omega) (by omega)).1]
    -- and the last one
    have half : ∀ (a b : Rn) (t u : List Rn), a.fr = b.fr → a.col = b.col → 0 ≤ a.fr → 1 ≤ b.cnt → (∀ i : Nat, a.fr ≤ i → (i : Int) < a.fr + a.cnt → c i = a.col ∧ c i ≠ 0) →
        (∀ x ∈ u, b.fr + b.cnt ≤ x.fr ∧ (b.fr + b.cnt = x.fr → b.col ≠ x.col)) → (∀ x ∈ b :: u, ∀ i : Nat, x.fr ≤ i → (i : Int) < x.fr + x.cnt → c i = x.col ∧ c i ≠ 0) →
        (∀ i : Nat, (∃ r ∈ a :: t, r.fr ≤ i ∧ (i : Int) < r.fr + r.cnt) → (∃ r ∈ b :: u, r.fr ≤ i ∧ (i : Int) < r.fr + r.cnt)) → a.cnt ≤ b.cnt := by
      intro a b t u f1 f2 f3 f4 f5 f6 f7 f8
      by_cases hlt : a.cnt ≤ b.cnt
      · exact hlt
      · exfalso
        obtain ⟨q, hq⟩ := Int.eq_ofNat_of_zero_le (show 0 ≤ b.fr + b.cnt by omega)
        obtain ⟨x, hx, x1, x2⟩ := f8 q ⟨a, by simp, by omega, by omega⟩
        rcases List.mem_cons.1 hx with rfl | hx'
        · omega
        · obtain ⟨g1, g2⟩ := f6 x hx'
          have c1 := (f5 q (by omega) (by omega)).1
          have c2 := (f7 x hx q x1 x2).1
          exact g2 (by omega) (by rw [← f2, ← c1, c2])
    have e3 : r.cnt = s.cnt := by
      have h1 := half r s l m e1 e2 r1 s2 r4 pm1 (fun x hx => (hm x hx).2.2.2) (fun i h => (ha i).1 h)
      have h2 := half s r m l e1.symm e2.symm s1 r2 s4 pl1 (fun x hx => (hl x hx).2.2.2) (fun i h => (ha i).2 h)
      omega
    have e : r = s := by
      cases r; cases s; simp only at e1 e2 e3; subst e1 e2 e3; rfl
    subst e
    congr 1
    refine RunsOk.unique l m (fun x hx => hl x (by simp [hx])) (fun x hx => hm x (by simp [hx])) pl2 pm2 fun i => ?_
    constructor
    · rintro ⟨x, hx, x1, x2⟩
      obtain ⟨y, hy, y1, y2⟩ := (ha i).1 ⟨x, by simp [hx], x1, x2⟩
      rcases List.mem_cons.1 hy with rfl | hy
      · have := (pl1 x hx).1; omega
      · exact ⟨y, hy, y1, y2⟩
    · rintro ⟨x, hx, x1, x2⟩
      obtain ⟨y, hy, y1, y2⟩ := (ha i).2 ⟨x, by simp [hx], x1, x2⟩
      rcases List.mem_cons.1 hy with rfl | hy
      · have := (pm1 x hx).1; omega
      · exact ⟨y, hy, y1, y2⟩
def flipR (k : Nat) (r : Rn) : Rn := ⟨k - r.fr - r.cnt, r.cnt, r.col⟩
theorem runs_flip {c : Nat → Int} {k : Nat} (hc : ∀ i, i < k → c i = c (k - 1 - i)) : ((runsK c k).map (flipR k)).reverse = runsK c k := by
  have h := runs_ok c k
  have each : ∀ r ∈ ((runsK c k).map (flipR k)).reverse, 0 ≤ r.fr ∧ 1 ≤ r.cnt ∧ r.fr + r.cnt ≤ k ∧ ∀ i : Nat, r.fr ≤ i → (i : Int) < r.fr + r.cnt → c i = r.col ∧ c i ≠ 0 := by
    intro r hr
    simp only [List.mem_reverse, List.mem_map] at hr
    obtain ⟨s, hs, rfl⟩ := hr
    obtain ⟨a, b, d, f⟩ := h.each s hs
    refine ⟨by simp only [flipR]; omega, b, by simp only [flipR]; omega, fun i g1 g2 => ?_⟩
    simp only [flipR] at g1 g2 ⊢
    rw [hc i (by omega)]
    exact f _ (by omega) (by omega)
  have hap : (((runsK c k).map (flipR k)).reverse).Pairwise fun r s => r.fr + r.cnt ≤ s.fr ∧ (r.fr + r.cnt = s.fr → r.col ≠ s.col) := by
    rw [List.pairwise_reverse, List.pairwise_map]
    refine h.apart.imp fun {r s} ⟨g1, g2⟩ => ?_
    simp only [flipR]
    exact ⟨by omega, fun e e2 => g2 (by omega) e2.symm⟩
  refine RunsOk.unique _ _ each h.each hap h.apart fun i => ?_
  constructor
  · rintro ⟨r, hr, g1, g2⟩
    obtain ⟨a, b, d, f⟩ := each r hr
    exact h.all i (by omega) (f i g1 g2).2
  · rintro ⟨r, hr, g1, g2⟩
    obtain ⟨a, b, d, f⟩ := h.each r hr
    have := (f i g1 g2).2
    rw [hc i (by omega)] at this
    obtain ⟨s, hs, s1, s2⟩ := h.all _ (by omega) this
    exact ⟨flipR k s, by simp only [List.mem_reverse, List.mem_map]; exact ⟨s, hs, rfl⟩, by simp only [flipR]; omega, by simp only [flipR]; omega⟩
theorem runs_mirror {c : Nat → Int} {k : Nat} (hc : ∀ i, i < k → c i = c (k - 1 - i)) {i : Nat} (hi : i < (runsK c k).length) :
    (runsK c k)[i] = flipR k ((runsK c k)[(runsK c k).length - 1 - i]'(by omega)) := by
  have h : ((runsK c k).map (flipR k)).reverse[i]? = (runsK c k)[i]? := by rw [runs_flip hc]
  rw [List.getElem?_reverse (by simpa using hi), List.getElem?_eq_getElem hi] at h
  simp only [List.length_map, List.getElem?_map] at h
  rw [List.getElem?_eq_getElem (by omega)] at h
  simpa using h.symm


def rowC (f : Fc) (j : Nat) : Nat → Int := fun i => colI f i j
/-- How many dots of the first j rows have the colour v. -/
def areaJ (f : Fc) (v : Int) : Nat → Int
  | 0 => 0
  | j + 1 => areaJ f v j + cntK (rowC f j) v f.size.toNat
/-- How many of the first n dots have it. -/
def cntN (f : Fc) (v : Int) : Nat → Int
  | 0 => 0
  | n + 1 => cntN f v n + (if colI f ((n % f.size.toNat : Nat) : Int) ((n / f.size.toNat : Nat) : Int) = v then 1 else 0)
theorem cntN_row (f : Fc) (v : Int) (hw : 0 < f.size.toNat) (j i : Nat) (hi : i ≤ f.size.toNat) : cntN f v (j * f.size.toNat + i) = cntN f v (j * f.size.toNat) + cntK (rowC f j) v i := by
  induction i with
  | zero => simp [cntK]
  | succ i ih =>
    have e1 : (j * f.size.toNat + i) % f.size.toNat = i := by
      rw [Nat.add_comm, Nat.add_mul_mod_self_right, Nat.mod_eq_of_lt (by omega)]
    have e2 : (j * f.size.toNat + i) / f.size.toNat = j := by
      rw [Nat.add_comm, Nat.add_mul_div_right _ _ hw, Nat.div_eq_of_lt (by omega)]; omega
    rw [← Nat.add_assoc, cntN, ih (by omega), e1, e2, cntK]
    simp only [rowC]
    omega
theorem cntN_rows (f : Fc) (v : Int) (hw : 0 < f.size.toNat) (j : Nat) : cntN f v (j * f.size.toNat) = areaJ f v j := by
  induction j with
  | zero => rw [Nat.zero_mul]; rfl
  | succ j ih => rw [Nat.add_mul, Nat.one_mul, cntN_row f v hw j _ (Nat.le_refl _), ih, areaJ]
theorem cntK_bounds (c : Nat → Int) (v : Int) (k : Nat) : 0 ≤ cntK c v k ∧ cntK c v k ≤ k := by
  induction k with
  | zero => simp [cntK]
  | succ k ih => unfold cntK; split <;> omega
theorem areaJ_bounds (f : Fc) (v : Int) (j : Nat) : 0 ≤ areaJ f v j ∧ areaJ f v j ≤ j * f.size.toNat := by
  induction j with
  | zero => simp [areaJ]
  | succ j ih =>
    obtain ⟨a, b⟩ := cntK_bounds (rowC f j) v f.size.toNat
    unfold areaJ
    have e : ((j + 1 : Nat) : Int) * f.size.toNat = j * f.size.toNat + f.size.toNat := by rw [Int.natCast_add, Int.add_mul]; simp
    omega
/-- Each dot has one of the ten colours. -/
theorem cntK_all {c : Nat → Int} (hc : ∀ i, 0 ≤ c i ∧ c i ≤ 9) (k : Nat) : cntK c 0 k + cntK c 1 k + cntK c 2 k + cntK c 3 k + cntK c 4 k + cntK c 5 k + cntK c 6 k + cntK c 7 k + cntK c 8 k + cntK c 9 k = k := by
  induction k with
  | zero => rfl
  | succ k ih =>
    have := hc k
    have h : c k = 0 ∨ c k = 1 ∨ c k = 2 ∨ c k = 3 ∨ c k = 4 ∨ c k = 5 ∨ c k = 6 ∨ c k = 7 ∨ c k = 8 ∨ c k = 9 := by omega
    simp only [cntK]
    rcases h with h | h | h | h | h | h | h | h | h | h <;> rw [h] <;> simp <;> omega
theorem areaJ_all {f : Fc} (h : fcB f = true) (j : Nat) : areaJ f 0 j + areaJ f 1 j + areaJ f 2 j + areaJ f 3 j + areaJ f 4 j + areaJ f 5 j + areaJ f 6 j + areaJ f 7 j + areaJ f 8 j + areaJ f 9 j = j * f.size := by
  induction j with
  | zero => simp [areaJ]
  | succ j ih =>
    have := cntK_all (c := rowC f j) (fun i => colI_bounds h _ _) f.size.toNat
    have hs := size_bounds h
    simp only [areaJ]
    have e : ((j + 1 : Nat) : Int) * f.size = j * f.size + f.size := by rw [Int.natCast_add, Int.add_mul]; simp
    omega
/-- The area of a colour. -/
def areaP (f : Fc) (v : Int) : Int := areaJ f v (heiF f).toNat
/-- The colours from 1 to k that are seen. -/
def screensK (f : Fc) : Nat → List Int
  | 0 => []
  | k + 1 => if 0 < areaP f ((k + 1 : Nat) : Int) then screensK f k ++ [((k + 1 : Nat) : Int)] else screensK f k


def arrJ (f : Fc) (j : Nat) : List Int := (List.range 10).map fun (v : Nat) => areaJ f (v : Int) j
def rowV (f : Fc) (j r : Nat) (v : Nat) : Int :=
  if v = 0 then areaJ f 0 j + f.size - sumA ((runsK (rowC f j) f.size.toNat).take r) else areaJ f (v : Int) j + sumV (v : Int) ((runsK (rowC f j) f.size.toNat).take r)
/-- The areas when j rows and r runs of the next one are counted. -/
def rowS (f : Fc) (j r : Nat) : List Int := (List.range 10).map (rowV f j r)
theorem arrJ_len (f : Fc) (j : Nat) : (arrJ f j).length = 10 := by simp [arrJ]
theorem rowS_len (f : Fc) (j r : Nat) : (rowS f j r).length = 10 := by simp [rowS]
theorem arrJ_at (f : Fc) (j : Nat) {v : Nat} (h : v < 10) : (arrJ f j)[v]? = some (areaJ f (v : Int) j) := by simp [arrJ, h]
theorem rowS_at (f : Fc) (j r : Nat) {v : Nat} (h : v < 10) : (rowS f j r)[v]? = some (rowV f j r v) := by simp [rowS, h]
theorem rowS_start (f : Fc) (j : Nat) : rowS f j 0 = (arrJ f j).set 0 (areaJ f 0 j + f.size) := by
  apply List.ext_getElem?
  intro u
  rw [List.getElem?_set]
  by_cases e : 0 = u
  · subst e
    simp [rowS, arrJ, rowV, sumA]
  · rw [if_neg e]
    by_cases hu : u < 10
    · simp only [rowS, arrJ, List.getElem?_map, List.getElem?_range hu, Option.map_some, rowV, if_neg (show ¬ u = 0 by omega), List.take_zero, sumV, Int.add_zero]
    · simp [rowS, arrJ, hu]
theorem rowV_next {f : Fc} {j r : Nat} (hr : r < (runsK (rowC f j) f.size.toNat).length) (v : Nat) :
    rowV f j (r + 1) v = if v = 0 then rowV f j r 0 - (runsK (rowC f j) f.size.toNat)[r].cnt else rowV f j r v + (if (runsK (rowC f j) f.size.toNat)[r].col = (v : Int) then (runsK (rowC f j) f.size.toNat)[r].cnt else 0) := by
  unfold rowV
  rw [List.take_succ_eq_append_getElem hr, sumA_app, sumV_app]
  by_cases e : v = 0
  · subst e
    simp [sumA]
    omega
  · rw [if_neg e, if_neg e, if_neg e]
    simp [sumV]
    omega
theorem rowS_next {f : Fc} {j r cv : Nat} (hr : r < (runsK (rowC f j) f.size.toNat).length) (h1 : 1 ≤ cv) (h9 : cv < 10) (hc : (runsK (rowC f j) f.size.toNat)[r].col = (cv : Int)) :
    rowS f j (r + 1) = ((rowS f j r).set cv (rowV f j r cv + (runsK (rowC f j) f.size.toNat)[r].cnt)).set 0 (rowV f j r 0 - (runsK (rowC f j) f.size.toNat)[r].cnt) := by
  apply List.ext_getElem?
  intro u
  rw [List.getElem?_set, List.getElem?_set]
  by_cases e0 : 0 = u
  · subst e0
    simp [rowS, rowV_next hr]
  · rw [if_neg e0]
    by_cases ec : cv = u
    · subst ec
      rw [if_pos rfl]
      simp only [rowS, List.length_map, List.length_range, h9, if_true, List.getElem?_map, List.getElem?_range h9, Option.map_some, rowV_next hr, if_neg (show ¬ cv = 0 by omega), if_pos hc]
    · rw [if_neg ec]
      by_cases hu : u < 10
      · have hne : ¬ (runsK (rowC f j) f.size.toNat)[r].col = (u : Int) := by rw [hc]; omega
        simp only [rowS, List.getElem?_map, List.getElem?_range hu, Option.map_some, rowV_next hr, if_neg (show ¬ u = 0 by omega), if_neg hne, Int.add_zero]
      · simp [rowS, hu]
theorem rowS_end {f : Fc} (h : fcB f = true) (j : Nat) : rowS f j (runsK (rowC f j) f.size.toNat).length = arrJ f (j + 1) := by
  obtain ⟨h1, h2⟩ := runs_sums (rowC f j) f.size.toNat
  obtain ⟨s0, s1⟩ := size_bounds h
  unfold rowS arrJ
  apply List.map_congr_left
  intro v _
  unfold rowV
  rw [List.take_length, areaJ]
  split
  · rename_i e
    subst e
    have : ((f.size.toNat : Nat) : Int) = f.size := by omega
    simp only [Int.natCast_zero] at *
    omega
  · rw [h1 (v : Int) (by omega)]
theorem arrJ_all (f : Fc) : arrJ f (heiF f).toNat = (List.range 10).map fun (v : Nat) => areaP f (v : Int) := rfl

end Go.Proofs.YtmagidoodlkeoaaGreatDoor
