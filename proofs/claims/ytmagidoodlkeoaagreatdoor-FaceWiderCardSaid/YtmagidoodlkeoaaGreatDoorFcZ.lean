/-
  Faces without the items that are not seen. No program in sight.
-/
import Derived.Test.YtmagidoodlkeoaaGreatDoorFcT
set_option linter.unusedSimpArgs false
set_option linter.unusedVariables false
namespace Go.Proofs.YtmagidoodlkeoaaGreatDoor

/-- Of the first k items those that s names. -/
def keepK (s : Nat → Bool) (l : List It) : Nat → List It
  | 0 => []
  | k + 1 => match l[k]? with
    | some x => if s k then keepK s l k ++ [x] else keepK s l k
    | none => keepK s l k
theorem keepK_yes {s : Nat → Bool} {l : List It} {k : Nat} (h : k < l.length) (hs : s k = true) : keepK s l (k + 1) = keepK s l k ++ [l[k]] := by simp [keepK, h, hs]
theorem keepK_no {s : Nat → Bool} {l : List It} {k : Nat} (h : k < l.length) (hs : s k = false) : keepK s l (k + 1) = keepK s l k := by simp [keepK, h, hs]
theorem topK_app (p : It → Bool) (A B : List It) : ∀ k, k ≤ A.length → topK p (A ++ B) k = topK p A k
  | 0, _ => rfl
  | k + 1, h => by
    have hk : k < A.length := by omega
    have ih := topK_app p A B k (by omega)
    simp only [topK, List.getElem?_append_left hk, ih]
theorem top_keep {p : It → Bool} {s : Nat → Bool} {l : List It} : ∀ k, k ≤ l.length →
    (topK p l k = -1 → topK p (keepK s l k) (keepK s l k).length = -1) ∧
    (∀ q : Nat, topK p l k = q → s q = true → topK p (keepK s l k) (keepK s l k).length = (keepK s l q).length)
  | 0, _ => ⟨fun _ => rfl, fun q h => by simp [topK] at h⟩
  | k + 1, h => by
    have hk : k < l.length := by omega
    obtain ⟨ih1, ih2⟩ := top_keep (p := p) (s := s) (l := l) k (by omega)
    by_cases hp : p l[k] = true
    · rw [topK_hit hk hp]
      refine ⟨fun e => by omega, fun q e hs => ?_⟩
      obtain rfl : k = q := by omega
      rw [keepK_yes hk hs, List.length_append, List.length_singleton, topK_hit (by simp) (by simpa using hp)]
    · have hp' : p l[k] = false := by simpa using hp
      rw [topK_miss hk hp']
      cases hs : s k with
      | false => rw [keepK_no hk hs]; exact ⟨ih1, ih2⟩
      | true =>
        have e : topK p (keepK s l (k + 1)) (keepK s l (k + 1)).length = topK p (keepK s l k) (keepK s l k).length := by
          rw [keepK_yes hk hs, List.length_append, List.length_singleton, topK_miss (by simp) (by simpa using hp'), topK_app _ _ _ _ (Nat.le_refl _)]
        rw [e]
        exact ⟨ih1, ih2⟩
theorem keepK_prefix (s : Nat → Bool) (l : List It) (k m : Nat) : ∃ B, keepK s l (k + m) = keepK s l k ++ B := by
  induction m with
  | zero => exact ⟨[], by simp⟩
  | succ m ih =>
    obtain ⟨B, e⟩ := ih
    rw [← Nat.add_assoc]
    cases h : l[k + m]? with
    | none => exact ⟨B, by rw [← e]; simp [keepK, h]⟩
    | some x =>
      cases hs : s (k + m) with
      | false => exact ⟨B, by rw [← e]; simp [keepK, h, hs]⟩
      | true => exact ⟨B ++ [x], by rw [← List.append_assoc, ← e]; simp [keepK, h, hs]⟩
theorem keepK_at {s : Nat → Bool} {l : List It} {q : Nat} (hq : q < l.length) (hs : s q = true) : (keepK s l l.length)[(keepK s l q).length]? = some l[q] := by
  obtain ⟨B, e⟩ := keepK_prefix s l (q + 1) (l.length - (q + 1))
  rw [show q + 1 + (l.length - (q + 1)) = l.length by omega, keepK_yes hq hs] at e
  rw [e]
  simp
/-- Each kept item was one. -/
theorem keepK_of {s : Nat → Bool} {l : List It} : ∀ k, k ≤ l.length → ∀ j, j < (keepK s l k).length → ∃ q, q < k ∧ s q = true ∧ (keepK s l q).length = j
  | 0, _, j, hj => by simp [keepK] at hj
  | k + 1, h, j, hj => by
    have hk : k < l.length := by omega
    cases hs : s k with
    | false =>
      rw [keepK_no hk hs] at hj
      obtain ⟨q, a, b, c⟩ := keepK_of (s := s) (l := l) k (by omega) j hj
      exact ⟨q, by omega, b, c⟩
    | true =>
      rw [keepK_yes hk hs, List.length_append, List.length_singleton] at hj
      by_cases e : j = (keepK s l k).length
      · exact ⟨k, by omega, hs, e.symm⟩
      · obtain ⟨q, a, b, c⟩ := keepK_of (s := s) (l := l) k (by omega) j (by omega)
        exact ⟨q, by omega, b, c⟩
theorem keepK_mem {s : Nat → Bool} {l : List It} : ∀ k, ∀ x ∈ keepK s l k, x ∈ l
  | 0, x, h => by simp [keepK] at h
  | k + 1, x, h => by
    unfold keepK at h
    split at h
    · rename_i y e
      split at h
      · simp only [List.mem_append, List.mem_cons, List.not_mem_nil, or_false] at h
        rcases h with h | rfl
        · exact keepK_mem k x h
        · exact List.mem_of_getElem? e
      · exact keepK_mem k x h
    · exact keepK_mem k x h
theorem keepK_len (s : Nat → Bool) (l : List It) : ∀ k, (keepK s l k).length ≤ k
  | 0 => Nat.le_refl _
  | k + 1 => by
    have := keepK_len s l k
    unfold keepK
    split
    · split
      · simp; omega
      · omega
    · omega
theorem keepK_all {s : Nat → Bool} {l : List It} : ∀ k, k ≤ l.length → (∀ j, j < k → s j = true) → keepK s l k = l.take k
  | 0, _, _ => by simp [keepK]
  | k + 1, h, hs => by
    rw [keepK_yes (by omega) (hs k (by omega)), keepK_all k (by omega) (fun j hj => hs j (by omega)), List.take_append_getElem]

open Classical in
/-- The item k is seen at a dot of the shape. -/
noncomputable def seenF (f : Fc) (k : Nat) : Bool := decide (∃ i j : Int, 0 ≤ i ∧ i < f.size ∧ 0 ≤ j ∧ j < heiF f ∧ partB f (2 * i + 1 - f.size) (2 * j + 1 - heiF f) = true ∧ topI f i j = k)
noncomputable def trimF (f : Fc) : Fc := ⟨f.shape, f.size, f.height, keepK (seenF f) f.items f.items.length⟩
theorem hei_items (f : Fc) (l : List It) : heiF ⟨f.shape, f.size, f.height, l⟩ = heiF f := rfl
theorem part_items (f : Fc) (l : List It) (x y : Int) : partB ⟨f.shape, f.size, f.height, l⟩ x y = partB f x y := rfl
theorem paint_items (f : Fc) (l : List It) (t : It) (i j : Int) : paintB ⟨f.shape, f.size, f.height, l⟩ t i j = paintB f t i j := rfl
theorem seen_top {f : Fc} {i j : Int} (h : 0 ≤ i ∧ i < f.size ∧ 0 ≤ j ∧ j < heiF f) (hp : partB f (2 * i + 1 - f.size) (2 * j + 1 - heiF f) = true) {q : Nat} (hq : topI f i j = q) : seenF f q = true := by
  simp only [seenF, decide_eq_true_eq]
  exact ⟨i, j, h.1, h.2.1, h.2.2.1, h.2.2.2, hp, hq⟩
/-- What is seen at a dot of the trimmed face. -/
theorem top_trim {f : Fc} {i j : Int} (h : 0 ≤ i ∧ i < f.size ∧ 0 ≤ j ∧ j < heiF f) (hp : partB f (2 * i + 1 - f.size) (2 * j + 1 - heiF f) = true) :
    (topI f i j = -1 ∧ topI (trimF f) i j = -1) ∨ ∃ q : Nat, q < f.items.length ∧ topI f i j = q ∧ seenF f q = true ∧ topI (trimF f) i j = (keepK (seenF f) f.items q).length ∧ (trimF f).items[(keepK (seenF f) f.items q).length]? = f.items[q]? := by
  obtain ⟨b1, b2⟩ := topK_bounds (fun t => paintB f t i j) f.items f.items.length
  obtain ⟨k1, k2⟩ := top_keep (p := fun t => paintB f t i j) (s := seenF f) (l := f.items) f.items.length (Nat.le_refl _)
  by_cases e : topI f i j = -1
  · exact .inl ⟨e, k1 e⟩
  · obtain ⟨q, hq⟩ := Int.eq_ofNat_of_zero_le (show 0 ≤ topI f i j by unfold topI at e ⊢; omega)
    have hlt : q < f.items.length := by unfold topI at hq; omega
    have hs := seen_top h hp hq
    exact .inr ⟨q, hlt, hq, hs, k2 q hq hs, by rw [List.getElem?_eq_getElem hlt]; exact keepK_at hlt hs⟩
/-- The trimmed face looks the same. -/
theorem col_trim {f : Fc} {i j : Int} (h : 0 ≤ i ∧ i < f.size ∧ 0 ≤ j ∧ j < heiF f) : colI (trimF f) i j = colI f i j := by
  unfold colI colK
  by_cases hp : partB f (2 * i + 1 - f.size) (2 * j + 1 - heiF f) = true
  · have hp' : partB (trimF f) (2 * i + 1 - (trimF f).size) (2 * j + 1 - heiF (trimF f)) = true := hp
    rw [if_pos hp, if_pos hp']
    rcases top_trim h hp with ⟨e1, e2⟩ | ⟨q, hq, e1, -, e2, e3⟩
    · unfold topI at e1 e2
      rw [e1, e2]
      rfl
    · unfold topI at e1 e2
      rw [e1, e2, if_neg (by omega), if_neg (by omega)]
      simp only [Int.toNat_natCast]
      rw [e3]
  · have hp' : ¬ partB (trimF f) (2 * i + 1 - (trimF f).size) (2 * j + 1 - heiF (trimF f)) = true := hp
    rw [if_neg hp, if_neg hp']
/-- Nothing more is to be trimmed. -/
theorem trim_trim (f : Fc) : trimF (trimF f) = trimF f := by
  have hall : ∀ j, j < (trimF f).items.length → seenF (trimF f) j = true := by
    intro j hj
    obtain ⟨q, hq, hs, hl⟩ := keepK_of f.items.length (Nat.le_refl _) j hj
    have hs' := hs
    simp only [seenF, decide_eq_true_eq] at hs'
    obtain ⟨x, y, h1, h2, h3, h4, hp, ht⟩ := hs'
    refine seen_top (f := trimF f) ⟨h1, h2, h3, h4⟩ hp ?_
    rcases top_trim ⟨h1, h2, h3, h4⟩ hp with ⟨e1, -⟩ | ⟨q', -, e1, -, e2, -⟩
    · omega
    · obtain rfl : q = q' := by omega
      rw [e2, hl]
  have e : keepK (seenF (trimF f)) (trimF f).items (trimF f).items.length = (trimF f).items := by
    rw [keepK_all _ (Nat.le_refl _) hall, List.take_length]
  show (⟨f.shape, f.size, f.height, keepK (seenF (trimF f)) (trimF f).items (trimF f).items.length⟩ : Fc) = trimF f
  rw [e]
  rfl
theorem trim_valid {f : Fc} (h : fcB f = true) : fcB (trimF f) = true := by
  simp only [fcB, Bool.and_eq_true, decide_eq_true_eq] at h ⊢
  obtain ⟨⟨⟨⟨h1, h2⟩, h3⟩, h4⟩, h5⟩ := h
  refine ⟨⟨⟨⟨h1, h2⟩, ?_⟩, h4⟩, ?_⟩
  · have := keepK_len (seenF f) f.items f.items.length
    simp only [trimF]; omega
  · rw [List.all_eq_true] at h5 ⊢
    exact fun x hx => h5 x (keepK_mem _ x hx)
theorem absI_zero : absI 0 = 0 := by decide
theorem absI_one : absI 1 = 1 := by decide
/-- A shape has a dot. -/
theorem part_some {f : Fc} (h : fcB f = true) : ∃ i j : Int, 0 ≤ i ∧ i < f.size ∧ 0 ≤ j ∧ j < heiF f ∧ partB f (2 * i + 1 - f.size) (2 * j + 1 - heiF f) = true := by
  obtain ⟨s1, s2⟩ := size_bounds h
  obtain ⟨h1, h2⟩ := heiF_bounds h
  have hx : 2 * (f.size / 2) + 1 - f.size = 0 ∨ 2 * (f.size / 2) + 1 - f.size = 1 := by omega
  have hy : 2 * (heiF f / 2) + 1 - heiF f = 0 ∨ 2 * (heiF f / 2) + 1 - heiF f = 1 := by omega
  have hw : 4 * 4 ≤ f.size * f.size := Int.mul_le_mul s1 s1 (by omega) (by omega)
  have hb : 4 * (2 * heiF f - 1) ≤ f.size * (2 * heiF f - 1) := Int.mul_le_mul_of_nonneg_right s1 (by omega)
  by_cases e5 : f.shape = 5
  · refine ⟨f.size / 2, 0, by omega, by omega, by omega, by omega, ?_⟩
    have e : heiF f - (2 * 0 + 1 - heiF f) = 2 * heiF f - 1 := by omega
    rw [partB, if_neg (by omega), if_neg (by omega), if_neg (by omega), if_pos e5, e, decide_eq_true_eq]
    rcases hx with hx | hx <;> rw [hx] <;> simp only [absI_zero, absI_one] <;> omega
  · by_cases e6 : f.shape = 6
    · refine ⟨f.size / 2, heiF f - 1, by omega, by omega, by omega, by omega, ?_⟩
      have e : heiF f + (2 * (heiF f - 1) + 1 - heiF f) = 2 * heiF f - 1 := by omega
      rw [partB, if_neg (by omega), if_neg (by omega), if_neg (by omega), if_neg (by omega), if_pos e6, e, decide_eq_true_eq]
      rcases hx with hx | hx <;> rw [hx] <;> simp only [absI_zero, absI_one] <;> omega
    · refine ⟨f.size / 2, heiF f / 2, by omega, by omega, by omega, by omega, ?_⟩
      rw [partB, if_neg e5, if_neg e6]
      rcases hx with hx | hx <;> rcases hy with hy | hy <;> rw [hx, hy] <;> simp only [absI_zero, absI_one] <;> (repeat' split) <;> (first | rfl | (rw [decide_eq_true_eq]; omega))
/-- An item of the whole field hides all in front of it. -/
theorem top_field (f : Fc) (x : It) (hx : x.kind = 1) (i j : Int) : topI ⟨f.shape, f.size, f.height, f.items ++ [x]⟩ i j = f.items.length := by
  unfold topI
  dsimp only
  rw [List.length_append, List.length_singleton]
  exact topK_hit (by simp) (by simp [paintB, hx])
theorem trim_field {f : Fc} (h : fcB f = true) (x : It) (hx : x.kind = 1) : trimF ⟨f.shape, f.size, f.height, f.items ++ [x]⟩ = ⟨f.shape, f.size, f.height, [x]⟩ := by
  obtain ⟨i, j, h1, h2, h3, h4, hp⟩ := part_some h
  have hlast : seenF ⟨f.shape, f.size, f.height, f.items ++ [x]⟩ f.items.length = true := seen_top (f := ⟨f.shape, f.size, f.height, f.items ++ [x]⟩) ⟨h1, h2, h3, h4⟩ hp (top_field f x hx i j)
  have hother : ∀ k, k < f.items.length → seenF ⟨f.shape, f.size, f.height, f.items ++ [x]⟩ k = false := by
    intro k hk
    simp only [seenF, decide_eq_false_iff_not]
    rintro ⟨i, j, -, -, -, -, -, e⟩
    rw [top_field f x hx] at e
    omega
  have e0 : ∀ k, k ≤ f.items.length → keepK (seenF ⟨f.shape, f.size, f.height, f.items ++ [x]⟩) (f.items ++ [x]) k = [] := by
    intro k
    induction k with
    | zero => intro _; rfl
    | succ k ih => intro hk; rw [keepK_no (by simp; omega) (hother k (by omega)), ih (by omega)]
  show (⟨f.shape, f.size, f.height, keepK (seenF ⟨f.shape, f.size, f.height, f.items ++ [x]⟩) (f.items ++ [x]) (f.items ++ [x]).length⟩ : Fc) = _
  have e1 : (f.items ++ [x]).length = f.items.length + 1 := by simp
  rw [e1, keepK_yes (by simp) hlast, e0 _ (Nat.le_refl _)]
  simp
theorem colI_no {f : Fc} {i j : Int} (hp : ¬ partB f (2 * i + 1 - f.size) (2 * j + 1 - heiF f) = true) : colI f i j = 0 := by
  unfold colI colK
  rw [if_neg hp]
theorem colI_item {f : Fc} {i j : Int} (hp : partB f (2 * i + 1 - f.size) (2 * j + 1 - heiF f) = true) {q : Nat} {x : It} (hq : topI f i j = q) (hx : f.items[q]? = some x) : colI f i j = x.colour := by
  unfold topI at hq
  unfold colI colK
  rw [if_pos hp, hq, if_neg (by omega)]
  simp only [Int.toNat_natCast]
  rw [hx]
theorem colI_bare {f : Fc} {i j : Int} (hp : partB f (2 * i + 1 - f.size) (2 * j + 1 - heiF f) = true) (hq : topI f i j = -1) : colI f i j = 9 := by
  unfold topI at hq
  unfold colI colK
  rw [if_pos hp, hq, if_pos (by omega)]
theorem col_field {f : Fc} (x : It) (hx : x.kind = 1) (i j : Int) : colI ⟨f.shape, f.size, f.height, f.items ++ [x]⟩ i j = colI ⟨f.shape, f.size, f.height, [x]⟩ i j := by
  by_cases hp : partB f (2 * i + 1 - f.size) (2 * j + 1 - heiF f) = true
  · rw [colI_item (f := ⟨f.shape, f.size, f.height, f.items ++ [x]⟩) hp (top_field f x hx i j) (x := x) (by simp), colI_item (f := ⟨f.shape, f.size, f.height, [x]⟩) hp (top_field ⟨f.shape, f.size, f.height, []⟩ x hx i j) (x := x) (by simp)]
  · rw [colI_no (f := ⟨f.shape, f.size, f.height, f.items ++ [x]⟩) hp, colI_no (f := ⟨f.shape, f.size, f.height, [x]⟩) hp]

end Go.Proofs.YtmagidoodlkeoaaGreatDoor
