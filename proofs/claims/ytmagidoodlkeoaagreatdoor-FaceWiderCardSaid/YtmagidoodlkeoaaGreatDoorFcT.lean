/-
  What is painted on a face: the dots of a shape, those within a rim, those that an item paints, the last item that does, the colour. No program in sight.
-/
import Derived.Test.YtmagidoodlkeoaaGreatDoorFcQ
set_option linter.unusedSimpArgs false
set_option linter.unusedVariables false
namespace Go.Proofs.YtmagidoodlkeoaaGreatDoor

def absI (n : Int) : Int := max n (-n)
/-- A dot at (x, y) from the middle belongs to the shape. -/
def partB (f : Fc) (x y : Int) : Bool :=
  if f.shape = 1 then decide (x * x + y * y ≤ f.size * f.size)
  else if f.shape = 3 then decide (absI x + absI y ≤ f.size)
  else if f.shape = 4 then decide (29 * (absI x + absI y) ≤ 41 * f.size)
  else if f.shape = 5 then decide (2 * heiF f * absI x ≤ f.size * (heiF f - y))
  else if f.shape = 6 then decide (2 * heiF f * absI x ≤ f.size * (heiF f + y))
  else true
/-- It lies within a rim of width b. -/
def midB (f : Fc) (x y b : Int) : Bool :=
  if f.shape = 1 then decide (0 < f.size - 2 * b ∧ x * x + y * y ≤ (f.size - 2 * b) * (f.size - 2 * b))
  else if f.shape = 3 then decide (absI x + absI y ≤ f.size - 3 * b)
  else if f.shape = 4 then decide (absI x < f.size - 2 * b ∧ absI y < f.size - 2 * b ∧ 29 * (absI x + absI y) ≤ 41 * (f.size - 2 * b))
  else if f.shape = 5 then decide (2 * heiF f * (absI x + 2 * b) ≤ f.size * (heiF f - y) ∧ 2 * b - heiF f < y)
  else if f.shape = 6 then decide (2 * heiF f * (absI x + 2 * b) ≤ f.size * (heiF f + y) ∧ y < heiF f - 2 * b)
  else decide (absI x < f.size - 2 * b ∧ absI y < heiF f - 2 * b)
/-- The bit of a letter's row in a column. -/
def bitL (r col : Int) : Bool := decide (r / 2 ^ (4 - col).toNat % 2 = 1)
/-- A dot is one of a text's letters. -/
def inkB (t : It) (i j : Int) : Bool :=
  let u := i - t.left
  let v := j - t.low
  if u < 0 ∨ v < 0 ∨ 7 * t.a ≤ v ∨ 6 * t.a * t.text.length ≤ u ∨ 5 * t.a ≤ u % (6 * t.a) then false
  else bitL ((rowsL ((t.text.getD (u / (6 * t.a)).toNat 0).toNat : Int)).getD (6 - v / t.a).toNat 0) (u % (6 * t.a) / t.a)
/-- An item paints the dot (i, j) of the shape. -/
def paintB (f : Fc) (t : It) (i j : Int) : Bool :=
  let x := 2 * i + 1 - f.size
  let y := 2 * j + 1 - heiF f
  if t.kind = 1 then true
  else if t.kind = 2 then !midB f x y t.a
  else if t.kind = 3 then decide (t.left ≤ i ∧ i < t.left + t.a ∧ t.low ≤ j ∧ j < t.low + t.b)
  else if t.kind = 4 then decide ((2 * (i - t.left) + 1 - t.a) * (2 * (i - t.left) + 1 - t.a) + (2 * (j - t.low) + 1 - t.a) * (2 * (j - t.low) + 1 - t.a) ≤ t.a * t.a)
  else if t.kind = 5 then decide (2 * absI (x * heiF f - y * f.size) ≤ t.a * (f.size + heiF f))
  else inkB t i j
/-- The last of the first k items that has p, or -1. -/
def topK (p : It → Bool) (l : List It) : Nat → Int
  | 0 => -1
  | k + 1 => match l[k]? with
    | some x => if p x then (k : Int) else topK p l k
    | none => topK p l k
theorem topK_bounds (p : It → Bool) (l : List It) (k : Nat) : -1 ≤ topK p l k ∧ topK p l k < k := by
  induction k with
  | zero => simp [topK]
  | succ k ih =>
    unfold topK
    split
    · split <;> omega
    · omega
theorem topK_hit {p : It → Bool} {l : List It} {k : Nat} (h : k < l.length) (hp : p l[k] = true) : topK p l (k + 1) = k := by
  simp [topK, h, hp]
theorem topK_miss {p : It → Bool} {l : List It} {k : Nat} (h : k < l.length) (hp : p l[k] = false) : topK p l (k + 1) = topK p l k := by
  simp [topK, h, hp]
/-- The index of the item that is seen at a dot, or -1. -/
def topI (f : Fc) (i j : Int) : Int := topK (fun t => paintB f t i j) f.items f.items.length
def colK (f : Fc) (i j : Int) (k : Nat) : Int :=
  if partB f (2 * i + 1 - f.size) (2 * j + 1 - heiF f) then
    if topK (fun t => paintB f t i j) f.items k < 0 then 9 else match f.items[(topK (fun t => paintB f t i j) f.items k).toNat]? with
      | some x => x.colour
      | none => 9
  else 0
/-- The colour of a dot of the box. -/
def colI (f : Fc) (i j : Int) : Int := colK f i j f.items.length
/-- The colour of any dot. -/
def colAt (f : Fc) (i j : Int) : Int := if 0 ≤ i ∧ i < f.size ∧ 0 ≤ j ∧ j < heiF f then colI f i j else 0
theorem heiF_bounds {f : Fc} (h : fcB f = true) : 1 ≤ heiF f ∧ heiF f ≤ 200 := by
  simp only [fcB, Bool.and_eq_true, decide_eq_true_eq] at h
  obtain ⟨⟨⟨⟨hs, hz⟩, -⟩, hg⟩, -⟩ := h
  unfold heiF
  split
  · rename_i e
    rw [if_pos e] at hg
    simp at hg
    omega
  · split <;> omega
theorem size_bounds {f : Fc} (h : fcB f = true) : 4 ≤ f.size ∧ f.size ≤ 200 := by
  simp only [fcB, Bool.and_eq_true, decide_eq_true_eq] at h
  exact h.1.1.1.2
theorem items_valid {f : Fc} (h : fcB f = true) : ∀ x ∈ f.items, itB x = true := by
  simp only [fcB, Bool.and_eq_true] at h
  exact List.all_eq_true.1 h.2
/-- The bounds that a valid item's numbers keep. -/
theorem it_bounds {x : It} (h : itB x = true) : 1 ≤ x.kind ∧ x.kind ≤ 6 ∧ 1 ≤ x.colour ∧ x.colour ≤ 8 ∧ 0 ≤ x.left ∧ x.left ≤ 200 ∧ 0 ≤ x.low ∧ x.low ≤ 200 ∧ 0 ≤ x.a ∧ x.a ≤ 200 ∧ (x.kind ≠ 1 → 1 ≤ x.a) ∧ 0 ≤ x.b ∧ x.b ≤ 200 ∧ x.text.length ≤ 24 := by
  simp only [itB, Bool.and_eq_true, decide_eq_true_eq] at h
  obtain ⟨⟨⟨⟨⟨⟨hk, hc⟩, hl⟩, hw⟩, ha⟩, hb⟩, ht⟩ := h
  have ht' : x.text.length ≤ 24 := by
    split at ht
    · simp only [spellB, Bool.and_eq_true, decide_eq_true_eq] at ht
      omega
    · rw [List.isEmpty_iff] at ht
      simp [ht]
  unfold useB at hl hw ha hb
  refine ⟨hk.1, hk.2, hc.1, hc.2, ?_, ?_, ?_, ?_, ?_, ?_, ?_, ?_, ?_, ht'⟩
  all_goals (first | (intro hn; rw [if_pos (by simpa using hn)] at ha; simp at ha; omega) | (clear ht; split at hl <;> split at hw <;> split at ha <;> split at hb <;> simp at hl hw ha hb <;> omega))
theorem colI_bounds {f : Fc} (h : fcB f = true) (i j : Int) : 0 ≤ colI f i j ∧ colI f i j ≤ 9 := by
  unfold colI colK
  split
  · split
    · omega
    · split
      · rename_i x e
        have := it_bounds (items_valid h x (List.mem_of_getElem? e))
        omega
      · omega
  · omega

end Go.Proofs.YtmagidoodlkeoaaGreatDoor
