/-
  A face as a picture: its dots and their owners, item by item. No program in sight.
-/
import Derived.Test.YtmagidoodlkeoaaGreatDoorFcZ
set_option linter.unusedSimpArgs false
set_option linter.unusedVariables false
namespace Go.Proofs.YtmagidoodlkeoaaGreatDoor

theorem colK_part {f : Fc} (hf : fcB f = true) (i j : Int) (k : Nat) : (colK f i j k = 0 ∧ partB f (2 * i + 1 - f.size) (2 * j + 1 - heiF f) = false) ∨ (1 ≤ colK f i j k ∧ colK f i j k ≤ 9 ∧ partB f (2 * i + 1 - f.size) (2 * j + 1 - heiF f) = true) := by
  unfold colK
  cases hp : partB f (2 * i + 1 - f.size) (2 * j + 1 - heiF f) with
  | false => left; exact ⟨by rw [if_neg (by simp)], rfl⟩
  | true =>
    right
    rw [if_pos rfl]
    split
    · exact ⟨by omega, by omega, rfl⟩
    · split
      · rename_i x e
        have := it_bounds (items_valid hf x (List.mem_of_getElem? e))
        exact ⟨by omega, by omega, rfl⟩
      · exact ⟨by omega, by omega, rfl⟩
/-- The item that is seen at a dot of the box when k items are painted, or -1. -/
def ownK (f : Fc) (i j : Int) (k : Nat) : Int := if partB f (2 * i + 1 - f.size) (2 * j + 1 - heiF f) then topK (fun t => paintB f t i j) f.items k else -1
theorem ownK_bounds (f : Fc) (i j : Int) (k : Nat) : -1 ≤ ownK f i j k ∧ ownK f i j k < k ∨ ownK f i j k = -1 := by
  unfold ownK
  have := topK_bounds (fun t => paintB f t i j) f.items k
  split <;> omega
theorem colK_zero (f : Fc) (i j : Int) : colK f i j 0 = if partB f (2 * i + 1 - f.size) (2 * j + 1 - heiF f) then 9 else 0 := by
  unfold colK
  split
  · rw [if_pos (by simp [topK])]
  · rfl
theorem ownK_zero (f : Fc) (i j : Int) : ownK f i j 0 = -1 := by
  unfold ownK
  split <;> simp [topK]
theorem pix_hit {f : Fc} {i j : Int} {k : Nat} (hk : k < f.items.length) (hp : partB f (2 * i + 1 - f.size) (2 * j + 1 - heiF f) = true) (ht : paintB f f.items[k] i j = true) : colK f i j (k + 1) = f.items[k].colour ∧ ownK f i j (k + 1) = k := by
  have e := topK_hit (p := fun t => paintB f t i j) hk ht
  unfold colK ownK
  rw [if_pos hp, if_pos hp, e, if_neg (by omega)]
  simp [hk]
theorem pix_miss {f : Fc} {i j : Int} {k : Nat} (hk : k < f.items.length) (ht : paintB f f.items[k] i j = false) : colK f i j (k + 1) = colK f i j k ∧ ownK f i j (k + 1) = ownK f i j k := by
  have e := topK_miss (p := fun t => paintB f t i j) hk ht
  unfold colK ownK
  rw [e]
  exact ⟨rfl, rfl⟩
theorem pix_out {f : Fc} (i j : Int) (k k' : Nat) (hp : partB f (2 * i + 1 - f.size) (2 * j + 1 - heiF f) = false) : colK f i j k' = colK f i j k ∧ ownK f i j k' = ownK f i j k := by
  unfold colK ownK
  simp [hp]

/-- The dot n of the box, when k items are painted. -/
def dotK (f : Fc) (k : Nat) (n : Nat) : Int := colK f ((n % f.size.toNat : Nat) : Int) ((n / f.size.toNat : Nat) : Int) k
def ownN (f : Fc) (k : Nat) (n : Nat) : Int := ownK f ((n % f.size.toNat : Nat) : Int) ((n / f.size.toNat : Nat) : Int) k
def numD (f : Fc) : Nat := f.size.toNat * (heiF f).toNat
def dotL (f : Fc) (k : Nat) : List Int := (List.range (numD f)).map (dotK f k)
def ownL (f : Fc) (k : Nat) : List Int := (List.range (numD f)).map (ownN f k)
theorem dotL_len (f : Fc) (k : Nat) : (dotL f k).length = numD f := by simp [dotL]
theorem ownL_len (f : Fc) (k : Nat) : (ownL f k).length = numD f := by simp [ownL]
theorem numD_bounds {f : Fc} (h : fcB f = true) : 1 ≤ numD f ∧ numD f ≤ 40000 := by
  obtain ⟨s0, s1⟩ := size_bounds h
  obtain ⟨h0, h1⟩ := heiF_bounds h
  have e1 : 1 ≤ f.size.toNat ∧ f.size.toNat ≤ 200 := by omega
  have e2 : 1 ≤ (heiF f).toNat ∧ (heiF f).toNat ≤ 200 := by omega
  unfold numD
  exact ⟨Nat.mul_le_mul e1.1 e2.1, Nat.mul_le_mul e1.2 e2.2⟩
theorem pix_at {f : Fc} {i j : Nat} (hi : i < f.size.toNat) (hj : j < (heiF f).toNat) : j * f.size.toNat + i < numD f ∧ (j * f.size.toNat + i) % f.size.toNat = i ∧ (j * f.size.toNat + i) / f.size.toNat = j := by
  refine ⟨?_, ?_, ?_⟩
  · have h1 : j * f.size.toNat + f.size.toNat ≤ (heiF f).toNat * f.size.toNat := by
      rw [← Nat.succ_mul]; exact Nat.mul_le_mul_right _ hj
    have h2 : (heiF f).toNat * f.size.toNat = f.size.toNat * (heiF f).toNat := Nat.mul_comm _ _
    unfold numD
    omega
  · rw [Nat.add_comm, Nat.add_mul_mod_self_right, Nat.mod_eq_of_lt hi]
  · rw [Nat.add_comm, Nat.add_mul_div_right _ _ (by omega), Nat.div_eq_of_lt hi, Nat.zero_add]
theorem pix_in {f : Fc} {n : Nat} (hn : n < numD f) : n % f.size.toNat < f.size.toNat ∧ n / f.size.toNat < (heiF f).toNat := by
  have hp : 0 < f.size.toNat := by
    rcases Nat.eq_zero_or_pos f.size.toNat with h | h
    · unfold numD at hn; rw [h] at hn; omega
    · exact h
  exact ⟨Nat.mod_lt _ hp, Nat.div_lt_of_lt_mul (by unfold numD at hn; exact hn)⟩
theorem colI_dot {f : Fc} {i j : Nat} (hi : i < f.size.toNat) (hj : j < (heiF f).toNat) : dotK f f.items.length (j * f.size.toNat + i) = colI f i j := by
  obtain ⟨-, e1, e2⟩ := pix_at hi hj
  unfold dotK colI
  rw [e1, e2]
theorem own_dot {f : Fc} {i j : Nat} (hi : i < f.size.toNat) (hj : j < (heiF f).toNat) : ownN f f.items.length (j * f.size.toNat + i) = ownK f i j f.items.length := by
  obtain ⟨-, e1, e2⟩ := pix_at hi hj
  unfold ownN
  rw [e1, e2]
/-- The index of a dot, as numbers. -/
theorem pix_int {f : Fc} {i j : Int} (hi : 0 ≤ i ∧ i < f.size) (hj : 0 ≤ j ∧ j < heiF f) : ∃ n : Nat, n < numD f ∧ j * f.size + i = n ∧ dotK f f.items.length n = colI f i j ∧ ownN f f.items.length n = ownK f i j f.items.length := by
  obtain ⟨a, rfl⟩ := Int.eq_ofNat_of_zero_le hi.1
  obtain ⟨b, rfl⟩ := Int.eq_ofNat_of_zero_le hj.1
  have ha : a < f.size.toNat := by omega
  have hb : b < (heiF f).toNat := by omega
  refine ⟨b * f.size.toNat + a, (pix_at ha hb).1, ?_, colI_dot ha hb, own_dot ha hb⟩
  have : ((f.size.toNat : Nat) : Int) = f.size := by omega
  rw [Int.natCast_add, Int.natCast_mul, this]
theorem seen_own {f : Fc} (k : Nat) : seenF f k = true ↔ ∃ n, n < numD f ∧ ownN f f.items.length n = k := by
  simp only [seenF, decide_eq_true_eq]
  constructor
  · rintro ⟨i, j, h1, h2, h3, h4, hp, ht⟩
    obtain ⟨n, hn, -, -, ho⟩ := pix_int ⟨h1, h2⟩ ⟨h3, h4⟩
    refine ⟨n, hn, ?_⟩
    rw [ho, ownK, if_pos hp]
    exact ht
  · rintro ⟨n, hn, ho⟩
    obtain ⟨a, b⟩ := pix_in hn
    unfold ownN at ho
    generalize n % f.size.toNat = x at *
    generalize n / f.size.toNat = y at *
    unfold ownK at ho
    split at ho
    · rename_i hp
      exact ⟨(x : Int), (y : Int), Int.natCast_nonneg _, by omega, Int.natCast_nonneg _, by omega, hp, ho⟩
    · omega

open Classical in
/-- Two faces look the same. -/
noncomputable def lookB (f g : Fc) : Bool := decide (f.size = g.size ∧ heiF f = heiF g ∧ ∀ i j : Int, 0 ≤ i → i < f.size → 0 ≤ j → j < heiF f → colI f i j = colI g i j)
open Classical in
/-- A face is the same in a mirror. -/
noncomputable def mirB (f : Fc) : Bool := decide (∀ i j : Int, 0 ≤ i → i < f.size → 0 ≤ j → j < heiF f → colI f i j = colI f (f.size - 1 - i) j)

end Go.Proofs.YtmagidoodlkeoaaGreatDoor
