/-
  The reference's picture of a face: parts, rims, letters, items, Paint, At; the law FaceDots.
-/
import Derived.Test.YtfklckjfbnaoeaaGreatDoorFcH
import Derived.Test.YtfklckjfbnaoeaaGreatDoorWaP
import Derived.Test.YtfklckjfbnaoeaaGreatDoorWaL
import Derived.Test.YtfklckjfbnaoeaaGreatDoorFcAt
import Derived.Deep.AppendLies
set_option linter.unusedSimpArgs false
set_option linter.unusedVariables false
namespace Go.Proofs.YtfklckjfbnaoeaaGreatDoor
open Go.RowKit

theorem absI_sq (n : Int) : absI n * absI n = n * n := by
  unfold absI
  rcases Int.le_total 0 n with h | h
  · rw [Int.max_eq_left (by omega)]
  · rw [Int.max_eq_right (by omega), Int.neg_mul_neg]
theorem colK_part {f : Fc} (hf : fcB f = true) (i j : Int) (k : Nat) : (colK f i j k = 0 ∧ partB f (2 * i + 1 - f.size) (2 * j + 1 - heiF f) = false) ∨ (1 ≤ colK f i j k ∧ colK f i j k ≤ 9 ∧ partB f (2 * i + 1 - f.size) (2 * j + 1 - heiF f) = true) := by
  unfold colK
  cases hp : partB f (2 * i + 1 - f.size) (2 * j + 1 - heiF f) with
  | false => left; exact ⟨by rw [if_neg (by simp)], rfl⟩
  | true =>
    right
    rw [if_pos rfl]
    split
    · exact ⟨by omega, by omega, rfl⟩
    · split
      · rename_i x e
        have := it_bounds (items_valid hf x (List.mem_of_getElem? e))
        exact ⟨by omega, by omega, rfl⟩
      · exact ⟨by omega, by omega, rfl⟩
/-- The item that is seen at a dot of the box when k items are painted, or -1. -/
def ownK (f : Fc) (i j : Int) (k : Nat) : Int := if partB f (2 * i + 1 - f.size) (2 * j + 1 - heiF f) then topK (fun t => paintB f t i j) f.items k else -1
theorem ownK_bounds (f : Fc) (i j : Int) (k : Nat) : -1 ≤ ownK f i j k ∧ ownK f i j k < k ∨ ownK f i j k = -1 := by
  unfold ownK
  have := topK_bounds (fun t => paintB f t i j) f.items k
  split <;> omega
theorem colK_zero (f : Fc) (i j : Int) : colK f i j 0 = if partB f (2 * i + 1 - f.size) (2 * j + 1 - heiF f) then 9 else 0 := by
  unfold colK
  split
  · rw [if_pos (by simp [topK])]
  · rfl
theorem ownK_zero (f : Fc) (i j : Int) : ownK f i j 0 = -1 := by
  unfold ownK
  split <;> simp [topK]
theorem pix_hit {f : Fc} {i j : Int} {k : Nat} (hk : k < f.items.length) (hp : partB f (2 * i + 1 - f.size) (2 * j + 1 - heiF f) = true) (ht : paintB f f.items[k] i j = true) : colK f i j (k + 1) = f.items[k].colour ∧ ownK f i j (k + 1) = k := by
  have e := topK_hit (p := fun t => paintB f t i j) hk ht
  unfold colK ownK
  rw [if_pos hp, if_pos hp, e, if_neg (by omega)]
  simp [hk]
theorem pix_miss {f : Fc} {i j : Int} {k : Nat} (hk : k < f.items.length) (ht : paintB f f.items[k] i j = false) : colK f i j (k + 1) = colK f i j k ∧ ownK f i j (k + 1) = ownK f i j k := by
  have e := topK_miss (p := fun t => paintB f t i j) hk ht
  unfold colK ownK
  rw [e]
  exact ⟨rfl, rfl⟩
theorem pix_out {f : Fc} (i j : Int) (k k' : Nat) (hp : partB f (2 * i + 1 - f.size) (2 * j + 1 - heiF f) = false) : colK f i j k' = colK f i j k ∧ ownK f i j k' = ownK f i j k := by
  unfold colK ownK
  simp [hp]

/-- The dot n of the box, when k items are painted. -/
def dotK (f : Fc) (k : Nat) (n : Nat) : Int := colK f ((n % f.size.toNat : Nat) : Int) ((n / f.size.toNat : Nat) : Int) k
def ownN (f : Fc) (k : Nat) (n : Nat) : Int := ownK f ((n % f.size.toNat : Nat) : Int) ((n / f.size.toNat : Nat) : Int) k
def numD (f : Fc) : Nat := f.size.toNat * (heiF f).toNat
def dotL (f : Fc) (k : Nat) : List Int := (List.range (numD f)).map (dotK f k)
def ownL (f : Fc) (k : Nat) : List Int := (List.range (numD f)).map (ownN f k)
theorem dotL_len (f : Fc) (k : Nat) : (dotL f k).length = numD f := by simp [dotL]
theorem ownL_len (f : Fc) (k : Nat) : (ownL f k).length = numD f := by simp [ownL]
theorem numD_bounds {f : Fc} (h : fcB f = true) : 1 ≤ numD f ∧ numD f ≤ 40000 := by
  obtain ⟨s0, s1⟩ := size_bounds h
  obtain ⟨h0, h1⟩ := heiF_bounds h
  have e1 : 1 ≤ f.size.toNat ∧ f.size.toNat ≤ 200 := by omega
  have e2 : 1 ≤ (heiF f).toNat ∧ (heiF f).toNat ≤ 200 := by omega
  unfold numD
  exact ⟨Nat.mul_le_mul e1.1 e2.1, Nat.mul_le_mul e1.2 e2.2⟩
theorem pix_at {f : Fc} {i j : Nat} (hi : i < f.size.toNat) (hj : j < (heiF f).toNat) : j * f.size.toNat + i < numD f ∧ (j * f.size.toNat + i) % f.size.toNat = i ∧ (j * f.size.toNat + i) / f.size.toNat = j := by
  refine ⟨?_, ?_, ?_⟩
  · have h1 : j * f.size.toNat + f.size.toNat ≤ (heiF f).toNat * f.size.toNat := by
      rw [← Nat.succ_mul]; exact Nat.mul_le_mul_right _ hj
    have h2 : (heiF f).toNat * f.size.toNat = f.size.toNat * (heiF f).toNat := Nat.mul_comm _ _
    unfold numD
    omega
  · rw [Nat.add_comm, Nat.add_mul_mod_self_right, Nat.mod_eq_of_lt hi]
  · rw [Nat.add_comm, Nat.add_mul_div_right _ _ (by omega), Nat.div_eq_of_lt hi, Nat.zero_add]
theorem pix_in {f : Fc} {n : Nat} (hn : n < numD f) : n % f.size.toNat < f.size.toNat ∧ n / f.size.toNat < (heiF f).toNat := by
  have hp : 0 < f.size.toNat := by
    rcases Nat.eq_zero_or_pos f.size.toNat with h | h
    · unfold numD at hn; rw [h] at hn; omega
    · exact h
  exact ⟨Nat.mod_lt _ hp, Nat.div_lt_of_lt_mul (by unfold numD at hn; exact hn)⟩
theorem colI_dot {f : Fc} {i j : Nat} (hi : i < f.size.toNat) (hj : j < (heiF f).toNat) : dotK f f.items.length (j * f.size.toNat + i) = colI f i j := by
  obtain ⟨-, e1, e2⟩ := pix_at hi hj
  unfold dotK colI
  rw [e1, e2]
theorem own_dot {f : Fc} {i j : Nat} (hi : i < f.size.toNat) (hj : j < (heiF f).toNat) : ownN f f.items.length (j * f.size.toNat + i) = ownK f i j f.items.length := by
  obtain ⟨-, e1, e2⟩ := pix_at hi hj
  unfold ownN
  rw [e1, e2]
/-- The index of a dot, as numbers. -/
theorem pix_int {f : Fc} {i j : Int} (hi : 0 ≤ i ∧ i < f.size) (hj : 0 ≤ j ∧ j < heiF f) : ∃ n : Nat, n < numD f ∧ j * f.size + i = n ∧ dotK f f.items.length n = colI f i j ∧ ownN f f.items.length n = ownK f i j f.items.length := by
  obtain ⟨a, rfl⟩ := Int.eq_ofNat_of_zero_le hi.1
  obtain ⟨b, rfl⟩ := Int.eq_ofNat_of_zero_le hj.1
  have ha : a < f.size.toNat := by omega
  have hb : b < (heiF f).toNat := by omega
  refine ⟨b * f.size.toNat + a, (pix_at ha hb).1, ?_, colI_dot ha hb, own_dot ha hb⟩
  have : ((f.size.toNat : Nat) : Int) = f.size := by omega
  rw [Int.natCast_add, Int.natCast_mul, this]
theorem seen_own {f : Fc} (k : Nat) : seenF f k = true ↔ ∃ n, n < numD f ∧ ownN f f.items.length n = k := by
  simp only [seenF, decide_eq_true_eq]
  constructor
  · rintro ⟨i, j, h1, h2, h3, h4, hp, ht⟩
    obtain ⟨n, hn, -, -, ho⟩ := pix_int ⟨h1, h2⟩ ⟨h3, h4⟩
    refine ⟨n, hn, ?_⟩
    rw [ho, ownK, if_pos hp]
    exact ht
  · rintro ⟨n, hn, ho⟩
    obtain ⟨a, b⟩ := pix_in hn
    unfold ownN at ho
    generalize n % f.size.toNat = x at *
    generalize n / f.size.toNat = y at *
    unfold ownK at ho
    split at ho
    · rename_i hp
      exact ⟨(x : Int), (y : Int), Int.natCast_nonneg _, by omega, Int.natCast_nonneg _, by omega, hp, ho⟩
    · omega

open Classical in
/-- Two faces look the same. -/
noncomputable def lookB (f g : Fc) : Bool := decide (f.size = g.size ∧ heiF f = heiF g ∧ ∀ i j : Int, 0 ≤ i → i < f.size → 0 ≤ j → j < heiF f → colI f i j = colI g i j)
open Classical in
/-- A face is the same in a mirror. -/
noncomputable def mirB (f : Fc) : Bool := decide (∀ i j : Int, 0 ≤ i → i < f.size → 0 ≤ j → j < heiF f → colI f i j = colI f (f.size - 1 - i) j)


theorem info_i64d : (Tryz.prog.info? 3).map (fun i => (i.zero, i.size, i.bytes)) = some (some (.int .i64 0), 1, 8) := by kernel_rfl
theorem info_partsd {i : TypeId} {z : Value} {a b : Nat} (h : (Tryz.prog.info? i).map (fun i => (i.zero, i.size, i.bytes)) = some (some z, a, b)) : ∃ i0, Tryz.prog.info? i = some i0 ∧ i0.zero = some z ∧ i0.size = a ∧ i0.bytes = b := by
  cases hi : Tryz.prog.info? i with
  | none => rw [hi] at h; cases h
  | some i0 =>
    rw [hi] at h
    simp at h
    exact ⟨i0, rfl, h.1, h.2.1, h.2.2⟩
theorem own_belowd {w w' : World} {base e size n : Nat} {v : Value} {xs : List Value} (h : w.ownsRow base e size v n xs) (hb : Below w.heap.size w w') : w'.ownsRow base e size v n xs := by
  obtain ⟨h1, h2⟩ := h
  refine ⟨h1, ?_⟩
  rcases h2 with h2 | ⟨g, cap, cur, e1, e2, e3, e4⟩
  · exact .inl h2
  · exact .inr ⟨g, cap, cur, e1, e2, (hb.block g (Array.getElem?_eq_some_iff.1 e3).1).trans e3, e4⟩
theorem own_lt {w : World} {base e size n : Nat} {v : Value} {xs : List Value} (h : w.ownsRow base e size v n xs) {g : Nat} (hg : v.ownBlock = some g) : base ≤ g ∧ g < w.heap.size := by
  rcases h.2 with ⟨rfl, _⟩ | ⟨g', cap, cur, rfl, hb, hh, _⟩
  · cases hg
  · have : g' = g := by simpa [Value.ownBlock] using hg
    subst this
    exact ⟨hb, (Array.getElem?_eq_some_iff.1 hh).1⟩
theorem own_keep {w w' : World} {base e size n : Nat} {v v2 : Value} {xs : List Value} (h : w.ownsRow base e size v n xs) (hg : w.grownBy w' v2.ownBlock) (hs : ∀ g, v2.ownBlock = some g → v.ownBlock ≠ some g) : w'.ownsRow base e size v n xs := by
  refine h.kept hg ?_
  cases hvb : v.ownBlock with
  | none => exact .inl rfl
  | some g => exact .inr fun e => hs g e.symm hvb
/-- The row of a list of numbers, cell by cell. -/
theorem own_cell {w : World} {base e n g cap : Nat} {L : List Int} (h : w.ownsRow base e 1 (.slice (some ⟨g, 0, none⟩) n cap) n (ints L)) {k : Nat} {x : Int} (hk : L[k]? = some x) : w.cell? ⟨g, k, none⟩ = some (.int .i64 x) := by
  obtain ⟨A, c, hv, hr, -⟩ := own_slice h
  injection hv with e1 e2 e3
  subst e1 e3
  have hlt : k < L.length := (List.getElem?_eq_some_iff.1 hk).1
  obtain ⟨b, off, hA, hb, hc⟩ := hr (ints_ne hlt)
  injection hA with hA
  injection hA with h1 h2
  subst h1 h2
  have := hc k _ (ints_at L k hlt)
  rw [Nat.zero_add] at this
  rw [this]
  have : L[k] = x := (List.getElem?_eq_some_iff.1 hk).2
  rw [this]
theorem own_free {w : World} {base e n g cap size : Nat} {xs : List Value} (h : w.ownsRow base e size (.slice (some ⟨g, 0, none⟩) n cap) n xs) (k : Nat) : w.frozen? ⟨g, k, none⟩ = false := by
  rcases h.2 with ⟨hv, _⟩ | ⟨g', cap', cur, hv, hb, hh, _⟩
  · cases hv
  · injection hv with e1 e2 e3
    injection e1 with e1
    injection e1 with e1
    subst e1
    simp [World.frozen?, hh]
theorem own_set {w : World} {base e n g cap : Nat} {L : List Int} (h : w.ownsRow base e 1 (.slice (some ⟨g, 0, none⟩) n cap) n (ints L)) (k : Nat) (x : Int) : (w.setCell ⟨g, k, none⟩ (.int .i64 x)).ownsRow base e 1 (.slice (some ⟨g, 0, none⟩) n cap) n (ints (L.set k x)) := by
  obtain ⟨hlen, h2⟩ := h
  refine ⟨by simpa using hlen, ?_⟩
  rcases h2 with ⟨hv, _⟩ | ⟨g', cap', cur, hv, hb, hh, hnc, hcap, hcs, htk⟩
  · cases hv
  · injection hv with e1 e2 e3
    injection e1 with e1
    injection e1 with e1
    subst e1 e3
    refine .inr ⟨g, cap, cur.setIfInBounds k (.int .i64 x), rfl, hb, heap_setCell_same _ _ _ _ _ _ hh, hnc, hcap, by simpa using hcs, ?_⟩
    rw [Array.toList_setIfInBounds, Nat.mul_one, List.take_set, show cur.toList.take n = ints L by rw [← htk, Nat.mul_one]]
    simp [ints, List.map_set]
theorem own_other {w : World} {base e size n : Nat} {v : Value} {xs : List Value} (h : w.ownsRow base e size v n xs) {a : Addr} (ha : v.ownBlock ≠ some a.block) (u : Value) : (w.setCell a u).ownsRow base e size v n xs := by
  have hg : w.grownBy (w.setCell a u) (some a.block) := ⟨rfl, rfl, rfl, by simp, fun k _ hne => heap_setCell_other _ _ _ _ (fun e => hne (by rw [e]))⟩
  refine h.kept hg ?_
  cases hvb : v.ownBlock with
  | none => exact .inl rfl
  | some g => exact .inr fun e => ha (by rw [hvb, e])

/-- The first n dots of the next layer, the others of this one. -/
def mixL (N : Nat) (d : Nat → Nat → Int) (k n : Nat) : List Int := (List.range N).map fun m => if m < n then d (k + 1) m else d k m
theorem mixL_len (N : Nat) (d : Nat → Nat → Int) (k n : Nat) : (mixL N d k n).length = N := by simp [mixL]
theorem mixL_zero (N : Nat) (d : Nat → Nat → Int) (k : Nat) : mixL N d k 0 = (List.range N).map (d k) := by simp [mixL]
theorem mixL_all (N : Nat) (d : Nat → Nat → Int) (k : Nat) : mixL N d k N = (List.range N).map (d (k + 1)) := by
  unfold mixL
  apply List.map_congr_left
  intro m hm
  rw [if_pos (List.mem_range.1 hm)]
theorem mixL_at (N : Nat) (d : Nat → Nat → Int) (k n : Nat) (h : n < N) : (mixL N d k n)[n]? = some (d k n) := by simp [mixL, h]
theorem mixL_set (N : Nat) (d : Nat → Nat → Int) (k n : Nat) : mixL N d k (n + 1) = (mixL N d k n).set n (d (k + 1) n) := by
  apply List.ext_getElem?
  intro m
  rw [List.getElem?_set]
  by_cases e : n = m
  · subst e
    by_cases hn : n < N <;> simp [mixL, hn]
  · rw [if_neg e]
    by_cases hm : m < N
    · simp [mixL, hm]
      by_cases h1 : m < n
      · rw [if_pos (by omega), if_pos h1]
      · rw [if_neg (by omega), if_neg h1]
    · simp [mixL, hm]
theorem mixL_same (N : Nat) (d : Nat → Nat → Int) (k n : Nat) (h : d (k + 1) n = d k n) : mixL N d k (n + 1) = mixL N d k n := by
  unfold mixL
  apply List.map_congr_left
  intro m hm
  by_cases e : m = n
  · subst e; rw [if_pos (by omega), if_neg (by omega), h]
  · by_cases h1 : m < n
    · rw [if_pos (by omega), if_pos h1]
    · rw [if_neg (by omega), if_neg h1]
theorem range_snoc (d : Nat → Int) (n : Nat) : (List.range (n + 1)).map d = (List.range n).map d ++ [d n] := by simp [List.range_succ]
theorem pi_one (a b : Int) (g1 g2 : Option Addr) (n1 n2 c1 c2 : Nat) : (#[Value.int .i64 a, .int .i64 b, .slice g1 n1 c1, .slice g2 n2 c2]).all (·.oneCell') = true := by simp [Value.oneCell']
theorem own_some {w : World} {base e : Nat} {v : Value} {L : List Int} (h : w.ownsRow base e 1 v L.length (ints L)) (hl : 0 < L.length) : ∃ g cap, v = .slice (some ⟨g, 0, none⟩) L.length cap := by
  rcases h.2 with ⟨-, h0⟩ | ⟨g, cap, cur, hv, -⟩
  · omega
  · exact ⟨g, cap, hv⟩
theorem rd_row {w : World} {base e n g cap : Nat} {L : List Int} (h : w.ownsRow base e 1 (.slice (some ⟨g, 0, none⟩) n cap) n (ints L)) {R : Nat} (hR : R < base) (us : Array Value) : Rd (w.setRow R us) (some ⟨g, 0, none⟩) (ints L) := by
  obtain ⟨A, c, hv, hr, -⟩ := own_slice h
  injection hv with e1 e2 e3
  subst e1
  have hg := (own_lt h (g := g) rfl).1
  intro hx
  obtain ⟨b, off, hA, hb, hc⟩ := hr hx
  injection hA with hA
  injection hA with h1 h2
  subst h1 h2
  refine ⟨g, 0, rfl, by simpa using hb, fun j u hu => ?_⟩
  rw [cell_setRow_other _ _ _ _ (by dsimp only; omega)]
  exact hc j u hu

theorem atR_yes {f : Fc} {i j : Int} (h : fcB f = true) : atR f i j = .tuple #[.int .i64 (colAt f i j), .int .i64 0] := by unfold atR; rw [h]; rfl

end Go.Proofs.YtfklckjfbnaoeaaGreatDoor
