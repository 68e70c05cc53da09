/-
  The merge of a stable sort. No program in sight.
-/
import Derived.Sort.LotA
set_option linter.unusedSimpArgs false
set_option linter.unusedVariables false
namespace Go.Proofs.Ytegghimjmbgghaa
open Go.Sort
variable {α : Type} [Inhabited α]

theorem swpIn (d : Array α) {A B i j : Nat} (h1 : A ≤ i) (h2 : i < B) (h3 : A ≤ j) (h4 : j < B) (hB : B ≤ d.size) : PermIn A B d (swp d i j) := swp_permIn d A B i j h1 h2 h3 h4 hB
theorem swp_at (d : Array α) {i j : Nat} (hi : i < d.size) (hj : j < d.size) (t : Nat) : (swp d i j)[t]! = if t = j then d[i]! else if t = i then d[j]! else d[t]! := by
  by_cases e : t = j
  · rw [if_pos e, e, swp_right d i j hj]
  · rw [if_neg e]
    by_cases e2 : t = i
    · rw [if_pos e2, e2, swp_left d i j hi (fun h => e (e2.trans h))]
    · rw [if_neg e2, swp_other d i j t e2 e]

/-- Two ranges are exchanged. -/
structure SwR (d : Array α) (a b n : Nat) (d' : Array α) : Prop where
  size : d'.size = d.size
  left : ∀ t, t < n → d'[a + t]! = d[b + t]!
  right : ∀ t, t < n → d'[b + t]! = d[a + t]!
  other : ∀ t, ¬ (a ≤ t ∧ t < a + n) → ¬ (b ≤ t ∧ t < b + n) → d'[t]! = d[t]!
  perm : ∀ A B, A ≤ a → b + n ≤ B → B ≤ d.size → PermIn A B d d'
theorem SwR.zero (d : Array α) (a b : Nat) : SwR d a b 0 d :=
  ⟨rfl, fun t h => absurd h (Nat.not_lt_zero _), fun t h => absurd h (Nat.not_lt_zero _), fun _ _ _ => rfl, fun A B _ _ _ => permIn_refl d A B⟩
theorem SwR.step {d d' : Array α} {a b n : Nat} (h : SwR d a b n d') (h1 : a + n < b) (h2 : b + n < d.size) : SwR d a b (n + 1) (swp d' (a + n) (b + n)) := by
  have hs := h.size
  have hat := swp_at d' (i := a + n) (j := b + n) (by omega) (by omega)
  refine ⟨by rw [size_swp, hs], fun t ht => ?_, fun t ht => ?_, fun t n1 n2 => ?_, fun A B hA hB hd => ?_⟩
  · rw [hat, if_neg (by omega)]
    by_cases e : t = n
    · rw [if_pos (by omega), h.other _ (by omega) (by omega), e]
    · rw [if_neg (by omega), h.left t (by omega)]
  · rw [hat]
    by_cases e : t = n
    · rw [if_pos (by omega), h.other _ (by omega) (by omega), e]
    · rw [if_neg (by omega), if_neg (by omega), h.right t (by omega)]
  · rw [hat, if_neg (by omega), if_neg (by omega), h.other _ (by omega) (by omega)]
  · exact permIn_trans _ _ _ _ _ (h.perm A B hA (by omega) hd) (swpIn d' (by omega) (by omega) (by omega) (by omega) (by omega))

/-- Two ranges beside one another change places. -/
structure RotI (d : Array α) (a m b : Nat) (d' : Array α) : Prop where
  size : d'.size = d.size
  lo : ∀ t, t < b - m → d'[a + t]! = d[m + t]!
  hi : ∀ t, t < m - a → d'[a + (b - m) + t]! = d[a + t]!
  other : ∀ t, t < a ∨ b ≤ t → d'[t]! = d[t]!
  perm : ∀ A B, A ≤ a → b ≤ B → B ≤ d.size → PermIn A B d d'
theorem RotI.none (d : Array α) {a m b : Nat} (h : a = m ∨ m = b) (h1 : a ≤ m) (h2 : m ≤ b) : RotI d a m b d := by
  refine ⟨rfl, fun t ht => ?_, fun t ht => ?_, fun _ _ => rfl, fun A B _ _ _ => permIn_refl d A B⟩
  · rw [show a + t = m + t by omega]
  · rw [show a + (b - m) + t = a + t by omega]
theorem SwR.rot {d d' : Array α} {m i : Nat} (h : SwR d (m - i) m i d') (hi : i ≤ m) : RotI d (m - i) m (m + i) d' := by
  refine ⟨h.size, fun t ht => h.left t (by omega), fun t ht => ?_, fun t ht => h.other t (by omega) (by omega), h.perm⟩
  rw [show m - i + (m + i - m) + t = m + t by omega]
  exact h.right t (by omega)
theorem SwR.rot_gt {d d' D : Array α} {m i j : Nat} (hi : i ≤ m) (hj : j < i) (hs : m + j ≤ d.size) (h : SwR d (m - i) m j d') (hr : RotI d' (m - (i - j)) m (m + j) D) : RotI d (m - i) m (m + j) D := by
  have e := h.size
  refine ⟨hr.size.trans e, fun t ht => ?_, fun t ht => ?_, fun t ht => ?_, fun A B hA hB hd => permIn_trans _ _ _ _ _ (h.perm A B hA hB hd) (hr.perm A B (by omega) hB (by omega))⟩
  · rw [hr.other _ (by omega), h.left t (by omega)]
  · by_cases c : t < j
    · have := hr.lo t (by omega)
      rw [show m - (i - j) + t = m - i + (m + j - m) + t by omega] at this
      rw [this, h.right t c]
    · have := hr.hi (t - j) (by omega)
      rw [show m - (i - j) + (m + j - m) + (t - j) = m - i + (m + j - m) + t by omega] at this
      rw [this, h.other _ (by omega) (by omega)]
      congr 1
      omega
  · rw [hr.other _ (by omega), h.other _ (by omega) (by omega)]
theorem SwR.rot_lt {d d' D : Array α} {m i j : Nat} (hi : i ≤ m) (hj : i < j) (hs : m + j ≤ d.size) (h : SwR d (m - i) (m + j - i) i d') (hr : RotI d' (m - i) m (m + (j - i)) D) : RotI d (m - i) m (m + j) D := by
  have e := h.size
  refine ⟨hr.size.trans e, fun t ht => ?_, fun t ht => ?_, fun t ht => ?_, fun A B hA hB hd => permIn_trans _ _ _ _ _ (h.perm A B hA (by omega) hd) (hr.perm A B hA (by omega) (by omega))⟩
  · by_cases c : t < j - i
    · rw [hr.lo t (by omega), h.other _ (by omega) (by omega)]
    · have := hr.hi (t - (j - i)) (by omega)
      rw [show m - i + (m + (j - i) - m) + (t - (j - i)) = m - i + t by omega] at this
      rw [this, h.left _ (by omega)]
      congr 1
      omega
  · rw [hr.other _ (by omega)]
    have := h.right t (by omega)
    rw [show m + j - i + t = m - i + (m + j - m) + t by omega] at this
    exact this
  · rw [hr.other _ (by omega), h.other _ (by omega) (by omega)]
/-- One step of the first element upwards. -/
theorem RotI.up {d d' : Array α} {a k : Nat} (h : RotI d a (a + 1) (k + 1) d') (ha : a ≤ k) (hk : k + 1 < d.size) : RotI d a (a + 1) (k + 2) (swp d' k (k + 1)) := by
  have e := h.size
  have hat := swp_at d' (i := k) (j := k + 1) (by omega) (by omega)
  refine ⟨by rw [size_swp, e], fun t ht => ?_, fun t ht => ?_, fun t ht => ?_, fun A B hA hB hd => permIn_trans _ _ _ _ _ (h.perm A B hA (by omega) hd) (swpIn d' (by omega) (by omega) (by omega) (by omega) (by omega))⟩
  · rw [hat, if_neg (by omega)]
    by_cases c : a + t = k
    · rw [if_pos c, h.other _ (by omega)]
      congr 1
      omega
    · rw [if_neg c, h.lo t (by omega)]
  · have := h.hi t (by omega)
    rw [hat, if_pos (by omega), ← this]
    congr 1
    omega
  · rw [hat, if_neg (by omega), if_neg (by omega), h.other _ (by omega)]
/-- One step of the last element downwards. -/
theorem RotI.down {d d' : Array α} {k m : Nat} (h : RotI d (k + 1) m (m + 1) d') (hk : k + 1 ≤ m) (hm : m < d.size) : RotI d k m (m + 1) (swp d' (k + 1) k) := by
  have e := h.size
  have hat := swp_at d' (i := k + 1) (j := k) (by omega) (by omega)
  refine ⟨by rw [size_swp, e], fun t ht => ?_, fun t ht => ?_, fun t ht => ?_, fun A B hA hB hd => permIn_trans _ _ _ _ _ (h.perm A B (by omega) hB hd) (swpIn d' (by omega) (by omega) (by omega) (by omega) (by omega))⟩
  · obtain rfl : t = 0 := by omega
    rw [hat, if_pos (by omega)]
    have := h.lo 0 (by omega)
    simpa using this
  · rw [hat, if_neg (by omega)]
    by_cases c : t = 0
    · subst c
      rw [if_pos (by omega), h.other _ (by omega)]
      rfl
    · rw [if_neg (by omega)]
      have := h.hi (t - 1) (by omega)
      rw [show k + 1 + (m + 1 - m) + (t - 1) = k + (m + 1 - m) + t by omega] at this
      rw [this]
      congr 1
      omega
  · rw [hat, if_neg (by omega), if_neg (by omega), h.other _ (by omega)]

/-! ### A binary search -/
structure Cut (p : Nat → Prop) (lo hi i j : Nat) : Prop where
  li : lo ≤ i
  ij : i ≤ j
  jh : j ≤ hi
  yes : ∀ t, lo ≤ t → t < i → p t
  no : ∀ t, j ≤ t → t < hi → ¬ p t
def MonoP (p : Nat → Prop) (lo hi : Nat) : Prop := ∀ t t', lo ≤ t → t < t' → t' < hi → p t' → p t
variable {p : Nat → Prop} {lo hi i j h : Nat}
theorem Cut.start (hl : lo ≤ hi) : Cut p lo hi lo hi := ⟨Nat.le_refl _, hl, Nat.le_refl _, fun t h1 h2 => by omega, fun t h1 h2 => by omega⟩
theorem Cut.right (H : Cut p lo hi i j) (hM : MonoP p lo hi) (h1 : i ≤ h) (h2 : h < j) (hp : p h) : Cut p lo hi (h + 1) j := by
  have := H.jh
  have := H.li
  refine ⟨by omega, by omega, H.jh, fun t t1 t2 => ?_, H.no⟩
  by_cases e : t = h
  · rw [e]; exact hp
  · exact hM t h t1 (by omega) (by omega) hp
theorem Cut.left (H : Cut p lo hi i j) (hM : MonoP p lo hi) (h1 : i ≤ h) (h2 : h < j) (hp : ¬ p h) : Cut p lo hi i h := by
  have := H.jh
  have := H.li
  refine ⟨H.li, h1, by omega, H.yes, fun t t1 t2 ht => ?_⟩
  by_cases e : t = h
  · rw [e] at ht; exact hp ht
  · exact hp (hM h t (by omega) (by omega) t2 ht)

/-! ### The merge -/
structure Strict (R : α → α → Prop) : Prop where
  trans : ∀ x y z, R x y → R y z → R x z
  irr : ∀ x, ¬ R x x
/-- Two ascending ranges, and what a comparison across them tells. -/
structure MrgIn (R : α → α → Prop) (cf : α → α → Int) (d : Array α) (a m b : Nat) : Prop where
  sl : ∀ i j, a ≤ i → i < j → j < m → R d[i]! d[j]!
  sr : ∀ i j, m ≤ i → i < j → j < b → R d[i]! d[j]!
  less : ∀ i j, a ≤ i → i < m → m ≤ j → j < b → cf d[j]! d[i]! < 0 → R d[j]! d[i]!
  not : ∀ i j, a ≤ i → i < m → m ≤ j → j < b → ¬ cf d[j]! d[i]! < 0 → R d[i]! d[j]!
structure MrgOut (R : α → α → Prop) (d : Array α) (a b : Nat) (d' : Array α) : Prop where
  perm : PermIn a b d d'
  asc : ∀ i j, a ≤ i → i < j → j < b → R d'[i]! d'[j]!
variable {R : α → α → Prop} {cf : α → α → Int} {d d' D : Array α} {a m b s e : Nat}
theorem MrgIn.congr (h : MrgIn R cf d a m b) (hh : ∀ t, a ≤ t → t < b → d'[t]! = d[t]!) (h1 : a ≤ m) (h2 : m ≤ b) : MrgIn R cf d' a m b := by
  refine ⟨fun i j x y z => ?_, fun i j x y z => ?_, fun i j x y z u => ?_, fun i j x y z u => ?_⟩
  · rw [hh i (by omega) (by omega), hh j (by omega) (by omega)]; exact h.sl i j x y z
  · rw [hh i (by omega) (by omega), hh j (by omega) (by omega)]; exact h.sr i j x y z
  · rw [hh i (by omega) (by omega), hh j (by omega) (by omega)]; exact h.less i j x y z u
  · rw [hh i (by omega) (by omega), hh j (by omega) (by omega)]; exact h.not i j x y z u
theorem MrgIn.edge (h : MrgIn R cf d a m b) (he : m = a ∨ m = b) : MrgOut R d a b d := by
  refine ⟨permIn_refl d a b, fun i j x y z => ?_⟩
  rcases he with rfl | rfl
  · exact h.sr i j x y z
  · exact h.sl i j x y z
/-- Across: less is before, not less is behind. -/
theorem MrgIn.iff (h : MrgIn R cf d a m b) (hR : Strict R) {i j : Nat} (h1 : a ≤ i) (h2 : i < m) (h3 : m ≤ j) (h4 : j < b) : cf d[j]! d[i]! < 0 ↔ R d[j]! d[i]! := by
  refine ⟨h.less i j h1 h2 h3 h4, fun hr => ?_⟩
  by_cases c : cf d[j]! d[i]! < 0
  · exact c
  · exact absurd (hR.trans _ _ _ hr (h.not i j h1 h2 h3 h4 c)) (hR.irr _)
theorem MrgIn.mono1 (h : MrgIn R cf d a (a + 1) b) (hR : Strict R) : MonoP (fun t => cf d[t]! d[a]! < 0) (a + 1) b := by
  intro t t' h1 h2 h3 hp
  rw [h.iff hR (Nat.le_refl _) (by omega) (by omega) (by omega)] at hp ⊢
  exact hR.trans _ _ _ (h.sr t t' h1 h2 h3) hp
theorem MrgIn.mono2 (h : MrgIn R cf d a m (m + 1)) (hR : Strict R) : MonoP (fun t => ¬ cf d[m]! d[t]! < 0) a m := by
  intro t t' h1 h2 h3 hp hn
  have r1 := h.not t' m (by omega) h3 (Nat.le_refl _) (by omega) hp
  have r2 := h.less t m h1 (by omega) (Nat.le_refl _) (by omega) hn
  exact hR.irr _ (hR.trans _ _ _ (hR.trans _ _ _ r1 r2) (h.sl t t' h1 h2 h3))
/-- The pieces behind a rotation that stand as they are. -/
theorem MrgIn.whole (h : MrgIn R cf d a m b) (hr : RotI d s m e D) (h1 : a ≤ s) (h2 : s ≤ m) (h3 : m ≤ e) (h4 : e ≤ b) (hb : b ≤ d.size)
    (c1 : ∀ x y, a ≤ x → x < s → e ≤ y → y < b → R d[x]! d[y]!) (c2 : ∀ y x, m ≤ y → y < e → s ≤ x → x < m → R d[y]! d[x]!)
    (c3 : ∀ x y, a ≤ x → x < s → m ≤ y → y < e → R d[x]! d[y]!) (c4 : ∀ x y, s ≤ x → x < m → e ≤ y → y < b → R d[x]! d[y]!) : MrgOut R d a b D := by
  have at1 : ∀ t, t < s → D[t]! = d[t]! := fun t ht => hr.other t (.inl ht)
  have at2 : ∀ t, s ≤ t → t < s + (e - m) → D[t]! = d[m + (t - s)]! := fun t ht hu => by
    have := hr.lo (t - s) (by omega)
    rwa [show s + (t - s) = t by omega] at this
  have at3 : ∀ t, s + (e - m) ≤ t → t < e → D[t]! = d[s + (t - (s + (e - m)))]! := fun t ht hu => by
    have := hr.hi (t - (s + (e - m))) (by omega)
    rwa [show s + (e - m) + (t - (s + (e - m))) = t by omega] at this
  have at4 : ∀ t, e ≤ t → D[t]! = d[t]! := fun t ht => hr.other t (.inr ht)
  refine ⟨hr.perm a b h1 h4 hb, fun i j hi hij hj => ?_⟩
  rcases Nat.lt_or_ge i s with i1 | i1
  · rw [at1 i i1]
    rcases Nat.lt_or_ge j s with j1 | j1
    · rw [at1 j j1]; exact h.sl _ _ hi hij (by omega)
    · rcases Nat.lt_or_ge j (s + (e - m)) with j2 | j2
      · rw [at2 j j1 j2]; exact c3 _ _ hi i1 (by omega) (by omega)
      · rcases Nat.lt_or_ge j e with j3 | j3
        · rw [at3 j j2 j3]; exact h.sl _ _ hi (by omega) (by omega)
        · rw [at4 j j3]; exact c1 _ _ hi i1 j3 hj
  · rcases Nat.lt_or_ge i (s + (e - m)) with i2 | i2
    · rw [at2 i i1 i2]
      rcases Nat.lt_or_ge j (s + (e - m)) with j2 | j2
      · rw [at2 j (by omega) j2]; exact h.sr _ _ (by omega) (by omega) (by omega)
      · rcases Nat.lt_or_ge j e with j3 | j3
        · rw [at3 j j2 j3]; exact c2 _ _ (by omega) (by omega) (by omega) (by omega)
        · rw [at4 j j3]; exact h.sr _ _ (by omega) (by omega) hj
    · rcases Nat.lt_or_ge i e with i3 | i3
      · rw [at3 i i2 i3]
        rcases Nat.lt_or_ge j e with j3 | j3
        · rw [at3 j (by omega) j3]; exact h.sl _ _ (by omega) (by omega) (by omega)
        · rw [at4 j j3]; exact c4 _ _ (by omega) (by omega) j3 hj
      · rw [at4 i i3, at4 j (by omega)]; exact h.sr _ _ (by omega) hij hj
/-- One element in front. -/
theorem MrgIn.one1 {i : Nat} (h : MrgIn R cf d a (a + 1) b) (hc : Cut (fun t => cf d[t]! d[a]! < 0) (a + 1) b i i) (hr : RotI d a (a + 1) i D) (hb : b ≤ d.size) : MrgOut R d a b D := by
  refine h.whole hr (Nat.le_refl _) (by omega) hc.li hc.jh hb (fun x y h1 h2 => by omega) (fun y x h1 h2 h3 h4 => ?_) (fun x y h1 h2 => by omega) (fun x y h1 h2 h3 h4 => ?_)
  · obtain rfl : x = a := by omega
    exact h.less _ _ (Nat.le_refl _) (by omega) h1 (by have := hc.jh; omega) (hc.yes y h1 h2)
  · obtain rfl : x = a := by omega
    exact h.not _ _ (Nat.le_refl _) (by omega) (by have := hc.li; omega) h4 (hc.no y h3 h4)
/-- One element behind. -/
theorem MrgIn.one2 {i : Nat} (h : MrgIn R cf d a m (m + 1)) (hc : Cut (fun t => ¬ cf d[m]! d[t]! < 0) a m i i) (hr : RotI d i m (m + 1) D) (hb : m + 1 ≤ d.size) : MrgOut R d a (m + 1) D := by
  refine h.whole hr hc.li hc.jh (by omega) (Nat.le_refl _) hb (fun x y h1 h2 h3 h4 => by omega) (fun y x h1 h2 h3 h4 => ?_) (fun x y h1 h2 h3 h4 => ?_) (fun x y h1 h2 h3 h4 => by omega)
  · obtain rfl : y = m := by omega
    have := hc.no x h3 h4
    exact h.less _ _ (by have := hc.li; omega) h4 (Nat.le_refl _) (by omega) (Decidable.not_not.1 this)
  · obtain rfl : y = m := by omega
    exact h.not _ _ h1 (by have := hc.jh; omega) (Nat.le_refl _) (by omega) (hc.yes x h1 h2)
/-- The middle of a merge: where it is cut. -/
structure Mid (a m b mid s0 r0 : Nat) : Prop where
  am : a + 2 ≤ m
  mb : m + 2 ≤ b
  mid1 : mid * 2 ≤ a + b
  mid2 : a + b ≤ mid * 2 + 1
  lo : (mid < m ∧ s0 + b = mid + m ∧ r0 = mid) ∨ (m ≤ mid ∧ s0 = a ∧ r0 = m)
theorem MrgIn.monoM {mid s0 r0 : Nat} (h : MrgIn R cf d a m b) (hR : Strict R) (hM : Mid a m b mid s0 r0) : MonoP (fun c => ¬ cf d[mid + m - 1 - c]! d[c]! < 0) s0 r0 := by
  intro t t' h1 h2 h3 hp hn
  obtain ⟨q1, q2, q3, q4, q5⟩ := hM
  have r1 := h.not t' (mid + m - 1 - t') (by omega) (by omega) (by omega) (by omega) hp
  have r2 := h.less t (mid + m - 1 - t) (by omega) (by omega) (by omega) (by omega) hn
  have r3 := h.sr (mid + m - 1 - t') (mid + m - 1 - t) (by omega) (by omega) (by omega)
  have r4 := h.sl t t' (by omega) h2 (by omega)
  exact hR.irr _ (hR.trans _ _ _ (hR.trans _ _ _ r1 r3) (hR.trans _ _ _ r2 r4))
/-- Behind the cut and the rotation: two merges that do not meet. -/
theorem MrgIn.split {mid s0 r0 : Nat} (h : MrgIn R cf d a m b) (hR : Strict R) (hM : Mid a m b mid s0 r0) (hc : Cut (fun c => ¬ cf d[mid + m - 1 - c]! d[c]! < 0) s0 r0 s s) (hr : RotI d s m (mid + m - s) D) (hb : b ≤ d.size) :
    MrgIn R cf D a s mid ∧ MrgIn R cf D mid (mid + m - s) b ∧ ∀ x y, a ≤ x → x < mid → mid ≤ y → y < b → R D[x]! D[y]! := by
  obtain ⟨q1, q2, q3, q4, q5⟩ := hM
  obtain ⟨z1, -, z2, z3, z4⟩ := hc
  have at1 : ∀ t, t < s → D[t]! = d[t]! := fun t ht => hr.other t (.inl ht)
  have at2 : ∀ t, s ≤ t → t < mid → D[t]! = d[m + (t - s)]! := fun t ht hu => by
    have := hr.lo (t - s) (by omega)
    rwa [show s + (t - s) = t by omega] at this
  have at3 : ∀ t, mid ≤ t → t < mid + m - s → D[t]! = d[s + (t - mid)]! := fun t ht hu => by
    have := hr.hi (t - mid) (by omega)
    rwa [show s + (mid + m - s - m) + (t - mid) = t by omega] at this
  have at4 : ∀ t, mid + m - s ≤ t → D[t]! = d[t]! := fun t ht => hr.other t (.inr ht)
  -- the left front lies before the right rest
  have c1 : ∀ x y, a ≤ x → x < s → mid + m - s ≤ y → y < b → R d[x]! d[y]! := by
    intro x y h1 h2 h3 h4
    have hs : s0 < s := by omega
    have r1 := h.not (s - 1) (mid + m - 1 - (s - 1)) (by omega) (by omega) (by omega) (by omega) (z3 (s - 1) (by omega) (by omega))
    have r2 : R d[x]! d[mid + m - 1 - (s - 1)]! := by
      by_cases c : x = s - 1
      · rw [c]; exact r1
      · exact hR.trans _ _ _ (h.sl x (s - 1) h1 (by omega) (by omega)) r1
    by_cases c : y = mid + m - 1 - (s - 1)
    · rw [c]; exact r2
    · exact hR.trans _ _ _ r2 (h.sr _ y (by omega) (by omega) h4)
  have c2 : ∀ y x, m ≤ y → y < mid + m - s → s ≤ x → x < m → R d[y]! d[x]! := by
    intro y x h1 h2 h3 h4
    have hs : s < r0 := by omega
    have r1 := h.less s (mid + m - 1 - s) (by omega) (by omega) (by omega) (by omega) (Decidable.not_not.1 (z4 s (Nat.le_refl _) hs))
    have r2 : R d[mid + m - 1 - s]! d[x]! := by
      by_cases c : x = s
      · rw [c]; exact r1
      · exact hR.trans _ _ _ r1 (h.sl s x (by omega) (by omega) h4)
    by_cases c : y = mid + m - 1 - s
    · rw [c]; exact r2
    · exact hR.trans _ _ _ (h.sr y _ h1 (by omega) (by omega)) r2
  refine ⟨⟨fun i j x y z => ?_, fun i j x y z => ?_, fun i j x y z u => ?_, fun i j x y z u => ?_⟩, ⟨fun i j x y z => ?_, fun i j x y z => ?_, fun i j x y z u => ?_, fun i j x y z u => ?_⟩, fun x y h1 h2 h3 h4 => ?_⟩
  · rw [at1 i (by omega), at1 j (by omega)]; exact h.sl _ _ x y (by omega)
  · rw [at2 i x (by omega), at2 j (by omega) z]; exact h.sr _ _ (by omega) (by omega) (by omega)
  · rw [at1 i y, at2 j z u]; exact h.less _ _ x (by omega) (by omega) (by omega)
  · rw [at1 i y, at2 j z u]; exact h.not _ _ x (by omega) (by omega) (by omega)
  · rw [at3 i x (by omega), at3 j (by omega) (by omega)]; exact h.sl _ _ (by omega) (by omega) (by omega)
  · rw [at4 i x, at4 j (by omega)]; exact h.sr _ _ (by omega) y z
  · rw [at3 i x y, at4 j z]; exact h.less _ _ (by omega) (by omega) (by omega) u
  · rw [at3 i x y, at4 j z]; exact h.not _ _ (by omega) (by omega) (by omega) u
  · rcases Nat.lt_or_ge x s with x1 | x1 <;> rcases Nat.lt_or_ge y (mid + m - s) with y1 | y1
    · rw [at1 x x1, at3 y h3 y1]; exact h.sl _ _ h1 (by omega) (by omega)
    · rw [at1 x x1, at4 y y1]; exact c1 _ _ h1 x1 y1 h4
    · rw [at2 x x1 h2, at3 y h3 y1]; exact c2 _ _ (by omega) (by omega) (by omega) (by omega)
    · rw [at2 x x1 h2, at4 y y1]; exact h.sr _ _ (by omega) (by omega) h4
/-- Both merges done, all is done. -/
theorem merged {mid : Nat} {d1 d2 d3 : Array α} (h1 : PermIn a b d d1) (hx : ∀ x y, a ≤ x → x < mid → mid ≤ y → y < b → R d1[x]! d1[y]!) (h2 : MrgOut R d1 a mid d2) (h3 : MrgOut R d2 mid b d3) (ha : a ≤ mid) (hb : mid ≤ b) (hs : b ≤ d.size) : MrgOut R d a b d3 := by
  have e1 := h1.1
  have e2 := h2.perm.1
  refine ⟨permIn_trans _ _ _ _ _ h1 (permIn_trans _ _ _ _ _ (permIn_mono d1 d2 a mid a b (Nat.le_refl _) hb (by omega) h2.perm) (permIn_mono d2 d3 mid b a b ha (Nat.le_refl _) (by omega) h3.perm)), fun i j hi hij hj => ?_⟩
  have low : ∀ t, t < mid → d3[t]! = d2[t]! := fun t ht => h3.perm.2.1 t (.inl ht)
  have high : ∀ t, mid ≤ t → d2[t]! = d1[t]! := fun t ht => h2.perm.2.1 t (.inr ht)
  rcases Nat.lt_or_ge j mid with j1 | j1
  · rw [low i (by omega), low j j1]; exact h2.asc i j hi hij j1
  · rcases Nat.lt_or_ge i mid with i1 | i1
    · rw [low i i1]
      refine permIn_all d2 d3 mid b (fun z => R d2[i]! z) (by omega) h3.perm (fun y y1 y2 => ?_) j j1 hj
      rw [high y y1]
      exact permIn_all d1 d2 a mid (fun z => R z d1[y]!) (by omega) h2.perm (fun x x1 x2 => hx x y x1 x2 y1 y2) i hi i1
    · exact h3.asc i j i1 hij hj

/-! ### The insertion sort is stable -/
variable {lt1 lt2 : α → α → Bool}
theorem insInner_congr (a : Nat) : ∀ (j : Nat) (d : Array α), j < d.size → (∀ t, a ≤ t → t < j → lt1 d[j]! d[t]! = lt2 d[j]! d[t]!) → insInner lt1 a j d = insInner lt2 a j d
  | 0, d, _, _ => rfl
  | j + 1, d, hj, h => by
    unfold insInner
    by_cases hja : j + 1 > a
    · have hl := h j (by omega) (by omega)
      rw [hl]
      split
      · refine insInner_congr a j _ (by rw [size_swp]; omega) (fun t h1 h2 => ?_)
        have hat := swp_at d (i := j + 1) (j := j) hj (by omega)
        rw [hat j, if_pos rfl, hat t, if_neg (by omega), if_neg (by omega)]
        exact h t h1 (by omega)
      · rfl
    · simp [hja]
theorem insOuter_congr (hS : SWO lt2) (a b : Nat) : ∀ (n i : Nat) (d : Array α), b - i = n → a < i → i ≤ b → b ≤ d.size → (∀ q t, i ≤ q → q < b → a ≤ t → t < q → lt1 d[q]! d[t]! = lt2 d[q]! d[t]!) → SortedIn lt2 a i d → insOuter lt1 a b i d = insOuter lt2 a b i d
  | 0, i, d, hn, h1, h2, h3, h, hso => by
    unfold insOuter
    rw [if_neg (by omega), if_neg (by omega)]
  | n + 1, i, d, hn, h1, h2, h3, h, hso => by
    have hib : i < b := by omega
    rw [show insOuter lt1 a b i d = insOuter lt1 a b (i + 1) (insInner lt1 a i d) by rw [insOuter, if_pos hib], show insOuter lt2 a b i d = insOuter lt2 a b (i + 1) (insInner lt2 a i d) by rw [insOuter, if_pos hib]]
    rw [insInner_congr a i d (by omega) (fun t t1 t2 => h i t (Nat.le_refl _) hib t1 t2)]
    obtain ⟨hp, hs2⟩ := insInner_spec hS swp_permIn permIn_refl permIn_trans a (i + 1) i (Nat.lt_succ_self i) i d (by omega) (Nat.le_refl _) (by omega) ⟨fun p q hap hpq hqi _ hq => hso p q hap hpq (by omega), fun q h1 h2 => by omega⟩
    have hsz := hp.1
    refine insOuter_congr hS a b n (i + 1) _ (by omega) (by omega) hib (by omega) (fun q t q1 q2 t1 t2 => ?_) hs2
    rw [hp.2.1 q (.inr q1)]
    rcases Nat.lt_or_ge t (i + 1) with c | c
    · exact permIn_all d _ a (i + 1) (fun z => lt1 d[q]! z = lt2 d[q]! z) (by omega) hp (fun y y1 y2 => h q y (by omega) q2 y1 (by omega)) t t1 c
    · rw [hp.2.1 t (.inr c)]
      exact h q t (by omega) q2 t1 t2
/-- Where a finer order tells the same of any two that stand as they came, the sort is the finer one's. -/
theorem insertion_stable (hS : SWO lt2) (d : Array α) {a b : Nat} (hab : a ≤ b) (hb : b ≤ d.size) (h : ∀ q t, a ≤ t → t < q → q < b → lt1 d[q]! d[t]! = lt2 d[q]! d[t]!) :
    PermIn a b d (insertionSort lt1 d a b) ∧ SortedIn lt2 a b (insertionSort lt1 d a b) := by
  have e : insertionSort lt1 d a b = insertionSort lt2 d a b := by
    unfold insertionSort
    by_cases c : a = b
    · subst c
      unfold insOuter
      rw [if_neg (by omega), if_neg (by omega)]
    · exact insOuter_congr hS a b (b - (a + 1)) (a + 1) d rfl (by omega) (by omega) hb (fun q t q1 q2 t1 t2 => h q t t1 t2 q2) (fun i j h1 h2 h3 => by omega)
  rw [e]
  exact insertionSort_holds hS d a b hab hb

end Go.Proofs.Ytegghimjmbgghaa
