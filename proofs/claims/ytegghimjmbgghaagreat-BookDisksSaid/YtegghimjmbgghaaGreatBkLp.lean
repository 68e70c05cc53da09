/-
  Checksums and entries. No program in sight.
-/
import Derived.Test.YtegghimjmbgghaaGreatBkNb
set_option linter.unusedSimpArgs false
set_option linter.unusedVariables false
namespace Go.Proofs.YtegghimjmbgghaaGreat
open Go.RowKit Go.Shelf

def crc1 (c : Nat) : Nat := if c % 2 = 1 then (c / 2) ^^^ 3988292384 else c / 2
def crcK : Nat → Nat → Nat
  | 0, c => c
  | k + 1, c => crc1 (crcK k c)
def crcX (c : Nat) (x : UInt8) : Nat := crcK 8 (c ^^^ x.toNat)
def crcG (l : List UInt8) : Nat := l.foldl crcX 4294967295
def crcL (l : List UInt8) : Nat := crcG l ^^^ 4294967295
theorem xor_lt {a b : Nat} (ha : a < 4294967296) (hb : b < 4294967296) : a ^^^ b < 4294967296 := Nat.xor_lt_two_pow (n := 32) ha hb
theorem crc1_lt {c : Nat} (h : c < 4294967296) : crc1 c < 4294967296 := by
  unfold crc1
  split
  · exact xor_lt (by omega) (by omega)
  · omega
theorem crcK_lt {c : Nat} (h : c < 4294967296) : ∀ k, crcK k c < 4294967296
  | 0 => h
  | k + 1 => crc1_lt (crcK_lt h k)
theorem crcX_lt {c : Nat} (h : c < 4294967296) (x : UInt8) : crcX c x < 4294967296 := crcK_lt (xor_lt h (by have := x.toNat_lt; omega)) 8
theorem crcG_snoc (l : List UInt8) (x : UInt8) : crcG (l ++ [x]) = crcX (crcG l) x := by simp [crcG]
theorem crcG_lt (l : List UInt8) : crcG l < 4294967296 := by
  have : ∀ (l : List UInt8) (c : Nat), c < 4294967296 → l.foldl crcX c < 4294967296 := by
    intro l
    induction l with
    | nil => exact fun c h => h
    | cons x l ih => exact fun c h => ih _ (crcX_lt h x)
  exact this l _ (by omega)
theorem crcL_lt (l : List UInt8) : crcL l < 4294967296 := xor_lt (crcG_lt l) (by omega)
theorem crcG_take {l : List UInt8} {k : Nat} (h : k < l.length) : crcG (l.take (k + 1)) = crcX (crcG (l.take k)) l[k] := by
  rw [List.take_succ_eq_append_getElem h, crcG_snoc]

/-! ### The first entry -/
/-- The length that an encoding names. -/
def lenE (l : List UInt8) : Nat := numV ((l.drop 1).take 2)
def headE (l : List UInt8) : Prop := 3 ≤ l.length ∧ l[0]? = some 66
/-- An encoding stands at the beginning. -/
def FstE (l : List UInt8) : Prop := 3 ≤ l.length ∧ l[0]? = some 66 ∧ lenE l ≤ 2000 ∧ lenE l + 7 ≤ l.length ∧ numV ((l.drop (3 + lenE l)).take 4) = crcL (l.take (3 + lenE l))
instance (l : List UInt8) : Decidable (FstE l) := by unfold FstE; infer_instance
/-- The entry there. -/
def entE (l : List UInt8) : List UInt8 := (l.drop 3).take (lenE l)
theorem FstE.ent_len {l : List UInt8} (h : FstE l) : (entE l).length = lenE l := by
  obtain ⟨-, -, -, h4, -⟩ := h
  unfold entE
  rw [List.length_take, List.length_drop]
  omega
/-- k entries on: where the next would begin, and the entries. -/
def scanK (l : List UInt8) : Nat → Nat × List (List UInt8)
  | 0 => (0, [])
  | k + 1 => if FstE (l.drop (scanK l k).1) then ((scanK l k).1 + (lenE (l.drop (scanK l k).1) + 7), (scanK l k).2 ++ [entE (l.drop (scanK l k).1)]) else scanK l k
theorem scanK_yes {l : List UInt8} {k : Nat} (h : FstE (l.drop (scanK l k).1)) : scanK l (k + 1) = ((scanK l k).1 + (lenE (l.drop (scanK l k).1) + 7), (scanK l k).2 ++ [entE (l.drop (scanK l k).1)]) := by
  rw [scanK, if_pos h]
theorem scanK_no {l : List UInt8} {k : Nat} (h : ¬ FstE (l.drop (scanK l k).1)) : ∀ j, scanK l (k + j) = scanK l k
  | 0 => rfl
  | j + 1 => by
    have ih := scanK_no h j
    rw [Nat.add_succ, scanK, ih, if_neg h]
theorem scanK_le (l : List UInt8) : ∀ k, (scanK l k).1 ≤ l.length
  | 0 => Nat.zero_le _
  | k + 1 => by
    have ih := scanK_le l k
    rw [scanK]
    split
    · rename_i h
      have := h.2.2.2.1
      rw [List.length_drop] at this
      dsimp only
      omega
    · exact ih
/-- All entries, and how many bytes they are. -/
def scanP (l : List UInt8) : Nat × List (List UInt8) := scanK l (l.length + 1)
theorem scanK_grows (l : List UInt8) : ∀ k, (∀ j, j < k → FstE (l.drop (scanK l j).1)) → 7 * k ≤ (scanK l k).1 ∧ (scanK l k).2.length = k
  | 0, _ => ⟨Nat.le_refl _, rfl⟩
  | k + 1, h => by
    have ih := scanK_grows l k (fun j hj => h j (by omega))
    rw [scanK_yes (h k (Nat.lt_succ_self k))]
    dsimp only
    rw [List.length_append, List.length_singleton]
    omega
theorem scanK_end {l : List UInt8} {k : Nat} (h : ¬ FstE (l.drop (scanK l k).1)) : scanK l k = scanP l := by
  unfold scanP
  by_cases hk : k ≤ l.length + 1
  · have := scanK_no h (l.length + 1 - k)
    rw [show k + (l.length + 1 - k) = l.length + 1 by omega] at this
    exact this.symm
  · by_cases hall : ∀ j, j < l.length + 1 → FstE (l.drop (scanK l j).1)
    · have h1 := (scanK_grows l _ hall).1
      have h2 := scanK_le l (l.length + 1)
      omega
    · obtain ⟨j, hj⟩ := Classical.not_forall.1 hall
      obtain ⟨hj1, hj2⟩ := Classical.not_imp.1 hj
      have a1 := scanK_no hj2 (k - j)
      have a2 := scanK_no hj2 (l.length + 1 - j)
      rw [show j + (k - j) = k by omega] at a1
      rw [show j + (l.length + 1 - j) = l.length + 1 by omega] at a2
      rw [a1, a2]
theorem scanP_le (l : List UInt8) : (scanP l).1 ≤ l.length := scanK_le l _
theorem scanP_stuck (l : List UInt8) : ¬ FstE (l.drop (scanP l).1) := by
  intro h
  have hall : ∀ k, FstE (l.drop (scanK l k).1) := fun k => Decidable.byContradiction fun hn => by
    rw [scanK_end hn] at hn
    exact hn h
  have h1 := (scanK_grows l (l.length + 1) (fun j _ => hall j)).1
  have h2 := scanK_le l (l.length + 1)
  omega
/-- The encoding of an entry. -/
def encE (e : List UInt8) : List UInt8 := ([66] ++ numBs 2 e.length ++ e) ++ numBs 4 (crcL ([66] ++ numBs 2 e.length ++ e))
theorem encE_len (e : List UInt8) : (encE e).length = e.length + 7 := by
  unfold encE
  simp only [List.length_append, numBs_len, List.length_singleton]
  omega
theorem numV_inj : ∀ {l m : List UInt8}, l.length = m.length → numV l = numV m → l = m
  | [], [], _, _ => rfl
  | [], y :: m, h, _ => by simp at h
  | x :: l, [], h, _ => by simp at h
  | x :: l, y :: m, h, he => by
    have hl : l.length = m.length := by simpa using h
    rw [numV_cons, numV_cons, hl] at he
    have hP : 0 < 256 ^ m.length := Nat.pow_pos (by omega)
    have ha := numV_lt l
    rw [hl] at ha
    have hb := numV_lt m
    have e1 : (x.toNat * 256 ^ m.length + numV l) / 256 ^ m.length = x.toNat := by
      rw [Nat.mul_comm, Nat.mul_add_div hP, Nat.div_eq_of_lt ha, Nat.add_zero]
    have e2 : (y.toNat * 256 ^ m.length + numV m) / 256 ^ m.length = y.toNat := by
      rw [Nat.mul_comm, Nat.mul_add_div hP, Nat.div_eq_of_lt hb, Nat.add_zero]
    have e3 : x.toNat = y.toNat := by rw [← e1, he, e2]
    rw [e3] at he
    rw [UInt8.toNat_inj.1 e3, numV_inj hl (by omega)]
theorem numBs_numV {l : List UInt8} {n : Nat} (h : l.length = n) : numBs n (numV l) = l := by
  refine numV_inj (by rw [numBs_len, h]) (numV_numBs ?_)
  have := numV_lt l
  rwa [h] at this
theorem take_head {l : List UInt8} (h3 : 3 ≤ l.length) (h0 : l[0]? = some 66) (hn : lenE l + 7 ≤ l.length) : [66] ++ numBs 2 (entE l).length ++ entE l = l.take (3 + lenE l) := by
  have e : (entE l).length = lenE l := by
    unfold entE
    rw [List.length_take, List.length_drop]
    omega
  have h2 : ((l.drop 1).take 2).length = 2 := by
    rw [List.length_take, List.length_drop]
    omega
  rw [e]
  unfold lenE at *
  rw [numBs_numV h2]
  unfold entE lenE
  match l, h3, h0 with
  | a :: b :: c :: l, _, h0 =>
    have ha : a = 66 := by simpa using h0
    subst ha
    simp only [List.drop_succ_cons, List.drop_zero, List.take_succ_cons, List.take_zero]
    rw [show 3 + numV [b, c] = numV [b, c] + 1 + 1 + 1 by omega, List.take_succ_cons, List.take_succ_cons, List.take_succ_cons]
    rfl
/-- The reference's test. -/
theorem fst_iff {l : List UInt8} (h3 : 3 ≤ l.length) (h0 : l[0]? = some 66) (hm : lenE l ≤ 2000) (hn : lenE l + 7 ≤ l.length) : FstE l ↔ encE (entE l) = l.take (lenE l + 7) := by
  have hd : ((l.drop (3 + lenE l)).take 4).length = 4 := by
    rw [List.length_take, List.length_drop]
    omega
  have ht : l.take (lenE l + 7) = l.take (3 + lenE l) ++ (l.drop (3 + lenE l)).take 4 := by
    rw [show lenE l + 7 = 3 + lenE l + 4 by omega, List.take_add]
  have hc := crcL_lt (l.take (3 + lenE l))
  unfold encE
  rw [take_head h3 h0 hn, ht]
  constructor
  · rintro ⟨-, -, -, -, e⟩
    rw [← e, numBs_numV hd]
  · intro e
    refine ⟨h3, h0, hm, hn, ?_⟩
    rw [← List.append_cancel_left e, numV_numBs (by omega)]

end Go.Proofs.YtegghimjmbgghaaGreat
