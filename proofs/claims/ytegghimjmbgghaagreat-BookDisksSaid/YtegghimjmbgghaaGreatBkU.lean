/-
  Unpack, of the reference and of the program.
-/
import Derived.Test.YtegghimjmbgghaaGreatBkZ
set_option linter.unusedSimpArgs false
set_option linter.unusedVariables false
namespace Go.Proofs.YtegghimjmbgghaaGreat
open Go.RowKit Go.Shelf

/-! ### Plain -/
theorem wrap_s64 {x : Int} (h0 : -9223372036854775808 ≤ x) (h1 : x < 9223372036854775808) : IntKind.i64.wrap x = x := by
  have e : IntKind.i64.wrap x = if x % 18446744073709551616 ≥ 9223372036854775808 then x % 18446744073709551616 - 18446744073709551616 else x % 18446744073709551616 := by simp [IntKind.wrap, IntKind.signed, IntKind.bits]
  rw [e]
  split <;> omega
def nv (l : List UInt8) (a n : Nat) : Nat := numV ((l.drop a).take n)
def b0 (l : List UInt8) (a : Nat) : Int := ((l.getD a 0).toNat : Int)
def recOf (l : List UInt8) : Rc := ⟨b0 l 0, nv l 1 4, nv l 5 4, nv l 9 4, b0 l 13, nv l 14 8 - 1099511627776, nv l 22 4, nv l 26 4, nv l 30 4, nv l 34 4, nv l 38 4, nv l 42 4, nv l 46 4, nv l 50 4⟩
/-- The record after k of the numbers seen. -/
def recP (l : List UInt8) (k : Nat) : Rc := ⟨b0 l 0, nv l 1 4, nv l 5 4, nv l 9 4, b0 l 13, nv l 14 8 - 1099511627776, if 0 < k then nv l 22 4 else 0, if 1 < k then nv l 26 4 else 0, if 2 < k then nv l 30 4 else 0, if 3 < k then nv l 34 4 else 0, if 4 < k then nv l 38 4 else 0, if 5 < k then nv l 42 4 else 0, if 6 < k then nv l 46 4 else 0, if 7 < k then nv l 50 4 else 0⟩
theorem recP_all (l : List UInt8) : recP l 8 = recOf l := rfl
theorem recP_set (l : List UInt8) {k : Nat} (hk : k < 8) : (rcA (recP l k)).setIfInBounds (6 + k) (.int .i64 (nv l (22 + 4 * k) 4 : Int)) = rcA (recP l (k + 1)) := by
  rcases lt8 hk with rfl | rfl | rfl | rfl | rfl | rfl | rfl | rfl <;> rfl
def unpR (l : List UInt8) : Rc := if l.length = 54 ∧ rcB (recOf l) = true then recOf l else rc0
def unpE (l : List UInt8) : Int := if l.length = 54 ∧ rcB (recOf l) = true then 0 else 4
theorem sub_len {l : List UInt8} (hl : l.length = 54) {a n : Nat} (h : a + n ≤ 54) : ((l.drop a).take n).length = n := by simp [hl]; omega
theorem nv4_lt (l : List UInt8) (a : Nat) : nv l a 4 < 2 ^ 32 := by
  have h1 := numV_lt ((l.drop a).take 4)
  have h2 : ((l.drop a).take 4).length ≤ 4 := by simp; omega
  have h3 : 256 ^ ((l.drop a).take 4).length ≤ 256 ^ 4 := Nat.pow_le_pow_right (by omega) h2
  unfold nv
  omega
theorem nv8_eq {l : List UInt8} (hl : l.length = 54) : nv l 14 8 = (l.getD 14 0).toNat * 2 ^ 56 + numV ((l.drop 15).take 7) ∧ numV ((l.drop 15).take 7) < 2 ^ 56 := by
  have e : (l.drop 14).take 8 = (l.getD 14 0) :: (l.drop 15).take 7 := by
    rw [List.drop_eq_getElem_cons (by omega : 14 < l.length), List.take_succ_cons]
    simp [List.getD, List.getElem?_eq_getElem (by omega : 14 < l.length)]
  have h2 : ((l.drop 15).take 7).length = 7 := sub_len hl (by omega)
  have h1 := numV_lt ((l.drop 15).take 7)
  unfold nv
  rw [e, numV_cons, h2]
  rw [h2] at h1
  exact ⟨by omega, by omega⟩
theorem bys_sub {w : World} {b off : Nat} {l : List UInt8} (h : Rd w (some ⟨b, off, none⟩) (bys l)) (a n : Nat) : Rd w (some ⟨b, off + a, none⟩) (bys ((l.drop a).take n)) := by
  intro hne
  have h0 : bys l ≠ [] := by
    intro e
    have : l = [] := by cases l with | nil => rfl | cons => simp [bys] at e
    subst this
    simp [bys] at hne
  obtain ⟨b', off', e, hb, hc⟩ := h h0
  injection e with e
  injection e with e1 e2 e3
  subst e1 e2
  refine ⟨b, off + a, rfl, hb, fun j u hu => ?_⟩
  have : (bys l)[a + j]? = some u := by
    unfold bys at *
    rw [List.getElem?_map] at *
    rw [List.getElem?_take] at hu
    split at hu
    · rwa [List.getElem?_drop] at hu
    · simp at hu
  rw [Nat.add_assoc]
  exact hc _ u this
theorem bys_cell {w : World} {b off : Nat} {l : List UInt8} (h : Rd w (some ⟨b, off, none⟩) (bys l)) {k : Nat} (hk : k < l.length) : w.cell? ⟨b, off + k, none⟩ = some (.int .u8 ((l.getD k 0).toNat : Int)) := by
  obtain ⟨b', off', e, hb, hc⟩ := h (bys_ne hk)
  injection e with e
  injection e with e1 e2 e3
  subst e1 e2
  have := hc k _ (bys_at hk)
  rw [this]
  simp [List.getD, List.getElem?_eq_getElem hk]
theorem whole_sub {w : World} {b off : Nat} {l : List UInt8} (h : Rd w (some ⟨b, off, none⟩) (bys l)) (hl : l.length = 54) (a n c : Nat) (ha : a + n ≤ 54) (hn : nv l a n < 2 ^ 63) :
    Calls Tryz.prog 106 #[.slice (some ⟨b, off + a, none⟩) n c] w fun e w' => e = .returned (.int .i64 (nv l a n : Int)) ∧ w = w' := by
  have := whole_calls ((l.drop a).take n) (some ⟨b, off + a, none⟩) c w (bys_sub h a n) hn (by simp; omega)
  rwa [sub_len hl ha] at this

theorem RcAt.seenSet {w : World} {B : Nat} {l : List UInt8} {k : Nat} (h : RcAt w B (recP l k)) (hk : k < 8) : RcAt (w.setCell ⟨B, 6 + k, none⟩ (.int .i64 (nv l (22 + 4 * k) 4 : Int))) B (recP l (k + 1)) := by
  unfold RcAt at *
  rw [heap_setCell_same _ _ _ _ _ _ h, recP_set l hk]
set_option maxRecDepth 100000 in
theorem slice_at (b off d : Nat) {k : Nat} (hk : k < 8) (w : World) : (Instr.slice 52 (.slice (some ⟨b, off, none⟩) 54 (d + 54)) (some (.int .i64 (22 + 4 * (k : Int)))) (some (.int .i64 (26 + 4 * (k : Int)))) none).run Tryz.prog w = .ok (.slice (some ⟨b, off + (22 + 4 * k), none⟩) 4 (d + 54 - (22 + 4 * k))) w := by
  rw [run_slice_lh (P := Tryz.prog) w 52 (some ⟨b, off, none⟩) 54 (d + 54) (by kernel_rfl) .i64 .i64 (22 + 4 * (k : Int)) (26 + 4 * (k : Int)) (by omega) (by omega) (by omega)]
  have e1 : (22 + 4 * (k : Int)).toNat = 22 + 4 * k := by omega
  have e2 : (26 + 4 * (k : Int)).toNat = 26 + 4 * k := by omega
  have e3 : 26 + 4 * k - (22 + 4 * k) = 4 := by omega
  have e4 : ¬ d + 54 = 22 + 4 * k := by omega
  rw [e1, e2]
  show Result.ok (sliced _ _ _ _ 1) w = _
  simp only [sliced, e3, if_neg e4, Option.map_some, Nat.mul_one]
  rw [add_at]

end Go.Proofs.YtegghimjmbgghaaGreat
