/-
  Unpack, of the reference and of the program.
-/
import Derived.Test.YtegghimjmbgghaaBkZ
set_option linter.unusedSimpArgs false
set_option linter.unusedVariables false
namespace Go.Proofs.Ytegghimjmbgghaa
open Go.RowKit Go.Shelf

/-! ### Plain -/
theorem wrap_s64 {x : Int} (h0 : -9223372036854775808 ≤ x) (h1 : x < 9223372036854775808) : IntKind.i64.wrap x = x := by
  have e : IntKind.i64.wrap x = if x % 18446744073709551616 ≥ 9223372036854775808 then x % 18446744073709551616 - 18446744073709551616 else x % 18446744073709551616 := by simp [IntKind.wrap, IntKind.signed, IntKind.bits]
  rw [e]
  split <;> omega
def nv (l : List UInt8) (a n : Nat) : Nat := numV ((l.drop a).take n)
def b0 (l : List UInt8) (a : Nat) : Int := ((l.getD a 0).toNat : Int)
def recOf (l : List UInt8) : Rc := ⟨b0 l 0, nv l 1 4, nv l 5 4, nv l 9 4, b0 l 13, nv l 14 8 - 1099511627776, nv l 22 4, nv l 26 4, nv l 30 4, nv l 34 4, nv l 38 4, nv l 42 4, nv l 46 4, nv l 50 4⟩
/-- The record after k of the numbers seen. -/
def recP (l : List UInt8) (k : Nat) : Rc := ⟨b0 l 0, nv l 1 4, nv l 5 4, nv l 9 4, b0 l 13, nv l 14 8 - 1099511627776, if 0 < k then nv l 22 4 else 0, if 1 < k then nv l 26 4 else 0, if 2 < k then nv l 30 4 else 0, if 3 < k then nv l 34 4 else 0, if 4 < k then nv l 38 4 else 0, if 5 < k then nv l 42 4 else 0, if 6 < k then nv l 46 4 else 0, if 7 < k then nv l 50 4 else 0⟩
theorem recP_all (l : List UInt8) : recP l 8 = recOf l := rfl
theorem recP_set (l : List UInt8) {k : Nat} (hk : k < 8) : (rcA (recP l k)).setIfInBounds (6 + k) (.int .i64 (nv l (22 + 4 * k) 4 : Int)) = rcA (recP l (k + 1)) := by
  rcases lt8 hk with rfl | rfl | rfl | rfl | rfl | rfl | rfl | rfl <;> rfl
def unpR (l : List UInt8) : Rc := if l.length = 54 ∧ rcB (recOf l) = true then recOf l else rc0
def unpE (l : List UInt8) : Int := if l.length = 54 ∧ rcB (recOf l) = true then 0 else 4
theorem sub_len {l : List UInt8} (hl : l.length = 54) {a n : Nat} (h : a + n ≤ 54) : ((l.drop a).take n).length = n := by simp [hl]; omega
theorem nv4_lt (l : List UInt8) (a : Nat) : nv l a 4 < 2 ^ 32 := by
  have h1 := numV_lt ((l.drop a).take 4)
  have h2 : ((l.drop a).take 4).length ≤ 4 := by simp; omega
  have h3 : 256 ^ ((l.drop a).take 4).length ≤ 256 ^ 4 := Nat.pow_le_pow_right (by omega) h2
  unfold nv
  omega
theorem nv8_eq {l : List UInt8} (hl : l.length = 54) : nv l 14 8 = (l.getD 14 0).toNat * 2 ^ 56 + numV ((l.drop 15).take 7) ∧ numV ((l.drop 15).take 7) < 2 ^ 56 := by
  have e : (l.drop 14).take 8 = (l.getD 14 0) :: (l.drop 15).take 7 := by
    rw [List.drop_eq_getElem_cons (by omega : 14 < l.length), List.take_succ_cons]
    simp [List.getD, List.getElem?_eq_getElem (by omega : 14 < l.length)]
  have h2 : ((l.drop 15).take 7).length = 7 := sub_len hl (by omega)
  have h1 := numV_lt ((l.drop 15).take 7)
  unfold nv
  rw [e, numV_cons, h2]
  rw [h2] at h1
  exact ⟨by omega, by omega⟩
theorem bys_sub {w : World} {b off : Nat} {l : List UInt8} (h : Rd w (some ⟨b, off, none⟩) (bys l)) (a n : Nat) : Rd w (some ⟨b, off + a, none⟩) (bys ((l.drop a).take n)) := by
  intro hne
  have h0 : bys l ≠ [] := by
    intro e
    have : l = [] := by cases l with | nil => rfl | cons => simp [bys] at e
    subst this
    simp [bys] at hne
  obtain ⟨b', off', e, hb, hc⟩ := h h0
  injection e with e
  injection e with e1 e2 e3
  subst e1 e2
  refine ⟨b, off + a, rfl, hb, fun j u hu => ?_⟩
  have : (bys l)[a + j]? = some u := by
    unfold bys at *
    rw [List.getElem?_map] at *
    rw [List.getElem?_take] at hu
    split at hu
    · rwa [List.getElem?_drop] at hu
    · simp at hu
  rw [Nat.add_assoc]
  exact hc _ u this
theorem bys_cell {w : World} {b off : Nat} {l : List UInt8} (h : Rd w (some ⟨b, off, none⟩) (bys l)) {k : Nat} (hk : k < l.length) : w.cell? ⟨b, off + k, none⟩ = some (.int .u8 ((l.getD k 0).toNat : Int)) := by
  obtain ⟨b', off', e, hb, hc⟩ := h (bys_ne hk)
  injection e with e
  injection e with e1 e2 e3
  subst e1 e2
  have := hc k _ (bys_at hk)
  rw [this]
  simp [List.getD, List.getElem?_eq_getElem hk]
theorem whole_sub {w : World} {b off : Nat} {l : List UInt8} (h : Rd w (some ⟨b, off, none⟩) (bys l)) (hl : l.length = 54) (a n c : Nat) (ha : a + n ≤ 54) (hn : nv l a n < 2 ^ 63) :
    Calls Try.prog 67 #[.slice (some ⟨b, off + a, none⟩) n c] w fun e w' => e = .returned (.int .i64 (nv l a n : Int)) ∧ w = w' := by
  have := whole_calls ((l.drop a).take n) (some ⟨b, off + a, none⟩) c w (bys_sub h a n) hn (by simp; omega)
  rwa [sub_len hl ha] at this

theorem RcAt.seenSet {w : World} {B : Nat} {l : List UInt8} {k : Nat} (h : RcAt w B (recP l k)) (hk : k < 8) : RcAt (w.setCell ⟨B, 6 + k, none⟩ (.int .i64 (nv l (22 + 4 * k) 4 : Int))) B (recP l (k + 1)) := by
  unfold RcAt at *
  rw [heap_setCell_same _ _ _ _ _ _ h, recP_set l hk]
set_option maxRecDepth 100000 in
theorem slice_at (b off d : Nat) {k : Nat} (hk : k < 8) (w : World) : (Instr.slice 43 (.slice (some ⟨b, off, none⟩) 54 (d + 54)) (some (.int .i64 (22 + 4 * (k : Int)))) (some (.int .i64 (26 + 4 * (k : Int)))) none).run Try.prog w = .ok (.slice (some ⟨b, off + (22 + 4 * k), none⟩) 4 (d + 54 - (22 + 4 * k))) w := by
  rw [run_slice_lh (P := Try.prog) w 43 (some ⟨b, off, none⟩) 54 (d + 54) (by kernel_rfl) .i64 .i64 (22 + 4 * (k : Int)) (26 + 4 * (k : Int)) (by omega) (by omega) (by omega)]
  have e1 : (22 + 4 * (k : Int)).toNat = 22 + 4 * k := by omega
  have e2 : (26 + 4 * (k : Int)).toNat = 26 + 4 * k := by omega
  have e3 : 26 + 4 * k - (22 + 4 * k) = 4 := by omega
  have e4 : ¬ d + 54 = 22 + 4 * k := by omega
  rw [e1, e2]
  show Result.ok (sliced _ _ _ _ 1) w = _
  simp only [sliced, e3, if_neg e4, Option.map_some, Nat.mul_one]
  rw [add_at]

set_option maxHeartbeats 4000000 in
set_option maxRecDepth 100000 in
theorem runpack_calls (l : List UInt8) (A : Option Addr) (c : Nat) (w : World) (hrd : Rd w A (bys l)) (hl : l.length ≤ 1000) (hc : l.length ≤ c) :
    Calls Try.prog 22 #[.slice A l.length c] w fun e w' => e = .returned (.tuple #[rcV (unpR l), .int .i64 (unpE l)]) ∧ Below w.heap.size w w' := by
  have hb0 := below_alloc w (.cells (rcA rc0) 33)
  have HR0 := hid hrd
  have HR := hid (hrd.alloc (.cells (rcA rc0) 33))
  have HX := hid (RcAt.new w rc0)
  have HB := hid hb0
  have HL := hid hl
  clear hrd hb0 hl
  go_enter Try.func22, Try.ntmps22
  go_upto_region 1 with (fail)
  change Code.wp _ _ _ _ (w.alloc (.cells (rcA rc0) 33))
  obtain ⟨R, hR⟩ : ∃ R, R = w.heap.size := ⟨_, rfl⟩
  rw [← hR] at HX ⊢
  have HRR := hid hR
  clear hR
  generalize w.alloc (.cells (rcA rc0) 33) = W at *
  by_cases h54 : l.length = 54
  · obtain ⟨d, rfl⟩ : ∃ d, c = d + 54 := ⟨c - 54, by omega⟩
    obtain ⟨b, off, hAe, hbl, -⟩ := (unhid HR) (bys_ne (k := 0) (by omega))
    subst hAe
    have c14 := bys_cell (unhid HR) (k := 14) (by omega)
    have HV8 := hid (nv8_eq h54)
    rw [h54]
    clear hc hbl
    have hx14 := (l.getD 14 0).toNat_lt
    obtain ⟨x14, hx⟩ : ∃ x14, x14 = (l.getD 14 0).toNat := ⟨_, rfl⟩
    rw [← hx] at c14 hx14 HV8
    have HX14 := hid hx
    clear hx
    by_cases h128 : 128 ≤ x14
    · have hi : (128 : Int) ≤ (x14 : Int) := by omega
      have HE := hid (show rcB (recOf l) = false from by
        cases hr : rcB (recOf l) with
        | false => rfl
        | true =>
          have h1 := (rc_ok hr).val.2
          have h2 := unhid HV8
          simp only [recOf] at h1
          omega)
      have hres : W.heap[R]? = some (.cells (rcA rc0) 33 (0, 0)) := unhid HX
      go_wp2_with (refine wpList_store_row rfl 33 (.tmp 2) (.tmp 15) rfl R (rcA rc0) rfl rfl 33 _ hres (rc_size rc0) rfl (rc_one rc0) ?_)
      refine bodyPost_ret_by (v := .tuple #[.agg (rcA rc0), .int .i64 4]) (results_cell_row_tmp Try.results22 _ _ R 33 (rcA rc0) (0, 0) _ _ rfl rfl (setRow_heap _ _ _ _ _ _ hres) Try.underlying33 rfl (rc_size rc0)) rfl ?_
      refine ⟨by simp [unpR, unpE, unhid HE, rcV], below_setRow (unhid HB) (by rw [unhid HRR]; exact Nat.le_refl _) _⟩
    · have hi : ¬ (128 : Int) ≤ (x14 : Int) := by omega
      have HI := hid (show nv l 14 8 < 2 ^ 63 from by have := unhid HV8; omega)
      go_upto_region 3 with (fail)
      have HRX := hid (show R < W.heap.size from (unhid HX).lt)
      have HSF := hid (show ∀ w', Below W.heap.size W w' → (w'.cell? ⟨b, off, none⟩ = some (.int .u8 (b0 l 0)) ∧ w'.cell? ⟨b, off + 13, none⟩ = some (.int .u8 (b0 l 13)) ∧ Rd w' (some ⟨b, off, none⟩) (bys l)) from fun w' hb => by
        have h := (unhid HR).below hb
        exact ⟨bys_cell h (k := 0) (by omega), bys_cell h (k := 13) (by omega), h⟩)
      have d5 : (5 : Int) ≤ (d : Int) + 54 := by omega
      have d9 : (9 : Int) ≤ (d : Int) + 54 := by omega
      have d13 : (13 : Int) ≤ (d : Int) + 54 := by omega
      have d22 : (22 : Int) ≤ (d : Int) + 54 := by omega
      have hsub : IntKind.i64.wrap ((nv l 14 8 : Int) - 1099511627776) = (nv l 14 8 : Int) - 1099511627776 := wrap_s64 (by omega) (by have := unhid HI; omega)
      have hw0 : IntKind.i64.wrap (b0 l 0) = b0 l 0 := wrap_s64 (by unfold b0; omega) (by have := (l.getD 0 0).toNat_lt; unfold b0; omega)
      have hw13 : IntKind.i64.wrap (b0 l 13) = b0 l 13 := wrap_s64 (by unfold b0; omega) (by have := (l.getD 13 0).toNat_lt; unfold b0; omega)
      refine wp_region_noPanic ?_
      refine wp_region_E (S := fun w' => (w'.cell? ⟨b, off, none⟩ = some (.int .u8 (b0 l 0)) ∧ w'.cell? ⟨b, off + 13, none⟩ = some (.int .u8 (b0 l 13)) ∧ Rd w' (some ⟨b, off, none⟩) (bys l))) 23 24 rfl (by kernel_rfl) (by kernel_rfl) ((unhid HSF) _ (Below.drew (Below.refl _ _))) ?_
      intro hSE
      have hbd : Below W.heap.size W W.drew := Below.drew (Below.refl _ _)
      have hsd : W.drew.heap.size = W.heap.size := rfl
      generalize W.drew = Wd at *
      (refine WE_take (i := 0) (v := ?_) rfl (by kernel_rfl) (by decide) (by kernel_rfl) (by kernel_rfl) (fun _ _ _ h => h) (by rfl) hSE ?_ ?_; rotate_left; (focus (intro w hSw; (try dsimp only at hSw); go_simp; (try with_reducible rfl))); simp only [Act.put, List.setIfInBounds_toArray, List.set_cons_zero, List.set_cons_succ])
      (refine WE_take (i := 1) (v := ?_) rfl (by kernel_rfl) (by decide) (by kernel_rfl) (by kernel_rfl) (fun _ _ _ h => h) (by rfl) hSE ?_ ?_; rotate_left; (focus (intro w hSw; (try dsimp only at hSw); go_simp; (try with_reducible rfl))); simp only [Act.put, List.setIfInBounds_toArray, List.set_cons_zero, List.set_cons_succ])
      (refine WE_take (i := 2) (v := ?_) rfl (by kernel_rfl) (by decide) (by kernel_rfl) (by kernel_rfl) (fun _ _ _ h => h) (by rfl) hSE ?_ ?_; rotate_left; (focus (intro w hSw; (try dsimp only at hSw); go_simp; (try with_reducible rfl))); simp only [Act.put, List.setIfInBounds_toArray, List.set_cons_zero, List.set_cons_succ])
      (refine WE_take (i := 3) (v := ?_) rfl (by kernel_rfl) (by decide) (by kernel_rfl) (by kernel_rfl) (fun _ _ _ h => h) (by rfl) hSE ?_ ?_; rotate_left; (focus (intro w hSw; (try dsimp only at hSw); go_simp; (try with_reducible rfl))); simp only [Act.put, List.setIfInBounds_toArray, List.set_cons_zero, List.set_cons_succ])
      (refine WE_take (i := 4) (v := ?_) rfl (by kernel_rfl) (by decide) (by kernel_rfl) (by kernel_rfl) (fun _ _ _ h => h) (by rfl) hSE ?_ ?_; rotate_left; (focus (intro w hSw; (try dsimp only at hSw); go_simp; (try with_reducible rfl))); simp only [Act.put, List.setIfInBounds_toArray, List.set_cons_zero, List.set_cons_succ])
      (refine WE_take (i := 5) (v := ?_) rfl (by kernel_rfl) (by decide) (by kernel_rfl) (by kernel_rfl) (fun _ _ _ h => h) (by rfl) hSE ?_ ?_; rotate_left; (focus (intro w hSw; (try dsimp only at hSw); go_simp; (try with_reducible rfl))); simp only [Act.put, List.setIfInBounds_toArray, List.set_cons_zero, List.set_cons_succ])
      refine WE_call (i := 6) rfl (by kernel_rfl) (by decide) (by kernel_rfl) (by kernel_rfl) (fun _ _ _ h => h) (by rfl) hSE ?_ (fun w hS => whole_sub hS.2.2 h54 1 4 (d + 53) (by omega) (by have := nv4_lt l 1; omega)) ?_
      focus (intro w hSw; (try dsimp only at hSw); go_simp; (try with_reducible rfl))
      simp only [Act.put, List.setIfInBounds_toArray, List.set_cons_zero, List.set_cons_succ]
      (refine WE_take (i := 7) (v := ?_) rfl (by kernel_rfl) (by decide) (by kernel_rfl) (by kernel_rfl) (fun _ _ _ h => h) (by rfl) hSE ?_ ?_; rotate_left; (focus (intro w hSw; (try dsimp only at hSw); go_simp; (try with_reducible rfl))); simp only [Act.put, List.setIfInBounds_toArray, List.set_cons_zero, List.set_cons_succ])
      (refine WE_take (i := 8) (v := ?_) rfl (by kernel_rfl) (by decide) (by kernel_rfl) (by kernel_rfl) (fun _ _ _ h => h) (by rfl) hSE ?_ ?_; rotate_left; (focus (intro w hSw; (try dsimp only at hSw); go_simp; (try with_reducible rfl))); simp only [Act.put, List.setIfInBounds_toArray, List.set_cons_zero, List.set_cons_succ])
      refine WE_call (i := 9) rfl (by kernel_rfl) (by decide) (by kernel_rfl) (by kernel_rfl) (fun _ _ _ h => h) (by rfl) hSE ?_ (fun w hS => whole_sub hS.2.2 h54 5 4 (d + 49) (by omega) (by have := nv4_lt l 5; omega)) ?_
      focus (intro w hSw; (try dsimp only at hSw); go_simp; (try with_reducible rfl))
      simp only [Act.put, List.setIfInBounds_toArray, List.set_cons_zero, List.set_cons_succ]
      (refine WE_take (i := 10) (v := ?_) rfl (by kernel_rfl) (by decide) (by kernel_rfl) (by kernel_rfl) (fun _ _ _ h => h) (by rfl) hSE ?_ ?_; rotate_left; (focus (intro w hSw; (try dsimp only at hSw); go_simp; (try with_reducible rfl))); simp only [Act.put, List.setIfInBounds_toArray, List.set_cons_zero, List.set_cons_succ])
      (refine WE_take (i := 11) (v := ?_) rfl (by kernel_rfl) (by decide) (by kernel_rfl) (by kernel_rfl) (fun _ _ _ h => h) (by rfl) hSE ?_ ?_; rotate_left; (focus (intro w hSw; (try dsimp only at hSw); go_simp; (try with_reducible rfl))); simp only [Act.put, List.setIfInBounds_toArray, List.set_cons_zero, List.set_cons_succ])
      refine WE_call (i := 12) rfl (by kernel_rfl) (by decide) (by kernel_rfl) (by kernel_rfl) (fun _ _ _ h => h) (by rfl) hSE ?_ (fun w hS => whole_sub hS.2.2 h54 9 4 (d + 45) (by omega) (by have := nv4_lt l 9; omega)) ?_
      focus (intro w hSw; (try dsimp only at hSw); go_simp; (try with_reducible rfl))
      simp only [Act.put, List.setIfInBounds_toArray, List.set_cons_zero, List.set_cons_succ]
      (refine WE_take (i := 13) (v := ?_) rfl (by kernel_rfl) (by decide) (by kernel_rfl) (by kernel_rfl) (fun _ _ _ h => h) (by rfl) hSE ?_ ?_; rotate_left; (focus (intro w hSw; (try dsimp only at hSw); go_simp; (try with_reducible rfl))); simp only [Act.put, List.setIfInBounds_toArray, List.set_cons_zero, List.set_cons_succ])
      (refine WE_take (i := 14) (v := ?_) rfl (by kernel_rfl) (by decide) (by kernel_rfl) (by kernel_rfl) (fun _ _ _ h => h) (by rfl) hSE ?_ ?_; rotate_left; (focus (intro w hSw; (try dsimp only at hSw); go_simp; (try with_reducible rfl))); simp only [Act.put, List.setIfInBounds_toArray, List.set_cons_zero, List.set_cons_succ])
      (refine WE_take (i := 15) (v := ?_) rfl (by kernel_rfl) (by decide) (by kernel_rfl) (by kernel_rfl) (fun _ _ _ h => h) (by rfl) hSE ?_ ?_; rotate_left; (focus (intro w hSw; (try dsimp only at hSw); go_simp; (try with_reducible rfl))); simp only [Act.put, List.setIfInBounds_toArray, List.set_cons_zero, List.set_cons_succ])
      (refine WE_take (i := 16) (v := ?_) rfl (by kernel_rfl) (by decide) (by kernel_rfl) (by kernel_rfl) (fun _ _ _ h => h) (by rfl) hSE ?_ ?_; rotate_left; (focus (intro w hSw; (try dsimp only at hSw); go_simp; (try with_reducible rfl))); simp only [Act.put, List.setIfInBounds_toArray, List.set_cons_zero, List.set_cons_succ])
      (refine WE_take (i := 17) (v := ?_) rfl (by kernel_rfl) (by decide) (by kernel_rfl) (by kernel_rfl) (fun _ _ _ h => h) (by rfl) hSE ?_ ?_; rotate_left; (focus (intro w hSw; (try dsimp only at hSw); go_simp; (try with_reducible rfl))); simp only [Act.put, List.setIfInBounds_toArray, List.set_cons_zero, List.set_cons_succ])
      (refine WE_take (i := 18) (v := ?_) rfl (by kernel_rfl) (by decide) (by kernel_rfl) (by kernel_rfl) (fun _ _ _ h => h) (by rfl) hSE ?_ ?_; rotate_left; (focus (intro w hSw; (try dsimp only at hSw); go_simp; (try with_reducible rfl))); simp only [Act.put, List.setIfInBounds_toArray, List.set_cons_zero, List.set_cons_succ])
      refine WE_call (i := 19) rfl (by kernel_rfl) (by decide) (by kernel_rfl) (by kernel_rfl) (fun _ _ _ h => h) (by rfl) hSE ?_ (fun w hS => whole_sub hS.2.2 h54 14 8 (d + 40) (by omega) (unhid HI)) ?_
      focus (intro w hSw; (try dsimp only at hSw); go_simp; (try with_reducible rfl))
      simp only [Act.put, List.setIfInBounds_toArray, List.set_cons_zero, List.set_cons_succ]
      (refine WE_take (i := 20) (v := ?_) rfl (by kernel_rfl) (by decide) (by kernel_rfl) (by kernel_rfl) (fun _ _ _ h => h) (by rfl) hSE ?_ ?_; rotate_left; (focus (intro w hSw; (try dsimp only at hSw); go_simp; (try with_reducible rfl))); simp only [Act.put, List.setIfInBounds_toArray, List.set_cons_zero, List.set_cons_succ])
      (refine WE_take (i := 21) (v := ?_) rfl (by kernel_rfl) (by decide) (by kernel_rfl) (by kernel_rfl) (fun _ _ _ h => h) (by rfl) hSE ?_ ?_; rotate_left; (focus (intro w hSw; (try dsimp only at hSw); go_simp; (try with_reducible rfl))); simp only [Act.put, List.setIfInBounds_toArray, List.set_cons_zero, List.set_cons_succ])
      (refine WE_one (i := 22) rfl (by decide) (by kernel_rfl) ?_; intro K hK)
      go_simp
      have hba := hbd.alloc (Nat.le_of_eq hsd.symm) (.cells (rcA rc0) 33)
      have hna := heap_alloc_new Wd (.cells (rcA rc0) 33)
      rw [hsd] at hna
      refine hK.out _ _ ((unhid HSF) _ hba) ?_
      clear hSE hK K
      intro hSE
      (try simp only [Act.put, List.setIfInBounds_toArray, List.set_cons_zero, List.set_cons_succ])
      change WE _ _ _ _ _ _ _ _ _ (Wd.alloc (.cells (rcA rc0) 33))
      generalize Wd.alloc (.cells (rcA rc0) 33) = We at *
      clear hbd
      refine WE_last rfl (by kernel_rfl) (by kernel_rfl) (by kernel_rfl) ?_
      intro K hK
      rw [if_pos (by rfl)]
      refine wp_store_row 33 (.tmp 4) (.tmp 37) rfl W.heap.size (rcA (recP l 0)) rfl rfl 33 _ hna (rc_size rc0) rfl (rc_one _) ?_
      refine hK.out _ _ (NoPanic.normal ?_)
      clear hK K
      obtain ⟨X, hX⟩ : ∃ X, X = W.heap.size := ⟨_, rfl⟩
      have HXX := hid (show RcAt (We.setRow W.heap.size (rcA (recP l 0))) W.heap.size (recP l 0) from setRow_heap _ _ _ _ _ _ hna)
      have hbb := below_setRow hba (Nat.le_refl _) (rcA (recP l 0))
      have HX := hid ((unhid HX).below hbb (unhid HX).lt)
      have HB := hid ((unhid HB).trans (hbb.mono (unhid HB).size))
      have HXR := hid (show R ≠ X ∧ w.heap.size ≤ X from by
        have h1 := unhid HRR
        have h2 := (unhid HRX)
        omega)
      rw [← hX] at HXX HX HB ⊢
      generalize We.setRow X (rcA (recP l 0)) = W1 at *
      clear hba hna hbb hX hSE HSF d5 d9 d13 d22 hsub hsd hw0 hw13
      go_upto_region 5 with (fail)
      go_loopw [5] (fun iv wr => ∃ k : Nat, k ≤ 8 ∧ iv = .int .i64 k ∧ RcAt wr X (recP l k) ∧ RcAt wr R rc0 ∧ Below w.heap.size w wr) (fun iv _ => 8 - (intOf iv).toNat)
      case atStart => exact ⟨0, Nat.zero_le _, rfl, unhid HXX, unhid HX, unhid HB⟩
      case round =>
        obtain ⟨k, hk, rfl, h1, h2, h3⟩ := hrel
        have HXX := hid h1
        have HX := hid h2
        have HB := hid h3
        have HR := hid ((unhid HR0).below h3)
        clear h1 h2 h3
        by_cases hlt : k < 8
        · have hki : (k : Int) < 8 := by omega
          have hrs := slice_at b off d hlt
          have HT := hid (RcAt.seenSet (unhid HXX) hlt)
          have HRO := hid (show RcAt (wr.setCell ⟨X, 6 + k, none⟩ (.int .i64 (nv l (22 + 4 * k) 4 : Int))) R rc0 from (heap_setCell_other _ _ _ _ (unhid HXR).1).trans (unhid HX))
          have HBB := hid ((unhid HB).setCell (p := ⟨X, 6 + k, none⟩) (unhid HXR).2 (.int .i64 (nv l (22 + 4 * k) 4 : Int)))
          have hcs := (unhid HXX).seen hlt
          have hfs := frozen_of_row _ _ (6 + k) _ _ (unhid HXX)
          go_wp2_with (go_at_call 67; refine (whole_sub (unhid HR) h54 (22 + 4 * k) 4 _ (by omega) (by have := nv4_lt l (22 + 4 * k); omega)).mono ?_; rintro e w' ⟨rfl, rfl⟩)
          go_roundw
          case rel => exact ⟨k + 1, by omega, by go_num, unhid HT, unhid HRO, unhid HBB⟩
          case measure => simp [intOf]; omega
        · obtain rfl : k = 8 := by omega
          rw [recP_all] at HXX
          obtain ⟨r, hr⟩ : ∃ r, r = recOf l := ⟨_, rfl⟩
          rw [← hr] at HXX
          have HRE := hid hr
          clear hr
          obtain ⟨c0, c1, c2, c3, c4, c5⟩ := (unhid HXX).cells
          obtain ⟨e0, e1, e2, e3, e4, e5, e6, e7⟩ := (unhid HXX).seen8
          go_wp2_with fail
          refine (rvalid_calls r wr).mono ?_
          rintro e w2 ⟨rfl, hb2⟩
          have HX := hid ((unhid HX).below hb2 (unhid HX).lt)
          have HXX := hid ((unhid HXX).below hb2 (unhid HXX).lt)
          have HB := hid ((unhid HB).trans (hb2.mono (unhid HB).size))
          clear c0 c1 c2 c3 c4 c5 e0 e1 e2 e3 e4 e5 e6 e7 hb2
          have hres : w2.heap[R]? = some (.cells (rcA rc0) 33 (0, 0)) := unhid HX
          cases hv : rcB r with
          | false =>
            have HE := hid (show rcB (recOf l) = false from by rw [← unhid HRE]; exact hv)
            clear hv
            go_wp2_with (refine wpList_store_row rfl 33 (.tmp 2) (.tmp 57) rfl R (rcA rc0) rfl rfl 33 _ hres (rc_size rc0) rfl (rc_one rc0) ?_)
            refine bodyPost_ret_by (v := .tuple #[.agg (rcA rc0), .int .i64 4]) (results_cell_row_tmp Try.results22 _ _ R 33 (rcA rc0) (0, 0) _ _ rfl rfl (setRow_heap _ _ _ _ _ _ hres) Try.underlying33 rfl (rc_size rc0)) rfl ?_
            refine ⟨by simp [unpR, unpE, unhid HE, rcV], below_setRow (unhid HB) (by rw [unhid HRR]; exact Nat.le_refl _) _⟩
          | true =>
            have HE := hid (show rcB (recOf l) = true from by rw [← unhid HRE]; exact hv)
            clear hv
            obtain ⟨c0, c1, c2, c3, c4, c5⟩ := (unhid HXX).cells
            obtain ⟨e0, e1, e2, e3, e4, e5, e6, e7⟩ := (unhid HXX).seen8
            go_wp2_with (refine wpList_store_row rfl 33 (.tmp 2) (.tmp 58) rfl R (rcA r) rfl rfl 33 _ hres (rc_size rc0) rfl (rc_one r) ?_)
            refine bodyPost_ret_by (v := .tuple #[.agg (rcA r), .int .i64 0]) (results_cell_row_tmp Try.results22 _ _ R 33 (rcA r) (0, 0) _ _ rfl rfl (setRow_heap _ _ _ _ _ _ hres) Try.underlying33 rfl (rc_size r)) rfl ?_
            refine ⟨by simp [unpR, unpE, unhid HE, h54, rcV, unhid HRE], below_setRow (unhid HB) (by rw [unhid HRR]; exact Nat.le_refl _) _⟩
  · have hne : ¬ (l.length : Int) = 54 := by omega
    have hres : W.heap[R]? = some (.cells (rcA rc0) 33 (0, 0)) := unhid HX
    go_wp2_with (refine wpList_store_row rfl 33 (.tmp 2) (.tmp 15) rfl R (rcA rc0) rfl rfl 33 _ hres (rc_size rc0) rfl (rc_one rc0) ?_)
    refine bodyPost_ret_by (v := .tuple #[.agg (rcA rc0), .int .i64 4]) (results_cell_row_tmp Try.results22 _ _ R 33 (rcA rc0) (0, 0) _ _ rfl rfl (setRow_heap _ _ _ _ _ _ hres) Try.underlying33 rfl (rc_size rc0)) rfl ?_
    refine ⟨by simp [unpR, unpE, h54, rcV], below_setRow (unhid HB) (by rw [unhid HRR]; exact Nat.le_refl _) _⟩

end Go.Proofs.Ytegghimjmbgghaa
