/-
  Unpack of the program.
-/
import Derived.Test.YtegghimjmbgghaaBkU
set_option linter.unusedSimpArgs false
set_option linter.unusedVariables false
namespace Go.Proofs.Ytegghimjmbgghaa
open Go.RowKit Go.Shelf

theorem read_sub {w : World} {b off : Nat} {l : List UInt8} (h : Rd w (some ⟨b, off, none⟩) (bys l)) (hl : l.length = 54) (a n c : Nat) (ha : a + n ≤ 54) (hn : n ≤ 8) :
    Calls Try.prog 66 #[.slice (some ⟨b, off + a, none⟩) n c] w fun e w' => e = .returned (.int .u64 (nv l a n : Int)) ∧ w = w' := by
  have := read_calls ((l.drop a).take n) (some ⟨b, off + a, none⟩) c w (bys_sub h a n) (by rw [sub_len hl ha]; exact hn)
  rwa [sub_len hl ha] at this
set_option maxRecDepth 100000 in
theorem slice_4 (b off d : Nat) {a : Nat} (ha : a + 4 ≤ 54) (w : World) : (Instr.slice 43 (.slice (some ⟨b, off, none⟩) 54 (d + 54)) (some (.int .i64 (a : Int))) (some (.int .i64 ((a : Int) + 4))) none).run Try.prog w = .ok (.slice (some ⟨b, off + a, none⟩) 4 (d + 54 - a)) w := by
  rw [run_slice_lh (P := Try.prog) w 43 (some ⟨b, off, none⟩) 54 (d + 54) (by kernel_rfl) .i64 .i64 (a : Int) ((a : Int) + 4) (by omega) (by omega) (by omega)]
  have e1 : (a : Int).toNat = a := by omega
  have e2 : ((a : Int) + 4).toNat = a + 4 := by omega
  have e3 : a + 4 - a = 4 := by omega
  have e4 : ¬ d + 54 = a := by omega
  rw [e1, e2]
  show Result.ok (sliced _ _ _ _ 1) w = _
  simp only [sliced, e3, if_neg e4, Option.map_some, Nat.mul_one]
  rw [add_at]

set_option maxHeartbeats 4000000 in
set_option maxRecDepth 100000 in
theorem word_calls {B b off d : Nat} {l : List UInt8} (w : World) (hbx : w.cell? ⟨B, 0, none⟩ = some (.slice (some ⟨b, off, none⟩) 54 (d + 54))) (hrd : Rd w (some ⟨b, off, none⟩) (bys l)) (hl : l.length = 54) (a : Nat) (ai : Int) (hai : ai = (a : Int)) (ha : a + 4 ≤ 54) :
    Calls Try.prog 65 #[.int .i64 ai, .pointer (some ⟨B, 0, none⟩)] w fun e w' => e = .returned (.int .i64 (nv l a 4 : Int)) ∧ w = w' := by
  subst hai
  have HR := hid hrd
  have hrs := slice_4 b off d ha
  have hi4 : (a : Int) + 4 ≤ 54 := by omega
  have hwr : IntKind.i64.wrap (nv l a 4 : Int) = (nv l a 4 : Int) := wrap_s64 (by omega) (by have := nv4_lt l a; omega)
  clear hrd
  go_enter Try.func65, Try.ntmps65
  go_wp2_with (go_at_call 66; refine (read_sub (unhid HR) hl a 4 _ ha (by omega)).mono ?_; rintro e w' ⟨rfl, rfl⟩)
  go_ret
  exact ⟨rfl, rfl⟩

/-- The record after k of the numbers seen, its value still missing. -/
def recV (l : List UInt8) : Rc := ⟨b0 l 0, nv l 1 4, nv l 5 4, nv l 9 4, b0 l 13, 0, 0, 0, 0, 0, 0, 0, 0, 0⟩
theorem recV_set (l : List UInt8) : (rcA (recV l)).setIfInBounds 5 (.int .i64 ((nv l 14 8 : Int) - 1099511627776)) = rcA (recP l 0) := rfl
structure UnI (w : World) (B R : Nat) (l : List UInt8) (A : Option Addr) (c : Nat) (W : World) : Prop where
  box : W.heap[B]? = some (.cells #[.slice A l.length c] 43 (0, 0))
  res : RcAt W R rc0
  b : Below w.heap.size w W
  hB : B = w.heap.size
  hR : R = w.heap.size + 1
theorem UnI.below {w : World} {B R : Nat} {l : List UInt8} {A : Option Addr} {c : Nat} {W W' : World} (h : UnI w B R l A c W) (hb : Below W.heap.size W W') : UnI w B R l A c W' :=
  ⟨(hb.block B (Array.getElem?_eq_some_iff.1 h.box).1).trans h.box, h.res.below hb h.res.lt, h.b.trans (hb.mono h.b.size), h.hB, h.hR⟩
theorem UnI.lt {w : World} {B R : Nat} {l : List UInt8} {A : Option Addr} {c : Nat} {W : World} (h : UnI w B R l A c W) : R < W.heap.size := h.res.lt
theorem UnI.cell {w : World} {B R : Nat} {l : List UInt8} {A : Option Addr} {c : Nat} {W : World} (h : UnI w B R l A c W) : W.cell? ⟨B, 0, none⟩ = some (.slice A l.length c) := cell_of_row _ B 0 _ _ _ h.box
theorem UnI.set {w : World} {B R : Nat} {l : List UInt8} {A : Option Addr} {c : Nat} {W : World} (h : UnI w B R l A c W) {X : Nat} (hX : R < X) (i : Nat) (v : Value) : UnI w B R l A c (W.setCell ⟨X, i, none⟩ v) :=
  ⟨(heap_setCell_other _ _ _ _ (show B ≠ X by have := h.hB; have := h.hR; omega)).trans h.box, (heap_setCell_other _ _ _ _ (show R ≠ X by omega)).trans h.res, h.b.setCell (p := ⟨X, i, none⟩) (by have := h.hR; show w.heap.size ≤ X; omega) v, h.hB, h.hR⟩
theorem UnI.new (w : World) (l : List UInt8) (A : Option Addr) (c : Nat) : UnI w w.heap.size (w.heap.size + 1) l A c ((w.alloc (.cells #[.slice A l.length c] 43)).alloc (.cells (rcA rc0) 33)) := by
  have b1 := below_alloc w (.cells #[.slice A l.length c] 43)
  have h1 := heap_alloc_new w (.cells #[.slice A l.length c] 43)
  have hs : (w.alloc (.cells #[.slice A l.length c] 43)).heap.size = w.heap.size + 1 := by simp
  have b2 := below_alloc (w.alloc (.cells #[.slice A l.length c] 43)) (.cells (rcA rc0) 33)
  have h2 := RcAt.new (w.alloc (.cells #[.slice A l.length c] 43)) rc0
  rw [hs] at h2
  exact ⟨(b2.block _ (by omega)).trans h1, h2, b1.trans (b2.mono (by omega)), rfl, rfl⟩

set_option maxHeartbeats 4000000 in
set_option maxRecDepth 100000 in
theorem punpack_calls (l : List UInt8) (A : Option Addr) (c : Nat) (w : World) (hrd : Rd w A (bys l)) (hl : l.length ≤ 1000) (hc : l.length ≤ c) :
    Calls Try.prog 21 #[.slice A l.length c] w fun e w' => e = .returned (.tuple #[rcV (unpR l), .int .i64 (unpE l)]) ∧ Below w.heap.size w w' := by
  have HR0 := hid hrd
  have HI := hid (UnI.new w l A c)
  have HL := hid hl
  clear hrd hl
  go_enter Try.func21, Try.ntmps21
  go_upto_region 1 with (fail)
  change Code.wp _ _ _ _ ((w.alloc (.cells #[.slice A l.length c] 43)).alloc (.cells (rcA rc0) 33))
  generalize (w.alloc (.cells #[.slice A l.length c] 43)).alloc (.cells (rcA rc0) 33) = W at *
  obtain ⟨R, hR⟩ : ∃ R, R = w.heap.size + 1 := ⟨_, rfl⟩
  obtain ⟨B, hB⟩ : ∃ B, B = w.heap.size := ⟨_, rfl⟩
  rw [← hR, ← hB] at HI ⊢
  clear hR hB
  have cb := (unhid HI).cell
  by_cases h54 : l.length = 54
  · obtain ⟨d, rfl⟩ : ∃ d, c = d + 54 := ⟨c - 54, by omega⟩
    obtain ⟨b, off, hAe, hbl, -⟩ := (unhid HR0) (bys_ne (k := 0) (by omega))
    subst hAe
    rw [h54] at cb ⊢
    clear hc hbl
    go_upto_region 4 with (fail)
    have HSF := hid (show ∀ w', Below W.heap.size W w' → (w'.cell? ⟨b, off, none⟩ = some (.int .u8 (b0 l 0)) ∧ w'.cell? ⟨b, off + 13, none⟩ = some (.int .u8 (b0 l 13)) ∧ Rd w' (some ⟨b, off, none⟩) (bys l) ∧ w'.cell? ⟨B, 0, none⟩ = some (.slice (some ⟨b, off, none⟩) 54 (d + 54))) from fun w' hb => by
      have h := ((unhid HR0).below (unhid HI).b).below hb
      refine ⟨bys_cell h (k := 0) (by omega), bys_cell h (k := 13) (by omega), h, ?_⟩
      have := ((unhid HI).below hb).cell
      rwa [h54] at this)
    have hw0 : IntKind.i64.wrap (b0 l 0) = b0 l 0 := wrap_s64 (by unfold b0; omega) (by have := (l.getD 0 0).toNat_lt; unfold b0; omega)
    have hw13 : IntKind.i64.wrap (b0 l 13) = b0 l 13 := wrap_s64 (by unfold b0; omega) (by have := (l.getD 13 0).toNat_lt; unfold b0; omega)
    refine wp_region_noPanic ?_
    refine wp_region_E (S := fun w' => (w'.cell? ⟨b, off, none⟩ = some (.int .u8 (b0 l 0)) ∧ w'.cell? ⟨b, off + 13, none⟩ = some (.int .u8 (b0 l 13)) ∧ Rd w' (some ⟨b, off, none⟩) (bys l) ∧ w'.cell? ⟨B, 0, none⟩ = some (.slice (some ⟨b, off, none⟩) 54 (d + 54)))) 16 17 rfl (by kernel_rfl) (by kernel_rfl) ((unhid HSF) _ (Below.drew (Below.refl _ _))) ?_
    intro hSE
    have hbd : Below W.heap.size W W.drew := Below.drew (Below.refl _ _)
    have hsd : W.drew.heap.size = W.heap.size := rfl
    generalize W.drew = Wd at *
    (refine WE_take (i := 0) (v := ?_) rfl (by kernel_rfl) (by decide) (by kernel_rfl) (by kernel_rfl) (fun _ _ _ h => h) (by rfl) hSE ?_ ?_; rotate_left; (focus (intro w hSw; (try dsimp only at hSw); go_simp; (try with_reducible rfl))); simp only [Act.put, List.setIfInBounds_toArray, List.set_cons_zero, List.set_cons_succ])
    (refine WE_take (i := 1) (v := ?_) rfl (by kernel_rfl) (by decide) (by kernel_rfl) (by kernel_rfl) (fun _ _ _ h => h) (by rfl) hSE ?_ ?_; rotate_left; (focus (intro w hSw; (try dsimp only at hSw); go_simp; (try with_reducible rfl))); simp only [Act.put, List.setIfInBounds_toArray, List.set_cons_zero, List.set_cons_succ])
    (refine WE_take (i := 2) (v := ?_) rfl (by kernel_rfl) (by decide) (by kernel_rfl) (by kernel_rfl) (fun _ _ _ h => h) (by rfl) hSE ?_ ?_; rotate_left; (focus (intro w hSw; (try dsimp only at hSw); go_simp; (try with_reducible rfl))); simp only [Act.put, List.setIfInBounds_toArray, List.set_cons_zero, List.set_cons_succ])
    (refine WE_take (i := 3) (v := ?_) rfl (by kernel_rfl) (by decide) (by kernel_rfl) (by kernel_rfl) (fun _ _ _ h => h) (by rfl) hSE ?_ ?_; rotate_left; (focus (intro w hSw; (try dsimp only at hSw); go_simp; (try with_reducible rfl))); simp only [Act.put, List.setIfInBounds_toArray, List.set_cons_zero, List.set_cons_succ])
    (refine WE_take (i := 4) (v := ?_) rfl (by kernel_rfl) (by decide) (by kernel_rfl) (by kernel_rfl) (fun _ _ _ h => h) (by rfl) hSE ?_ ?_; rotate_left; (focus (intro w hSw; (try dsimp only at hSw); go_simp; (try with_reducible rfl))); simp only [Act.put, List.setIfInBounds_toArray, List.set_cons_zero, List.set_cons_succ])
    refine WE_call (i := 5) rfl (by kernel_rfl) (by decide) (by kernel_rfl) (by kernel_rfl) (fun _ _ _ h => h) (by rfl) hSE ?_ (fun w hS => word_calls w hS.2.2.2 hS.2.2.1 h54 1 1 rfl (by omega)) ?_
    focus (intro w hSw; (try dsimp only at hSw); go_simp; (try with_reducible rfl))
    simp only [Act.put, List.setIfInBounds_toArray, List.set_cons_zero, List.set_cons_succ]
    (refine WE_take (i := 6) (v := ?_) rfl (by kernel_rfl) (by decide) (by kernel_rfl) (by kernel_rfl) (fun _ _ _ h => h) (by rfl) hSE ?_ ?_; rotate_left; (focus (intro w hSw; (try dsimp only at hSw); go_simp; (try with_reducible rfl))); simp only [Act.put, List.setIfInBounds_toArray, List.set_cons_zero, List.set_cons_succ])
    refine WE_call (i := 7) rfl (by kernel_rfl) (by decide) (by kernel_rfl) (by kernel_rfl) (fun _ _ _ h => h) (by rfl) hSE ?_ (fun w hS => word_calls w hS.2.2.2 hS.2.2.1 h54 5 5 rfl (by omega)) ?_
    focus (intro w hSw; (try dsimp only at hSw); go_simp; (try with_reducible rfl))
    simp only [Act.put, List.setIfInBounds_toArray, List.set_cons_zero, List.set_cons_succ]
    (refine WE_take (i := 8) (v := ?_) rfl (by kernel_rfl) (by decide) (by kernel_rfl) (by kernel_rfl) (fun _ _ _ h => h) (by rfl) hSE ?_ ?_; rotate_left; (focus (intro w hSw; (try dsimp only at hSw); go_simp; (try with_reducible rfl))); simp only [Act.put, List.setIfInBounds_toArray, List.set_cons_zero, List.set_cons_succ])
    refine WE_call (i := 9) rfl (by kernel_rfl) (by decide) (by kernel_rfl) (by kernel_rfl) (fun _ _ _ h => h) (by rfl) hSE ?_ (fun w hS => word_calls w hS.2.2.2 hS.2.2.1 h54 9 9 rfl (by omega)) ?_
    focus (intro w hSw; (try dsimp only at hSw); go_simp; (try with_reducible rfl))
    simp only [Act.put, List.setIfInBounds_toArray, List.set_cons_zero, List.set_cons_succ]
    (refine WE_take (i := 10) (v := ?_) rfl (by kernel_rfl) (by decide) (by kernel_rfl) (by kernel_rfl) (fun _ _ _ h => h) (by rfl) hSE ?_ ?_; rotate_left; (focus (intro w hSw; (try dsimp only at hSw); go_simp; (try with_reducible rfl))); simp only [Act.put, List.setIfInBounds_toArray, List.set_cons_zero, List.set_cons_succ])
    (refine WE_take (i := 11) (v := ?_) rfl (by kernel_rfl) (by decide) (by kernel_rfl) (by kernel_rfl) (fun _ _ _ h => h) (by rfl) hSE ?_ ?_; rotate_left; (focus (intro w hSw; (try dsimp only at hSw); go_simp; (try with_reducible rfl))); simp only [Act.put, List.setIfInBounds_toArray, List.set_cons_zero, List.set_cons_succ])
    (refine WE_take (i := 12) (v := ?_) rfl (by kernel_rfl) (by decide) (by kernel_rfl) (by kernel_rfl) (fun _ _ _ h => h) (by rfl) hSE ?_ ?_; rotate_left; (focus (intro w hSw; (try dsimp only at hSw); go_simp; (try with_reducible rfl))); simp only [Act.put, List.setIfInBounds_toArray, List.set_cons_zero, List.set_cons_succ])
    (refine WE_take (i := 13) (v := ?_) rfl (by kernel_rfl) (by decide) (by kernel_rfl) (by kernel_rfl) (fun _ _ _ h => h) (by rfl) hSE ?_ ?_; rotate_left; (focus (intro w hSw; (try dsimp only at hSw); go_simp; (try with_reducible rfl))); simp only [Act.put, List.setIfInBounds_toArray, List.set_cons_zero, List.set_cons_succ])
    (refine WE_take (i := 14) (v := ?_) rfl (by kernel_rfl) (by decide) (by kernel_rfl) (by kernel_rfl) (fun _ _ _ h => h) (by rfl) hSE ?_ ?_; rotate_left; (focus (intro w hSw; (try dsimp only at hSw); go_simp; (try with_reducible rfl))); simp only [Act.put, List.setIfInBounds_toArray, List.set_cons_zero, List.set_cons_succ])
    (refine WE_one (i := 15) rfl (by decide) (by kernel_rfl) ?_; intro K hK)
    go_simp
    have hba := hbd.alloc (Nat.le_of_eq hsd.symm) (.cells (rcA rc0) 33)
    have hna := heap_alloc_new Wd (.cells (rcA rc0) 33)
    rw [hsd] at hna
    refine hK.out _ _ ((unhid HSF) _ hba) ?_
    clear hSE hK K
    intro hSE
    (try simp only [Act.put, List.setIfInBounds_toArray, List.set_cons_zero, List.set_cons_succ])
    change WE _ _ _ _ _ _ _ _ _ (Wd.alloc (.cells (rcA rc0) 33))
    generalize Wd.alloc (.cells (rcA rc0) 33) = We at *
    clear hbd
    refine WE_last rfl (by kernel_rfl) (by kernel_rfl) (by kernel_rfl) ?_
    intro K hK
    rw [if_pos (by rfl)]
    refine wp_store_row 33 (.tmp 5) (.tmp 27) rfl W.heap.size (rcA (recV l)) rfl rfl 33 _ hna (rc_size rc0) rfl (rc_one _) ?_
    refine hK.out _ _ (NoPanic.normal ?_)
    clear hK K
    obtain ⟨X, hX⟩ : ∃ X, X = W.heap.size := ⟨_, rfl⟩
    have HXX := hid (show RcAt (We.setRow W.heap.size (rcA (recV l))) W.heap.size (recV l) from setRow_heap _ _ _ _ _ _ hna)
    have hbb := below_setRow hba (Nat.le_refl _) (rcA (recV l))
    have HRX := hid (show R < X from by rw [hX]; exact (unhid HI).lt)
    have HI := hid ((unhid HI).below hbb)
    rw [← hX] at HXX HI ⊢
    generalize We.setRow X (rcA (recV l)) = W1 at *
    clear hba hna hbb hX hSE HSF hsd hw0 hw13 cb
    have cb := (unhid HI).cell
    rw [h54] at cb
    have d22 : (22 : Int) ≤ (d : Int) + 54 := by omega
    have HR := hid ((unhid HR0).below (unhid HI).b)
    by_cases hbig : 2199023255552 < nv l 14 8
    · have hi : (2199023255552 : Int) < (nv l 14 8 : Int) := by omega
      have HE := hid (show rcB (recOf l) = false from by
        cases hr : rcB (recOf l) with
        | false => rfl
        | true =>
          have h1 := (rc_ok hr).val.2
          simp only [recOf] at h1
          omega)
      have hres : W1.heap[R]? = some (.cells (rcA rc0) 33 (0, 0)) := (unhid HI).res
      go_wp2_with (first | (go_at_call 66; refine (read_sub (unhid HR) h54 14 8 _ (by omega) (by omega)).mono ?_; rintro e w' ⟨rfl, rfl⟩) | (refine wpList_store_row rfl 33 (.tmp 2) (.tmp 33) rfl R (rcA rc0) rfl rfl 33 _ hres (rc_size rc0) rfl (rc_one rc0) ?_))
      refine bodyPost_ret_by (v := .tuple #[.agg (rcA rc0), .int .i64 4]) (results_cell_row_tmp Try.results21 _ _ R 33 (rcA rc0) (0, 0) _ _ rfl rfl (setRow_heap _ _ _ _ _ _ hres) Try.underlying33 rfl (rc_size rc0)) rfl ?_
      refine ⟨by simp [unpR, unpE, unhid HE, rcV], below_setRow (unhid HI).b (by rw [(unhid HI).hR]; omega) _⟩
    · have hi : ¬ (2199023255552 : Int) < (nv l 14 8 : Int) := by omega
      have hwr : IntKind.i64.wrap (nv l 14 8 : Int) = (nv l 14 8 : Int) := wrap_s64 (by omega) (by omega)
      have hws : IntKind.i64.wrap ((nv l 14 8 : Int) - 1099511627776) = (nv l 14 8 : Int) - 1099511627776 := wrap_s64 (by omega) (by omega)
      have hc5 : W1.cell? ⟨X, 5, none⟩ = some (.int .i64 0) := (unhid HXX).cells.2.2.2.2.2
      have hf5 := frozen_of_row _ _ 5 _ _ (unhid HXX)
      have HXX := hid (show RcAt (W1.setCell ⟨X, 5, none⟩ (.int .i64 ((nv l 14 8 : Int) - 1099511627776))) X (recP l 0) from by
        have h := unhid HXX
        unfold RcAt at *
        rw [heap_setCell_same _ _ _ _ _ _ h, recV_set])
      have HI2 := hid ((unhid HI).set (unhid HRX) 5 (.int .i64 ((nv l 14 8 : Int) - 1099511627776)))
      go_upto_region 9 with (go_at_call 66; refine (read_sub (unhid HR) h54 14 8 _ (by omega) (by omega)).mono ?_; rintro e w' ⟨rfl, rfl⟩)
      clear HI hc5 hf5
      generalize W1.setCell ⟨X, 5, none⟩ (.int .i64 ((nv l 14 8 : Int) - 1099511627776)) = W2 at *
      clear cb d22 hwr hws HR
      go_upto_region 10 with (fail)
      go_loopw [38] (fun iv wr => ∃ k : Nat, k ≤ 8 ∧ iv = .int .i64 k ∧ RcAt wr X (recP l k) ∧ UnI w B R l (some ⟨b, off, none⟩) (d + 54) wr) (fun iv _ => 8 - (intOf iv).toNat)
      case atStart => exact ⟨0, Nat.zero_le _, rfl, unhid HXX, unhid HI2⟩
      case round =>
        obtain ⟨k, hk, rfl, h1, h2⟩ := hrel
        have HXX := hid h1
        have HI := hid h2
        have HR := hid ((unhid HR0).below h2.b)
        clear h1 h2
        by_cases hlt : k < 8
        · have hki : (k : Int) < 8 := by omega
          have HT := hid (RcAt.seenSet (unhid HXX) hlt)
          have HIS := hid ((unhid HI).set (unhid HRX) (6 + k) (.int .i64 (nv l (22 + 4 * k) 4 : Int)))
          have hcs := (unhid HXX).seen hlt
          have hfs := frozen_of_row _ _ (6 + k) _ _ (unhid HXX)
          have HCB := hid (show wr.cell? ⟨B, 0, none⟩ = some (.slice (some ⟨b, off, none⟩) 54 (d + 54)) from by
            have := (unhid HI).cell
            rwa [h54] at this)
          go_wp2_with (go_at_call 65; refine (word_calls _ (unhid HCB) (unhid HR) h54 (22 + 4 * k) _ (by omega) (by omega)).mono ?_; rintro e w' ⟨rfl, rfl⟩)
          go_roundw
          case rel => exact ⟨k + 1, by omega, by go_num, unhid HT, unhid HIS⟩
          case measure => simp [intOf]; omega
        · obtain rfl : k = 8 := by omega
          rw [recP_all] at HXX
          obtain ⟨r, hr⟩ : ∃ r, r = recOf l := ⟨_, rfl⟩
          rw [← hr] at HXX
          have HRE := hid hr
          clear hr
          obtain ⟨c0, c1, c2, c3, c4, c5⟩ := (unhid HXX).cells
          obtain ⟨e0, e1, e2, e3, e4, e5, e6, e7⟩ := (unhid HXX).seen8
          go_wp2_with fail
          refine (valid_calls r wr).mono ?_
          rintro e w2 ⟨rfl, hb2⟩
          have HXX := hid ((unhid HXX).below hb2 (unhid HXX).lt)
          have HI := hid ((unhid HI).below hb2)
          clear c0 c1 c2 c3 c4 c5 e0 e1 e2 e3 e4 e5 e6 e7 hb2
          have hres : w2.heap[R]? = some (.cells (rcA rc0) 33 (0, 0)) := (unhid HI).res
          cases hv : rcB r with
          | false =>
            have HE := hid (show rcB (recOf l) = false from by rw [← unhid HRE]; exact hv)
            clear hv
            go_wp2_with (refine wpList_store_row rfl 33 (.tmp 2) (.tmp 53) rfl R (rcA rc0) rfl rfl 33 _ hres (rc_size rc0) rfl (rc_one rc0) ?_)
            refine bodyPost_ret_by (v := .tuple #[.agg (rcA rc0), .int .i64 4]) (results_cell_row_tmp Try.results21 _ _ R 33 (rcA rc0) (0, 0) _ _ rfl rfl (setRow_heap _ _ _ _ _ _ hres) Try.underlying33 rfl (rc_size rc0)) rfl ?_
            refine ⟨by simp [unpR, unpE, unhid HE, rcV], below_setRow (unhid HI).b (by rw [(unhid HI).hR]; omega) _⟩
          | true =>
            have HE := hid (show rcB (recOf l) = true from by rw [← unhid HRE]; exact hv)
            clear hv
            obtain ⟨c0, c1, c2, c3, c4, c5⟩ := (unhid HXX).cells
            obtain ⟨e0, e1, e2, e3, e4, e5, e6, e7⟩ := (unhid HXX).seen8
            go_wp2_with (refine wpList_store_row rfl 33 (.tmp 2) (.tmp 54) rfl R (rcA r) rfl rfl 33 _ hres (rc_size rc0) rfl (rc_one r) ?_)
            refine bodyPost_ret_by (v := .tuple #[.agg (rcA r), .int .i64 0]) (results_cell_row_tmp Try.results21 _ _ R 33 (rcA r) (0, 0) _ _ rfl rfl (setRow_heap _ _ _ _ _ _ hres) Try.underlying33 rfl (rc_size r)) rfl ?_
            refine ⟨by simp [unpR, unpE, unhid HE, h54, rcV, unhid HRE], below_setRow (unhid HI).b (by rw [(unhid HI).hR]; omega) _⟩
  · have hne : ¬ (l.length : Int) = 54 := by omega
    have hres : W.heap[R]? = some (.cells (rcA rc0) 33 (0, 0)) := (unhid HI).res
    go_wp2_with (refine wpList_store_row rfl 33 (.tmp 2) (.tmp 11) rfl R (rcA rc0) rfl rfl 33 _ hres (rc_size rc0) rfl (rc_one rc0) ?_)
    refine bodyPost_ret_by (v := .tuple #[.agg (rcA rc0), .int .i64 4]) (results_cell_row_tmp Try.results21 _ _ R 33 (rcA rc0) (0, 0) _ _ rfl rfl (setRow_heap _ _ _ _ _ _ hres) Try.underlying33 rfl (rc_size rc0)) rfl ?_
    refine ⟨by simp [unpR, unpE, h54, rcV], below_setRow (unhid HI).b (by rw [(unhid HI).hR]; omega) _⟩

end Go.Proofs.Ytegghimjmbgghaa
