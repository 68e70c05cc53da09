/-
  The law FaceMirrors.
-/
import Derived.Test.YtmagidoodlkeoaaGreatDoorFcLw
import Derived.Test.YtmagidoodlkeoaaGreatDoorFcRw
import Derived.Test.YtmagidoodlkeoaaGreatDoorFcMr
import Derived.Test.YtmagidoodlkeoaaGreatDoorFcScreens
set_option linter.unusedSimpArgs false
set_option linter.unusedVariables false
namespace Go.Proofs.YtmagidoodlkeoaaGreatDoor
open Go.RowKit

theorem absI_neg (x : Int) : absI (-x) = absI x := by unfold absI; omega
theorem part_flip (f : Fc) (x y : Int) : partB f (-x) y = partB f x y := by
  unfold partB
  rw [absI_neg, Int.neg_mul_neg]
theorem bare_valid {f : Fc} (h : fcB f = true) : fcB ⟨f.shape, f.size, f.height, []⟩ = true := by
  simp only [fcB, Bool.and_eq_true, decide_eq_true_eq] at h ⊢
  obtain ⟨⟨⟨⟨h1, h2⟩, h3⟩, h4⟩, h5⟩ := h
  exact ⟨⟨⟨⟨h1, h2⟩, by simp⟩, h4⟩, by simp⟩
theorem bare_mirror (f : Fc) : mirB ⟨f.shape, f.size, f.height, []⟩ = true := by
  simp only [mirB, decide_eq_true_eq]
  intro i j _ _ _ _
  unfold colI
  show colK ⟨f.shape, f.size, f.height, []⟩ i j 0 = colK ⟨f.shape, f.size, f.height, []⟩ (f.size - 1 - i) j 0
  rw [colK_zero, colK_zero]
  show (if partB ⟨f.shape, f.size, f.height, []⟩ (2 * i + 1 - f.size) (2 * j + 1 - heiF f) = true then (9 : Int) else 0) = if partB ⟨f.shape, f.size, f.height, []⟩ (2 * (f.size - 1 - i) + 1 - f.size) (2 * j + 1 - heiF f) = true then 9 else 0
  rw [show 2 * (f.size - 1 - i) + 1 - f.size = -(2 * i + 1 - f.size) by omega, part_flip]
theorem mir_row {f : Fc} (h : mirB f = true) {j : Int} (hj : 0 ≤ j ∧ j < heiF f) : ∀ i, i < f.size.toNat → rowI f j i = rowI f j (f.size.toNat - 1 - i) := by
  intro i hi
  simp only [mirB, decide_eq_true_eq] at h
  have := h (i : Int) j (Int.natCast_nonneg _) (by omega) hj.1 hj.2
  unfold rowI
  rw [this]
  congr 1
  omega

set_option maxHeartbeats 8000000 in
set_option maxRecDepth 100000 in
theorem fmirrors_calls (f : Fc) (A : Option Addr) (c : Nat) (a : Int) (w : World) (hg : Gl w) (hit : ItsOk w A f.items) (ha : 0 ≤ a ∧ a ≤ 255) :
    Calls Tryz.prog 18 #[.agg #[.int .i64 f.shape, .int .i64 f.size, .int .i64 f.height, .slice A f.items.length c], .int .u8 a] w fun e w' => e = .returned (.bool true) ∧ Below w.heap.size w w' := by
  obtain ⟨a0, a1⟩ := ha
  have HF := hid (FaceAt.new w c hit)
  have HO := hid ((On.start hg).lay (.cells #[.int .i64 f.shape, .int .i64 f.size, .int .i64 f.height, .slice A f.items.length c] 25))
  clear hg hit
  go_enter Tryz.func18, Tryz.ntmps18
  go_wp2_with fail
  generalize w.alloc (.cells #[.int .i64 f.shape, .int .i64 f.size, .int .i64 f.height, .slice A f.items.length c] 25) = W at *
  refine (heavy_calls f A c W (unhid HF).ok).mono ?_
  rintro e w1 ⟨rfl, hb⟩
  have HF := hid ((unhid HF).below hb)
  have HO := hid ((unhid HO).next hb)
  clear hb
  cases hl : heavyF f with
  | true =>
    go_wp2_with fail
    refine (unhid HO).first.mono ?_
    rintro e w9 ⟨rfl, hb2⟩
    have HB2 := hid hb2
    clear hb2
    go_wp2_with fail
    go_ret
    exact ⟨rfl, unhid HB2⟩
  | false =>
    obtain ⟨c0, c1, c2, c3⟩ := (unhid HF).cells
    go_wp2_with fail
    refine (rvalid_calls f A c w1 (unhid HF).ok).mono ?_
    rintro e w2 ⟨rfl, hb⟩
    have HF := hid ((unhid HF).below hb)
    have HO := hid ((unhid HO).next hb)
    clear hb c0 c1 c2 c3
    obtain ⟨c0, c1, c2, c3⟩ := (unhid HF).cells
    cases hf : fcB f with
    | false =>
      go_wp2_with fail
      refine (unhid HO).first.mono ?_
      rintro e w9 ⟨rfl, hb2⟩
      have HB2 := hid hb2
      clear hb2
      go_wp2_with fail
      go_ret
      exact ⟨rfl, unhid HB2⟩

    | true =>
      have HFF := hid hf
      obtain ⟨s0, s1⟩ := size_bounds hf
      obtain ⟨h0, h1⟩ := heiF_bounds hf
      have HBV := hid (bare_valid hf)
      have HBM := hid (bare_mirror f)
      have HEX := hid (extR_yes hf)
      have HB0 := hid (FaceAt.new (f := ⟨f.shape, f.size, f.height, []⟩) w2 0 (ItsOk.nil w2 none))
      have hb := below_alloc w2 (.cells #[.int .i64 f.shape, .int .i64 f.size, .int .i64 f.height, .slice none 0 0] 25)
      clear hf
      go_upto_region 4 with (fail)
      dsimp only [List.length_nil] at HB0
      generalize w2.alloc (.cells #[.int .i64 f.shape, .int .i64 f.size, .int .i64 f.height, .slice none 0 0] 25) = W3 at *
      have HF := hid ((unhid HF).below hb)
      have HO := hid ((unhid HO).next hb)
      clear hb c0 c1 c2 c3
      obtain ⟨c0, c1, c2, c3⟩ := (unhid HF).cells

      generalize w2.heap.size = P at *
      obtain ⟨p0, p1, p2, p3⟩ := (unhid HB0).cells
      dsimp only [List.length_nil] at p0 p1 p2 p3
      go_wp2_with fail
      refine (pmirror_ok ⟨f.shape, f.size, f.height, []⟩ none 0 W3 (ItsOk.nil W3 none) (unhid HBV)).mono ?_
      rintro e w4 ⟨rfl, hb⟩
      rw [unhid HBM]
      have HF := hid ((unhid HF).below hb)
      have HO := hid ((unhid HO).next hb)
      clear hb c0 c1 c2 c3 p0 p1 p2 p3
      obtain ⟨c0, c1, c2, c3⟩ := (unhid HF).cells

      go_wp2_with fail
      refine (pmirror_ok f A c w4 (unhid HF).ok (unhid HFF)).mono ?_
      rintro e w5 ⟨rfl, hb⟩
      have HF := hid ((unhid HF).below hb)
      have HO := hid ((unhid HO).next hb)
      clear hb c0 c1 c2 c3
      obtain ⟨c0, c1, c2, c3⟩ := (unhid HF).cells

      have HX := hid (pextent_calls f A c w5 (unhid HF).ok)
      rw [unhid HEX] at HX
      go_wp2_with fail
      refine (unhid HX).mono ?_
      rintro e w6 ⟨rfl, hb⟩
      have HF := hid ((unhid HF).below hb)
      have HO := hid ((unhid HO).next hb)
      clear hb c0 c1 c2 c3 HX
      obtain ⟨c0, c1, c2, c3⟩ := (unhid HF).cells

      have b1 : ¬ f.size < 1 := by omega
      have b2 : ¬ heiF f < 1 := by omega
      cases hm : mirB f with
      | false =>
        clear hm
        go_wp2_with fail
        refine (unhid HO).first.mono ?_
        rintro e w9 ⟨rfl, hb2⟩
        have HB2 := hid hb2
        clear hb2
        go_wp2_with fail
        go_ret
        exact ⟨rfl, unhid HB2⟩

      | true =>
        obtain ⟨j, hj⟩ : ∃ j, j = a % heiF f := ⟨_, rfl⟩
        have hj0 : 0 ≤ j ∧ j < heiF f := by rw [hj]; exact ⟨Int.emod_nonneg _ (by omega), Int.emod_lt_of_pos _ (by omega)⟩
        have HMI := hid (fun (i : Nat) (hi : i < (runsK (rowI f j) f.size.toNat).length) => runs_mirror (mir_row hm hj0) hi)
        have et : a.tmod (heiF f) = j := by rw [Int.tmod_eq_emod_of_nonneg a0, hj]
        obtain ⟨y0, y0'⟩ := w64 (n := a) (by omega) (by omega)
        have HJ := hid hj0
        have hnz : ¬ heiF f = 0 := by omega
        have hnz2 : (heiF f == 0) = false := by simp [hnz]
        have HF6 := HF
        have HSF := hid (show ∀ w' : World, Below w6.heap.size w6 w' → (w'.cell? ⟨w.heap.size, 0, none⟩ = some (.int .i64 f.shape) ∧ w'.cell? ⟨w.heap.size, 1, none⟩ = some (.int .i64 f.size) ∧ w'.cell? ⟨w.heap.size, 2, none⟩ = some (.int .i64 f.height) ∧ w'.cell? ⟨w.heap.size, 3, none⟩ = some (.slice A f.items.length c)) from fun w' hb => ((unhid HF6).below hb).cells)
        clear hm hj hj0
        obtain ⟨sz, hsz⟩ : ∃ sz : Nat, sz = f.size.toNat := ⟨_, rfl⟩
        have HSZ := hid (show (sz : Int) = f.size by omega)
        have HSN := hid hsz
        have hsz5 : sz ≤ 200 := by omega
        clear hsz
        go_wp2_with fail
        refine wp_region_noPanic ?_
        refine wp_region_E (S := fun w' => w'.cell? ⟨w.heap.size, 0, none⟩ = some (.int .i64 f.shape) ∧ w'.cell? ⟨w.heap.size, 1, none⟩ = some (.int .i64 f.size) ∧ w'.cell? ⟨w.heap.size, 2, none⟩ = some (.int .i64 f.height) ∧ w'.cell? ⟨w.heap.size, 3, none⟩ = some (.slice A f.items.length c)) 10 11 rfl (by kernel_rfl) (by kernel_rfl) ⟨c0, c1, c2, c3⟩ ?_
        intro hSE
        (refine WE_take (i := 0) (v := ?_) rfl (by kernel_rfl) (by decide) (by kernel_rfl) (by kernel_rfl) (fun _ _ _ h => h) (by rfl) hSE ?_ ?_; rotate_left; (focus (intro w hSw; (try dsimp only at hSw); go_simp; (try with_reducible rfl))); simp only [Act.put, List.setIfInBounds_toArray, List.set_cons_zero, List.set_cons_succ])
        (refine WE_take (i := 1) (v := ?_) rfl (by kernel_rfl) (by decide) (by kernel_rfl) (by kernel_rfl) (fun _ _ _ h => h) (by rfl) hSE ?_ ?_; rotate_left; (focus (intro w hSw; (try dsimp only at hSw); go_simp; (try with_reducible rfl))); simp only [Act.put, List.setIfInBounds_toArray, List.set_cons_zero, List.set_cons_succ])
        (refine WE_take (i := 2) (v := ?_) rfl (by kernel_rfl) (by decide) (by kernel_rfl) (by kernel_rfl) (fun _ _ _ h => h) (by rfl) hSE ?_ ?_; rotate_left; (focus (intro w hSw; (try dsimp only at hSw); go_simp; (try with_reducible rfl))); simp only [Act.put, List.setIfInBounds_toArray, List.set_cons_zero, List.set_cons_succ])
        (refine WE_take (i := 3) (v := ?_) rfl (by kernel_rfl) (by decide) (by kernel_rfl) (by kernel_rfl) (fun _ _ _ h => h) (by rfl) hSE ?_ ?_; rotate_left; (focus (intro w hSw; (try dsimp only at hSw); go_simp; (try with_reducible rfl))); simp only [Act.put, List.setIfInBounds_toArray, List.set_cons_zero, List.set_cons_succ])
        (refine WE_take (i := 4) (v := ?_) rfl (by kernel_rfl) (by decide) (by kernel_rfl) (by kernel_rfl) (fun _ _ _ h => h) (by rfl) hSE ?_ ?_; rotate_left; (focus (intro w hSw; (try dsimp only at hSw); go_simp; (try with_reducible rfl))); simp only [Act.put, List.setIfInBounds_toArray, List.set_cons_zero, List.set_cons_succ])
        (refine WE_one (i := 5) rfl (by decide) (by kernel_rfl) ?_; intro K hK)
        go_simp
        go_at_call 39
        refine (prow_ok f A c j _ ((unhid HF).ok.below (Below.drew (Below.refl _ _))) (unhid HFF) (unhid HJ)).mono ?_
        rintro e w7 ⟨hb7, A1, k1, rfl, hr1, -⟩
        have hb67 : Below w6.heap.size w6 w7 := (Below.drew (Below.refl _ _)).trans hb7
        refine hK.out _ _ ((unhid HSF) _ hb67) ?_
        clear hSE hK K
        intro hSE
        (try simp only [Act.put, List.setIfInBounds_toArray, List.set_cons_zero, List.set_cons_succ])
        (refine WE_take (i := 6) (v := ?_) rfl (by kernel_rfl) (by decide) (by kernel_rfl) (by kernel_rfl) (fun _ _ _ h => h) (by rfl) hSE ?_ ?_; rotate_left; (focus (intro w hSw; (try dsimp only at hSw); go_simp; (try with_reducible rfl))); simp only [Act.put, List.setIfInBounds_toArray, List.set_cons_zero, List.set_cons_succ])
        (refine WE_take (i := 7) (v := ?_) rfl (by kernel_rfl) (by decide) (by kernel_rfl) (by kernel_rfl) (fun _ _ _ h => h) (by rfl) hSE ?_ ?_; rotate_left; (focus (intro w hSw; (try dsimp only at hSw); go_simp; (try with_reducible rfl))); simp only [Act.put, List.setIfInBounds_toArray, List.set_cons_zero, List.set_cons_succ])
        (refine WE_take (i := 8) (v := ?_) rfl (by kernel_rfl) (by decide) (by kernel_rfl) (by kernel_rfl) (fun _ _ _ h => h) (by rfl) hSE ?_ ?_; rotate_left; (focus (intro w hSw; (try dsimp only at hSw); go_simp; (try with_reducible rfl))); simp only [Act.put, List.setIfInBounds_toArray, List.set_cons_zero, List.set_cons_succ])
        (refine WE_take (i := 9) (v := ?_) rfl (by kernel_rfl) (by decide) (by kernel_rfl) (by kernel_rfl) (fun _ _ _ h => h) (by rfl) hSE ?_ ?_; rotate_left; (focus (intro w hSw; (try dsimp only at hSw); go_simp; (try with_reducible rfl))); simp only [Act.put, List.setIfInBounds_toArray, List.set_cons_zero, List.set_cons_succ])
        (refine WE_last rfl (by kernel_rfl) (by kernel_rfl) (by kernel_rfl) ?_; intro K hK; go_simp; refine hK.out _ _ (NoPanic.normal ?_); clear hK K)
        have HO7 := hid ((unhid HO).next hb67)
        have HR1 := hid hr1
        clear hb67 hb7 hr1 et y0 y0' c0 c1 c2 c3 hSE
        have HEACH := hid (runs_ok (rowI f j) f.size.toNat).each
        have hrl := runs_len (rowI f j) f.size.toNat
        rw [← unhid HSN] at HR1 HEACH HMI hrl ⊢
        obtain ⟨R, hR⟩ : ∃ R, R = runsK (rowI f j) sz := ⟨_, rfl⟩
        rw [← hR] at HR1 HEACH hrl ⊢
        have HRR := hid hR
        clear hR
        go_wp2_with fail
        go_loopw [14] (fun rv wr => ∃ r : Nat, r ≤ R.length ∧ rv = .int .i64 r ∧ Below w7.heap.size w7 wr) (fun rv _ => R.length - (intOf rv).toNat)
        case atStart => exact ⟨0, Nat.zero_le _, rfl, Below.refl _ _⟩
        case round =>
          obtain ⟨r, hr, rfl, hbel⟩ := hrel
          have HB2 := hid hbel
          by_cases hrl2 : r < R.length
          · have HR2 := hid ((unhid HR1).below hbel)
            obtain ⟨b, off, rfl, hb, hc⟩ := (unhid HR2) (rns_ne hrl2)
            obtain ⟨q, hq⟩ : ∃ q, q = R.length - 1 - r := ⟨_, rfl⟩
            have hqn : q < R.length := by omega
            obtain ⟨d0, d1, d2⟩ := rns_cells hc hrl2
            obtain ⟨e0, e1, e2⟩ := rns_cells hc hqn
            have hex := (unhid HEACH) R[q] (List.getElem_mem hqn)
            have hfl : R[r] = flipR sz R[q] := by
              have hrl3 : r < (runsK (rowI f j) sz).length := by rw [← unhid HRR]; exact hrl2
              have h := (unhid HMI) r hrl3
              have g1 : (runsK (rowI f j) sz)[r] = R[r] := by simp [unhid HRR]
              have g2 : (runsK (rowI f j) sz)[(runsK (rowI f j) sz).length - 1 - r]'(by omega) = R[q] := by simp [unhid HRR, hq]
              rw [g1, g2] at h
              exact h
            rw [hfl] at d0 d1 d2
            simp only [flipR] at d0 d1 d2
            obtain ⟨x, hx⟩ : ∃ x, x = R[q] := ⟨_, rfl⟩
            rw [← hx] at d0 d1 d2 e0 e1 e2 hex
            obtain ⟨ex0, ex1, ex2, -⟩ := hex
            obtain ⟨fr, cnt, col⟩ := x
            dsimp only at *
            rw [unhid HSZ] at d0 ex2
            have hqi : (R.length : Int) - 1 - (r : Int) = (q : Int) := by omega
            have hqj : (q : Int) < (R.length : Int) := by omega
            have hlr : (r : Int) < (R.length : Int) := by omega
            clear hx hc hfl hq
            obtain ⟨y0, y0'⟩ := w64 (n := (R.length : Int) - 1) (by omega) (by omega)
            obtain ⟨y1, y1'⟩ := w64 (n := (R.length : Int) - 1 - (r : Int)) (by omega) (by omega)
            obtain ⟨y2, y2'⟩ := w64 (n := f.size - fr) (by omega) (by omega)
            obtain ⟨y3, y3'⟩ := w64 (n := f.size - fr - cnt) (by omega) (by omega)
            have hx1 : ((f.size - fr - cnt) != (f.size - fr - cnt)) = false := by simp
            have hx2 : (cnt != cnt) = false := by simp
            have hx3 : (col != col) = false := by simp
            clear hbel hb
            go_upto_region 16 with (fail)
            have hbn := below_alloc wr (.cells #[.int .i64 fr, .int .i64 cnt, .int .i64 col] 85)
            have HB3 := hid ((unhid HB2).trans (hbn.mono (unhid HB2).size))
            have HE := hid (heap_alloc_new wr (.cells #[.int .i64 fr, .int .i64 cnt, .int .i64 col] 85))
            have hbb : b < wr.heap.size := by
              obtain ⟨b', off', e, hb', -⟩ := (unhid HR2) (rns_ne hrl2)
              cases e
              exact hb'
            have d0' := (hbn.cell (p := ⟨b, off + r * 3, none⟩) hbb).trans d0
            have d1' := (hbn.cell (p := ⟨b, off + r * 3 + 1, none⟩) hbb).trans d1
            have d2' := (hbn.cell (p := ⟨b, off + r * 3 + 2, none⟩) hbb).trans d2
            generalize wr.alloc (.cells #[.int .i64 fr, .int .i64 cnt, .int .i64 col] 85) = W6 at *
            generalize wr.heap.size = E at *
            have g0 := cell_of_row _ E 0 _ _ _ (unhid HE)
            have g1 := cell_of_row _ E 1 _ _ _ (unhid HE)
            have g2 := cell_of_row _ E 2 _ _ _ (unhid HE)
            simp at g0 g1 g2
            clear d0 d1 d2 e0 e1 e2 hbn
            go_wp2_with fail
            go_quiet (fail)
            go_wp2_with fail
            go_roundw
            case rel => exact ⟨r + 1, by omega, by go_num, by first | exact below_drewN' (unhid HB3) _ | exact Below.drew (unhid HB3)⟩
            case measure => simp [intOf]; omega
          · obtain rfl : r = R.length := by omega
            clear hbel
            go_wp2_with fail
            refine ((unhid HO7).next (unhid HB2)).first.mono ?_
            rintro e w9 ⟨rfl, hb2⟩
            have HB9 := hid hb2
            clear hb2
            go_wp2_with fail
            go_ret
            exact ⟨rfl, unhid HB9⟩
end Go.Proofs.YtmagidoodlkeoaaGreatDoor
