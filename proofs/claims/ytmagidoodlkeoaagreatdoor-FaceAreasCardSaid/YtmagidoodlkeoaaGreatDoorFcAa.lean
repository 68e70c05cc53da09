/-
  The law FaceAreas.
-/
import Derived.Test.YtmagidoodlkeoaaGreatDoorFcAl
set_option linter.unusedSimpArgs false
set_option linter.unusedVariables false
namespace Go.Proofs.YtmagidoodlkeoaaGreatDoor
open Go.RowKit

theorem extR_ok {f : Fc} (h : fcB f = true) : extR f = .tuple #[.int .i64 f.size, .int .i64 (heiF f), .int .i64 0] := extR_yes h

set_option maxHeartbeats 8000000 in
set_option maxRecDepth 100000 in
theorem fareas_calls (f : Fc) (A : Option Addr) (c : Nat) (w : World) (hg : Gl w) (hit : ItsOk w A f.items) :
    Calls Tryz.prog 19 #[.agg #[.int .i64 f.shape, .int .i64 f.size, .int .i64 f.height, .slice A f.items.length c]] w fun e w' => e = .returned (.bool true) ∧ Below w.heap.size w w' := by
  have HF := hid (FaceAt.new w c hit)
  have HO := hid ((On.start hg).lay (.cells #[.int .i64 f.shape, .int .i64 f.size, .int .i64 f.height, .slice A f.items.length c] 25))
  clear hg hit
  go_enter Tryz.func19, Tryz.ntmps19
  go_wp2_with fail
  generalize w.alloc (.cells #[.int .i64 f.shape, .int .i64 f.size, .int .i64 f.height, .slice A f.items.length c] 25) = W at *
  refine (heavy_calls f A c W (unhid HF).ok).mono ?_
  rintro e w1 ⟨rfl, hb⟩
  have HF := hid ((unhid HF).below hb)
  have HO := hid ((unhid HO).next hb)
  clear hb
  cases hl : heavyF f with
  | true =>
    go_wp2_with fail
    refine (unhid HO).first.mono ?_
    rintro e w9 ⟨rfl, hb2⟩
    have HB2 := hid hb2
    clear hb2
    go_wp2_with fail
    go_ret
    exact ⟨rfl, unhid HB2⟩
  | false =>
    obtain ⟨c0, c1, c2, c3⟩ := (unhid HF).cells
    go_wp2_with fail
    refine (rvalid_calls f A c w1 (unhid HF).ok).mono ?_
    rintro e w2 ⟨rfl, hb⟩
    have HF := hid ((unhid HF).below hb)
    have HO := hid ((unhid HO).next hb)
    clear hb c0 c1 c2 c3
    obtain ⟨c0, c1, c2, c3⟩ := (unhid HF).cells
    cases hf : fcB f with
    | false =>
      go_wp2_with fail
      refine (unhid HO).first.mono ?_
      rintro e w9 ⟨rfl, hb2⟩
      have HB2 := hid hb2
      clear hb2
      go_wp2_with fail
      go_ret
      exact ⟨rfl, unhid HB2⟩

    | true =>
      have HFF := hid hf
      obtain ⟨z0, z1⟩ := heavy_small hl hf
      obtain ⟨s0, s1⟩ := size_bounds hf
      obtain ⟨h0, h1⟩ := heiF_bounds hf
      have HX := hid (pextent_calls f A c w2 (unhid HF).ok)
      rw [extR_ok hf] at HX
      clear hf hl
      go_wp2_with fail
      refine (unhid HX).mono ?_
      rintro e w3 ⟨rfl, hb⟩
      have HF := hid ((unhid HF).below hb)
      have HO := hid ((unhid HO).next hb)
      clear hb c0 c1 c2 c3 HX
      obtain ⟨c0, c1, c2, c3⟩ := (unhid HF).cells

      go_wp2_with fail
      refine (pareas_calls f A c w3 (unhid HF).ok (unhid HFF)).mono ?_
      rintro e w4 ⟨rfl, hb⟩
      have HF := hid ((unhid HF).below hb)
      have HO := hid ((unhid HO).next hb)
      clear hb c0 c1 c2 c3
      obtain ⟨c0, c1, c2, c3⟩ := (unhid HF).cells

      have HZ := hid (heap_alloc_new w4 (.cells #[.int .i64 0, .int .i64 0, .int .i64 0, .int .i64 0, .int .i64 0, .int .i64 0, .int .i64 0, .int .i64 0, .int .i64 0, .int .i64 0] 77))
      have HBA := hid (below_alloc w4 (.cells #[.int .i64 0, .int .i64 0, .int .i64 0, .int .i64 0, .int .i64 0, .int .i64 0, .int .i64 0, .int .i64 0, .int .i64 0, .int .i64 0] 77))
      go_upto_region 7 with (refine wpList_store_row rfl 77 (.tmp 6) (.tmp 39) rfl w4.heap.size (ints (areasL f)).toArray rfl rfl 77 _ (unhid HZ) (arr_size (areasL_len f)) (by simp [areasL_len]) (arr_one _) ?_)
      have HD := hid (setRow_heap _ _ _ (ints (areasL f)).toArray _ _ (unhid HZ))
      have hb := below_setRow (unhid HBA) (Nat.le_refl _) (ints (areasL f)).toArray
      generalize World.setRow _ w4.heap.size (ints (areasL f)).toArray = W5 at *
      have HF5 := hid ((unhid HF).below hb)
      have HO5 := hid ((unhid HO).next hb)
      clear hb c0 c1 c2 c3 HBA HZ
      generalize w4.heap.size = D at *
      have e0 : (ints (arrJ f 0)).toArray = #[Value.int .i64 0, .int .i64 0, .int .i64 0, .int .i64 0, .int .i64 0, .int .i64 0, .int .i64 0, .int .i64 0, .int .i64 0, .int .i64 0] := by rw [arrJ_zero]; rfl
      have e1 : (ints (runJ f 0)).toArray = #[Value.int .i64 0, .int .i64 0, .int .i64 0, .int .i64 0, .int .i64 0, .int .i64 0, .int .i64 0, .int .i64 0, .int .i64 0, .int .i64 0] := by rw [runJ_zero]; rfl
      have hu : ((W5.alloc (.cells #[.int .i64 0, .int .i64 0, .int .i64 0, .int .i64 0, .int .i64 0, .int .i64 0, .int .i64 0, .int .i64 0, .int .i64 0, .int .i64 0] 77)).alloc (.cells #[.int .i64 0, .int .i64 0, .int .i64 0, .int .i64 0, .int .i64 0, .int .i64 0, .int .i64 0, .int .i64 0, .int .i64 0, .int .i64 0] 77)).heap[W5.heap.size]? = some (.cells (ints (arrJ f 0)).toArray 77 (0, 0)) := by
        rw [e0, (below_alloc (W5.alloc (.cells #[.int .i64 0, .int .i64 0, .int .i64 0, .int .i64 0, .int .i64 0, .int .i64 0, .int .i64 0, .int .i64 0, .int .i64 0, .int .i64 0] 77)) (.cells #[.int .i64 0, .int .i64 0, .int .i64 0, .int .i64 0, .int .i64 0, .int .i64 0, .int .i64 0, .int .i64 0, .int .i64 0, .int .i64 0] 77)).block W5.heap.size (by simp)]
        exact heap_alloc_new _ _
      have hv : ((W5.alloc (.cells #[.int .i64 0, .int .i64 0, .int .i64 0, .int .i64 0, .int .i64 0, .int .i64 0, .int .i64 0, .int .i64 0, .int .i64 0, .int .i64 0] 77)).alloc (.cells #[.int .i64 0, .int .i64 0, .int .i64 0, .int .i64 0, .int .i64 0, .int .i64 0, .int .i64 0, .int .i64 0, .int .i64 0, .int .i64 0] 77)).heap[W5.heap.size + 1]? = some (.cells (ints (runJ f 0)).toArray 77 (0, 0)) := by
        rw [e1]
        have h := heap_alloc_new (W5.alloc (.cells #[.int .i64 0, .int .i64 0, .int .i64 0, .int .i64 0, .int .i64 0, .int .i64 0, .int .i64 0, .int .i64 0, .int .i64 0, .int .i64 0] 77)) (.cells #[.int .i64 0, .int .i64 0, .int .i64 0, .int .i64 0, .int .i64 0, .int .i64 0, .int .i64 0, .int .i64 0, .int .i64 0, .int .i64 0] 77)
        simpa using h
      have HU := hid hu
      have HV := hid hv
      have HB6 := hid (below_alloc' (below_alloc W5 (.cells #[.int .i64 0, .int .i64 0, .int .i64 0, .int .i64 0, .int .i64 0, .int .i64 0, .int .i64 0, .int .i64 0, .int .i64 0, .int .i64 0] 77)) (.cells #[.int .i64 0, .int .i64 0, .int .i64 0, .int .i64 0, .int .i64 0, .int .i64 0, .int .i64 0, .int .i64 0, .int .i64 0, .int .i64 0] 77))
      clear hu hv e0 e1
      go_upto_region 8 with (fail)
      generalize (W5.alloc (.cells #[.int .i64 0, .int .i64 0, .int .i64 0, .int .i64 0, .int .i64 0, .int .i64 0, .int .i64 0, .int .i64 0, .int .i64 0, .int .i64 0] 77)).alloc (.cells #[.int .i64 0, .int .i64 0, .int .i64 0, .int .i64 0, .int .i64 0, .int .i64 0, .int .i64 0, .int .i64 0, .int .i64 0, .int .i64 0] 77) = W6 at *
      obtain ⟨U, hUU⟩ : ∃ U, U = W5.heap.size := ⟨_, rfl⟩
      rw [← hUU] at HU HV HB6 ⊢
      have HUU := hid hUU
      clear hUU
      obtain ⟨sz, hsz⟩ : ∃ sz : Nat, sz = f.size.toNat := ⟨_, rfl⟩
      obtain ⟨hh, hhh⟩ : ∃ hh : Nat, hh = (heiF f).toNat := ⟨_, rfl⟩
      have HSZ := hid (show (sz : Int) = f.size by omega)
      have HHH := hid (show (hh : Int) = heiF f by omega)
      have HSN := hid hsz
      have HHN := hid hhh
      have hsz5 : sz ≤ 50 ∧ hh ≤ 50 := by omega
      clear hsz hhh
      go_wp2_with fail
      go_loopw [11] (fun jv wr => ∃ j : Nat, j ≤ hh ∧ jv = .int .i64 j ∧ wr.heap[U]? = some (.cells (ints (arrJ f j)).toArray 77 (0, 0)) ∧ wr.heap[U + 1]? = some (.cells (ints (runJ f j)).toArray 77 (0, 0)) ∧ Below U W5 wr) (fun jv _ => hh - (intOf jv).toNat)
      case atStart => exact ⟨0, Nat.zero_le _, rfl, unhid HU, unhid HV, unhid HB6⟩
      case round =>
        obtain ⟨j, hj, rfl, hu, hv, hbel⟩ := hrel
        have HU1 := hid hu
        have HV1 := hid hv
        have HB1 := hid hbel
        clear hu hv hbel
        by_cases hjl : j < hh
        · have hjh : (j : Int) < heiF f := by have := unhid HHH; omega
          go_wp2_with fail
          go_loopw [12] (fun iv wr => ∃ i : Nat, i ≤ sz ∧ iv = .int .i64 i ∧ wr.heap[U]? = some (.cells (ints (dotS f j i)).toArray 77 (0, 0)) ∧ wr.heap[U + 1]? = some (.cells (ints (runJ f j)).toArray 77 (0, 0)) ∧ Below U W5 wr) (fun iv _ => sz - (intOf iv).toNat)
          case atStart => exact ⟨0, Nat.zero_le _, rfl, by rw [dotS_zero]; exact unhid HU1, unhid HV1, unhid HB1⟩
          case round =>
            obtain ⟨i, hi, rfl, hu, hv, hbel⟩ := hrel
            have HU2 := hid hu
            have HV2 := hid hv
            have HB2 := hid hbel
            clear hu hv hbel
            by_cases hil : i < sz
            · have hif : (i : Int) < f.size := by have := unhid HSZ; omega
              have HF2 := hid ((unhid HF5).below (show Below W5.heap.size W5 wr by rw [← unhid HUU]; exact unhid HB2))
              obtain ⟨c0, c1, c2, c3⟩ := (unhid HF2).cells
              have HAT := hid (at_calls f A c (i : Int) (j : Int) wr (unhid HF2).ok)
              rw [atR_in (unhid HFF) ⟨Int.natCast_nonneg _, hif, Int.natCast_nonneg _, hjh⟩] at HAT
              have hcb := colI_bounds (unhid HFF) (i : Int) (j : Int)
              obtain ⟨cv, hcv⟩ := Int.eq_ofNat_of_zero_le hcb.1
              have hcv9 : cv < 10 := by omega
              rw [hcv] at HAT
              have HNX := hid (dotS_succ (f := f) (j := j) (i := i) hcv9 hcv)
              have hat := dotS_at f j i hcv9
              obtain ⟨a0, a1⟩ := areaJ_bounds f (cv : Int) j
              obtain ⟨b0, b1⟩ := cntK_bounds (rowC f j) (cv : Int) i
              have hm : (j : Int) * (f.size.toNat : Int) ≤ 50 * 50 := Int.mul_le_mul (by omega) (by omega) (by omega) (by omega)
              obtain ⟨x, hx⟩ : ∃ x, x = areaJ f (cv : Int) j + cntK (rowC f j) (cv : Int) i := ⟨_, rfl⟩
              have hxb : 0 ≤ x ∧ x ≤ 100000 := by omega
              rw [← hx] at hat HNX
              clear hx a0 a1 b0 b1 hm hcb hcv
              obtain ⟨y0, y0'⟩ := w64 (n := x + 1) (by omega) (by omega)
              have hc1 : ¬ (cv : Int) < 0 := by omega
              have hc2 : ¬ (9 : Int) < (cv : Int) := by omega
              have hc3 : (cv : Int) < 10 := by omega
              go_wp2_with fail
              refine (unhid HAT).mono ?_
              rintro e w7 ⟨rfl, hb7⟩
              have hUl := (Array.getElem?_eq_some_iff.1 (unhid HU2)).1
              have hVl := (Array.getElem?_eq_some_iff.1 (unhid HV2)).1
              have HU3 := hid ((hb7.block U hUl).trans (unhid HU2))
              have HV3 := hid ((hb7.block (U + 1) hVl).trans (unhid HV2))
              have HB3 := hid ((unhid HB2).trans (hb7.mono (Nat.le_of_lt hUl)))
              have m0 := rowd_cell (unhid HU3) hat
              have m1 := rowd_free (unhid HU3) cv
              clear hb7 c0 c1 c2 c3 hUl hVl hat HAT
              go_wp2_with fail
              go_roundw
              case rel => exact ⟨i + 1, by omega, by go_num, by rw [unhid HNX]; exact rowd_set (unhid HU3) _ _, (heap_setCell_other _ _ _ _ (by dsimp only; omega)).trans (unhid HV3), Below.setCell (unhid HB3) (Nat.le_refl _) _⟩
              case measure => simp [intOf]; omega
            · obtain rfl : i = sz := by omega
              have hif : ¬ (i : Int) < f.size := by have := unhid HSZ; omega
              have HU3 := hid (show wr.heap[U]? = some (.cells (ints (arrJ f (j + 1))).toArray 77 (0, 0)) by rw [← dotS_end, ← unhid HSN]; exact unhid HU2)
              have HF2 := hid ((unhid HF5).below (show Below W5.heap.size W5 wr by rw [← unhid HUU]; exact unhid HB2))
              obtain ⟨c0, c1, c2, c3⟩ := (unhid HF2).cells
              go_wp2_with fail
              refine (prow_ok f A c (j : Int) wr (unhid HF2).ok (unhid HFF) ⟨Int.natCast_nonneg _, hjh⟩).mono ?_
              rintro e w4' ⟨hb4, A1, k1, rfl, hr1, hfr⟩
              have hUl := (Array.getElem?_eq_some_iff.1 (unhid HU3)).1
              have hVl := (Array.getElem?_eq_some_iff.1 (unhid HV2)).1
              have HU4 := hid ((hb4.block U hUl).trans (unhid HU3))
              have HV4 := hid ((hb4.block (U + 1) hVl).trans (unhid HV2))
              have HB4 := hid ((unhid HB2).trans (hb4.mono (Nat.le_of_lt hUl)))
              have HR1 := hid hr1
              have HFR := hid (show ∀ a, A1 = some a → U + 1 < a.block from fun a ha => Nat.lt_of_lt_of_le hVl (hfr a ha))
              clear hb4 hr1 hfr c0 c1 c2 c3 hUl hVl
              rw [rowI_rowC] at HR1 ⊢
              have HEACH := hid (runs_ok (rowC f j) f.size.toNat).each
              have HNX := hid (fun (r cv : Nat) (hr : r < (runsK (rowC f j) f.size.toNat).length) (h1 : 1 ≤ cv) (h9 : cv < 10) hc => runS_next (f := f) (j := j) hr h1 h9 hc)
              have HEND := hid (runS_end f j)
              have HCB := hid (fun i => colI_bounds (unhid HFF) i (j : Int))
              have HVBN := hid (fun (r v : Nat) => runV_bounds (unhid HFF) (show j ≤ 200 by omega) r v)
              have HSTART := hid (runS_zero f j)
              have hrl := runs_len (rowC f j) f.size.toNat
              have hszf : f.size.toNat = i := by have := unhid HSN; omega
              rw [hszf] at HR1 HEACH HNX HEND hrl ⊢
              obtain ⟨R, hR⟩ : ∃ R, R = runsK (rowC f j) i := ⟨_, rfl⟩
              have HRR := hid hR
              rw [← hR] at HR1 HEACH hrl HEND ⊢
              clear hR hszf
              go_wp2_with fail
              go_loopw [17] (fun rv wr => ∃ r : Nat, r ≤ R.length ∧ rv = .int .i64 r ∧ wr.heap[U]? = some (.cells (ints (arrJ f (j + 1))).toArray 77 (0, 0)) ∧ wr.heap[U + 1]? = some (.cells (ints (runS f j r)).toArray 77 (0, 0)) ∧ Rd wr A1 (rns R) ∧ Below U W5 wr) (fun rv _ => R.length - (intOf rv).toNat)
              case atStart => exact ⟨0, Nat.zero_le _, rfl, unhid HU4, by rw [unhid HSTART]; exact unhid HV4, unhid HR1, unhid HB4⟩
              case round =>
                obtain ⟨r, hr, rfl, hu, hv, hrd, hbel⟩ := hrel
                have HU5 := hid hu
                have HV5 := hid hv
                have HR5 := hid hrd
                have HB5 := hid hbel
                clear hu hv hrd hbel
                by_cases hrl2 : r < R.length
                · obtain ⟨b, off, rfl, hb, hc⟩ := (unhid HR5) (rns_ne hrl2)
                  obtain ⟨d0, d1, d2⟩ := rns_cells hc hrl2
                  have hex := (unhid HEACH) R[r] (List.getElem_mem hrl2)
                  have HXX := hid (show ∀ h : r < (runsK (rowC f j) i).length, (runsK (rowC f j) i)[r] = R[r] from fun h => by simp [unhid HRR])
                  have hbO := (unhid HFR) _ rfl
                  dsimp only at hbO
                  obtain ⟨x, hx⟩ : ∃ x, x = R[r] := ⟨_, rfl⟩
                  rw [← hx] at d0 d1 d2 hex HXX
                  clear hx hc d0
                  obtain ⟨ex0, ex1, ex2, ex3⟩ := hex
                  obtain ⟨fi, hfi⟩ := Int.eq_ofNat_of_zero_le ex0
                  obtain ⟨ec1, ec2⟩ := ex3 fi (by omega) (by omega)
                  have hcb := (unhid HCB) (fi : Int)
                  have hcol : 1 ≤ x.col ∧ x.col ≤ 9 := by
                    have e : rowC f j fi = colI f (fi : Int) (j : Int) := rfl
                    omega
                  obtain ⟨cv, hcv⟩ := Int.eq_ofNat_of_zero_le (show 0 ≤ x.col by omega)
                  have hcv9 : 1 ≤ cv ∧ cv < 10 := by omega
                  have hrl3 : r < (runsK (rowC f j) i).length := by rw [← unhid HRR]; exact hrl2
                  have hnext := (unhid HNX) r cv hrl3 hcv9.1 hcv9.2 (by rw [(unhid HXX) hrl3]; exact hcv)
                  rw [(unhid HXX) hrl3] at hnext
                  have HNEXT := hid hnext
                  have vb1 := (unhid HVBN) r cv
                  have hUl := (Array.getElem?_eq_some_iff.1 (unhid HU5)).1
                  have hcv10 : (cv : Int) < 10 := by omega
                  rw [hcv] at d2
                  have hcn : 1 ≤ x.cnt ∧ x.cnt ≤ f.size := by have := unhid HSZ; omega
                  clear hnext ex0 ex3 ec1 ec2 hcb hcol hfi hcv ex1 ex2 HXX
                  obtain ⟨p, hp⟩ : ∃ p, p = runV f j r cv := ⟨_, rfl⟩
                  have hat1 := runS_at f j r (v := cv) hcv9.2
                  rw [← hp] at vb1 hat1 HNEXT
                  clear hp
                  obtain ⟨y0, y0'⟩ := w64 (n := p + x.cnt) (by omega) (by omega)
                  obtain ⟨cnt, hcnt⟩ : ∃ cnt, cnt = x.cnt := ⟨_, rfl⟩
                  rw [← hcnt] at d1 hcn HNEXT y0 y0'
                  clear hcnt
                  have hq1 : ¬ (cv : Int) < 1 := by omega
                  have hq2 : ¬ (9 : Int) < (cv : Int) := by omega
                  have hq3 : ¬ cnt < 1 := by omega
                  have hq4 : ¬ f.size < cnt := by omega
                  have m0 := rowd_cell (unhid HV5) hat1
                  have m1 := rowd_free (unhid HV5) cv
                  go_wp2_with fail
                  refine wp_region_noPanic ?_
                  refine wp_region_E (S := fun w' => w'.cell? ⟨b, off + r * 3 + 2, none⟩ = some (.int .i64 cv) ∧ w'.cell? ⟨b, off + r * 3 + 1, none⟩ = some (.int .i64 cnt) ∧ w'.cell? ⟨U + 1, cv, none⟩ = some (.int .i64 p)) 14 15 rfl (by kernel_rfl) (by kernel_rfl) ⟨d2, d1, m0⟩ ?_
                  intro hSE
                  (refine WE_take (i := 0) (v := ?_) rfl (by kernel_rfl) (by decide) (by kernel_rfl) (by kernel_rfl) (fun _ _ _ h => h) (by rfl) hSE ?_ ?_; rotate_left; (focus (intro w hSw; (try dsimp only at hSw); go_simp; (try with_reducible rfl))); simp only [Act.put, List.setIfInBounds_toArray, List.set_cons_zero, List.set_cons_succ])
                  (refine WE_take (i := 1) (v := ?_) rfl (by kernel_rfl) (by decide) (by kernel_rfl) (by kernel_rfl) (fun _ _ _ h => h) (by rfl) hSE ?_ ?_; rotate_left; (focus (intro w hSw; (try dsimp only at hSw); go_simp; (try with_reducible rfl))); simp only [Act.put, List.setIfInBounds_toArray, List.set_cons_zero, List.set_cons_succ])
                  (refine WE_take (i := 2) (v := ?_) rfl (by kernel_rfl) (by decide) (by kernel_rfl) (by kernel_rfl) (fun _ _ _ h => h) (by rfl) hSE ?_ ?_; rotate_left; (focus (intro w hSw; (try dsimp only at hSw); go_simp; (try with_reducible rfl))); simp only [Act.put, List.setIfInBounds_toArray, List.set_cons_zero, List.set_cons_succ])
                  (refine WE_take (i := 3) (v := ?_) rfl (by kernel_rfl) (by decide) (by kernel_rfl) (by kernel_rfl) (fun _ _ _ h => h) (by rfl) hSE ?_ ?_; rotate_left; (focus (intro w hSw; (try dsimp only at hSw); go_simp; (try with_reducible rfl))); simp only [Act.put, List.setIfInBounds_toArray, List.set_cons_zero, List.set_cons_succ])
                  (refine WE_take (i := 4) (v := ?_) rfl (by kernel_rfl) (by decide) (by kernel_rfl) (by kernel_rfl) (fun _ _ _ h => h) (by rfl) hSE ?_ ?_; rotate_left; (focus (intro w hSw; (try dsimp only at hSw); go_simp; (try with_reducible rfl))); simp only [Act.put, List.setIfInBounds_toArray, List.set_cons_zero, List.set_cons_succ])
                  (refine WE_take (i := 5) (v := ?_) rfl (by kernel_rfl) (by decide) (by kernel_rfl) (by kernel_rfl) (fun _ _ _ h => h) (by rfl) hSE ?_ ?_; rotate_left; (focus (intro w hSw; (try dsimp only at hSw); go_simp; (try with_reducible rfl))); simp only [Act.put, List.setIfInBounds_toArray, List.set_cons_zero, List.set_cons_succ])
                  (refine WE_take (i := 6) (v := ?_) rfl (by kernel_rfl) (by decide) (by kernel_rfl) (by kernel_rfl) (fun _ _ _ h => h) (by rfl) hSE ?_ ?_; rotate_left; (focus (intro w hSw; (try dsimp only at hSw); go_simp; (try with_reducible rfl))); simp only [Act.put, List.setIfInBounds_toArray, List.set_cons_zero, List.set_cons_succ])
                  (refine WE_take (i := 7) (v := ?_) rfl (by kernel_rfl) (by decide) (by kernel_rfl) (by kernel_rfl) (fun _ _ _ h => h) (by rfl) hSE ?_ ?_; rotate_left; (focus (intro w hSw; (try dsimp only at hSw); go_simp; (try with_reducible rfl))); simp only [Act.put, List.setIfInBounds_toArray, List.set_cons_zero, List.set_cons_succ])
                  (refine WE_take (i := 8) (v := ?_) rfl (by kernel_rfl) (by decide) (by kernel_rfl) (by kernel_rfl) (fun _ _ _ h => h) (by rfl) hSE ?_ ?_; rotate_left; (focus (intro w hSw; (try dsimp only at hSw); go_simp; (try with_reducible rfl))); simp only [Act.put, List.setIfInBounds_toArray, List.set_cons_zero, List.set_cons_succ])
                  (refine WE_take (i := 9) (v := ?_) rfl (by kernel_rfl) (by decide) (by kernel_rfl) (by kernel_rfl) (fun _ _ _ h => h) (by rfl) hSE ?_ ?_; rotate_left; (focus (intro w hSw; (try dsimp only at hSw); go_simp; (try with_reducible rfl))); simp only [Act.put, List.setIfInBounds_toArray, List.set_cons_zero, List.set_cons_succ])
                  (refine WE_take (i := 10) (v := ?_) rfl (by kernel_rfl) (by decide) (by kernel_rfl) (by kernel_rfl) (fun _ _ _ h => h) (by rfl) hSE ?_ ?_; rotate_left; (focus (intro w hSw; (try dsimp only at hSw); go_simp; (try with_reducible rfl))); simp only [Act.put, List.setIfInBounds_toArray, List.set_cons_zero, List.set_cons_succ])
                  (refine WE_take (i := 11) (v := ?_) rfl (by kernel_rfl) (by decide) (by kernel_rfl) (by kernel_rfl) (fun _ _ _ h => h) (by rfl) hSE ?_ ?_; rotate_left; (focus (intro w hSw; (try dsimp only at hSw); go_simp; (try with_reducible rfl))); simp only [Act.put, List.setIfInBounds_toArray, List.set_cons_zero, List.set_cons_succ])
                  (refine WE_take (i := 12) (v := ?_) rfl (by kernel_rfl) (by decide) (by kernel_rfl) (by kernel_rfl) (fun _ _ _ h => h) (by rfl) hSE ?_ ?_; rotate_left; (focus (intro w hSw; (try dsimp only at hSw); go_simp; (try with_reducible rfl))); simp only [Act.put, List.setIfInBounds_toArray, List.set_cons_zero, List.set_cons_succ])
                  (refine WE_take (i := 13) (v := ?_) rfl (by kernel_rfl) (by decide) (by kernel_rfl) (by kernel_rfl) (fun _ _ _ h => h) (by rfl) hSE ?_ ?_; rotate_left; (focus (intro w hSw; (try dsimp only at hSw); go_simp; (try with_reducible rfl))); simp only [Act.put, List.setIfInBounds_toArray, List.set_cons_zero, List.set_cons_succ])
                  (refine WE_last rfl (by kernel_rfl) (by kernel_rfl) (by kernel_rfl) ?_; intro K hK; go_simp; refine hK.out _ _ (NoPanic.normal ?_); clear hK K)
                  have HV7 := hid (show ((wr.setCell ⟨U + 1, cv, none⟩ (.int .i64 (p + cnt))).drew).heap[U + 1]? = some (.cells (ints ((runS f j r).set cv (p + cnt))).toArray 77 (0, 0)) from rowd_set (unhid HV5) _ _)
                  have HU7 := hid (show ((wr.setCell ⟨U + 1, cv, none⟩ (.int .i64 (p + cnt))).drew).heap[U]? = some (.cells (ints (arrJ f (j + 1))).toArray 77 (0, 0)) from (heap_setCell_other _ _ _ _ (by dsimp only; omega)).trans (unhid HU5))
                  have HR7 := hid (show Rd ((wr.setCell ⟨U + 1, cv, none⟩ (.int .i64 (p + cnt))).drew) (some ⟨b, off, none⟩) (rns R) from rd_setd (unhid HR5) (fun a ha => by cases ha; dsimp only; omega) cv _)
                  have HB7 := hid (show Below U W5 ((wr.setCell ⟨U + 1, cv, none⟩ (.int .i64 (p + cnt))).drew) from Below.drew (Below.setCell (unhid HB5) (by dsimp only; omega) _))
                  generalize (wr.setCell ⟨U + 1, cv, none⟩ (.int .i64 (p + cnt))).drew = W7 at *
                  clear m0 m1 d1 d2 hb
                  go_wp2_with fail
                  go_roundw
                  case rel => exact ⟨r + 1, by omega, by go_num, unhid HU7, by rw [unhid HNEXT]; exact unhid HV7, unhid HR7, unhid HB7⟩
                  case measure => simp [intOf]; omega
                · obtain rfl : r = R.length := by omega
                  go_wp2_with fail
                  go_roundw
                  case rel => exact ⟨j + 1, by omega, by go_num, unhid HU5, by rw [← unhid HEND]; exact unhid HV5, unhid HB5⟩
                  case measure => simp [intOf]; omega
        · obtain rfl : j = hh := by omega
          have hjn : ¬ (j : Int) < heiF f := by have := unhid HHH; omega
          have hDl : D < W5.heap.size := (Array.getElem?_eq_some_iff.1 (unhid HD)).1
          have HDL := hid hDl
          have HU8 := hid (show wr.heap[U]? = some (.cells (ints (areasL f)).toArray 77 (0, 0)) by rw [← arrJ_areas, ← unhid HHN]; exact unhid HU1)
          have HV8 := hid (show wr.heap[U + 1]? = some (.cells (ints (runJ f (heiF f).toNat)).toArray 77 (0, 0)) by rw [← unhid HHN]; exact unhid HV1)
          have HAB := hid (fun (v : Int) => areaP_bounds (unhid HFF) v)
          have HKB := hid (fun (v : Nat) => allK_bounds (unhid HFF) v)
          clear hDl
          go_wp2_with fail
          go_loopw [10, 18] (fun av cv wr => ∃ v : Nat, v ≤ 10 ∧ av = .int .i64 (allK f v) ∧ cv = .int .i64 v ∧ wr.heap[U]? = some (.cells (ints (areasL f)).toArray 77 (0, 0)) ∧ wr.heap[U + 1]? = some (.cells (ints (runJ f (heiF f).toNat)).toArray 77 (0, 0)) ∧ Below U W5 wr) (fun _ cv _ => 10 - (intOf cv).toNat)
          case atStart => exact ⟨0, by omega, rfl, rfl, unhid HU8, unhid HV8, unhid HB1⟩
          case round =>
            obtain ⟨v, hv10, rfl, rfl, hu, hv, hbel⟩ := hrel
            have HU9 := hid hu
            have HV9 := hid hv
            have HB9 := hid hbel
            clear hu hv hbel
            have HD9 := hid (((show Below W5.heap.size W5 wr by rw [← unhid HUU]; exact unhid HB9).block D (unhid HDL)).trans (unhid HD))
            by_cases hvl : v < 10
            · have m0 := rowd_cell (unhid HU9) (areasL_at f hvl)
              have m1 := rowd_cell (unhid HD9) (areasL_at f hvl)
              have m2 : 1 ≤ v → wr.cell? ⟨U + 1, v, none⟩ = some (.int .i64 (areaP f (v : Int))) := fun h1 => rowd_cell (unhid HV9) (runJ_at f (heiF f).toNat hvl h1)
              have hxb := (unhid HAB) (v : Int)
              have hkb := (unhid HKB) v
              have HS := hid (show allK f (v + 1) = allK f v + areaP f (v : Int) from rfl)
              obtain ⟨x, hx⟩ : ∃ x, x = areaP f (v : Int) := ⟨_, rfl⟩
              rw [← hx] at m0 m1 m2 hxb HS
              clear hx
              obtain ⟨y, hy⟩ : ∃ y, y = allK f v := ⟨_, rfl⟩
              rw [← hy] at hkb HS ⊢
              clear hy
              obtain ⟨y0, y0'⟩ := w64 (n := y + x) (by omega) (by omega)
              have hvi : (v : Int) < 10 := by omega
              have hxx : (x != x) = false := by simp
              by_cases h0 : 1 ≤ v
              · have m3 := m2 h0
                clear m2
                have := decide_eq_true (show (0 : Int) < (v : Int) by omega)
                have hd2 : decide (0 < v) = true := decide_eq_true (by omega)
                go_wp2_with fail
                go_quiet (fail)
                go_wp2_with fail
                go_roundw
                case rel => exact ⟨v + 1, by omega, by rw [unhid HS], by go_num, by first | exact unhid HU9 | simpa using unhid HU9, by first | exact unhid HV9 | simpa using unhid HV9, by first | exact below_drewN' (unhid HB9) _ | exact Below.drew (unhid HB9) | exact unhid HB9⟩
                case measure => simp [intOf]; omega
              · clear m2
                have := decide_eq_false (show ¬ ((0 : Int) < (v : Int)) by omega)
                have hd2 : decide (0 < v) = false := decide_eq_false (by omega)
                go_wp2_with fail
                go_quiet (fail)
                go_wp2_with fail
                go_roundw
                case rel => exact ⟨v + 1, by omega, by rw [unhid HS], by go_num, by first | exact unhid HU9 | simpa using unhid HU9, by first | exact unhid HV9 | simpa using unhid HV9, by first | exact below_drewN' (unhid HB9) _ | exact Below.drew (unhid HB9) | exact unhid HB9⟩
                case measure => simp [intOf]; omega
            · obtain rfl : v = 10 := by omega
              have HF9 := hid ((unhid HF5).below (show Below W5.heap.size W5 wr by rw [← unhid HUU]; exact unhid HB9))
              have HO9 := hid ((unhid HO5).next (show Below W5.heap.size W5 wr by rw [← unhid HUU]; exact unhid HB9))
              obtain ⟨c0, c1, c2, c3⟩ := (unhid HF9).cells
              obtain ⟨al, hal⟩ : ∃ al, al = allK f 10 := ⟨_, rfl⟩
              have HAL := hid (hal.trans (allK_all (unhid HFF)))
              rw [← hal] at ⊢
              clear hal
              go_wp2_with fail
              refine (pscreens_calls f A c wr (unhid HF9).ok (unhid HFF)).mono ?_
              rintro e w7 ⟨hb7, A3, k3, rfl, hr3⟩
              have HR3 := hid hr3
              have HO7 := hid ((unhid HO9).next hb7)
              have HD7 := hid ((hb7.block D (Array.getElem?_eq_some_iff.1 (unhid HD9)).1).trans (unhid HD9))
              have HSL := hid (screensK_len f 8)
              clear hb7 hr3 c0 c1 c2 c3
              go_wp2_with fail
              go_loopw [20, 21] (fun kv cv wr => ∃ v : Nat, v ≤ 8 ∧ kv = .int .i64 ((screensK f v).length : Nat) ∧ cv = .int .i64 ((v + 1 : Nat) : Int) ∧ wr = w7) (fun _ cv _ => 9 - (intOf cv).toNat)
              case atStart => exact ⟨0, by omega, rfl, rfl, rfl⟩
              case round =>
                obtain ⟨v, hv8, rfl, rfl, rfl⟩ := hrel
                have hsl := unhid HSL
                by_cases hvl : v < 8
                · have m0 := rowd_cell (unhid HD7) (areasL_at f (show v + 1 < 10 by omega))
                  have hvi : ((v + 1 : Nat) : Int) ≤ 8 := by omega
                  have hvj : ((v + 1 : Nat) : Int) < 10 := by omega
                  have hsv := screensK_len f v
                  by_cases hx : 0 < areaP f ((v + 1 : Nat) : Int)
                  · obtain ⟨ha, hb⟩ := screensK_at hvl hx
                    have HY := hid (screensK_yes hx)
                    obtain ⟨bb, off, rfl, hbb, hc⟩ := (unhid HR3) (ints_ne ha)
                    have m1 := hc _ _ (ints_at (screensK f 8) _ ha)
                    rw [(List.getElem?_eq_some_iff.1 hb).2] at m1
                    clear hc hb
                    obtain ⟨x, hxe⟩ : ∃ x, x = areaP f ((v + 1 : Nat) : Int) := ⟨_, rfl⟩
                    rw [← hxe] at m0 hx
                    clear hxe
                    obtain ⟨k, hk⟩ : ∃ k, k = (screensK f v).length := ⟨_, rfl⟩
                    rw [← hk] at m1 ha hsv HY ⊢
                    clear hk
                    obtain ⟨n8, hn8⟩ : ∃ n8, n8 = (screensK f 8).length := ⟨_, rfl⟩
                    rw [← hn8] at ha hsl ⊢
                    clear hn8
                    obtain ⟨v1, hv1⟩ : ∃ v1, v1 = v + 1 := ⟨_, rfl⟩
                    rw [← hv1] at m0 m1 hvi hvj HY ⊢
                    have HV1 := hid hv1
                    clear hv1
                    have hxx : ((v1 : Int) != (v1 : Int)) = false := by simp
                    have hkn : ¬ (n8 : Int) ≤ (k : Int) := by omega
                    have hkn2 : (k : Int) < (n8 : Int) := by omega
                    go_wp2_with fail
                    go_roundw
                    case rel => exact ⟨v + 1, by omega, by rw [← unhid HV1, unhid HY]; go_num, by rw [← unhid HV1]; go_num, by first | rfl | trivial⟩
                    case measure => have := unhid HV1; simp [intOf]; omega
                  · have HY := hid (screensK_no hx)
                    obtain ⟨x, hxe⟩ : ∃ x, x = areaP f ((v + 1 : Nat) : Int) := ⟨_, rfl⟩
                    rw [← hxe] at m0 hx
                    clear hxe
                    obtain ⟨k, hk⟩ : ∃ k, k = (screensK f v).length := ⟨_, rfl⟩
                    have HK := hid hk
                    rw [← hk] at hsv ⊢
                    clear hk
                    obtain ⟨v1, hv1⟩ : ∃ v1, v1 = v + 1 := ⟨_, rfl⟩
                    rw [← hv1] at m0 hvi hvj HY ⊢
                    have HV1 := hid hv1
                    clear hv1
                    go_wp2_with fail
                    go_roundw
                    case rel => exact ⟨v + 1, by omega, by rw [← unhid HV1, unhid HY, ← unhid HK], by rw [← unhid HV1]; go_num, by first | rfl | trivial⟩
                    case measure => have := unhid HV1; simp [intOf]; omega
                · obtain rfl : v = 8 := by omega
                  have hm0 : (1 : Int) * 1 ≤ f.size * heiF f := Int.mul_le_mul (by omega) (by omega) (by omega) (by omega)
                  have hm1 : f.size * heiF f ≤ 200 * 200 := Int.mul_le_mul (by omega) (by omega) (by omega) (by omega)
                  obtain ⟨q, hq⟩ : ∃ q, q = f.size * heiF f := ⟨_, rfl⟩
                  have hmul : IntKind.i64.wrap (f.size * heiF f) = q := by rw [← hq]; exact IntWalk.i64_in _ (by omega)
                  have hal : (al == q) = true := by have := unhid HAL; rw [beq_iff_eq, hq]; exact this
                  clear hq hm0 hm1
                  obtain ⟨n8, hn8⟩ : ∃ n8, n8 = (screensK f 8).length := ⟨_, rfl⟩
                  rw [← hn8] at hsl ⊢
                  clear hn8
                  have hkk : ((n8 : Int) == (n8 : Int)) = true := by simp
                  go_wp2_with fail
                  refine (unhid HO7).first.mono ?_
                  rintro e w9 ⟨rfl, hb2⟩
                  have HB2 := hid hb2
                  clear hb2
                  go_wp2_with fail
                  go_ret
                  exact ⟨rfl, unhid HB2⟩
end Go.Proofs.YtmagidoodlkeoaaGreatDoor
