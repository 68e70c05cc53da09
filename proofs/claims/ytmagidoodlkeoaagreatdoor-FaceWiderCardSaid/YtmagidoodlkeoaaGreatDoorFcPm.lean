/-
  Panel of the reference.
-/
import Derived.Test.YtmagidoodlkeoaaGreatDoorFcPl
import Derived.Test.YtmagidoodlkeoaaGreatDoorAnyE
set_option linter.unusedSimpArgs false
set_option linter.unusedVariables false
namespace Go.Proofs.YtmagidoodlkeoaaGreatDoor
open Go.RowKit Go.Deep

set_option maxHeartbeats 8000000 in
set_option maxRecDepth 100000 in
theorem rpanel_calls (ls : List (List UInt8)) (A : Option Addr) (c : Nat) (unit ground ink : Int) (w : World) (hls : StrsOk w A ls) :
    Calls Tryz.prog 43 #[.slice A ls.length c, .int .i64 unit, .int .i64 ground, .int .i64 ink] w (panR ls unit ground ink w) := by
  have hn := hls.n
  obtain ⟨i0, hi7, hz0, hz1, hz2⟩ := info_parts info_item
  have HL := hid (fun (W : World) (h : Below w.heap.size w W) => hls.below h)
  clear hls
  have HP := hid (pn_start w)
  cases ha : argsP ls unit ground ink with
  | false =>
    have HPN := hid (panN_args ha)
    simp only [argsP, Bool.and_eq_false_iff, decide_eq_false_iff_not] at ha
    go_enter Tryz.func43, Tryz.ntmps43
    go_upto_region 1 with (fail)
    change Code.wp _ _ _ _ (w.alloc (.cells (fi 0 0 0 (.slice none 0 0)) 25))
    generalize w.alloc (.cells (fi 0 0 0 (.slice none 0 0)) 25) = W at *
    obtain ⟨B, hB⟩ : ∃ B, B = w.heap.size := ⟨_, rfl⟩
    rw [← hB] at HP ⊢
    clear hB
    by_cases q0 : ls.length < 1
    · have d1 : (ls.length : Int) < 1 := by omega
      clear ha
      go_upto_region 2 with (go_at_call 73; refine (rwithin_calls _ _ _ _).mono ?_; rintro e w' ⟨rfl, rfl⟩)
      go_wp2_with (refine wpList_store_row rfl 25 (.tmp 8) (.tmp 49) rfl B (fi 0 0 0 (.slice none 0 0)) rfl rfl 25 _ (unhid HP).res (fi_size _ _ _ _) rfl (fi_one _ _ _ _ _ _) ?_)
      (try simp only [Exit.inBlock, Exit.then])
      refine bodyPost_ret_by (v := .tuple #[.agg (fi 0 0 0 (.slice none 0 0)), .int .i64 2]) (results_cell_row_tmp Tryz.results43 _ _ B 25 (fi 0 0 0 (.slice none 0 0)) (0, 0) _ _ rfl rfl (setRow_heap _ _ _ _ _ _ (unhid HP).res) Tryz.underlying25 rfl (fi_size _ _ _ _)) rfl ?_
      exact panR_no (unhid HPN) (by decide) (below_setRow (unhid HP).below (by have := (unhid HP).hB; omega) _)

    have d1 : ¬ (ls.length : Int) < 1 := by omega
    by_cases q1 : 8 < ls.length
    · have d2 : (8 : Int) < (ls.length : Int) := by omega
      clear ha
      go_upto_region 2 with (go_at_call 73; refine (rwithin_calls _ _ _ _).mono ?_; rintro e w' ⟨rfl, rfl⟩)
      go_wp2_with (refine wpList_store_row rfl 25 (.tmp 8) (.tmp 49) rfl B (fi 0 0 0 (.slice none 0 0)) rfl rfl 25 _ (unhid HP).res (fi_size _ _ _ _) rfl (fi_one _ _ _ _ _ _) ?_)
      (try simp only [Exit.inBlock, Exit.then])
      refine bodyPost_ret_by (v := .tuple #[.agg (fi 0 0 0 (.slice none 0 0)), .int .i64 2]) (results_cell_row_tmp Tryz.results43 _ _ B 25 (fi 0 0 0 (.slice none 0 0)) (0, 0) _ _ rfl rfl (setRow_heap _ _ _ _ _ _ (unhid HP).res) Tryz.underlying25 rfl (fi_size _ _ _ _)) rfl ?_
      exact panR_no (unhid HPN) (by decide) (below_setRow (unhid HP).below (by have := (unhid HP).hB; omega) _)

    have d2 : ¬ (8 : Int) < (ls.length : Int) := by omega
    by_cases q2 : 1 ≤ unit ∧ unit ≤ 200
    rotate_left
    · have d3 : decide (1 ≤ unit ∧ unit ≤ 200) = false := decide_eq_false q2
      clear ha
      go_upto_region 2 with (go_at_call 73; refine (rwithin_calls _ _ _ _).mono ?_; rintro e w' ⟨rfl, rfl⟩)
      go_wp2_with (refine wpList_store_row rfl 25 (.tmp 8) (.tmp 49) rfl B (fi 0 0 0 (.slice none 0 0)) rfl rfl 25 _ (unhid HP).res (fi_size _ _ _ _) rfl (fi_one _ _ _ _ _ _) ?_)
      (try simp only [Exit.inBlock, Exit.then])
      refine bodyPost_ret_by (v := .tuple #[.agg (fi 0 0 0 (.slice none 0 0)), .int .i64 2]) (results_cell_row_tmp Tryz.results43 _ _ B 25 (fi 0 0 0 (.slice none 0 0)) (0, 0) _ _ rfl rfl (setRow_heap _ _ _ _ _ _ (unhid HP).res) Tryz.underlying25 rfl (fi_size _ _ _ _)) rfl ?_
      exact panR_no (unhid HPN) (by decide) (below_setRow (unhid HP).below (by have := (unhid HP).hB; omega) _)

    have d3 : decide (1 ≤ unit ∧ unit ≤ 200) = true := decide_eq_true q2
    by_cases q3 : 1 ≤ ground ∧ ground ≤ 8
    rotate_left
    · have d4 : decide (1 ≤ ground ∧ ground ≤ 8) = false := decide_eq_false q3
      clear ha
      go_upto_region 2 with (go_at_call 73; refine (rwithin_calls _ _ _ _).mono ?_; rintro e w' ⟨rfl, rfl⟩)
      go_wp2_with (refine wpList_store_row rfl 25 (.tmp 8) (.tmp 49) rfl B (fi 0 0 0 (.slice none 0 0)) rfl rfl 25 _ (unhid HP).res (fi_size _ _ _ _) rfl (fi_one _ _ _ _ _ _) ?_)
      (try simp only [Exit.inBlock, Exit.then])
      refine bodyPost_ret_by (v := .tuple #[.agg (fi 0 0 0 (.slice none 0 0)), .int .i64 2]) (results_cell_row_tmp Tryz.results43 _ _ B 25 (fi 0 0 0 (.slice none 0 0)) (0, 0) _ _ rfl rfl (setRow_heap _ _ _ _ _ _ (unhid HP).res) Tryz.underlying25 rfl (fi_size _ _ _ _)) rfl ?_
      exact panR_no (unhid HPN) (by decide) (below_setRow (unhid HP).below (by have := (unhid HP).hB; omega) _)

    have d4 : decide (1 ≤ ground ∧ ground ≤ 8) = true := decide_eq_true q3
    by_cases q4 : 1 ≤ ink ∧ ink ≤ 8
    rotate_left
    · have d5 : decide (1 ≤ ink ∧ ink ≤ 8) = false := decide_eq_false q4
      clear ha
      go_upto_region 2 with (go_at_call 73; refine (rwithin_calls _ _ _ _).mono ?_; rintro e w' ⟨rfl, rfl⟩)
      go_wp2_with (refine wpList_store_row rfl 25 (.tmp 8) (.tmp 49) rfl B (fi 0 0 0 (.slice none 0 0)) rfl rfl 25 _ (unhid HP).res (fi_size _ _ _ _) rfl (fi_one _ _ _ _ _ _) ?_)
      (try simp only [Exit.inBlock, Exit.then])
      refine bodyPost_ret_by (v := .tuple #[.agg (fi 0 0 0 (.slice none 0 0)), .int .i64 2]) (results_cell_row_tmp Tryz.results43 _ _ B 25 (fi 0 0 0 (.slice none 0 0)) (0, 0) _ _ rfl rfl (setRow_heap _ _ _ _ _ _ (unhid HP).res) Tryz.underlying25 rfl (fi_size _ _ _ _)) rfl ?_
      exact panR_no (unhid HPN) (by decide) (below_setRow (unhid HP).below (by have := (unhid HP).hB; omega) _)

    have d5 : decide (1 ≤ ink ∧ ink ≤ 8) = true := decide_eq_true q4
    have hge : ground = ink := by omega
    have d6 : (ground == ink) = true := by simp [hge]
    clear ha hge
    go_upto_region 2 with (go_at_call 73; refine (rwithin_calls _ _ _ _).mono ?_; rintro e w' ⟨rfl, rfl⟩)
    go_wp2_with (refine wpList_store_row rfl 25 (.tmp 8) (.tmp 49) rfl B (fi 0 0 0 (.slice none 0 0)) rfl rfl 25 _ (unhid HP).res (fi_size _ _ _ _) rfl (fi_one _ _ _ _ _ _) ?_)
    (try simp only [Exit.inBlock, Exit.then])
    refine bodyPost_ret_by (v := .tuple #[.agg (fi 0 0 0 (.slice none 0 0)), .int .i64 2]) (results_cell_row_tmp Tryz.results43 _ _ B 25 (fi 0 0 0 (.slice none 0 0)) (0, 0) _ _ rfl rfl (setRow_heap _ _ _ _ _ _ (unhid HP).res) Tryz.underlying25 rfl (fi_size _ _ _ _)) rfl ?_
    exact panR_no (unhid HPN) (by decide) (below_setRow (unhid HP).below (by have := (unhid HP).hB; omega) _)

  | true =>
    have HA := hid ha
    simp only [argsP, Bool.and_eq_true, decide_eq_true_eq] at ha
    obtain ⟨⟨⟨⟨⟨l1, l8⟩, u1, u2⟩, g1, g8⟩, i1, i8⟩, hne⟩ := ha
    have dl1 : ¬ ((ls.length : Int) < 1) := by omega
    have dl8 : ¬ (8 : Int) < (ls.length : Int) := by omega
    have du : decide (1 ≤ unit ∧ unit ≤ 200) = true := decide_eq_true ⟨u1, u2⟩
    have dg : decide (1 ≤ ground ∧ ground ≤ 8) = true := decide_eq_true ⟨g1, g8⟩
    have di : decide (1 ≤ ink ∧ ink ≤ 8) = true := decide_eq_true ⟨i1, i8⟩
    have de : (ground == ink) = false := by simp [hne]
    go_enter Tryz.func43, Tryz.ntmps43
    go_upto_region 1 with (fail)
    change Code.wp _ _ _ _ (w.alloc (.cells (fi 0 0 0 (.slice none 0 0)) 25))
    generalize w.alloc (.cells (fi 0 0 0 (.slice none 0 0)) 25) = W at *
    obtain ⟨B, hB⟩ : ∃ B, B = w.heap.size := ⟨_, rfl⟩
    rw [← hB] at HP ⊢
    clear hB
    go_wp2_with (go_at_call 73; refine (rwithin_calls _ _ _ _).mono ?_; rintro e w' ⟨rfl, rfl⟩)
    go_loopw [11, 10] (fun iv lv wr => ∃ k : Nat, k ≤ ls.length ∧ iv = .int .i64 k ∧ lv = .int .i64 (longK ls unit k) ∧ (∀ j, j < k → lenB (ls.getD j []) unit = true) ∧ PN0 w B wr) (fun iv _ _ => ls.length - (intOf iv).toNat)
    case atStart => exact ⟨0, Nat.zero_le _, rfl, rfl, fun j h => absurd h (by omega), unhid HP⟩
    case round =>
      obtain ⟨k, hk, rfl, rfl, hall, hp⟩ := hrel
      have HP := hid hp
      have HALL := hid hall
      clear hall hp
      by_cases hlt : k < ls.length
      · obtain ⟨b, off, rfl, hb, hc⟩ := ((unhid HL) wr (unhid HP).below).rd (strs_ne hlt)
        have c0 := hc k _ (strs_at hlt)
        clear hc
        have HLEN := hid (rlength_calls (ls.getD k []) unit wr (((unhid HL) wr (unhid HP).below).len hlt))
        have hki : (k : Int) < (ls.length : Int) := by omega
        have HX := hid (show longK ls unit (k + 1) = max (longK ls unit k) (lenS (ls.getD k []) unit) from rfl)
        have HBAD := hid (fun h => panN_line (ground := ground) (ink := ink) (unit := unit) hlt h)
        obtain ⟨tx, htx⟩ : ∃ tx, tx = ls.getD k [] := ⟨_, rfl⟩
        rw [← htx] at HLEN HX HBAD c0
        have HTX := hid htx
        clear htx
        cases hlb : lenB tx unit with
        | false =>
          have HPN := hid ((unhid HBAD) hlb)
          rw [lenR_no hlb] at HLEN
          go_wp2_with fail
          refine (unhid HLEN).mono ?_
          rintro e w2 ⟨rfl, hb2⟩
          have HP2 := hid ((unhid HP).after hb2)
          clear hb2 c0 hlb
          go_wp2_with (refine wpList_store_row rfl 25 (.tmp 8) (.tmp 67) rfl B (fi 0 0 0 (.slice none 0 0)) rfl rfl 25 _ (unhid HP2).res (fi_size _ _ _ _) rfl (fi_one _ _ _ _ _ _) ?_)
          (try simp only [Exit.inBlock, Exit.then])
          refine bodyPost_ret_by (v := .tuple #[.agg (fi 0 0 0 (.slice none 0 0)), .int .i64 2]) (results_cell_row_tmp Tryz.results43 _ _ B 25 (fi 0 0 0 (.slice none 0 0)) (0, 0) _ _ rfl rfl (setRow_heap _ _ _ _ _ _ (unhid HP2).res) Tryz.underlying25 rfl (fi_size _ _ _ _)) rfl ?_
          exact panR_no (unhid HPN) (by decide) (below_setRow (unhid HP2).below (by have := (unhid HP2).hB; omega) _)
        | true =>
          rw [lenR_yes hlb] at HLEN
          go_wp2_with fail
          refine (unhid HLEN).mono ?_
          rintro e w2 ⟨rfl, hb2⟩
          have HP2 := hid ((unhid HP).after hb2)
          have HLB := hid hlb
          obtain ⟨y, hy⟩ : ∃ y, y = longK ls unit k := ⟨_, rfl⟩
          obtain ⟨z, hz⟩ : ∃ z, z = lenS tx unit := ⟨_, rfl⟩
          rw [← hy, ← hz] at HX
          rw [← hy, ← hz]
          clear hb2 c0 hlb hy hz
          go_wp2_with fail
          go_roundw
          case rel => exact ⟨k + 1, by omega, by go_num, by rw [unhid HX], fun j hj => by
            rcases Nat.lt_succ_iff_lt_or_eq.1 hj with h | rfl
            · exact (unhid HALL) j h
            · rw [← unhid HTX]; exact unhid HLB, unhid HP2⟩
          case measure => simp [intOf]; omega
      · obtain rfl : k = ls.length := by omega
        have hb := longK_top (unhid HALL) ls.length (Nat.le_refl _)
        have hb0 := longK_nonneg ls unit ls.length
        have HPN := hid (panN_ok (unhid HA) (unhid HALL))
        have hsz : sizeP ls unit = fives (longK ls unit ls.length + 6 * unit) := rfl
        have hhe : heightP ls.length unit = fives (highP ls.length unit) := rfl
        have hhi : highP ls.length unit = ls.length * 7 * unit + (ls.length - 1) * 4 * unit + 6 * unit := rfl
        have m1 := mul_in (a := (ls.length : Int) * 7) (b := unit) (A := 56) (B := 200) (by omega) (by omega) (by omega) (by omega)
        have m2 := mul_in (a := ((ls.length : Int) - 1) * 4) (b := unit) (A := 28) (B := 200) (by omega) (by omega) (by omega) (by omega)
        have HM := hid (show 0 ≤ highP ls.length unit ∧ highP ls.length unit ≤ 100000 by omega)
        have HSH := hid hhi
        have HSZ := hid hsz
        have HHE := hid hhe
        clear hsz hhe hhi
        have HMX := hid (fun j (hj : j < ls.length) => longK_le ls unit ls.length j hj)
        obtain ⟨y, hy⟩ : ∃ y, y = longK ls unit ls.length := ⟨_, rfl⟩
        rw [← hy] at hb hb0 HSZ HMX
        rw [← hy]
        clear hy
        go_upto_region 13 with (fail)
        rw [← unhid HSH]
        obtain ⟨hi, hhi⟩ : ∃ x, x = highP ls.length unit := ⟨_, rfl⟩
        rw [← hhi] at HM HHE ⊢
        have HHI := hid hhi
        obtain ⟨hi0, hi1⟩ := unhid HM
        clear hhi m1 m2
        have HSZ2 := hid (show sizeP ls unit = (y + 6 * unit + 4) / 5 * 5 from unhid HSZ)
        have HHE2 := hid (show heightP ls.length unit = (hi + 4) / 5 * 5 from unhid HHE)
        go_upto_region 14 with (fail)
        rw [← unhid HSZ2, ← unhid HHE2]
        clear HSZ2 HHE2
        obtain ⟨sz, hsz⟩ : ∃ x, x = sizeP ls unit := ⟨_, rfl⟩
        obtain ⟨he, hhe⟩ : ∃ x, x = heightP ls.length unit := ⟨_, rfl⟩
        rw [← hsz] at HSZ HPN ⊢
        rw [← hhe] at HHE HPN ⊢
        have hszb := fives_bounds (y + 6 * unit)
        rw [← unhid HSZ] at hszb
        have hheb := fives_bounds hi
        rw [← unhid HHE] at hheb
        have HS1 := hid hsz
        have HS2 := hid hhe
        clear hsz hhe
        have HX := hid (pnx_start (unhid HP) (fi 2 sz he (.slice none 0 0)))
        have hlt := (unhid HX).hE
        change Code.wp _ _ _ _ (wr.alloc (.cells (fi 2 sz he (.slice none 0 0)) 25))
        generalize wr.alloc (.cells (fi 2 sz he (.slice none 0 0)) 25) = w1 at *
        generalize wr.heap.size = E at *
        have c1 := (unhid HX).cell 1
        have c2 := (unhid HX).cell 2
        have c3 := (unhid HX).cell 3
        simp [fi] at c1 c2 c3
        by_cases hbig : 200 < sz ∨ 200 < he
        · rw [if_pos hbig] at HPN
          have hb1 : ¬ (200 < sz) → 200 < he := fun h => hbig.resolve_left h
          by_cases hb2 : 200 < sz
          · clear hbig hb1
            go_wp2_with (refine wpList_store_row rfl 25 (.tmp 8) (.tmp 107) rfl B (fi 0 0 0 (.slice none 0 0)) rfl rfl 25 _ (unhid HX).res (fi_size _ _ _ _) rfl (fi_one _ _ _ _ _ _) ?_)
            (try simp only [Exit.inBlock, Exit.then])
            refine bodyPost_ret_by (v := .tuple #[.agg (fi 0 0 0 (.slice none 0 0)), .int .i64 11]) (results_cell_row_tmp Tryz.results43 _ _ B 25 (fi 0 0 0 (.slice none 0 0)) (0, 0) _ _ rfl rfl (setRow_heap _ _ _ _ _ _ (unhid HX).res) Tryz.underlying25 rfl (fi_size _ _ _ _)) rfl ?_
            exact panR_no (unhid HPN) (by decide) (below_setRow (unhid HX).below (by have := (unhid HX).hB; omega) _)
          · have hb1 := hb1 hb2
            clear hbig
            go_wp2_with (refine wpList_store_row rfl 25 (.tmp 8) (.tmp 107) rfl B (fi 0 0 0 (.slice none 0 0)) rfl rfl 25 _ (unhid HX).res (fi_size _ _ _ _) rfl (fi_one _ _ _ _ _ _) ?_)
            (try simp only [Exit.inBlock, Exit.then])
            refine bodyPost_ret_by (v := .tuple #[.agg (fi 0 0 0 (.slice none 0 0)), .int .i64 11]) (results_cell_row_tmp Tryz.results43 _ _ B 25 (fi 0 0 0 (.slice none 0 0)) (0, 0) _ _ rfl rfl (setRow_heap _ _ _ _ _ _ (unhid HX).res) Tryz.underlying25 rfl (fi_size _ _ _ _)) rfl ?_
            exact panR_no (unhid HPN) (by decide) (below_setRow (unhid HX).below (by have := (unhid HX).hB; omega) _)
        · rw [if_neg hbig] at HPN
          have hb1 : ¬ 200 < sz := fun h => hbig (.inl h)
          have hb2 : ¬ 200 < he := fun h => hbig (.inr h)
          clear hbig
          have HXa := hid ((unhid HX).after (below_alloc w1 (.cells #[.int .i64 1, .int .i64 ground, .int .i64 0, .int .i64 0, .int .i64 0, .int .i64 0, .string { data := #[] }, .int .i64 2, .int .i64 ink, .int .i64 0, .int .i64 0, .int .i64 unit, .int .i64 0, .string { data := #[] }] 66)))
          have c3a : (w1.alloc (.cells #[.int .i64 1, .int .i64 ground, .int .i64 0, .int .i64 0, .int .i64 0, .int .i64 0, .string { data := #[] }, .int .i64 2, .int .i64 ink, .int .i64 0, .int .i64 0, .int .i64 unit, .int .i64 0, .string { data := #[] }] 66)).cell? ⟨E, 3, none⟩ = some (.slice none 0 0) := (unhid HXa).cell 3
          have f3a := (unhid HXa).free 3
          go_upto_region 17 with (fail)
          have hrow2 : (w1.alloc (.cells #[.int .i64 1, .int .i64 ground, .int .i64 0, .int .i64 0, .int .i64 0, .int .i64 0, .string { data := #[] }, .int .i64 2, .int .i64 ink, .int .i64 0, .int .i64 0, .int .i64 unit, .int .i64 0, .string { data := #[] }] 66)).ownsRow (E + 1) 66 7 (.slice (some ⟨w1.heap.size, 0, none⟩) 2 2) 2 (itC ⟨1, ground, 0, 0, 0, 0, []⟩ ++ itC ⟨2, ink, 0, 0, unit, 0, []⟩) := ⟨by simp [itC], .inr ⟨w1.heap.size, 2, _, rfl, (unhid HX).lt, heap_alloc_new _ _, by omega, by unfold maxLen; omega, by simp, by simp [itC]; rfl⟩⟩
          have HXb := hid ((unhid HXa).set 3 (.slice (some ⟨w1.heap.size, 0, none⟩) 2 2))
          have HOb := hid (own_setCell hrow2 (a := ⟨E, 3, none⟩) (by dsimp only; omega) (.slice (some ⟨w1.heap.size, 0, none⟩) 2 2))
          clear c3a f3a hrow2 HXa c1 c2 c3
          change Code.wp _ _ _ _ ((w1.alloc (.cells #[.int .i64 1, .int .i64 ground, .int .i64 0, .int .i64 0, .int .i64 0, .int .i64 0, .string { data := #[] }, .int .i64 2, .int .i64 ink, .int .i64 0, .int .i64 0, .int .i64 unit, .int .i64 0, .string { data := #[] }] 66)).setCell ⟨E, 3, none⟩ (.slice (some ⟨w1.heap.size, 0, none⟩) 2 2))
          generalize (w1.alloc (.cells #[.int .i64 1, .int .i64 ground, .int .i64 0, .int .i64 0, .int .i64 0, .int .i64 0, .string { data := #[] }, .int .i64 2, .int .i64 ink, .int .i64 0, .int .i64 0, .int .i64 unit, .int .i64 0, .string { data := #[] }] 66)).setCell ⟨E, 3, none⟩ (.slice (some ⟨w1.heap.size, 0, none⟩) 2 2) = w7 at *
          generalize w1.heap.size = gi at *
          have c2 := (unhid HXb).cell 2
          simp [fi] at c2
          go_upto_region 18 with (fail)
          obtain ⟨top, htop⟩ : ∃ x, x = he - 3 * unit - (he - hi) / 2 := ⟨_, rfl⟩
          rw [← htop]
          have ht0 : -1000 ≤ top ∧ top ≤ 1000 := by omega
          have HTOP := hid htop
          obtain ⟨ht0, ht1⟩ := ht0
          clear htop c2
          go_wp2_with fail
          go_loopw [18] (fun iv wr => ∃ (k : Nat) (v : Value), k ≤ ls.length ∧ iv = .int .i64 k ∧ PNX w B E wr (fi 2 sz he v) ∧ wr.ownsRow (E + 1) 66 7 v (panI ls unit ground ink k).length (its (panI ls unit ground ink k))) (fun iv _ => ls.length - (intOf iv).toNat)
          case atStart => exact ⟨0, _, Nat.zero_le _, rfl, unhid HXb, by simpa [panI, linesP, its] using unhid HOb⟩
          case round =>
            obtain ⟨k, v, hk, rfl, hx, hrow⟩ := hrel
            have HX := hid hx
            have HROW := hid hrow
            clear hx hrow
            have hil : (panI ls unit ground ink k).length = k + 2 := by simp [panI, linesP_len]
            have HIL := hid hil
            obtain ⟨A0, c0', rfl, hrd, hob⟩ := own_slice (unhid HROW)
            have HRD := hid hrd
            have HAB := hid (show ∀ a, A0 = some a → B + 1 < a.block from fun a ha => by subst ha; have := hob a.block rfl; omega)
            clear hil hrd hob
            by_cases hlt : k < ls.length
            · obtain ⟨b, off, rfl, hb, hc⟩ := ((unhid HL) w (Below.refl _ _)).rd (strs_ne hlt)
              have c0 := hc k _ (strs_at hlt)
              clear hc
              have hcw : ∀ W, Below w.heap.size w W → W.cell? ⟨b, off + k, none⟩ = some (.string (SB (ls.getD k []))) := fun W h => (World.cell?_of_block (h.block b hb)).trans c0
              have HCW := hid hcw
              have c0 := hcw wr (unhid HX).below
              clear hcw
              have hki : (k : Int) < (ls.length : Int) := by omega
              have HLEN := hid (rlength_calls (ls.getD k []) unit wr (((unhid HL) wr (unhid HX).below).len hlt))
              have hlb := (unhid HALL) k hlt
              rw [lenR_yes hlb] at HLEN
              obtain ⟨-, -, -, -, z0, z1⟩ := lenS_bounds hlb
              clear hlb
              have hzs := (unhid HMX) k hlt
              have HST := hid (show panI ls unit ground ink (k + 1) = panI ls unit ground ink k ++ [⟨6, ink, (sizeP ls unit - lenS (ls.getD k []) unit) / 2, lowP ls.length unit k, unit, 0, ls.getD k []⟩] by simp [panI, linesP])
              have hlow : lowP ls.length unit k = top - 7 * unit - 11 * unit * k := by
                have e : 11 * unit * (k : Int) = (k : Int) * 11 * unit := by rw [Int.mul_comm (11 * unit) (k : Int), ← Int.mul_assoc]
                unfold lowP
                rw [← unhid HS2, ← unhid HHI, unhid HTOP, e]
                omega
              have HLOW := hid hlow
              rw [← unhid HS1] at HST
              clear hlow
              have m3 := mul_in (a := 11 * unit) (b := (k : Int)) (A := 2200) (B := 8) (by omega) (by omega) (by omega) (by omega)
              obtain ⟨tx, htx⟩ : ∃ tx, tx = ls.getD k [] := ⟨_, rfl⟩
              rw [← htx] at HLEN HST c0 z0 z1 hzs HCW
              clear htx
              obtain ⟨z, hz⟩ : ∃ z, z = lenS tx unit := ⟨_, rfl⟩
              rw [← hz] at HLEN HST z0 z1 hzs
              clear hz
              have hSF : ∀ w' : World, PNX w B E w' (fi 2 sz he (.slice A0 (panI ls unit ground ink k).length c0')) → (w'.cell? ⟨E, 3, none⟩ = some (.slice A0 (panI ls unit ground ink k).length c0') ∧ w'.cell? ⟨E, 1, none⟩ = some (.int .i64 sz) ∧ w'.cell? ⟨b, off + k, none⟩ = some (.string (SB tx))) := fun w' h => ⟨h.cell 3, h.cell 1, (unhid HCW) w' h.below⟩
              have HSF := hid hSF
              clear hSF
              have b1 := unhid HSZ
              have b2 := fives_bounds (y + 6 * unit)
              rw [← b1] at b2
              have e1 : IntKind.i64.wrap (sz - z) = sz - z := IntWalk.i64_in _ (by omega)
              have e2 : (sz - z).tdiv 2 = (sz - z) / 2 := Int.tdiv_eq_ediv_of_nonneg (by omega)
              have e3 : IntKind.i64.wrap ((sz - z) / 2) = (sz - z) / 2 := IntWalk.i64_in _ (by omega)
              have e4 : IntKind.i64.wrap (7 * unit) = 7 * unit := IntWalk.i64_in _ (by omega)
              have e5 : IntKind.i64.wrap (11 * unit) = 11 * unit := IntWalk.i64_in _ (by omega)
              have e6 : IntKind.i64.wrap (11 * unit * (k : Int)) = 11 * unit * (k : Int) := IntWalk.i64_in _ (by omega)
              have e7 : IntKind.i64.wrap (top - 7 * unit) = top - 7 * unit := IntWalk.i64_in _ (by omega)
              have e8 : IntKind.i64.wrap (top - 7 * unit - 11 * unit * (k : Int)) = top - 7 * unit - 11 * unit * (k : Int) := IntWalk.i64_in _ (by omega)
              have HW1 := hid (show IntKind.i64.wrap ((IntKind.i64.wrap (sz - z)).tdiv 2) = (sz - z) / 2 by rw [e1, e2, e3])
              have HW2 := hid (show IntKind.i64.wrap (IntKind.i64.wrap (top - IntKind.i64.wrap (7 * unit)) - IntKind.i64.wrap (IntKind.i64.wrap (11 * unit) * (k : Int))) = lowP ls.length unit k by rw [e4, e7, e5, e6, e8]; exact (unhid HLOW).symm)
              clear e1 e2 e3 e4 e5 e6 e7 e8 b1 b2 m3
              obtain ⟨lw, hlw⟩ : ∃ x, x = lowP ls.length unit k := ⟨_, rfl⟩
              rw [← hlw] at HST HW2
              clear hlw
              go_wp2_with fail
              refine (unhid HLEN).mono ?_
              rintro e w2 ⟨rfl, hb2⟩
              have HX2 := hid ((unhid HX).after hb2)
              have HROW2 := hid (own_below (unhid HROW) hb2)
              have hdb : Below w2.heap.size w2 w2.drew := Below.drew (Below.refl _ _)
              have HXd := hid ((unhid HX2).after hdb)
              have HROWd := hid (own_below (unhid HROW2) hdb)
              clear hb2 c0 hdb
              go_wp2_with fail
              refine wp_region_noPanic ?_
              refine wp_region_E (S := fun w' => w'.cell? ⟨E, 3, none⟩ = some (.slice A0 (panI ls unit ground ink k).length c0') ∧ w'.cell? ⟨E, 1, none⟩ = some (.int .i64 sz) ∧ w'.cell? ⟨b, off + k, none⟩ = some (.string (SB tx))) 26 27 rfl (by kernel_rfl) (by kernel_rfl) ((unhid HSF) _ (unhid HXd)) ?_
              intro hSE
              generalize w2.drew = Wd at *
              (refine WE_take (i := 0) (v := ?_) rfl (by kernel_rfl) (by decide) (by kernel_rfl) (by kernel_rfl) (fun _ _ _ h => h) (by rfl) hSE ?_ ?_; rotate_left; (focus (intro w hSw; (try dsimp only at hSw); go_simp; (try with_reducible rfl))); simp only [Act.put, List.setIfInBounds_toArray, List.set_cons_zero, List.set_cons_succ])
              (refine WE_take (i := 1) (v := ?_) rfl (by kernel_rfl) (by decide) (by kernel_rfl) (by kernel_rfl) (fun _ _ _ h => h) (by rfl) hSE ?_ ?_; rotate_left; (focus (intro w hSw; (try dsimp only at hSw); go_simp; (try with_reducible rfl))); simp only [Act.put, List.setIfInBounds_toArray, List.set_cons_zero, List.set_cons_succ])
              (refine WE_take (i := 2) (v := ?_) rfl (by kernel_rfl) (by decide) (by kernel_rfl) (by kernel_rfl) (fun _ _ _ h => h) (by rfl) hSE ?_ ?_; rotate_left; (focus (intro w hSw; (try dsimp only at hSw); go_simp; (try with_reducible rfl))); simp only [Act.put, List.setIfInBounds_toArray, List.set_cons_zero, List.set_cons_succ])
              (refine WE_take (i := 3) (v := ?_) rfl (by kernel_rfl) (by decide) (by kernel_rfl) (by kernel_rfl) (fun _ _ _ h => h) (by rfl) hSE ?_ ?_; rotate_left; (focus (intro w hSw; (try dsimp only at hSw); go_simp; (try with_reducible rfl))); simp only [Act.put, List.setIfInBounds_toArray, List.set_cons_zero, List.set_cons_succ])
              (refine WE_take (i := 4) (v := ?_) rfl (by kernel_rfl) (by decide) (by kernel_rfl) (by kernel_rfl) (fun _ _ _ h => h) (by rfl) hSE ?_ ?_; rotate_left; (focus (intro w hSw; (try dsimp only at hSw); go_simp; (try with_reducible rfl))); simp only [Act.put, List.setIfInBounds_toArray, List.set_cons_zero, List.set_cons_succ])
              (refine WE_take (i := 5) (v := ?_) rfl (by kernel_rfl) (by decide) (by kernel_rfl) (by kernel_rfl) (fun _ _ _ h => h) (by rfl) hSE ?_ ?_; rotate_left; (focus (intro w hSw; (try dsimp only at hSw); go_simp; (try with_reducible rfl))); simp only [Act.put, List.setIfInBounds_toArray, List.set_cons_zero, List.set_cons_succ])
              (refine WE_take (i := 6) (v := ?_) rfl (by kernel_rfl) (by decide) (by kernel_rfl) (by kernel_rfl) (fun _ _ _ h => h) (by rfl) hSE ?_ ?_; rotate_left; (focus (intro w hSw; (try dsimp only at hSw); go_simp; (try with_reducible rfl))); simp only [Act.put, List.setIfInBounds_toArray, List.set_cons_zero, List.set_cons_succ])
              (refine WE_take (i := 7) (v := ?_) rfl (by kernel_rfl) (by decide) (by kernel_rfl) (by kernel_rfl) (fun _ _ _ h => h) (by rfl) hSE ?_ ?_; rotate_left; (focus (intro w hSw; (try dsimp only at hSw); go_simp; (try with_reducible rfl))); simp only [Act.put, List.setIfInBounds_toArray, List.set_cons_zero, List.set_cons_succ])
              (refine WE_take (i := 8) (v := ?_) rfl (by kernel_rfl) (by decide) (by kernel_rfl) (by kernel_rfl) (fun _ _ _ h => h) (by rfl) hSE ?_ ?_; rotate_left; (focus (intro w hSw; (try dsimp only at hSw); go_simp; (try with_reducible rfl))); simp only [Act.put, List.setIfInBounds_toArray, List.set_cons_zero, List.set_cons_succ])
              (refine WE_take (i := 9) (v := ?_) rfl (by kernel_rfl) (by decide) (by kernel_rfl) (by kernel_rfl) (fun _ _ _ h => h) (by rfl) hSE ?_ ?_; rotate_left; (focus (intro w hSw; (try dsimp only at hSw); go_simp; (try with_reducible rfl))); simp only [Act.put, List.setIfInBounds_toArray, List.set_cons_zero, List.set_cons_succ])
              (refine WE_take (i := 10) (v := ?_) rfl (by kernel_rfl) (by decide) (by kernel_rfl) (by kernel_rfl) (fun _ _ _ h => h) (by rfl) hSE ?_ ?_; rotate_left; (focus (intro w hSw; (try dsimp only at hSw); go_simp; (try with_reducible rfl))); simp only [Act.put, List.setIfInBounds_toArray, List.set_cons_zero, List.set_cons_succ])
              (refine WE_take (i := 11) (v := ?_) rfl (by kernel_rfl) (by decide) (by kernel_rfl) (by kernel_rfl) (fun _ _ _ h => h) (by rfl) hSE ?_ ?_; rotate_left; (focus (intro w hSw; (try dsimp only at hSw); go_simp; (try with_reducible rfl))); simp only [Act.put, List.setIfInBounds_toArray, List.set_cons_zero, List.set_cons_succ])
              (refine WE_take (i := 12) (v := ?_) rfl (by kernel_rfl) (by decide) (by kernel_rfl) (by kernel_rfl) (fun _ _ _ h => h) (by rfl) hSE ?_ ?_; rotate_left; (focus (intro w hSw; (try dsimp only at hSw); go_simp; (try with_reducible rfl))); simp only [Act.put, List.setIfInBounds_toArray, List.set_cons_zero, List.set_cons_succ])
              (refine WE_take (i := 13) (v := ?_) rfl (by kernel_rfl) (by decide) (by kernel_rfl) (by kernel_rfl) (fun _ _ _ h => h) (by rfl) hSE ?_ ?_; rotate_left; (focus (intro w hSw; (try dsimp only at hSw); go_simp; (try with_reducible rfl))); simp only [Act.put, List.setIfInBounds_toArray, List.set_cons_zero, List.set_cons_succ])
              (refine WE_take (i := 14) (v := ?_) rfl (by kernel_rfl) (by decide) (by kernel_rfl) (by kernel_rfl) (fun _ _ _ h => h) (by rfl) hSE ?_ ?_; rotate_left; (focus (intro w hSw; (try dsimp only at hSw); go_simp; (try with_reducible rfl))); simp only [Act.put, List.setIfInBounds_toArray, List.set_cons_zero, List.set_cons_succ])
              (refine WE_take (i := 15) (v := ?_) rfl (by kernel_rfl) (by decide) (by kernel_rfl) (by kernel_rfl) (fun _ _ _ h => h) (by rfl) hSE ?_ ?_; rotate_left; (focus (intro w hSw; (try dsimp only at hSw); go_simp; (try with_reducible rfl))); simp only [Act.put, List.setIfInBounds_toArray, List.set_cons_zero, List.set_cons_succ])
              (refine WE_take (i := 16) (v := ?_) rfl (by kernel_rfl) (by decide) (by kernel_rfl) (by kernel_rfl) (fun _ _ _ h => h) (by rfl) hSE ?_ ?_; rotate_left; (focus (intro w hSw; (try dsimp only at hSw); go_simp; (try with_reducible rfl))); simp only [Act.put, List.setIfInBounds_toArray, List.set_cons_zero, List.set_cons_succ])
              (refine WE_take (i := 17) (v := ?_) rfl (by kernel_rfl) (by decide) (by kernel_rfl) (by kernel_rfl) (fun _ _ _ h => h) (by rfl) hSE ?_ ?_; rotate_left; (focus (intro w hSw; (try dsimp only at hSw); go_simp; (try with_reducible rfl))); simp only [Act.put, List.setIfInBounds_toArray, List.set_cons_zero, List.set_cons_succ])
              (refine WE_take (i := 18) (v := ?_) rfl (by kernel_rfl) (by decide) (by kernel_rfl) (by kernel_rfl) (fun _ _ _ h => h) (by rfl) hSE ?_ ?_; rotate_left; (focus (intro w hSw; (try dsimp only at hSw); go_simp; (try with_reducible rfl))); simp only [Act.put, List.setIfInBounds_toArray, List.set_cons_zero, List.set_cons_succ])
              (refine WE_take (i := 19) (v := ?_) rfl (by kernel_rfl) (by decide) (by kernel_rfl) (by kernel_rfl) (fun _ _ _ h => h) (by rfl) hSE ?_ ?_; rotate_left; (focus (intro w hSw; (try dsimp only at hSw); go_simp; (try with_reducible rfl))); simp only [Act.put, List.setIfInBounds_toArray, List.set_cons_zero, List.set_cons_succ])
              (refine WE_take (i := 20) (v := ?_) rfl (by kernel_rfl) (by decide) (by kernel_rfl) (by kernel_rfl) (fun _ _ _ h => h) (by rfl) hSE ?_ ?_; rotate_left; (focus (intro w hSw; (try dsimp only at hSw); go_simp; (try with_reducible rfl))); simp only [Act.put, List.setIfInBounds_toArray, List.set_cons_zero, List.set_cons_succ])
              (refine WE_take (i := 21) (v := ?_) rfl (by kernel_rfl) (by decide) (by kernel_rfl) (by kernel_rfl) (fun _ _ _ h => h) (by rfl) hSE ?_ ?_; rotate_left; (focus (intro w hSw; (try dsimp only at hSw); go_simp; (try with_reducible rfl))); simp only [Act.put, List.setIfInBounds_toArray, List.set_cons_zero, List.set_cons_succ])
              (refine WE_take (i := 22) (v := ?_) rfl (by kernel_rfl) (by decide) (by kernel_rfl) (by kernel_rfl) (fun _ _ _ h => h) (by rfl) hSE ?_ ?_; rotate_left; (focus (intro w hSw; (try dsimp only at hSw); go_simp; (try with_reducible rfl))); simp only [Act.put, List.setIfInBounds_toArray, List.set_cons_zero, List.set_cons_succ])
              (refine WE_one (i := 23) rfl (by decide) (by kernel_rfl) ?_; intro K hK)
              go_simp
              rw [unhid HW1, unhid HW2]
              have hya := (unhid HXd).after (below_alloc Wd (.cells (itC ⟨6, ink, (sz - z) / 2, lw, unit, 0, tx⟩).toArray 66))
              refine hK.out _ _ ((unhid HSF) _ hya) ?_
              clear hSE hK K hya
              intro hSE
              (try simp only [Act.put, List.setIfInBounds_toArray, List.set_cons_zero, List.set_cons_succ])
              (refine WE_one (i := 24) rfl (by decide) (by kernel_rfl) ?_; intro K hK)
              refine step_append_lies _ (by rfl) _ _ _ (by rfl) (E + 1) 66 i0 _ 7 64 Tryz.underlying23 hi7 hz0 hz1 hz2 rfl (by omega) (.slice A0 (panI ls unit ground ink k).length c0') (panI ls unit ground ink k).length (its (panI ls unit ground ink k)) (by rfl) ((unhid HROWd).alloc (.cells (itC ⟨6, ink, (sz - z) / 2, lw, unit, 0, tx⟩).toArray 66)) ⟨Wd.heap.size, 0, none⟩ 1 1 (itC ⟨6, ink, (sz - z) / 2, lw, unit, 0, tx⟩) (by rfl) (by rfl) (World.news_of_block (cs := (itC ⟨6, ink, (sz - z) / 2, lw, unit, 0, tx⟩).toArray) (t := 66) (fr := (0, 0)) (heap_alloc_new Wd _)) (by simp [itC, Value.oneCell']) (by have := unhid HIL; omega) (by unfold maxLen; have := unhid HIL; omega) (by have := unhid HIL; omega) (by have := (unhid HXd).lt; simp; omega) (Wd.heap.size + 1) (by simp) ?_
              intro g3 cap3 w8 hown hg hat hlt3
              have hrow7 : ∀ q, (Value.slice A0 (panI ls unit ground ink k).length c0').ownBlock = some q → E < q := fun q hq => by
                rcases Nat.lt_or_ge q (E + 1) with h' | h'
                · exact absurd hq (own_ne (unhid HROWd) (Or.inl h'))
                · omega
              have HX8 := hid (((unhid HXd).after (below_alloc Wd (.cells (itC ⟨6, ink, (sz - z) / 2, lw, unit, 0, tx⟩).toArray 66))).grown hg hrow7)
              have f38 := (unhid HX8).free 3
              refine hK.out _ _ ((unhid HSF) _ (unhid HX8)) ?_
              clear hSE hK K
              intro hSE
              (try simp only [Act.put, List.setIfInBounds_toArray, List.set_cons_zero, List.set_cons_succ])
              (refine WE_take (i := 25) (v := ?_) rfl (by kernel_rfl) (by decide) (by kernel_rfl) (by kernel_rfl) (fun _ _ _ h => h) (by rfl) hSE ?_ ?_; rotate_left; (focus (intro w hSw; (try dsimp only at hSw); go_simp; (try with_reducible rfl))); simp only [Act.put, List.setIfInBounds_toArray, List.set_cons_zero, List.set_cons_succ])
              (refine WE_last rfl (by kernel_rfl) (by kernel_rfl) (by kernel_rfl) ?_; intro K hK; go_simp; refine hK.out _ _ (NoPanic.normal ?_); clear hK K)
              have HX9 := hid ((unhid HX8).set 3 (.slice (some ⟨g3, 0, none⟩) ((panI ls unit ground ink k).length + 1) cap3))
              have HO9 := hid (own_setCell hown (a := ⟨E, 3, none⟩) (by dsimp only; omega) (.slice (some ⟨g3, 0, none⟩) ((panI ls unit ground ink k).length + 1) cap3))
              clear hown hg hat hlt3 hrow7 f38
              go_wp2_with fail
              go_roundw
              case rel =>
                refine ⟨k + 1, .slice (some ⟨g3, 0, none⟩) ((panI ls unit ground ink k).length + 1) cap3, by omega, by go_num, unhid HX9, ?_⟩
                rw [unhid HST, List.length_append, List.length_singleton, show ∀ (l : List It) (x : It), its (l ++ [x]) = its l ++ itC x from fun l x => by simp [its]]
                exact unhid HO9
              case measure => simp [intOf]; omega
            · obtain rfl : k = ls.length := by omega
              have HI := hid (show ItsOk wr A0 (panI ls unit ground ink ls.length) from ⟨by rw [unhid HIL]; omega, unhid HRD, pan_txt ((unhid HL) wr (unhid HX).below).txt unit ground ink ls.length⟩)
              have c0 := (unhid HX).cell 0
              have c1 := (unhid HX).cell 1
              have c2 := (unhid HX).cell 2
              have c3 := (unhid HX).cell 3
              simp [fi] at c0 c1 c2 c3
              go_wp2_with (refine wpList_store_row rfl 25 (.tmp 8) (.tmp 166) rfl B (fi 2 sz he (.slice A0 (panI ls unit ground ink ls.length).length c0')) rfl rfl 25 _ (unhid HX).res (fi_size _ _ _ _) rfl (fi_one _ _ _ _ _ _) ?_)
              (try simp only [Exit.inBlock, Exit.then])
              refine bodyPost_ret_by (v := .tuple #[.agg (fi 2 sz he (.slice A0 (panI ls unit ground ink ls.length).length c0')), .int .i64 0]) (results_cell_row_tmp Tryz.results43 _ _ B 25 (fi 2 sz he (.slice A0 (panI ls unit ground ink ls.length).length c0')) (0, 0) _ _ rfl rfl (setRow_heap _ _ _ _ _ _ (unhid HX).res) Tryz.underlying25 rfl (fi_size _ _ _ _)) rfl ?_
              exact panR_yes (unhid HPN) (unhid HS1) (unhid HS2) (below_setRow (unhid HX).below (by have := (unhid HX).hB; omega) _) (itsOk_setRow (unhid HI) (unhid HAB) _)

end Go.Proofs.YtmagidoodlkeoaaGreatDoor

