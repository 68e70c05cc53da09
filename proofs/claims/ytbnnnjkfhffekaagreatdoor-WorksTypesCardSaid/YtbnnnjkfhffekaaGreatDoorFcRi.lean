/-
  The reference's reading of an item.
-/
import Derived.Test.YtbnnnjkfhffekaaGreatDoorFcRd
import Derived.Test.YtbnnnjkfhffekaaGreatDoorFcWr
import Derived.Test.YtbnnnjkfhffekaaGreatDoorFcPu
set_option linter.unusedSimpArgs false
set_option linter.unusedVariables false
namespace Go.Proofs.YtbnnnjkfhffekaaGreatDoor
open Go.RowKit

/-- An item in the making: the result's block B, the item's block behind it, the reader's block R. -/
structure IQ (w : World) (R B : Nat) (wr : World) (r : Rdr) (x : It) : Prop where
  hR : R < w.heap.size
  hB : w.heap.size ≤ B
  res : wr.heap[B]? = some (.cells (xi 0 0 0 0 0 0 []) 96 (0, 0))
  it : ItAt wr (B + 1) x
  rd : RdAt wr R r
  mv : Mv (· = R) w wr
theorem IQ.reader {w wr w' : World} {R B : Nat} {r r' : Rdr} {x : It} (h : IQ w R B wr r x) (h1 : RdAt w' R r') (h2 : Mv (· = R) wr w') : IQ w R B w' r' x := by
  have := h.hR
  have := h.hB
  exact ⟨h.hR, h.hB, h2.kept h.res (by omega), h.it.mv h2 (by omega), h1, h.mv.trans h2⟩
theorem IQ.after {w wr w' : World} {R B : Nat} {r : Rdr} {x : It} (h : IQ w R B wr r x) (hb : Below wr.heap.size wr w') : IQ w R B w' r x :=
  h.reader ((hb.block _ h.rd.lt).trans h.rd) ⟨hb.os, hb.tape, hb.output, hb.size, fun k hk _ => hb.block k hk⟩
theorem IQ.placed {w wr w' : World} {R B : Nat} {r r' : Rdr} {x y : It} (h : IQ w R B wr r x) (h1 : RdAt w' R r') (h3 : ItAt w' (B + 1) y) (h2 : Mv (fun k => k = R ∨ k = B + 1) wr w') : IQ w R B w' r' y := by
  have hR := h.hR
  have hB := h.hB
  have hm := h.mv
  exact ⟨hR, hB, h2.kept h.res (by omega), h3, h1, ⟨h2.os.trans hm.os, h2.tape.trans hm.tape, h2.output.trans hm.output, Nat.le_trans hm.size h2.size, fun k hk hn => (h2.block k (Nat.lt_of_lt_of_le hk hm.size) (by omega)).trans (hm.block k hk hn)⟩⟩
theorem IQ.set {w wr : World} {R B : Nat} {r : Rdr} {x y : It} (h : IQ w R B wr r x) (i : Nat) (v : Value) (e : (itC x).toArray.setIfInBounds i v = (itC y).toArray) : IQ w R B (wr.setCell ⟨B + 1, i, none⟩ v) r y := by
  have hR := h.hR
  have hB := h.hB
  exact h.placed ((heap_setCell_other _ _ _ _ (by dsimp only; omega)).trans h.rd) (h.it.set i v e) (Mv.set _ _ _ _ (.inr rfl))
theorem IQ.start (w : World) {R : Nat} {r : Rdr} (h : RdAt w R r) : IQ w R w.heap.size ((w.alloc (.cells (xi 0 0 0 0 0 0 []) 96)).alloc (.cells (xi 0 0 0 0 0 0 []) 96)) r ⟨0, 0, 0, 0, 0, 0, []⟩ := by
  have hx := xi_start w
  have hb := hx.below
  exact ⟨h.lt, Nat.le_refl _, hx.res, hx.x, (hb.block _ h.lt).trans h, ⟨hb.os, hb.tape, hb.output, hb.size, fun k hk _ => hb.block k hk⟩⟩
theorem it_size (x : It) : (Tryz.prog.info? 96).map (·.size) = some (itC x).toArray.size := by
  show _ = some 7
  kernel_rfl
theorem it_one (x : It) : (itC x).toArray.all (·.oneCell') = true := by simp [itC, Value.oneCell']
theorem SB_eqb (a b : List UInt8) : ((SB a).toList == (SB b).toList) = decide (a = b) := by rw [SB_toList, SB_toList, Bool.eq_iff_iff]; simp

theorem iq_done {w wr : World} {R B : Nat} {r rf : Rdr} {y : It} (h : IQ w R B wr rf y) (e : itemR r = (y, rf)) : Ending.returned (.agg (itC y).toArray) = .returned (.agg (itC (itemR r).1).toArray) ∧ RdAt (wr.setRow B (itC y).toArray) R (itemR r).2 ∧ Mv (· = R) w (wr.setRow B (itC y).toArray) := by
  have hR := h.hR
  have hB := h.hB
  rw [e]
  have hms := h.mv.size
  refine ⟨rfl, (setRow_other _ _ _ _ (by omega)).trans h.rd, ⟨h.mv.os, h.mv.tape, h.mv.output, Nat.le_trans hms (Nat.le_of_eq (by simp [World.setRow])), fun k hk hn => (setRow_other _ _ _ _ (by omega)).trans (h.mv.block k hk hn)⟩⟩
set_option maxHeartbeats 8000000 in
set_option maxRecDepth 100000 in
theorem readit_calls (R : Nat) (r : Rdr) (w : World) (h : RdAt w R r) (hr : r.s.length ≤ 1000000) :
    Calls Tryz.prog 53 #[.pointer (some ⟨R, 0, none⟩)] w fun e w' => e = .returned (.agg (itC (itemR r).1).toArray) ∧ RdAt w' R (itemR r).2 ∧ Mv (· = R) w w' := by
  have hIR : itemR r = itemK (wordR r).1 (hitW colourW (wordR (skipR [32] (wordR r).2)).1 8) (wordR (skipR [32] (wordR r).2)).2 := rfl
  have HW1 := hid (fun W (h : RdAt W R r) => word_calls R r W h hr)
  have l1 := (word_len r).1
  have k1 := (word_len r).2
  obtain ⟨p1, h1⟩ : ∃ p, p = wordR r := ⟨_, rfl⟩
  rw [← h1] at HW1 hIR l1 k1
  have HS1 := hid (fun W (h : RdAt W R p1.2) => skip_calls R p1.2 [32] W h (by omega) (by simp))
  have l2 := skip_len [32] p1.2
  obtain ⟨r2, h2⟩ : ∃ p, p = skipR [32] p1.2 := ⟨_, rfl⟩
  rw [← h2] at HS1 hIR l2
  have HW2 := hid (fun W (h : RdAt W R r2) => word_calls R r2 W h (by omega))
  have l3 := (word_len r2).1
  have k3 := (word_len r2).2
  obtain ⟨p3, h3⟩ : ∃ p, p = wordR r2 := ⟨_, rfl⟩
  rw [← h3] at HW2 hIR l3 k3
  have HQ := hid (IQ.start w h)
  obtain ⟨kd, r1⟩ := p1
  obtain ⟨nm, r3⟩ := p3
  dsimp only at hIR l1 l2 l3 k1 k3 HW1 HS1 HW2
  have hl3 : r3.s.length ≤ 1000000 := by omega
  have hkd : kd.length ≤ 1000000 := by omega
  have hnm : nm.length ≤ 1000000 := by omega
  have HIR := hid hIR
  have HN := hid (fun (r' : Rdr) (hl : r'.s.length ≤ 1000000) W (h : RdAt W R r') => number_calls' R r' W h hl)
  have HTX := hid (fun (r' : Rdr) (hl : r'.s.length ≤ 1000000) W (h : RdAt W R r') => text_calls R r' W h hl)
  clear h1 h2 h3 h hIR l1 l2 l3 k1 k3 hr
  go_enter Tryz.func53, Tryz.ntmps53
  go_upto_region 2 with (fail)
  change Code.wp _ _ _ _ ((w.alloc (.cells (xi 0 0 0 0 0 0 []) 96)).alloc (.cells (xi 0 0 0 0 0 0 []) 96))
  generalize (w.alloc (.cells (xi 0 0 0 0 0 0 []) 96)).alloc (.cells (xi 0 0 0 0 0 0 []) 96) = W at *
  obtain ⟨B, hB⟩ : ∃ B, B = w.heap.size := ⟨_, rfl⟩
  rw [← hB] at HQ ⊢
  have HBW := hid hB
  clear hB
  go_wp2_with fail
  refine ((unhid HW1) W (unhid HQ).rd).mono ?_
  rintro e w1 ⟨rfl, hrd, hmv⟩
  have HQ := hid ((unhid HQ).reader hrd hmv)
  clear hrd hmv
  go_wp2_with fail
  refine ((unhid HS1) w1 (unhid HQ).rd).mono ?_
  rintro e w2 ⟨⟨v, rfl⟩, hrd, hmv⟩
  have HQ := hid ((unhid HQ).reader hrd hmv)
  clear hrd hmv
  go_wp2_with fail
  refine ((unhid HW2) w2 (unhid HQ).rd).mono ?_
  rintro e w3 ⟨rfl, hrd, hmv⟩
  have HQ := hid ((unhid HQ).reader hrd hmv)
  clear hrd hmv
  go_wp2_with fail
  go_loopw [6] (fun cv wr => ∃ c : Nat, c ≤ 8 ∧ cv = .int .i64 ((c + 1 : Nat) : Int) ∧ IQ w R B wr r3 ⟨0, hitW colourW nm c, 0, 0, 0, 0, []⟩) (fun cv _ => 9 - (intOf cv).toNat)
  case atStart => exact ⟨0, by omega, rfl, unhid HQ⟩
  case round =>
    obtain ⟨c, hc, rfl, hq⟩ := hrel
    have HQ := hid hq
    clear hq
    by_cases hcl : c < 8
    · have hci : ((c + 1 : Nat) : Int) ≤ 8 := by omega
      have HRC := hid (fun W => rcolour_calls (c + 1) (by omega) W)
      have HHW := hid (show hitW colourW nm (c + 1) = if colourW.getD (c + 1) [] = nm then ((c + 1 : Nat) : Int) else hitW colourW nm c from rfl)
      have hlc : (colourW.getD (c + 1) []).length ≤ 1000000 := by
        have : ∀ u : Fin 9, (colourW.getD u.val []).length ≤ 1000000 := by decide
        exact this ⟨c + 1, by omega⟩
      obtain ⟨cw, hcw⟩ : ∃ cw, cw = colourW.getD (c + 1) [] := ⟨_, rfl⟩
      rw [← hcw] at HRC HHW hlc
      clear hcw
      obtain ⟨c1, hc1⟩ : ∃ c1, c1 = c + 1 := ⟨_, rfl⟩
      rw [← hc1] at HRC HHW hci ⊢
      have HC1 := hid hc1
      clear hc1
      have hcb : c1 ≤ 8 := by omega
      by_cases he : cw = nm
      · have hqe : ((SB cw).toList == (SB nm).toList) = true := by rw [SB_eqb]; exact decide_eq_true he
        rw [if_pos he] at HHW
        clear he
        go_wp2_with fail
        refine ((unhid HRC) wr).mono ?_
        rintro e w4 ⟨rfl, hb4⟩
        have HQ4 := hid ((unhid HQ).after hb4)
        have c2 := (unhid HQ4).it.cell 1
        have f2 := (unhid HQ4).it.free 1
        simp [itC] at c2
        clear hb4
        go_wp2_with fail
        go_roundw
        case rel => exact ⟨c + 1, by omega, by rw [← unhid HC1]; go_num, by rw [← unhid HC1, unhid HHW]; exact (unhid HQ4).set 1 _ rfl⟩
        case measure => have := unhid HC1; simp [intOf]; omega
      · have hqe : ((SB cw).toList == (SB nm).toList) = false := by rw [SB_eqb]; exact decide_eq_false he
        rw [if_neg he] at HHW
        clear he
        go_wp2_with fail
        refine ((unhid HRC) wr).mono ?_
        rintro e w4 ⟨rfl, hb4⟩
        have HQ4 := hid ((unhid HQ).after hb4)
        clear hb4
        go_wp2_with fail
        go_roundw
        case rel => exact ⟨c + 1, by omega, by rw [← unhid HC1]; go_num, by rw [← unhid HC1, unhid HHW]; exact unhid HQ4⟩
        case measure => have := unhid HC1; simp [intOf]; omega
    · obtain rfl : c = 8 := by omega
      obtain ⟨cc, hcc⟩ : ∃ cc, cc = hitW colourW nm 8 := ⟨_, rfl⟩
      rw [← hcc] at HQ HIR
      clear hcc
      have hsb : ∀ l : List UInt8, (SB l).toList = l := SB_toList
      by_cases hfield : kd = [102, 105, 101, 108, 100]
      · subst hfield
        have HIR := hid ((unhid HIR).trans (show itemK [102, 105, 101, 108, 100] cc r3 = (⟨1, cc, 0, 0, 0, 0, []⟩, r3) from rfl))
        have c0 := (unhid HQ).it.cell 0
        have f0 := (unhid HQ).it.free 0
        simp [itC] at c0
        go_upto_region 28 with (fail)
        have HQ := hid ((unhid HQ).set (y := ⟨1, cc, 0, 0, 0, 0, []⟩) 0 (.int .i64 1) rfl)
        generalize (wr.setCell ⟨B + 1, 0, none⟩ (.int .i64 1)) = v1 at *
        clear c0 f0
        have hres := (unhid HQ).res
        have d0 := (unhid HQ).it.cell 0
        have d1 := (unhid HQ).it.cell 1
        have d2 := (unhid HQ).it.cell 2
        have d3 := (unhid HQ).it.cell 3
        have d4 := (unhid HQ).it.cell 4
        have d5 := (unhid HQ).it.cell 5
        have d6 := (unhid HQ).it.cell 6
        simp [itC] at d0 d1 d2 d3 d4 d5 d6
        go_wp2_with (refine wpList_store_row rfl 96 (.tmp 2) (.tmp 69) rfl B (itC ⟨1, cc, 0, 0, 0, 0, []⟩).toArray rfl rfl 96 _ hres (it_size _) rfl (it_one _) ?_)
        (try simp only [Exit.inBlock, Exit.then])
        refine bodyPost_ret_by (v := .agg (itC ⟨1, cc, 0, 0, 0, 0, []⟩).toArray) (results_cell_row Tryz.results53 _ _ B 96 (itC ⟨1, cc, 0, 0, 0, 0, []⟩).toArray (0, 0) _ rfl (setRow_heap _ _ _ _ _ _ hres) Tryz.underlying96 rfl (it_size _)) rfl ?_
        exact iq_done (unhid HQ) (unhid HIR)
      have nfield : (kd == [102, 105, 101, 108, 100]) = false := by simp [hfield]
      by_cases hrim : kd = [114, 105, 109]
      · subst hrim
        have HIR := hid ((unhid HIR).trans (show itemK [114, 105, 109] cc r3 = (⟨2, cc, 0, 0, (numR r3).1, 0, []⟩, (numR r3).2) from rfl))
        have m1 := num_len r3
        have HC := hid (fun W (h : RdAt W R r3) => (unhid HN) r3 (by omega) W h)
        obtain ⟨pn, hpn⟩ : ∃ p, p = numR r3 := ⟨_, rfl⟩
        rw [← hpn] at HC HIR m1
        clear hpn
        obtain ⟨na, r4⟩ := pn
        dsimp only at HC HIR m1
        go_wp2_with fail
        refine ((unhid HC) _ (unhid HQ).rd).mono ?_
        rintro e w4 ⟨rfl, hrd, hmv⟩
        have HQ := hid ((unhid HQ).reader hrd hmv)
        clear hrd hmv HC
        have c0 := (unhid HQ).it.cell 0
        have f0 := (unhid HQ).it.free 0
        have c4 := (unhid HQ).it.cell 4
        have f4 := (unhid HQ).it.free 4
        simp [itC] at c0 c4
        go_upto_region 28 with (fail)
        have HQ := hid ((unhid HQ).set (y := ⟨2, cc, 0, 0, 0, 0, []⟩) 0 (.int .i64 2) rfl)
        have HQ := hid ((unhid HQ).set (y := ⟨2, cc, 0, 0, na, 0, []⟩) 4 (.int .i64 na) rfl)
        generalize ((w4.setCell ⟨B + 1, 0, none⟩ (.int .i64 2)).setCell ⟨B + 1, 4, none⟩ (.int .i64 na)) = v2 at *
        clear c0 f0 c4 f4
        have hres := (unhid HQ).res
        have d0 := (unhid HQ).it.cell 0
        have d1 := (unhid HQ).it.cell 1
        have d2 := (unhid HQ).it.cell 2
        have d3 := (unhid HQ).it.cell 3
        have d4 := (unhid HQ).it.cell 4
        have d5 := (unhid HQ).it.cell 5
        have d6 := (unhid HQ).it.cell 6
        simp [itC] at d0 d1 d2 d3 d4 d5 d6
        go_wp2_with (refine wpList_store_row rfl 96 (.tmp 2) (.tmp 69) rfl B (itC ⟨2, cc, 0, 0, na, 0, []⟩).toArray rfl rfl 96 _ hres (it_size _) rfl (it_one _) ?_)
        (try simp only [Exit.inBlock, Exit.then])
        refine bodyPost_ret_by (v := .agg (itC ⟨2, cc, 0, 0, na, 0, []⟩).toArray) (results_cell_row Tryz.results53 _ _ B 96 (itC ⟨2, cc, 0, 0, na, 0, []⟩).toArray (0, 0) _ rfl (setRow_heap _ _ _ _ _ _ hres) Tryz.underlying96 rfl (it_size _)) rfl ?_
        exact iq_done (unhid HQ) (unhid HIR)
      have nrim : (kd == [114, 105, 109]) = false := by simp [hrim]
      by_cases hbox : kd = [98, 111, 120]
      · subst hbox
        have HIR := hid ((unhid HIR).trans (show itemK [98, 111, 120] cc r3 = (⟨3, cc, (placeR (numR (numR r3).2).2).1, (placeR (numR (numR r3).2).2).2.1, (numR r3).1, (numR (numR r3).2).1, []⟩, (placeR (numR (numR r3).2).2).2.2) from rfl))
        have m1 := num_len r3
        have HC := hid (fun W (h : RdAt W R r3) => (unhid HN) r3 (by omega) W h)
        obtain ⟨pn, hpn⟩ : ∃ p, p = numR r3 := ⟨_, rfl⟩
        rw [← hpn] at HC HIR m1
        clear hpn
        obtain ⟨na, r4⟩ := pn
        dsimp only at HC HIR m1
        go_wp2_with fail
        refine ((unhid HC) _ (unhid HQ).rd).mono ?_
        rintro e w4 ⟨rfl, hrd, hmv⟩
        have HQ := hid ((unhid HQ).reader hrd hmv)
        clear hrd hmv HC
        have c0 := (unhid HQ).it.cell 0
        have f0 := (unhid HQ).it.free 0
        have c4 := (unhid HQ).it.cell 4
        have f4 := (unhid HQ).it.free 4
        simp [itC] at c0 c4
        go_upto_region 17 with (fail)
        have HQ := hid ((unhid HQ).set (y := ⟨3, cc, 0, 0, 0, 0, []⟩) 0 (.int .i64 3) rfl)
        have HQ := hid ((unhid HQ).set (y := ⟨3, cc, 0, 0, na, 0, []⟩) 4 (.int .i64 na) rfl)
        generalize ((w4.setCell ⟨B + 1, 0, none⟩ (.int .i64 3)).setCell ⟨B + 1, 4, none⟩ (.int .i64 na)) = v3 at *
        clear c0 f0 c4 f4
        have m2 := num_len r4
        have HC := hid (fun W (h : RdAt W R r4) => (unhid HN) r4 (by omega) W h)
        obtain ⟨pn, hpn⟩ : ∃ p, p = numR r4 := ⟨_, rfl⟩
        rw [← hpn] at HC HIR m2
        clear hpn
        obtain ⟨nb, r5⟩ := pn
        dsimp only at HC HIR m2
        go_wp2_with fail
        refine ((unhid HC) _ (unhid HQ).rd).mono ?_
        rintro e w5 ⟨rfl, hrd, hmv⟩
        have HQ := hid ((unhid HQ).reader hrd hmv)
        clear hrd hmv HC
        have c5 := (unhid HQ).it.cell 5
        have f5 := (unhid HQ).it.free 5
        simp [itC] at c5
        go_upto_region 18 with (fail)
        have HQ := hid ((unhid HQ).set (y := ⟨3, cc, 0, 0, na, nb, []⟩) 5 (.int .i64 nb) rfl)
        generalize (w5.setCell ⟨B + 1, 5, none⟩ (.int .i64 nb)) = v4 at *
        clear c5 f5
        have hRB : R ≠ B + 1 := by have := (unhid HQ).hR; have := (unhid HQ).hB; omega
        have HC := hid (place_calls R (B + 1) hRB r5 ⟨3, cc, 0, 0, na, nb, []⟩ _ (unhid HQ).rd (unhid HQ).it (by omega))
        obtain ⟨pn, hpn⟩ : ∃ p, p = placeR r5 := ⟨_, rfl⟩
        rw [← hpn] at HC HIR
        clear hpn
        obtain ⟨px, py, r6⟩ := pn
        dsimp only at HC HIR
        go_wp2_with fail
        refine (unhid HC).mono ?_
        rintro e w6 ⟨⟨v6, rfl⟩, hrd, hit, hmv⟩
        have HQ := hid (show IQ w R B w6 r6 ⟨3, cc, px, py, na, nb, []⟩ from (unhid HQ).placed hrd hit hmv)
        clear hrd hit hmv HC
        have hres := (unhid HQ).res
        have d0 := (unhid HQ).it.cell 0
        have d1 := (unhid HQ).it.cell 1
        have d2 := (unhid HQ).it.cell 2
        have d3 := (unhid HQ).it.cell 3
        have d4 := (unhid HQ).it.cell 4
        have d5 := (unhid HQ).it.cell 5
        have d6 := (unhid HQ).it.cell 6
        simp [itC] at d0 d1 d2 d3 d4 d5 d6
        go_wp2_with (refine wpList_store_row rfl 96 (.tmp 2) (.tmp 69) rfl B (itC ⟨3, cc, px, py, na, nb, []⟩).toArray rfl rfl 96 _ hres (it_size _) rfl (it_one _) ?_)
        (try simp only [Exit.inBlock, Exit.then])
        refine bodyPost_ret_by (v := .agg (itC ⟨3, cc, px, py, na, nb, []⟩).toArray) (results_cell_row Tryz.results53 _ _ B 96 (itC ⟨3, cc, px, py, na, nb, []⟩).toArray (0, 0) _ rfl (setRow_heap _ _ _ _ _ _ hres) Tryz.underlying96 rfl (it_size _)) rfl ?_
        exact iq_done (unhid HQ) (unhid HIR)
      have nbox : (kd == [98, 111, 120]) = false := by simp [hbox]
      by_cases hdisc : kd = [100, 105, 115, 99]
      · subst hdisc
        have HIR := hid ((unhid HIR).trans (show itemK [100, 105, 115, 99] cc r3 = (⟨4, cc, (placeR (numR r3).2).1, (placeR (numR r3).2).2.1, (numR r3).1, 0, []⟩, (placeR (numR r3).2).2.2) from rfl))
        have m1 := num_len r3
        have HC := hid (fun W (h : RdAt W R r3) => (unhid HN) r3 (by omega) W h)
        obtain ⟨pn, hpn⟩ : ∃ p, p = numR r3 := ⟨_, rfl⟩
        rw [← hpn] at HC HIR m1
        clear hpn
        obtain ⟨na, r4⟩ := pn
        dsimp only at HC HIR m1
        go_wp2_with fail
        refine ((unhid HC) _ (unhid HQ).rd).mono ?_
        rintro e w4 ⟨rfl, hrd, hmv⟩
        have HQ := hid ((unhid HQ).reader hrd hmv)
        clear hrd hmv HC
        have c0 := (unhid HQ).it.cell 0
        have f0 := (unhid HQ).it.free 0
        have c4 := (unhid HQ).it.cell 4
        have f4 := (unhid HQ).it.free 4
        simp [itC] at c0 c4
        go_upto_region 21 with (fail)
        have HQ := hid ((unhid HQ).set (y := ⟨4, cc, 0, 0, 0, 0, []⟩) 0 (.int .i64 4) rfl)
        have HQ := hid ((unhid HQ).set (y := ⟨4, cc, 0, 0, na, 0, []⟩) 4 (.int .i64 na) rfl)
        generalize ((w4.setCell ⟨B + 1, 0, none⟩ (.int .i64 4)).setCell ⟨B + 1, 4, none⟩ (.int .i64 na)) = v5 at *
        clear c0 f0 c4 f4
        have hRB : R ≠ B + 1 := by have := (unhid HQ).hR; have := (unhid HQ).hB; omega
        have HC := hid (place_calls R (B + 1) hRB r4 ⟨4, cc, 0, 0, na, 0, []⟩ _ (unhid HQ).rd (unhid HQ).it (by omega))
        obtain ⟨pn, hpn⟩ : ∃ p, p = placeR r4 := ⟨_, rfl⟩
        rw [← hpn] at HC HIR
        clear hpn
        obtain ⟨px, py, r6⟩ := pn
        dsimp only at HC HIR
        go_wp2_with fail
        refine (unhid HC).mono ?_
        rintro e w6 ⟨⟨v6, rfl⟩, hrd, hit, hmv⟩
        have HQ := hid (show IQ w R B w6 r6 ⟨4, cc, px, py, na, 0, []⟩ from (unhid HQ).placed hrd hit hmv)
        clear hrd hit hmv HC
        have hres := (unhid HQ).res
        have d0 := (unhid HQ).it.cell 0
        have d1 := (unhid HQ).it.cell 1
        have d2 := (unhid HQ).it.cell 2
        have d3 := (unhid HQ).it.cell 3
        have d4 := (unhid HQ).it.cell 4
        have d5 := (unhid HQ).it.cell 5
        have d6 := (unhid HQ).it.cell 6
        simp [itC] at d0 d1 d2 d3 d4 d5 d6
        go_wp2_with (refine wpList_store_row rfl 96 (.tmp 2) (.tmp 69) rfl B (itC ⟨4, cc, px, py, na, 0, []⟩).toArray rfl rfl 96 _ hres (it_size _) rfl (it_one _) ?_)
        (try simp only [Exit.inBlock, Exit.then])
        refine bodyPost_ret_by (v := .agg (itC ⟨4, cc, px, py, na, 0, []⟩).toArray) (results_cell_row Tryz.results53 _ _ B 96 (itC ⟨4, cc, px, py, na, 0, []⟩).toArray (0, 0) _ rfl (setRow_heap _ _ _ _ _ _ hres) Tryz.underlying96 rfl (it_size _)) rfl ?_
        exact iq_done (unhid HQ) (unhid HIR)
      have ndisc : (kd == [100, 105, 115, 99]) = false := by simp [hdisc]
      by_cases hslash : kd = [115, 108, 97, 115, 104]
      · subst hslash
        have HIR := hid ((unhid HIR).trans (show itemK [115, 108, 97, 115, 104] cc r3 = (⟨5, cc, 0, 0, (numR r3).1, 0, []⟩, (numR r3).2) from rfl))
        have m1 := num_len r3
        have HC := hid (fun W (h : RdAt W R r3) => (unhid HN) r3 (by omega) W h)
        obtain ⟨pn, hpn⟩ : ∃ p, p = numR r3 := ⟨_, rfl⟩
        rw [← hpn] at HC HIR m1
        clear hpn
        obtain ⟨na, r4⟩ := pn
        dsimp only at HC HIR m1
        go_wp2_with fail
        refine ((unhid HC) _ (unhid HQ).rd).mono ?_
        rintro e w4 ⟨rfl, hrd, hmv⟩
        have HQ := hid ((unhid HQ).reader hrd hmv)
        clear hrd hmv HC
        have c0 := (unhid HQ).it.cell 0
        have f0 := (unhid HQ).it.free 0
        have c4 := (unhid HQ).it.cell 4
        have f4 := (unhid HQ).it.free 4
        simp [itC] at c0 c4
        go_upto_region 28 with (fail)
        have HQ := hid ((unhid HQ).set (y := ⟨5, cc, 0, 0, 0, 0, []⟩) 0 (.int .i64 5) rfl)
        have HQ := hid ((unhid HQ).set (y := ⟨5, cc, 0, 0, na, 0, []⟩) 4 (.int .i64 na) rfl)
        generalize ((w4.setCell ⟨B + 1, 0, none⟩ (.int .i64 5)).setCell ⟨B + 1, 4, none⟩ (.int .i64 na)) = v6 at *
        clear c0 f0 c4 f4
        have hres := (unhid HQ).res
        have d0 := (unhid HQ).it.cell 0
        have d1 := (unhid HQ).it.cell 1
        have d2 := (unhid HQ).it.cell 2
        have d3 := (unhid HQ).it.cell 3
        have d4 := (unhid HQ).it.cell 4
        have d5 := (unhid HQ).it.cell 5
        have d6 := (unhid HQ).it.cell 6
        simp [itC] at d0 d1 d2 d3 d4 d5 d6
        go_wp2_with (refine wpList_store_row rfl 96 (.tmp 2) (.tmp 69) rfl B (itC ⟨5, cc, 0, 0, na, 0, []⟩).toArray rfl rfl 96 _ hres (it_size _) rfl (it_one _) ?_)
        (try simp only [Exit.inBlock, Exit.then])
        refine bodyPost_ret_by (v := .agg (itC ⟨5, cc, 0, 0, na, 0, []⟩).toArray) (results_cell_row Tryz.results53 _ _ B 96 (itC ⟨5, cc, 0, 0, na, 0, []⟩).toArray (0, 0) _ rfl (setRow_heap _ _ _ _ _ _ hres) Tryz.underlying96 rfl (it_size _)) rfl ?_
        exact iq_done (unhid HQ) (unhid HIR)
      have nslash : (kd == [115, 108, 97, 115, 104]) = false := by simp [hslash]
      by_cases htext : kd = [116, 101, 120, 116]
      · subst htext
        have HIR := hid ((unhid HIR).trans (show itemK [116, 101, 120, 116] cc r3 = (⟨6, cc, (placeR (textR (numR r3).2).2).1, (placeR (textR (numR r3).2).2).2.1, (numR r3).1, 0, (textR (numR r3).2).1⟩, (placeR (textR (numR r3).2).2).2.2) from rfl))
        have m1 := num_len r3
        have HC := hid (fun W (h : RdAt W R r3) => (unhid HN) r3 (by omega) W h)
        obtain ⟨pn, hpn⟩ : ∃ p, p = numR r3 := ⟨_, rfl⟩
        rw [← hpn] at HC HIR m1
        clear hpn
        obtain ⟨na, r4⟩ := pn
        dsimp only at HC HIR m1
        go_wp2_with fail
        refine ((unhid HC) _ (unhid HQ).rd).mono ?_
        rintro e w4 ⟨rfl, hrd, hmv⟩
        have HQ := hid ((unhid HQ).reader hrd hmv)
        clear hrd hmv HC
        have c0 := (unhid HQ).it.cell 0
        have f0 := (unhid HQ).it.free 0
        have c4 := (unhid HQ).it.cell 4
        have f4 := (unhid HQ).it.free 4
        simp [itC] at c0 c4
        go_upto_region 26 with (fail)
        have HQ := hid ((unhid HQ).set (y := ⟨6, cc, 0, 0, 0, 0, []⟩) 0 (.int .i64 6) rfl)
        have HQ := hid ((unhid HQ).set (y := ⟨6, cc, 0, 0, na, 0, []⟩) 4 (.int .i64 na) rfl)
        generalize ((w4.setCell ⟨B + 1, 0, none⟩ (.int .i64 6)).setCell ⟨B + 1, 4, none⟩ (.int .i64 na)) = v7 at *
        clear c0 f0 c4 f4
        have m2 := text_len r4
        have HC := hid (fun W (h : RdAt W R r4) => (unhid HTX) r4 (by omega) W h)
        obtain ⟨pn, hpn⟩ : ∃ p, p = textR r4 := ⟨_, rfl⟩
        rw [← hpn] at HC HIR m2
        clear hpn
        obtain ⟨tx, r5⟩ := pn
        dsimp only at HC HIR m2
        have m3 := m2.1
        go_wp2_with fail
        refine ((unhid HC) _ (unhid HQ).rd).mono ?_
        rintro e w5 ⟨rfl, hrd, hmv⟩
        have HQ := hid ((unhid HQ).reader hrd hmv)
        clear hrd hmv HC
        have c6 := (unhid HQ).it.cell 6
        have f6 := (unhid HQ).it.free 6
        simp [itC] at c6
        go_upto_region 27 with (fail)
        have HQ := hid ((unhid HQ).set (y := ⟨6, cc, 0, 0, na, 0, tx⟩) 6 (.string (SB tx)) rfl)
        generalize (w5.setCell ⟨B + 1, 6, none⟩ (.string (SB tx))) = v8 at *
        clear c6 f6
        have hRB : R ≠ B + 1 := by have := (unhid HQ).hR; have := (unhid HQ).hB; omega
        have HC := hid (place_calls R (B + 1) hRB r5 ⟨6, cc, 0, 0, na, 0, tx⟩ _ (unhid HQ).rd (unhid HQ).it (by omega))
        obtain ⟨pn, hpn⟩ : ∃ p, p = placeR r5 := ⟨_, rfl⟩
        rw [← hpn] at HC HIR
        clear hpn
        obtain ⟨px, py, r6⟩ := pn
        dsimp only at HC HIR
        go_wp2_with fail
        refine (unhid HC).mono ?_
        rintro e w6 ⟨⟨v6, rfl⟩, hrd, hit, hmv⟩
        have HQ := hid (show IQ w R B w6 r6 ⟨6, cc, px, py, na, 0, tx⟩ from (unhid HQ).placed hrd hit hmv)
        clear hrd hit hmv HC
        have hres := (unhid HQ).res
        have d0 := (unhid HQ).it.cell 0
        have d1 := (unhid HQ).it.cell 1
        have d2 := (unhid HQ).it.cell 2
        have d3 := (unhid HQ).it.cell 3
        have d4 := (unhid HQ).it.cell 4
        have d5 := (unhid HQ).it.cell 5
        have d6 := (unhid HQ).it.cell 6
        simp [itC] at d0 d1 d2 d3 d4 d5 d6
        go_wp2_with (refine wpList_store_row rfl 96 (.tmp 2) (.tmp 69) rfl B (itC ⟨6, cc, px, py, na, 0, tx⟩).toArray rfl rfl 96 _ hres (it_size _) rfl (it_one _) ?_)
        (try simp only [Exit.inBlock, Exit.then])
        refine bodyPost_ret_by (v := .agg (itC ⟨6, cc, px, py, na, 0, tx⟩).toArray) (results_cell_row Tryz.results53 _ _ B 96 (itC ⟨6, cc, px, py, na, 0, tx⟩).toArray (0, 0) _ rfl (setRow_heap _ _ _ _ _ _ hres) Tryz.underlying96 rfl (it_size _)) rfl ?_
        exact iq_done (unhid HQ) (unhid HIR)
      have ntext : (kd == [116, 101, 120, 116]) = false := by simp [htext]
      have HIR := hid ((unhid HIR).trans (show itemK kd cc r3 = (⟨0, cc, 0, 0, 0, 0, []⟩, r3) by unfold itemK; rw [if_neg hfield, if_neg hrim, if_neg hbox, if_neg hdisc, if_neg hslash, if_neg htext]))
      clear hfield hrim hbox hdisc hslash htext
      have hres := (unhid HQ).res
      have d0 := (unhid HQ).it.cell 0
      have d1 := (unhid HQ).it.cell 1
      have d2 := (unhid HQ).it.cell 2
      have d3 := (unhid HQ).it.cell 3
      have d4 := (unhid HQ).it.cell 4
      have d5 := (unhid HQ).it.cell 5
      have d6 := (unhid HQ).it.cell 6
      simp [itC] at d0 d1 d2 d3 d4 d5 d6
      go_wp2_with (refine wpList_store_row rfl 96 (.tmp 2) (.tmp 69) rfl B (itC ⟨0, cc, 0, 0, 0, 0, []⟩).toArray rfl rfl 96 _ hres (it_size _) rfl (it_one _) ?_)
      (try simp only [Exit.inBlock, Exit.then])
      refine bodyPost_ret_by (v := .agg (itC ⟨0, cc, 0, 0, 0, 0, []⟩).toArray) (results_cell_row Tryz.results53 _ _ B 96 (itC ⟨0, cc, 0, 0, 0, 0, []⟩).toArray (0, 0) _ rfl (setRow_heap _ _ _ _ _ _ hres) Tryz.underlying96 rfl (it_size _)) rfl ?_
      exact iq_done (unhid HQ) (unhid HIR)

end Go.Proofs.YtbnnnjkfhffekaaGreatDoor
