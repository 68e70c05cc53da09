/-
  Parse of the reference.
-/
import Derived.Test.YtbnnnjkfhffekaaGreatDoorFcRi
import Derived.Test.YtbnnnjkfhffekaaGreatDoorFcRf
import Derived.Test.YtbnnnjkfhffekaaGreatDoorWaL
set_option linter.unusedSimpArgs false
set_option linter.unusedVariables false
namespace Go.Proofs.YtbnnnjkfhffekaaGreatDoor
open Go.RowKit

theorem place_len (r : Rdr) : (placeR r).2.2.s.length ≤ r.s.length := by
  have h1 := skip_len [32, 97, 116] r
  have h2 := num_len (skipR [32, 97, 116] r)
  have h3 := num_len (numR (skipR [32, 97, 116] r)).2
  exact Nat.le_trans h3 (Nat.le_trans h2 h1)
theorem itemK_len (kd : List UInt8) (c : Int) (r : Rdr) : (itemK kd c r).2.s.length ≤ r.s.length ∧ (itemK kd c r).1.text.length ≤ r.s.length := by
  have h1 := num_len r
  have h2 := num_len (numR r).2
  have h3 := place_len (numR (numR r).2).2
  have h4 := place_len (numR r).2
  have h5 := text_len (numR r).2
  have h6 := place_len (textR (numR r).2).2
  unfold itemK
  split
  · exact ⟨Nat.le_refl _, Nat.zero_le _⟩
  split
  · exact ⟨h1, Nat.zero_le _⟩
  split
  · exact ⟨Nat.le_trans h3 (Nat.le_trans h2 h1), Nat.zero_le _⟩
  split
  · exact ⟨Nat.le_trans h4 h1, Nat.zero_le _⟩
  split
  · exact ⟨h1, Nat.zero_le _⟩
  split
  · exact ⟨Nat.le_trans h6 (Nat.le_trans h5.1 h1), Nat.le_trans h5.2 h1⟩
  · exact ⟨Nat.le_refl _, Nat.zero_le _⟩
theorem item_len (r : Rdr) : (itemR r).2.s.length ≤ r.s.length ∧ (itemR r).1.text.length ≤ r.s.length := by
  have h1 := (word_len r).1
  have h2 := skip_len [32] (wordR r).2
  have h3 := (word_len (skipR [32] (wordR r).2)).1
  have h4 := itemK_len (wordR r).1 (hitW colourW (wordR (skipR [32] (wordR r).2)).1 8) (wordR (skipR [32] (wordR r).2)).2
  show (itemK _ _ _).2.s.length ≤ _ ∧ (itemK _ _ _).1.text.length ≤ _
  omega

theorem readit_lit (R : Nat) (r : Rdr) (w : World) (h : RdAt w R r) (hr : r.s.length ≤ 1000000) :
    Calls Tryz.prog 53 #[.pointer (some ⟨R, 0, none⟩)] w fun e w' => e = .returned (.agg #[.int .i64 (itemR r).1.kind, .int .i64 (itemR r).1.colour, .int .i64 (itemR r).1.left, .int .i64 (itemR r).1.low, .int .i64 (itemR r).1.a, .int .i64 (itemR r).1.b, .string (SB (itemR r).1.text)]) ∧ RdAt w' R (itemR r).2 ∧ Mv (· = R) w w' := readit_calls R r w h hr
/-- A face in the making: the result's block B, the reader's block and the face's block behind it. -/
structure PQ (w : World) (B : Nat) (wr : World) (r : Rdr) (vs : Array Value) : Prop where
  hB : B = w.heap.size
  res : wr.heap[B]? = some (.cells (fi 0 0 0 (.slice none 0 0)) 60 (0, 0))
  rd : RdAt wr (B + 1) r
  x : wr.heap[B + 2]? = some (.cells vs 60 (0, 0))
  below : Below w.heap.size w wr
theorem PQ.lt {w wr : World} {B : Nat} {r : Rdr} {vs : Array Value} (h : PQ w B wr r vs) : B + 2 < wr.heap.size := (Array.getElem?_eq_some_iff.1 h.x).1
theorem PQ.reader {w wr w' : World} {B : Nat} {r r' : Rdr} {vs : Array Value} (h : PQ w B wr r vs) (h1 : RdAt w' (B + 1) r') (h2 : Mv (· = B + 1) wr w') : PQ w B w' r' vs := by
  have hB := h.hB
  have hb := h.below
  exact ⟨hB, h2.kept h.res (by omega), h1, h2.kept h.x (by omega), hb.trans (h2.below (fun k hk => by omega) hb.size)⟩
theorem PQ.after {w wr w' : World} {B : Nat} {r : Rdr} {vs : Array Value} (h : PQ w B wr r vs) (hb : Below wr.heap.size wr w') : PQ w B w' r vs :=
  h.reader ((hb.block _ h.rd.lt).trans h.rd) ⟨hb.os, hb.tape, hb.output, hb.size, fun k hk _ => hb.block k hk⟩
theorem PQ.set {w wr : World} {B : Nat} {r : Rdr} {vs : Array Value} (h : PQ w B wr r vs) (i : Nat) (v : Value) : PQ w B (wr.setCell ⟨B + 2, i, none⟩ v) r (vs.setIfInBounds i v) := by
  have hB := h.hB
  exact ⟨hB, (heap_setCell_other _ _ _ _ (by simp)).trans h.res, (heap_setCell_other _ _ _ _ (by simp)).trans h.rd, heap_setCell_same _ _ _ _ _ _ h.x, Below.setCell h.below (by dsimp only; omega) v⟩
theorem PQ.grown {w wr wr' : World} {B : Nat} {r : Rdr} {vs : Array Value} {row : Option Nat} (h : PQ w B wr r vs) (hg : wr.grownBy wr' row) (hr : ∀ k, row = some k → B + 2 < k) : PQ w B wr' r vs := by
  have hne : ∀ i, i ≤ B + 2 → some i ≠ row := fun i hi e => by have := hr i e.symm; omega
  have hs := h.lt
  have hB := h.hB
  exact ⟨hB, (hg.block B (by omega) (hne B (by omega))).trans h.res, (hg.block (B + 1) (by omega) (hne (B + 1) (by omega))).trans h.rd, (hg.block (B + 2) hs (hne _ (Nat.le_refl _))).trans h.x, Below.grown h.below hg h.below.size (fun k hk => by have := hr k hk; omega)⟩
theorem PQ.cell {w wr : World} {B : Nat} {r : Rdr} {vs : Array Value} (h : PQ w B wr r vs) (i : Nat) : wr.cell? ⟨B + 2, i, none⟩ = vs[i]? := cell_of_row _ _ _ _ _ _ h.x
theorem PQ.free {w wr : World} {B : Nat} {r : Rdr} {vs : Array Value} (h : PQ w B wr r vs) (i : Nat) : wr.frozen? ⟨B + 2, i, none⟩ = false := frozen_of_row _ _ _ _ _ h.x
theorem pq_start (w : World) (s : List UInt8) : PQ w w.heap.size (((w.alloc (.cells (fi 0 0 0 (.slice none 0 0)) 60)).alloc (.cells #[.string (SB s), .bool false] 90)).alloc (.cells (fi 0 0 0 (.slice none 0 0)) 60)) ⟨s, false⟩ (fi 0 0 0 (.slice none 0 0)) := by
  have b1 := below_alloc w (.cells (fi 0 0 0 (.slice none 0 0)) 60)
  have n1 := heap_alloc_new w (.cells (fi 0 0 0 (.slice none 0 0)) 60)
  have s1 : (w.alloc (.cells (fi 0 0 0 (.slice none 0 0)) 60)).heap.size = w.heap.size + 1 := by simp
  generalize w.alloc (.cells (fi 0 0 0 (.slice none 0 0)) 60) = W1 at *
  have b2 := below_alloc W1 (.cells #[.string (SB s), .bool false] 90)
  have n2 := heap_alloc_new W1 (.cells #[.string (SB s), .bool false] 90)
  have s2 : (W1.alloc (.cells #[.string (SB s), .bool false] 90)).heap.size = W1.heap.size + 1 := by simp
  generalize W1.alloc (.cells #[.string (SB s), .bool false] 90) = W2 at *
  have b3 := below_alloc W2 (.cells (fi 0 0 0 (.slice none 0 0)) 60)
  have n3 := heap_alloc_new W2 (.cells (fi 0 0 0 (.slice none 0 0)) 60)
  refine ⟨rfl, (b3.block _ (by omega)).trans ((b2.block _ (by omega)).trans n1), ?_, ?_, b1.trans ((b2.trans (b3.mono b2.size)).mono b1.size)⟩
  · rw [← s1]; exact (b3.block _ (by omega)).trans n2
  · rw [show w.heap.size + 2 = W2.heap.size by omega]; exact n3
theorem own_mv {w w' : World} {base e size n : Nat} {v : Value} {xs : List Value} {R : Nat} (h : w.ownsRow base e size v n xs) (hm : Mv (· = R) w w') (hR : R < base) : w'.ownsRow base e size v n xs := by
  obtain ⟨h1, h2⟩ := h
  refine ⟨h1, ?_⟩
  rcases h2 with h2 | ⟨g, cap, cur, e1, e2, e3, e4⟩
  · exact .inl h2
  · exact .inr ⟨g, cap, cur, e1, e2, hm.kept e3 (by omega), e4⟩
theorem items_step {m k : Nat} {r : Rdr} (h1 : r.bad = false) (h2 : r.s ≠ []) : itemsR (m + 1) k r = ((itemR (skipR (sepR k) r)).1 :: (itemsR m (k + 1) (itemR (skipR (sepR k) r)).2).1, (itemsR m (k + 1) (itemR (skipR (sepR k) r)).2).2) := by
  rw [itemsR, if_pos ⟨h1, h2⟩]
theorem items_stop {m k : Nat} {r : Rdr} (h : ¬ (r.bad = false ∧ r.s ≠ [])) : itemsR m k r = ([], r) := by
  cases m with
  | zero => rfl
  | succ m => rw [itemsR, if_neg h]
theorem parse_bad {s : List UInt8} (h : (readRf s).2.bad = true) : parseP s = none := by
  rw [← parseR_eq, parseR, if_neg (by rw [h]; simp)]
theorem parse_rest {s : List UInt8} (h : (readRf s).2.s ≠ []) : parseP s = none := by
  rw [← parseR_eq, parseR, if_neg (fun e => h e.2.1)]
theorem parse_wrong {s : List UInt8} (h : ¬ (fcB (readRf s).1 = true ∧ fmtF (readRf s).1 = s)) : parseP s = none := by
  rw [← parseR_eq, parseR, if_neg (fun e => h ⟨e.2.2.1, e.2.2.2⟩)]
theorem parse_right {s : List UInt8} (h1 : (readRf s).2.bad = false) (h2 : (readRf s).2.s = []) (h3 : fcB (readRf s).1 = true) (h4 : fmtF (readRf s).1 = s) : parseP s = some (readRf s).1 := by
  rw [← parseR_eq, parseR, if_pos ⟨h1, h2, h3, h4⟩]

set_option maxHeartbeats 8000000 in
set_option maxRecDepth 100000 in
theorem rparse_calls (s : List UInt8) (w : World) (hs : s.length ≤ 1000000) :
    Calls Tryz.prog 39 #[.string (SB s)] w (parR s w) := by
  have HRF := hid (show readRf s = (⟨hitW shapeW (wordR ⟨s, false⟩).1 6, (numR (wordR ⟨s, false⟩).2).1, (if hitW shapeW (wordR ⟨s, false⟩).1 6 = 2 then numR (numR (wordR ⟨s, false⟩).2).2 else (0, (numR (wordR ⟨s, false⟩).2).2)).1, (itemsR 16 0 (if hitW shapeW (wordR ⟨s, false⟩).1 6 = 2 then numR (numR (wordR ⟨s, false⟩).2).2 else (0, (numR (wordR ⟨s, false⟩).2).2)).2).1⟩, (itemsR 16 0 (if hitW shapeW (wordR ⟨s, false⟩).1 6 = 2 then numR (numR (wordR ⟨s, false⟩).2).2 else (0, (numR (wordR ⟨s, false⟩).2).2)).2).2) from rfl)
  have HQ := hid (pq_start w s)
  obtain ⟨i0, hi, hz0, hz1, hz2⟩ := info_parts info_item
  obtain ⟨B, hB⟩ : ∃ B, B = w.heap.size := ⟨_, rfl⟩
  have HW := hid (fun W (h : RdAt W (B + 1) ⟨s, false⟩) => word_calls (B + 1) ⟨s, false⟩ W h hs)
  have l1 := (word_len ⟨s, false⟩).1
  have k1 := (word_len ⟨s, false⟩).2
  dsimp only at l1 k1
  obtain ⟨p1, h1⟩ : ∃ p, p = wordR ⟨s, false⟩ := ⟨_, rfl⟩
  rw [← h1] at HW HRF l1 k1
  clear h1
  obtain ⟨nm, r1⟩ := p1
  dsimp only at HW HRF l1 k1
  have hnm : nm.length ≤ 1000000 := by omega
  have HN1 := hid (fun W (h : RdAt W (B + 1) r1) => number_calls' (B + 1) r1 W h (by omega))
  have l2 := num_len r1
  obtain ⟨p2, h2⟩ : ∃ p, p = numR r1 := ⟨_, rfl⟩
  rw [← h2] at HN1 HRF l2
  clear h2
  obtain ⟨za, r2⟩ := p2
  dsimp only at HN1 HRF l2
  have hl2 : r2.s.length ≤ 1000000 := by omega
  clear l1 l2 k1
  go_enter Tryz.func39, Tryz.ntmps39
  go_upto_region 3 with (fail)
  change Code.wp _ _ _ _ (((w.alloc (.cells (fi 0 0 0 (.slice none 0 0)) 60)).alloc (.cells #[.string (SB s), .bool false] 90)).alloc (.cells (fi 0 0 0 (.slice none 0 0)) 60))
  generalize ((w.alloc (.cells (fi 0 0 0 (.slice none 0 0)) 60)).alloc (.cells #[.string (SB s), .bool false] 90)).alloc (.cells (fi 0 0 0 (.slice none 0 0)) 60) = W at *
  rw [← hB] at HQ ⊢
  have HBW := hid hB
  clear hB
  go_wp2_with fail
  refine ((unhid HW) W (unhid HQ).rd).mono ?_
  rintro e w1 ⟨rfl, hrd, hmv⟩
  have HQ := hid ((unhid HQ).reader hrd hmv)
  clear hrd hmv HW
  go_wp2_with fail
  go_loopw [7] (fun cv wr => ∃ c : Nat, c ≤ 6 ∧ cv = .int .i64 ((c + 1 : Nat) : Int) ∧ PQ w B wr r1 (fi (hitW shapeW nm c) 0 0 (.slice none 0 0))) (fun cv _ => 7 - (intOf cv).toNat)
  case atStart => exact ⟨0, by omega, rfl, unhid HQ⟩
  case round =>
    obtain ⟨c, hc, rfl, hq⟩ := hrel
    have HQ := hid hq
    clear hq
    by_cases hcl : c < 6
    · have hci : ((c + 1 : Nat) : Int) ≤ 6 := by omega
      have HRC := hid (fun W => rshape_calls (c + 1) (by omega) W)
      have HHW := hid (show hitW shapeW nm (c + 1) = if shapeW.getD (c + 1) [] = nm then ((c + 1 : Nat) : Int) else hitW shapeW nm c from rfl)
      obtain ⟨cw, hcw⟩ : ∃ cw, cw = shapeW.getD (c + 1) [] := ⟨_, rfl⟩
      rw [← hcw] at HRC HHW
      clear hcw
      obtain ⟨c1, hc1⟩ : ∃ c1, c1 = c + 1 := ⟨_, rfl⟩
      rw [← hc1] at HRC HHW hci ⊢
      have HC1 := hid hc1
      clear hc1
      have hcb : c1 ≤ 6 := by omega
      by_cases he : cw = nm
      · have hqe : ((SB cw).toList == (SB nm).toList) = true := by rw [SB_eqb]; exact decide_eq_true he
        rw [if_pos he] at HHW
        clear he
        go_wp2_with fail
        refine ((unhid HRC) wr).mono ?_
        rintro e w4 ⟨rfl, hb4⟩
        have HQ4 := hid ((unhid HQ).after hb4)
        have c2 := (unhid HQ4).cell 0
        have f2 := (unhid HQ4).free 0
        simp [fi] at c2
        clear hb4
        go_wp2_with fail
        go_roundw
        case rel => exact ⟨c + 1, by omega, by rw [← unhid HC1]; go_num, by rw [← unhid HC1, unhid HHW]; exact (unhid HQ4).set 0 _⟩
        case measure => have := unhid HC1; simp [intOf]; omega
      · have hqe : ((SB cw).toList == (SB nm).toList) = false := by rw [SB_eqb]; exact decide_eq_false he
        rw [if_neg he] at HHW
        clear he
        go_wp2_with fail
        refine ((unhid HRC) wr).mono ?_
        rintro e w4 ⟨rfl, hb4⟩
        have HQ4 := hid ((unhid HQ).after hb4)
        clear hb4
        go_wp2_with fail
        go_roundw
        case rel => exact ⟨c + 1, by omega, by rw [← unhid HC1]; go_num, by rw [← unhid HC1, unhid HHW]; exact unhid HQ4⟩
        case measure => have := unhid HC1; simp [intOf]; omega
    · obtain rfl : c = 6 := by omega
      obtain ⟨sh, hsh⟩ : ∃ sh, sh = hitW shapeW nm 6 := ⟨_, rfl⟩
      rw [← hsh] at HQ HRF
      clear hsh
      go_wp2_with fail
      refine ((unhid HN1) wr (unhid HQ).rd).mono ?_
      rintro e w2 ⟨rfl, hrd, hmv⟩
      have HQ := hid ((unhid HQ).reader hrd hmv)
      clear hrd hmv HN1
      have c2 := (unhid HQ).cell 1
      have f2 := (unhid HQ).free 1
      simp [fi] at c2
      go_upto_region 10 with (fail)
      have HQ := hid (show PQ w B (w2.setCell ⟨B + 2, 1, none⟩ (.int .i64 za)) r2 (fi sh za 0 (.slice none 0 0)) from (unhid HQ).set 1 _)
      generalize w2.setCell ⟨B + 2, 1, none⟩ (.int .i64 za) = w3 at *
      clear c2 f2
      have c2 := (unhid HQ).cell 0
      simp [fi] at c2
      go_upto_if 30 with (fail)
      go_cut [4] from 30 to 33 (fun s4 wz => s4 = .pointer (some ⟨B + 1, 0, none⟩) ∧ ∃ (ga : Int) (rg : Rdr), readRf s = (⟨sh, za, ga, (itemsR 16 0 rg).1⟩, (itemsR 16 0 rg).2) ∧ rg.s.length ≤ 1000000 ∧ PQ w B wz rg (fi sh za ga (.slice none 0 0)))
      case first =>
        by_cases h2 : sh = 2
        · have hsb : (sh == 2) = true := by simp [h2]
          have HRF := hid (show readRf s = (⟨sh, za, (numR r2).1, (itemsR 16 0 (numR r2).2).1⟩, (itemsR 16 0 (numR r2).2).2) by have h := unhid HRF; rw [if_pos h2] at h; exact h)
          have l3 := num_len r2
          have HN2 := hid (fun W (h : RdAt W (B + 1) r2) => number_calls' (B + 1) r2 W h hl2)
          obtain ⟨p, hp⟩ : ∃ p, p = numR r2 := ⟨_, rfl⟩
          rw [← hp] at HRF l3 HN2
          clear hp
          obtain ⟨ga, rg⟩ := p
          dsimp only at HRF l3 HN2
          clear h2
          go_wp2_with fail
          refine ((unhid HN2) w3 (unhid HQ).rd).mono ?_
          rintro e w4 ⟨rfl, hrd, hmv⟩
          have HQ := hid ((unhid HQ).reader hrd hmv)
          clear hrd hmv HN2
          have c3 := (unhid HQ).cell 2
          have f3 := (unhid HQ).free 2
          simp [fi] at c3
          go_wp2_with fail
          go_meet
          case rel => exact ⟨rfl, ga, rg, unhid HRF, by omega, (unhid HQ).set 2 _⟩
        · have hsb : (sh == 2) = false := by simp [h2]
          have HRF := hid (show readRf s = (⟨sh, za, 0, (itemsR 16 0 r2).1⟩, (itemsR 16 0 r2).2) by have h := unhid HRF; rw [if_neg h2] at h; exact h)
          clear h2
          go_wp2_with fail
          go_meet
          case rel => exact ⟨rfl, 0, r2, unhid HRF, hl2, unhid HQ⟩
      case rest =>
      obtain ⟨rfl, ga, rg, hrf, hlg, hq⟩ := hcut
      have HRF := hid hrf
      have HQ := hid hq
      clear hrf hq c2
      go_wp2_with fail
      go_loopw [8] (fun iv wr => ∃ (k : Nat) (l : List It) (rk : Rdr) (v : Value), k ≤ 16 ∧ iv = .int .i64 k ∧ l.length = k ∧ (itemsR 16 0 rg = (l ++ (itemsR (16 - k) k rk).1, (itemsR (16 - k) k rk).2)) ∧ rk.s.length ≤ 1000000 ∧ (∀ x ∈ l, x.text.length ≤ 1000000) ∧ PQ w B wr rk (fi sh za ga v) ∧ wr.ownsRow (B + 3) 96 7 v l.length (its l)) (fun iv _ => 16 - (intOf iv).toNat)
      case atStart => exact ⟨0, [], rg, _, by omega, rfl, rfl, by simp, hlg, by simp, unhid HQ, World.ownsRow_nil _ _ _ _⟩
      case round =>
        obtain ⟨k, l, rk, v, hk, rfl, hlk, hrem, hlr, htx, hq, hrow⟩ := hrel
        have HREM := hid hrem
        have HTX := hid htx
        have HQ := hid hq
        have HROW := hid hrow
        have hll : l.length ≤ 16 := by omega
        have HLK := hid hlk
        clear hlk
        clear hrem htx hq hrow
        have hsb : ∀ l : List UInt8, (SB l).toList = l := SB_toList
        obtain ⟨ss, bd⟩ := rk
        obtain ⟨c0, c1, f0, f1⟩ := (unhid HQ).rd.cells
        dsimp only at c0 c1 hlr
        cases bd with
        | true =>
          have HPN := hid (parse_bad (s := s) (by rw [unhid HRF, unhid HREM]; rw [items_stop (by simp)]))
          by_cases hk16 : (k : Int) < 16
          · go_wp2_with (refine wpList_store_row rfl 60 (.tmp 2) (.tmp 88) rfl B (fi 0 0 0 (.slice none 0 0)) rfl rfl 60 _ (unhid HQ).res (fi_size _ _ _ _) rfl (fi_one _ _ _ _ _ _) ?_)
            (try simp only [Exit.inBlock, Exit.then])
            refine bodyPost_ret_by (v := .tuple #[.agg (fi 0 0 0 (.slice none 0 0)), .int .i64 4]) (results_cell_row_tmp Tryz.results39 _ _ B 60 (fi 0 0 0 (.slice none 0 0)) (0, 0) _ _ rfl rfl (setRow_heap _ _ _ _ _ _ (unhid HQ).res) Tryz.underlying60 rfl (fi_size _ _ _ _)) rfl ?_
            exact parR_no (unhid HPN) (below_setRow (unhid HQ).below (by have := (unhid HQ).hB; omega) _)
          · go_wp2_with (refine wpList_store_row rfl 60 (.tmp 2) (.tmp 88) rfl B (fi 0 0 0 (.slice none 0 0)) rfl rfl 60 _ (unhid HQ).res (fi_size _ _ _ _) rfl (fi_one _ _ _ _ _ _) ?_)
            (try simp only [Exit.inBlock, Exit.then])
            refine bodyPost_ret_by (v := .tuple #[.agg (fi 0 0 0 (.slice none 0 0)), .int .i64 4]) (results_cell_row_tmp Tryz.results39 _ _ B 60 (fi 0 0 0 (.slice none 0 0)) (0, 0) _ _ rfl rfl (setRow_heap _ _ _ _ _ _ (unhid HQ).res) Tryz.underlying60 rfl (fi_size _ _ _ _)) rfl ?_
            exact parR_no (unhid HPN) (below_setRow (unhid HQ).below (by have := (unhid HQ).hB; omega) _)
        | false =>
          cases ss with
          | cons ch ss =>
            by_cases hk16 : (k : Int) < 16
            · have hk15 : k < 16 := by omega
              have HSTEP := hid (items_step (m := 16 - (k + 1)) (k := k) (r := ⟨ch :: ss, false⟩) rfl (by simp))
              have hm : 16 - k = 16 - (k + 1) + 1 := by omega
              have hrem := unhid HREM
              rw [hm, unhid HSTEP] at hrem
              have l4 := skip_len (sepR k) ⟨ch :: ss, false⟩
              have HSK := hid (fun W (h : RdAt W (B + 1) ⟨ch :: ss, false⟩) => skip_calls (B + 1) ⟨ch :: ss, false⟩ (sepR k) W h hlr (by unfold sepR; split <;> simp))
              obtain ⟨rs, hrs⟩ : ∃ rs, rs = skipR (sepR k) ⟨ch :: ss, false⟩ := ⟨_, rfl⟩
              rw [← hrs] at hrem l4 HSK
              clear hrs
              dsimp only at l4
              have hl5 := item_len rs
              have HIT := hid (fun W (h : RdAt W (B + 1) rs) => readit_lit (B + 1) rs W h (by omega))
              obtain ⟨pi, hpi⟩ : ∃ p, p = itemR rs := ⟨_, rfl⟩
              rw [← hpi] at hrem hl5 HIT
              clear hpi
              obtain ⟨x, rn⟩ := pi
              dsimp only at hrem hl5 HIT
              have HREM2 := hid hrem
              have HREAD := hid (show ∀ W1 : World, True from fun _ => trivial)
              clear hrem hm
              have hkk : k = 0 ∨ 0 < k := by omega
              rcases hkk with hk0 | hk0
              · have hsep : sepR k = [58, 32] := by rw [hk0]; rfl
                have hk1 : ((k : Int) == 0) = true := by simp [hk0]
                clear hk0
                rw [hsep] at HSK
                go_wp2_with fail
                refine ((unhid HSK) wr (unhid HQ).rd).mono ?_
                rintro e w4 ⟨⟨v4, rfl⟩, hrd, hmv⟩
                have HQ4 := hid ((unhid HQ).reader hrd hmv)
                have HROW4 := hid (own_mv (unhid HROW) hmv (by omega))
                clear hrd hmv c0 c1 f0 f1
                go_wp2_with fail
                refine ((unhid HIT) w4 (unhid HQ4).rd).mono ?_
                rintro e w5 ⟨rfl, hrd, hmv⟩
                have HQ5 := hid ((unhid HQ4).reader hrd hmv)
                have HROW5 := hid (own_mv (unhid HROW4) hmv (by omega))
                clear hrd hmv
                have hb6 := below_alloc w5 (.cells (itC x).toArray 96)
                have hn6 := heap_alloc_new w5 (.cells (itC x).toArray 96)
                have HQ6 := hid ((unhid HQ5).after hb6)
                have HROW6 := hid (own_below (unhid HROW5) hb6)
                go_upto_region 19 with (fail)
                change Code.wp _ _ _ _ (w5.alloc (.cells (itC x).toArray 96))
                generalize w5.alloc (.cells (itC x).toArray 96) = w6 at *
                generalize w5.heap.size = E at *
                have g0 := cell_of_row _ E 0 _ _ _ hn6
                have g1 := cell_of_row _ E 1 _ _ _ hn6
                have g2 := cell_of_row _ E 2 _ _ _ hn6
                have g3 := cell_of_row _ E 3 _ _ _ hn6
                have g4 := cell_of_row _ E 4 _ _ _ hn6
                have g5 := cell_of_row _ E 5 _ _ _ hn6
                have g6 := cell_of_row _ E 6 _ _ _ hn6
                simp [itC] at g0 g1 g2 g3 g4 g5 g6
                obtain ⟨A0, c1', rfl, -⟩ := own_slice (unhid HROW6)
                have c3 := (unhid HQ6).cell 3
                simp [fi] at c3
                have hlt6 := (unhid HQ6).lt
                clear hb6 hn6
                go_wp2_with (at_builtin; refine wpList_append_own _ rfl _ _ 58 rfl (B + 3) 96 i0 _ 7 64 Tryz.underlying58 hi hz0 hz1 hz2 rfl (by decide) _ _ _ rfl ((unhid HROW6).alloc _) ⟨w6.heap.size, 0, none⟩ 1 1 (itC x) rfl rfl ?c1 ?c2 ?c3 ?c4 ?c5 ?_)
                case c1 => exact World.news_of_block (cs := (itC x).toArray) (t := 96) (fr := (0, 0)) (by simpa [itC] using heap_alloc_new w6 (.cells (itC x).toArray 96))
                case c2 => intro u hu; simp [itC] at hu; rcases hu with rfl | rfl | rfl | rfl | rfl | rfl | rfl <;> rfl
                case c3 => unfold maxLen; omega
                case c4 => omega
                case c5 => simp; omega
                intro v' w7 hown7 hg7 _
                obtain ⟨A3, c3', rfl, -⟩ := own_slice hown7
                have hrow7 : ∀ q, (Value.slice A0 l.length c1').ownBlock = some q → B + 2 < q := fun q hq => by
                  rcases Nat.lt_or_ge q (B + 3) with h' | h'
                  · exact absurd hq (own_ne (unhid HROW6) (Or.inl h'))
                  · omega
                have HQ7 := hid (((unhid HQ6).after (below_alloc w6 (.cells (itC x).toArray 96))).grown hg7 hrow7)
                have c33 := (unhid HQ7).cell 3
                have f33 := (unhid HQ7).free 3
                simp [fi] at c33
                have HO7 := hid hown7
                clear hown7 hg7 hrow7 c3
                go_wp2_with fail
                go_roundw
                case rel =>
                  refine ⟨k + 1, l ++ [x], rn, .slice A3 (l.length + 1) c3', by omega, by go_num, by have := unhid HLK; simp; omega, ?_, by omega, ?_, (unhid HQ7).set 3 _, ?_⟩
                  · rw [unhid HREM2]; simp
                  · intro y hy
                    rcases List.mem_append.1 hy with hy | hy
                    · exact (unhid HTX) y hy
                    · rw [List.mem_singleton.1 hy]; omega
                  · have ho := own_setCell (unhid HO7) (a := ⟨B + 2, 3, none⟩) (by dsimp only; omega) (.slice A3 (l.length + 1) c3')
                    rw [List.length_append, List.length_singleton, show its (l ++ [x]) = its l ++ itC x by simp [its]]
                    exact ho
                case measure => simp [intOf]; omega

              · have hsep : sepR k = [59, 32] := if_neg (by omega)
                have hk1 : ((k : Int) == 0) = false := by simp; omega
                rw [hsep] at HSK
                go_wp2_with fail
                refine ((unhid HSK) wr (unhid HQ).rd).mono ?_
                rintro e w4 ⟨⟨v4, rfl⟩, hrd, hmv⟩
                have HQ4 := hid ((unhid HQ).reader hrd hmv)
                have HROW4 := hid (own_mv (unhid HROW) hmv (by omega))
                clear hrd hmv c0 c1 f0 f1
                go_wp2_with fail
                refine ((unhid HIT) w4 (unhid HQ4).rd).mono ?_
                rintro e w5 ⟨rfl, hrd, hmv⟩
                have HQ5 := hid ((unhid HQ4).reader hrd hmv)
                have HROW5 := hid (own_mv (unhid HROW4) hmv (by omega))
                clear hrd hmv
                have hb6 := below_alloc w5 (.cells (itC x).toArray 96)
                have hn6 := heap_alloc_new w5 (.cells (itC x).toArray 96)
                have HQ6 := hid ((unhid HQ5).after hb6)
                have HROW6 := hid (own_below (unhid HROW5) hb6)
                go_upto_region 19 with (fail)
                change Code.wp _ _ _ _ (w5.alloc (.cells (itC x).toArray 96))
                generalize w5.alloc (.cells (itC x).toArray 96) = w6 at *
                generalize w5.heap.size = E at *
                have g0 := cell_of_row _ E 0 _ _ _ hn6
                have g1 := cell_of_row _ E 1 _ _ _ hn6
                have g2 := cell_of_row _ E 2 _ _ _ hn6
                have g3 := cell_of_row _ E 3 _ _ _ hn6
                have g4 := cell_of_row _ E 4 _ _ _ hn6
                have g5 := cell_of_row _ E 5 _ _ _ hn6
                have g6 := cell_of_row _ E 6 _ _ _ hn6
                simp [itC] at g0 g1 g2 g3 g4 g5 g6
                obtain ⟨A0, c1', rfl, -⟩ := own_slice (unhid HROW6)
                have c3 := (unhid HQ6).cell 3
                simp [fi] at c3
                have hlt6 := (unhid HQ6).lt
                clear hb6 hn6
                go_wp2_with (at_builtin; refine wpList_append_own _ rfl _ _ 58 rfl (B + 3) 96 i0 _ 7 64 Tryz.underlying58 hi hz0 hz1 hz2 rfl (by decide) _ _ _ rfl ((unhid HROW6).alloc _) ⟨w6.heap.size, 0, none⟩ 1 1 (itC x) rfl rfl ?c1 ?c2 ?c3 ?c4 ?c5 ?_)
                case c1 => exact World.news_of_block (cs := (itC x).toArray) (t := 96) (fr := (0, 0)) (by simpa [itC] using heap_alloc_new w6 (.cells (itC x).toArray 96))
                case c2 => intro u hu; simp [itC] at hu; rcases hu with rfl | rfl | rfl | rfl | rfl | rfl | rfl <;> rfl
                case c3 => unfold maxLen; omega
                case c4 => omega
                case c5 => simp; omega
                intro v' w7 hown7 hg7 _
                obtain ⟨A3, c3', rfl, -⟩ := own_slice hown7
                have hrow7 : ∀ q, (Value.slice A0 l.length c1').ownBlock = some q → B + 2 < q := fun q hq => by
                  rcases Nat.lt_or_ge q (B + 3) with h' | h'
                  · exact absurd hq (own_ne (unhid HROW6) (Or.inl h'))
                  · omega
                have HQ7 := hid (((unhid HQ6).after (below_alloc w6 (.cells (itC x).toArray 96))).grown hg7 hrow7)
                have c33 := (unhid HQ7).cell 3
                have f33 := (unhid HQ7).free 3
                simp [fi] at c33
                have HO7 := hid hown7
                clear hown7 hg7 hrow7 c3
                go_wp2_with fail
                go_roundw
                case rel =>
                  refine ⟨k + 1, l ++ [x], rn, .slice A3 (l.length + 1) c3', by omega, by go_num, by have := unhid HLK; simp; omega, ?_, by omega, ?_, (unhid HQ7).set 3 _, ?_⟩
                  · rw [unhid HREM2]; simp
                  · intro y hy
                    rcases List.mem_append.1 hy with hy | hy
                    · exact (unhid HTX) y hy
                    · rw [List.mem_singleton.1 hy]; omega
                  · have ho := own_setCell (unhid HO7) (a := ⟨B + 2, 3, none⟩) (by dsimp only; omega) (.slice A3 (l.length + 1) c3')
                    rw [List.length_append, List.length_singleton, show its (l ++ [x]) = its l ++ itC x by simp [its]]
                    exact ho
                case measure => simp [intOf]; omega


            · obtain rfl : k = 16 := by omega
              have HPN := hid (parse_rest (s := s) (by rw [unhid HRF, unhid HREM]; show ((itemsR 0 16 ⟨ch :: ss, false⟩).2).s ≠ []; simp [itemsR]))
              go_wp2_with (refine wpList_store_row rfl 60 (.tmp 2) (.tmp 88) rfl B (fi 0 0 0 (.slice none 0 0)) rfl rfl 60 _ (unhid HQ).res (fi_size _ _ _ _) rfl (fi_one _ _ _ _ _ _) ?_)
              (try simp only [Exit.inBlock, Exit.then])
              refine bodyPost_ret_by (v := .tuple #[.agg (fi 0 0 0 (.slice none 0 0)), .int .i64 4]) (results_cell_row_tmp Tryz.results39 _ _ B 60 (fi 0 0 0 (.slice none 0 0)) (0, 0) _ _ rfl rfl (setRow_heap _ _ _ _ _ _ (unhid HQ).res) Tryz.underlying60 rfl (fi_size _ _ _ _)) rfl ?_
              exact parR_no (unhid HPN) (below_setRow (unhid HQ).below (by have := (unhid HQ).hB; omega) _)
          | nil =>
            have hstop : itemsR (16 - k) k ⟨[], false⟩ = ([], ⟨[], false⟩) := items_stop (by simp)
            have HRD := hid (show readRf s = (⟨sh, za, ga, l⟩, ⟨[], false⟩) by rw [unhid HRF, unhid HREM, hstop]; simp)
            clear hstop
            obtain ⟨A0, cc, rfl, hrd, hob⟩ := own_slice (unhid HROW)
            have HI := hid (show ItsOk wr A0 l from ⟨by omega, hrd, fun x hx => Nat.le_trans ((unhid HTX) x hx) (by omega)⟩)
            have HAB := hid (show ∀ a, A0 = some a → B + 1 < a.block from fun a ha => by subst ha; have := hob a.block rfl; omega)
            clear hrd hob
            have d0 := (unhid HQ).cell 0
            have d1 := (unhid HQ).cell 1
            have d2 := (unhid HQ).cell 2
            have d3 := (unhid HQ).cell 3
            simp [fi] at d0 d1 d2 d3
            by_cases hk16 : (k : Int) < 16
            · go_wp2_with fail
              refine (rvalid_calls ⟨sh, za, ga, l⟩ A0 cc wr (unhid HI)).mono ?_
              rintro e w5 ⟨rfl, hb5⟩
              have HQ5 := hid ((unhid HQ).after hb5)
              have HI5 := hid ((unhid HI).below hb5)
              clear hb5 d0 d1 d2 d3
              cases hv : fcB (⟨sh, za, ga, l⟩ : Fc) with
              | false =>
                have HPN := hid (parse_wrong (s := s) (by rw [unhid HRD]; rw [hv]; simp))
                clear hv
                go_wp2_with (refine wpList_store_row rfl 60 (.tmp 2) (.tmp 88) rfl B (fi 0 0 0 (.slice none 0 0)) rfl rfl 60 _ (unhid HQ5).res (fi_size _ _ _ _) rfl (fi_one _ _ _ _ _ _) ?_)
                (try simp only [Exit.inBlock, Exit.then])
                refine bodyPost_ret_by (v := .tuple #[.agg (fi 0 0 0 (.slice none 0 0)), .int .i64 4]) (results_cell_row_tmp Tryz.results39 _ _ B 60 (fi 0 0 0 (.slice none 0 0)) (0, 0) _ _ rfl rfl (setRow_heap _ _ _ _ _ _ (unhid HQ5).res) Tryz.underlying60 rfl (fi_size _ _ _ _)) rfl ?_
                exact parR_no (unhid HPN) (below_setRow (unhid HQ5).below (by have := (unhid HQ5).hB; omega) _)
              | true =>
                have HV := hid hv
                have HFM := hid (rformat_calls ⟨sh, za, ga, l⟩ A0 cc w5 (unhid HI5) hv)
                clear hv
                have d0 := (unhid HQ5).cell 0
                have d1 := (unhid HQ5).cell 1
                have d2 := (unhid HQ5).cell 2
                have d3 := (unhid HQ5).cell 3
                simp [fi] at d0 d1 d2 d3
                go_wp2_with fail
                refine (unhid HFM).mono ?_
                rintro e w6 ⟨rfl, hb6⟩
                have HQ6 := hid ((unhid HQ5).after hb6)
                have HI6 := hid ((unhid HI5).below hb6)
                clear hb6 d0 d1 d2 d3 HFM
                by_cases hq : fmtF (⟨sh, za, ga, l⟩ : Fc) = s
                · have HPY := hid (parse_right (s := s) (by rw [unhid HRD]) (by rw [unhid HRD]) (by rw [unhid HRD]; exact unhid HV) (by rw [unhid HRD]; exact hq))
                  rw [unhid HRD] at HPY
                  have hqb : (fmtF (⟨sh, za, ga, l⟩ : Fc) == s) = true := by simp [hq]
                  have hqc : (fmtF (⟨sh, za, ga, l⟩ : Fc) != s) = false := by simp [hq]
                  clear hq
                  have d0 := (unhid HQ6).cell 0
                  have d1 := (unhid HQ6).cell 1
                  have d2 := (unhid HQ6).cell 2
                  have d3 := (unhid HQ6).cell 3
                  simp [fi] at d0 d1 d2 d3
                  generalize fmtF (⟨sh, za, ga, l⟩ : Fc) = fm at *
                  go_wp2_with (refine wpList_store_row rfl 60 (.tmp 2) (.tmp 89) rfl B (fi sh za ga (.slice A0 l.length cc)) rfl rfl 60 _ (unhid HQ6).res (fi_size _ _ _ _) rfl (fi_one _ _ _ _ _ _) ?_)
                  (try simp only [Exit.inBlock, Exit.then])
                  refine bodyPost_ret_by (v := .tuple #[.agg (fi sh za ga (.slice A0 l.length cc)), .int .i64 0]) (results_cell_row_tmp Tryz.results39 _ _ B 60 (fi sh za ga (.slice A0 l.length cc)) (0, 0) _ _ rfl rfl (setRow_heap _ _ _ _ _ _ (unhid HQ6).res) Tryz.underlying60 rfl (fi_size _ _ _ _)) rfl ?_
                  exact parR_yes (f := ⟨sh, za, ga, l⟩) (unhid HPY) (below_setRow (unhid HQ6).below (by have := (unhid HQ6).hB; omega) _) (itsOk_setRow (unhid HI6) (unhid HAB) _)
                · have HPN := hid (parse_wrong (s := s) (by rw [unhid HRD]; exact fun h => hq h.2))
                  have hqb : (fmtF (⟨sh, za, ga, l⟩ : Fc) == s) = false := by simp [hq]
                  have hqc : (fmtF (⟨sh, za, ga, l⟩ : Fc) != s) = true := by simp [hq]
                  clear hq
                  generalize fmtF (⟨sh, za, ga, l⟩ : Fc) = fm at *
                  go_wp2_with (refine wpList_store_row rfl 60 (.tmp 2) (.tmp 88) rfl B (fi 0 0 0 (.slice none 0 0)) rfl rfl 60 _ (unhid HQ6).res (fi_size _ _ _ _) rfl (fi_one _ _ _ _ _ _) ?_)
                  (try simp only [Exit.inBlock, Exit.then])
                  refine bodyPost_ret_by (v := .tuple #[.agg (fi 0 0 0 (.slice none 0 0)), .int .i64 4]) (results_cell_row_tmp Tryz.results39 _ _ B 60 (fi 0 0 0 (.slice none 0 0)) (0, 0) _ _ rfl rfl (setRow_heap _ _ _ _ _ _ (unhid HQ6).res) Tryz.underlying60 rfl (fi_size _ _ _ _)) rfl ?_
                  exact parR_no (unhid HPN) (below_setRow (unhid HQ6).below (by have := (unhid HQ6).hB; omega) _)
            · go_wp2_with fail
              refine (rvalid_calls ⟨sh, za, ga, l⟩ A0 cc wr (unhid HI)).mono ?_
              rintro e w5 ⟨rfl, hb5⟩
              have HQ5 := hid ((unhid HQ).after hb5)
              have HI5 := hid ((unhid HI).below hb5)
              clear hb5 d0 d1 d2 d3
              cases hv : fcB (⟨sh, za, ga, l⟩ : Fc) with
              | false =>
                have HPN := hid (parse_wrong (s := s) (by rw [unhid HRD]; rw [hv]; simp))
                clear hv
                go_wp2_with (refine wpList_store_row rfl 60 (.tmp 2) (.tmp 88) rfl B (fi 0 0 0 (.slice none 0 0)) rfl rfl 60 _ (unhid HQ5).res (fi_size _ _ _ _) rfl (fi_one _ _ _ _ _ _) ?_)
                (try simp only [Exit.inBlock, Exit.then])
                refine bodyPost_ret_by (v := .tuple #[.agg (fi 0 0 0 (.slice none 0 0)), .int .i64 4]) (results_cell_row_tmp Tryz.results39 _ _ B 60 (fi 0 0 0 (.slice none 0 0)) (0, 0) _ _ rfl rfl (setRow_heap _ _ _ _ _ _ (unhid HQ5).res) Tryz.underlying60 rfl (fi_size _ _ _ _)) rfl ?_
                exact parR_no (unhid HPN) (below_setRow (unhid HQ5).below (by have := (unhid HQ5).hB; omega) _)
              | true =>
                have HV := hid hv
                have HFM := hid (rformat_calls ⟨sh, za, ga, l⟩ A0 cc w5 (unhid HI5) hv)
                clear hv
                have d0 := (unhid HQ5).cell 0
                have d1 := (unhid HQ5).cell 1
                have d2 := (unhid HQ5).cell 2
                have d3 := (unhid HQ5).cell 3
                simp [fi] at d0 d1 d2 d3
                go_wp2_with fail
                refine (unhid HFM).mono ?_
                rintro e w6 ⟨rfl, hb6⟩
                have HQ6 := hid ((unhid HQ5).after hb6)
                have HI6 := hid ((unhid HI5).below hb6)
                clear hb6 d0 d1 d2 d3 HFM
                by_cases hq : fmtF (⟨sh, za, ga, l⟩ : Fc) = s
                · have HPY := hid (parse_right (s := s) (by rw [unhid HRD]) (by rw [unhid HRD]) (by rw [unhid HRD]; exact unhid HV) (by rw [unhid HRD]; exact hq))
                  rw [unhid HRD] at HPY
                  have hqb : (fmtF (⟨sh, za, ga, l⟩ : Fc) == s) = true := by simp [hq]
                  have hqc : (fmtF (⟨sh, za, ga, l⟩ : Fc) != s) = false := by simp [hq]
                  clear hq
                  have d0 := (unhid HQ6).cell 0
                  have d1 := (unhid HQ6).cell 1
                  have d2 := (unhid HQ6).cell 2
                  have d3 := (unhid HQ6).cell 3
                  simp [fi] at d0 d1 d2 d3
                  generalize fmtF (⟨sh, za, ga, l⟩ : Fc) = fm at *
                  go_wp2_with (refine wpList_store_row rfl 60 (.tmp 2) (.tmp 89) rfl B (fi sh za ga (.slice A0 l.length cc)) rfl rfl 60 _ (unhid HQ6).res (fi_size _ _ _ _) rfl (fi_one _ _ _ _ _ _) ?_)
                  (try simp only [Exit.inBlock, Exit.then])
                  refine bodyPost_ret_by (v := .tuple #[.agg (fi sh za ga (.slice A0 l.length cc)), .int .i64 0]) (results_cell_row_tmp Tryz.results39 _ _ B 60 (fi sh za ga (.slice A0 l.length cc)) (0, 0) _ _ rfl rfl (setRow_heap _ _ _ _ _ _ (unhid HQ6).res) Tryz.underlying60 rfl (fi_size _ _ _ _)) rfl ?_
                  exact parR_yes (f := ⟨sh, za, ga, l⟩) (unhid HPY) (below_setRow (unhid HQ6).below (by have := (unhid HQ6).hB; omega) _) (itsOk_setRow (unhid HI6) (unhid HAB) _)
                · have HPN := hid (parse_wrong (s := s) (by rw [unhid HRD]; exact fun h => hq h.2))
                  have hqb : (fmtF (⟨sh, za, ga, l⟩ : Fc) == s) = false := by simp [hq]
                  have hqc : (fmtF (⟨sh, za, ga, l⟩ : Fc) != s) = true := by simp [hq]
                  clear hq
                  generalize fmtF (⟨sh, za, ga, l⟩ : Fc) = fm at *
                  go_wp2_with (refine wpList_store_row rfl 60 (.tmp 2) (.tmp 88) rfl B (fi 0 0 0 (.slice none 0 0)) rfl rfl 60 _ (unhid HQ6).res (fi_size _ _ _ _) rfl (fi_one _ _ _ _ _ _) ?_)
                  (try simp only [Exit.inBlock, Exit.then])
                  refine bodyPost_ret_by (v := .tuple #[.agg (fi 0 0 0 (.slice none 0 0)), .int .i64 4]) (results_cell_row_tmp Tryz.results39 _ _ B 60 (fi 0 0 0 (.slice none 0 0)) (0, 0) _ _ rfl rfl (setRow_heap _ _ _ _ _ _ (unhid HQ6).res) Tryz.underlying60 rfl (fi_size _ _ _ _)) rfl ?_
                  exact parR_no (unhid HPN) (below_setRow (unhid HQ6).below (by have := (unhid HQ6).hB; omega) _)

end Go.Proofs.YtbnnnjkfhffekaaGreatDoor
