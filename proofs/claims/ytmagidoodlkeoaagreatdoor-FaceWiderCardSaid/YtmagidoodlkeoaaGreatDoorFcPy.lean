/-
  A face read from its text: package face.
-/
import Derived.Test.YtmagidoodlkeoaaGreatDoorFcPx
set_option linter.unusedSimpArgs false
set_option linter.unusedVariables false
namespace Go.Proofs.YtmagidoodlkeoaaGreatDoor
open Go.RowKit

set_option maxHeartbeats 4000000 in
set_option maxRecDepth 100000 in
theorem parse_calls (s : List UInt8) (w : World) (hg : Gl w) :
    Calls Tryz.prog 21 #[.string (SB s)] w (parR s w) := by
  have zsb : ∀ l : List UInt8, (SB l).size = l.length := fun _ => rfl
  have HG := hid hg
  clear hg
  by_cases hs : 5000 < s.length
  · have HP := hid (parse_long hs)
    have hd0 : (5000 : Int) < (s.length : Int) := by omega
    clear hs
    have hz : (w.alloc (.cells (fi 0 0 0 (.slice none 0 0)) 25)).heap[w.heap.size]? = some (.cells (fi 0 0 0 (.slice none 0 0)) 25 (0, 0)) := heap_alloc_new _ _
    have HZ := hid hz
    clear hz
    go_enter Tryz.func21, Tryz.ntmps21
    go_wp2_with (refine wpList_store_row rfl 25 (.tmp 2) (.tmp 16) rfl w.heap.size (fi 0 0 0 (.slice none 0 0)) rfl rfl 25 _ (unhid HZ) (fi_size _ _ _ _) rfl (fi_one _ _ _ _ _ _) ?_)
    (try simp only [Exit.inBlock, Exit.then])
    refine bodyPost_ret_by (v := .tuple #[.agg (fi 0 0 0 (.slice none 0 0)), .int .i64 4]) (results_cell_row_tmp Tryz.results21 _ _ w.heap.size 25 (fi 0 0 0 (.slice none 0 0)) (0, 0) _ _ rfl rfl (setRow_heap _ _ _ _ _ _ (unhid HZ)) Tryz.underlying25 rfl (fi_size _ _ _ _)) rfl ?_
    exact parR_no (unhid HP) (below_setRow (below_alloc _ _) (Nat.le_refl _) _)
  have hs5 : s.length ≤ 5000 := by omega
  have hd0 : ¬ (5000 : Int) < (s.length : Int) := by omega
  clear hs
  have HC := hid (fun W (h : Gl W) => cut_lib s [58, 32] W h (by omega))
  have HRF := hid (show readF s = (if (Lib.cut s [58, 32]).2.2 then (readAll (Lib.split (Lib.cut s [58, 32]).2.1 [59, 32])).map (fun l => (⟨idxW shapeW ((Lib.split (Lib.cut s [58, 32]).1 [32]).getD 0 []), if 1 < (Lib.split (Lib.cut s [58, 32]).1 [32]).length then numP ((Lib.split (Lib.cut s [58, 32]).1 [32]).getD 1 []) else 0, if 2 < (Lib.split (Lib.cut s [58, 32]).1 [32]).length then numP ((Lib.split (Lib.cut s [58, 32]).1 [32]).getD 2 []) else 0, l⟩ : Fc)) else some ⟨idxW shapeW ((Lib.split (Lib.cut s [58, 32]).1 [32]).getD 0 []), if 1 < (Lib.split (Lib.cut s [58, 32]).1 [32]).length then numP ((Lib.split (Lib.cut s [58, 32]).1 [32]).getD 1 []) else 0, if 2 < (Lib.split (Lib.cut s [58, 32]).1 [32]).length then numP ((Lib.split (Lib.cut s [58, 32]).1 [32]).getD 2 []) else 0, []⟩) from rfl)
  have hl1 := cut_len s [58, 32]
  go_enter Tryz.func21, Tryz.ntmps21
  go_wp2_with fail
  have hX : FI w w.heap.size ((w.alloc (.cells #[.int .i64 0, .int .i64 0, .int .i64 0, .slice none 0 0] 25)).alloc (.cells #[.int .i64 0, .int .i64 0, .int .i64 0, .slice none 0 0] 25)) (fi 0 0 0 (.slice none 0 0)) := fi_start w
  generalize (w.alloc (.cells #[.int .i64 0, .int .i64 0, .int .i64 0, .slice none 0 0] 25)).alloc (.cells #[.int .i64 0, .int .i64 0, .int .i64 0, .slice none 0 0] 25) = W at hX ⊢
  generalize hBw : w.heap.size = B at hX ⊢
  clear hBw
  have HX := hid hX
  have hB0 := hX.size
  clear hX
  refine ((unhid HC) W ((unhid HG).below (unhid HX).below)).mono ?_
  generalize Lib.cut s [58, 32] = p at *
  obtain ⟨p1, p2, p3⟩ := p
  dsimp only at hl1 HRF ⊢
  rintro e w1 ⟨rfl, n1, rfl⟩
  have hX1 := (unhid HX).after (below_drewN' (Below.refl _ _) n1)
  have hB1 : B + 1 < (W.drewN n1).heap.size := hB0
  generalize W.drewN n1 = W1 at *
  have HX1 := hid hX1
  have HGC := hid ((unhid HG).below hX1.below)
  clear hX1 HX HC hB0
  obtain ⟨hs1, hs2⟩ := split_len p1 [32]
  have hwd := fun x (h : x ∈ Lib.split p1 [32]) => split_word h
  have HSP := hid (split_lib p1 [32] W1 (unhid HGC) (by omega) (by decide))
  generalize Lib.split p1 [32] = ws at *
  go_wp2_with fail
  refine (unhid HSP).mono ?_
  rintro e w3 ⟨rfl, hw3⟩
  have hX3 : FI w B w3 (fi 0 0 0 (.slice none 0 0)) := by rw [hw3]; exact (unhid HX1).after (below_alloc _ _)
  have HR3 := hid (show w3.heap[W1.heap.size]? = some (.cells (strC ws).toArray 9 (0, 0)) by rw [hw3]; exact heap_alloc_new _ _)
  have hg3 : W1.heap.size < w3.heap.size := by rw [hw3]; simp
  clear hw3 HSP
  generalize W1.heap.size = g at *
  have HX3 := hid hX3
  clear hX3 HX1 HGC
  have hwr : ∀ j, (ws.getD j []).length ≤ 5000 := fun j => by
    rw [List.getD_eq_getElem?_getD]
    cases he : ws[j]? with
    | none => simp
    | some x => exact Nat.le_trans (hwd x (List.mem_of_getElem? he)) (by omega)
  have hrow : ∀ j, j < ws.length → (strC ws).toArray[j]? = some (.string (SB (ws.getD j []))) := fun j hj => by
    simp [strC, List.getElem?_eq_getElem hj]
  have l1 := hwr 1
  have l2 := hwr 2
  have r0 := hrow 0 hs1
  have r1 : 1 < ws.length → _ := fun h => hrow 1 h
  have r2 : 2 < ws.length → _ := fun h => hrow 2 h
  clear hwr hrow hwd
  generalize ws.getD 0 [] = y0 at *
  generalize ws.getD 1 [] = y1 at *
  generalize ws.getD 2 [] = y2 at *
  have hn5 : ws.length ≤ 5002 := by omega
  generalize (strC ws).toArray = row at *
  generalize ws.length = n at *
  clear hs2
  go_wp2_with fail
  have HR5 := HR3
  have hg5 := hg3
  have HX5 := HX3
  have hd13 : 0 < n := by omega
  have b1 : w3.cell? ⟨g, 0, none⟩ = some (.string (SB y0)) := (cell_of_row _ _ _ _ _ _ (unhid HR5)).trans r0
  refine wp_region_noPanic ?_
  refine wp_region_E (S := fun w' => w'.cell? ⟨g, 0, none⟩ = some (.string (SB y0))) 6 7 rfl (by kernel_rfl) (by kernel_rfl) b1 ?_
  intro hSE
  (refine WE_take (i := 1) (v := ?_) rfl (by kernel_rfl) (by decide) (by kernel_rfl) (by kernel_rfl) (fun _ _ _ h => h) (by rfl) hSE ?_ ?_; rotate_left; (focus (intro w hSw; (try dsimp only at hSw); go_simp; (try with_reducible rfl))); simp only [Act.put, List.setIfInBounds_toArray, List.set_cons_zero, List.set_cons_succ])
  (refine WE_take (i := 2) (v := ?_) rfl (by kernel_rfl) (by decide) (by kernel_rfl) (by kernel_rfl) (fun _ _ _ h => h) (by rfl) hSE ?_ ?_; rotate_left; (focus (intro w hSw; (try dsimp only at hSw); go_simp; (try with_reducible rfl))); simp only [Act.put, List.setIfInBounds_toArray, List.set_cons_zero, List.set_cons_succ])
  (refine WE_take (i := 3) (v := ?_) rfl (by kernel_rfl) (by decide) (by kernel_rfl) (by kernel_rfl) (fun _ _ _ h => h) (by rfl) hSE ?_ ?_; rotate_left; (focus (intro w hSw; (try dsimp only at hSw); go_simp; (try with_reducible rfl))); simp only [Act.put, List.setIfInBounds_toArray, List.set_cons_zero, List.set_cons_succ])
  (refine WE_one (i := 0) rfl (by decide) (by kernel_rfl) ?_; intro K hK)
  go_simp
  go_at_call 61
  refine (shapeNames_calls _).mono ?_
  rintro e w6 ⟨rfl, hw6⟩
  have hb6 : Below w3.heap.size w3 w6 := by rw [hw6]; exact below_alloc' (Below.drew (Below.refl _ _)) _
  have hrd6 : Rd w6 (some ⟨w3.heap.size, 0, none⟩) (strC shapeW) := by rw [hw6]; exact rdNew0 w3.drew _ _
  clear hw6
  have b16 := (hb6.cell (p := ⟨g, 0, none⟩) hg5).trans b1
  refine hK.out _ _ b16 ?_
  clear hSE hK K
  intro hSE
  (try simp only [Act.put, List.setIfInBounds_toArray, List.set_cons_zero, List.set_cons_succ])
  (refine WE_one (i := 4) rfl (by decide) (by kernel_rfl) ?_; intro K hK)
  go_simp
  go_at_call 60
  refine (index_lib shapeW y0 _ 7 w6 hrd6 (by decide) (by decide)).mono ?_
  rintro e w7 ⟨rfl, rfl⟩
  refine hK.out _ _ b16 ?_
  clear hSE hK K
  intro hSE
  (try simp only [Act.put, List.setIfInBounds_toArray, List.set_cons_zero, List.set_cons_succ])
  have HX6 := hid ((unhid HX5).after hb6)
  have HR6 := hid ((hb6.block g hg5).trans (unhid HR5))
  have hg6 : g < w6.heap.size := Nat.lt_of_lt_of_le hg5 hb6.size
  clear hb6 hrd6 b1 b16 HX5 HR5 hg5 HX3 HR3 hg3 hd13
  generalize idxW shapeW y0 = sh at *
  have c0 : w6.cell? ⟨B + 1, 0, none⟩ = some (.int .i64 0) := (unhid HX6).cell 0
  have f0 := (unhid HX6).frozen 0
  (refine WE_take (i := 5) (v := ?_) rfl (by kernel_rfl) (by decide) (by kernel_rfl) (by kernel_rfl) (fun _ _ _ h => h) (by rfl) hSE ?_ ?_; rotate_left; (focus (intro w hSw; (try dsimp only at hSw); go_simp; (try with_reducible rfl))); simp only [Act.put, List.setIfInBounds_toArray, List.set_cons_zero, List.set_cons_succ])
  (refine WE_last rfl (by kernel_rfl) (by kernel_rfl) (by kernel_rfl) ?_; intro K hK; go_simp; refine hK.out _ _ (NoPanic.normal ?_); clear hK K)
  have hX7 : FI w B (w6.setCell ⟨B + 1, 0, none⟩ (.int .i64 sh)) (fi sh 0 0 (.slice none 0 0)) := (unhid HX6).set 0 (.int .i64 sh)
  have HR7 := hid ((heap_setCell_other w6 ⟨B + 1, 0, none⟩ g (.int .i64 sh) (by dsimp only; omega)).trans (unhid HR6))
  clear c0 f0
  generalize w6.setCell ⟨B + 1, 0, none⟩ (.int .i64 sh) = w7 at *
  have HX7 := hid hX7
  clear hX7 HX6 HR6 hg6
  go_upto_if 33 with (fail)
  go_cut [8] from 33 to 38 (fun s8 wz => s8 = .slice (some ⟨g, 0, none⟩) n n ∧ FI w B wz (fi sh (if 1 < n then numP y1 else 0) 0 (.slice none 0 0)) ∧ wz.heap[g]? = some (.cells row 9 (0, 0)))
  case first =>
    by_cases hk : 1 < n
    · have hki : (1 : Int) < (n : Int) := by omega
      have b1 : w7.cell? ⟨g, 1, none⟩ = some (.string (SB y1)) := (cell_of_row _ _ _ _ _ _ (unhid HR7)).trans (r1 hk)
      go_wp2_with fail
      refine (number_calls y1 w7 ((unhid HG).below (unhid HX7).below) (by omega)).mono ?_
      rintro e w8 ⟨rfl, hb⟩
      have HXa := hid ((unhid HX7).after hb)
      have HRa := hid ((hb.block g (Array.getElem?_eq_some_iff.1 (unhid HR7)).1).trans (unhid HR7))
      have c1 : w8.cell? ⟨B + 1, 1, none⟩ = some (.int .i64 0) := (unhid HXa).cell 1
      have f1 := (unhid HXa).frozen 1
      clear hb b1
      go_wp2_with fail
      go_meet
      case rel =>
        refine ⟨rfl, ?_, (heap_setCell_other _ _ g _ (by dsimp only; omega)).trans (unhid HRa)⟩
        rw [if_pos hk]
        exact (unhid HXa).set 1 _
    · have hki : ¬ (1 : Int) < (n : Int) := by omega
      go_wp2_with fail
      go_meet
      case rel =>
        refine ⟨rfl, ?_, unhid HR7⟩
        rw [if_neg hk]
        exact unhid HX7
  case rest =>
  obtain ⟨rfl, hX, hR⟩ := hcut
  clear HX7 HR7
  have HX8 := hid hX
  have HR8 := hid hR
  clear hX hR
  generalize (if 1 < n then numP y1 else 0) = sz at *
  go_upto_if 41 with (fail)
  go_cut [8] from 41 to 46 (fun s8 wz => s8 = .slice (some ⟨g, 0, none⟩) n n ∧ FI w B wz (fi sh sz (if 2 < n then numP y2 else 0) (.slice none 0 0)) ∧ wz.heap[g]? = some (.cells row 9 (0, 0)))
  case first =>
    by_cases hk : 2 < n
    · have hki : (2 : Int) < (n : Int) := by omega
      have b1 : wc.cell? ⟨g, 2, none⟩ = some (.string (SB y2)) := (cell_of_row _ _ _ _ _ _ (unhid HR8)).trans (r2 hk)
      go_wp2_with fail
      refine (number_calls y2 wc ((unhid HG).below (unhid HX8).below) (by omega)).mono ?_
      rintro e w8 ⟨rfl, hb⟩
      have HXa := hid ((unhid HX8).after hb)
      have HRa := hid ((hb.block g (Array.getElem?_eq_some_iff.1 (unhid HR8)).1).trans (unhid HR8))
      have c2 : w8.cell? ⟨B + 1, 2, none⟩ = some (.int .i64 0) := (unhid HXa).cell 2
      have f2 := (unhid HXa).frozen 2
      clear hb b1
      go_wp2_with fail
      go_meet
      case rel =>
        refine ⟨rfl, ?_, (heap_setCell_other _ _ g _ (by dsimp only; omega)).trans (unhid HRa)⟩
        rw [if_pos hk]
        exact (unhid HXa).set 2 _
    · have hki : ¬ (2 : Int) < (n : Int) := by omega
      go_wp2_with fail
      go_meet
      case rel =>
        refine ⟨rfl, ?_, unhid HR8⟩
        rw [if_neg hk]
        exact unhid HX8
  case rest =>
  obtain ⟨rfl, hX, hR⟩ := hcut
  clear HX8 HR8
  have HX9 := hid hX
  have HR9 := hid hR
  clear hX hR
  generalize (if 2 < n then numP y2 else 0) = hh at *
  go_upto_if 47 with (fail)
  go_cut [8] from 9 to 69 (fun s8 wz => s8 = .slice (some ⟨g, 0, none⟩) n n ∧ ∃ (A : Option Addr) (l : List It) (c : Nat), FI w B wz (fi sh sz hh (.slice A l.length c)) ∧ ItsOk wz A l ∧ (∀ a, A = some a → B + 1 < a.block) ∧ readF s = some ⟨sh, sz, hh, l⟩)
  case first =>
    cases p3 with
    | false =>
      have HF0 := hid ((unhid HRF).trans (if_neg (by simp)))
      go_wp2_with fail
      go_meet
      case rel => exact ⟨rfl, none, [], 0, unhid HX9, ItsOk.nil _ _, (fun a h => by cases h), unhid HF0⟩
    | true =>
      have HF0 := hid ((unhid HRF).trans (if_pos rfl))
      obtain ⟨hm1, hm2⟩ := split_len p2 [59, 32]
      have hwd2 := fun x (h : x ∈ Lib.split p2 [59, 32]) => split_word h
      have HWD2 := hid hwd2
      have HS2 := hid (split_lib p2 [59, 32] wc ((unhid HG).below (unhid HX9).below) (by omega) (by decide))
      generalize Lib.split p2 [59, 32] = vs at *
      go_wp2_with fail
      refine (unhid HS2).mono ?_
      rintro e wd ⟨rfl, hwd⟩
      have hXd : FI w B wd (fi sh sz hh (.slice none 0 0)) := by rw [hwd]; exact (unhid HX9).after (below_alloc _ _)
      have hRd : wd.heap[wc.heap.size]? = some (.cells (strC vs).toArray 9 (0, 0)) := by rw [hwd]; exact heap_alloc_new _ _
      have hBd : B + 1 < wc.heap.size := (unhid HX9).size
      clear hwd HS2 HX9 HR9 hwd2
      generalize wc.heap.size = h at *
      have hhd : h < wd.heap.size := (Array.getElem?_eq_some_iff.1 hRd).1
      have HXd := hid hXd
      have HRd := hid hRd
      clear hXd hRd
      obtain ⟨i0, hi, hz0, hz1, hz2⟩ := info_parts info_item
      have hm : vs.length ≤ 5002 := by omega
      go_wp2_with fail
      go_loopw [51] (fun i wr => ∃ (k : Nat) (l : List It) (v : Value), k ≤ vs.length ∧ i = .int .i64 k ∧ readAll (vs.take k) = some l ∧ (∀ x ∈ l, x.text.length ≤ 5000) ∧ FI w B wr (fi sh sz hh v) ∧ wr.ownsRow wd.heap.size 66 7 v l.length (its l) ∧ wr.heap[h]? = some (.cells (strC vs).toArray 9 (0, 0)) ∧ wd.heap.size ≤ wr.heap.size) (fun i _ => vs.length - (intOf i).toNat)
      case atStart => exact ⟨0, [], _, Nat.zero_le _, rfl, rfl, by simp, unhid HXd, World.ownsRow_nil _ _ _ _, unhid HRd, Nat.le_refl _⟩
      case round =>
        obtain ⟨k, l, v, hk, rfl, hra, htx, hXr, hown, hRr, hsr⟩ := hrel
        have HXr := hid hXr
        have HRr := hid hRr
        have HOWN := hid hown
        have HRA := hid hra
        have HTX := hid htx
        clear hXr hRr hown hra htx
        by_cases hlt : k < vs.length
        · have hv := (unhid HWD2) vs[k] (List.getElem_mem hlt)
          have hc : wr.cell? ⟨h, k, none⟩ = some (.string (SB vs[k])) := (cell_of_row _ _ _ _ _ _ (unhid HRr)).trans (by simp [strC, List.getElem?_eq_getElem hlt])
          have HTK := hid (List.take_succ_eq_append_getElem hlt)
          have hmem : vs[k] ∈ vs := List.getElem_mem hlt
          have HMEM := hid hmem
          clear hmem
          generalize vs[k] = u at *
          go_wp2_with fail
          refine (readItem_calls u wr ((unhid HG).below (unhid HXr).below) (by omega)).mono ?_
          intro e w5 hres
          obtain ⟨hb5, ⟨hno, ik, ic, il, io, ia, ib, it, rfl⟩ | ⟨x, hx, rfl⟩⟩ := readR_cases hres
          · have HX6 := hid (((unhid HXr).after hb5).after (below_alloc w5 (.cells #[.int .i64 ik, .int .i64 ic, .int .i64 il, .int .i64 io, .int .i64 ia, .int .i64 ib, .string (SB it)] 66)))
            have HPN := hid (par_none ((unhid HF0).trans (by rw [readAll_no (unhid HMEM) hno]; rfl)))
            clear hno hb5 hres
            go_wp2_with (refine wpList_store_row rfl 25 (.tmp 2) (.tmp 62) rfl B (fi 0 0 0 (.slice none 0 0)) rfl rfl 25 _ (unhid HX6).res (fi_size _ _ _ _) rfl (fi_one _ _ _ _ _ _) ?_)
            (try simp only [Exit.inBlock, Exit.then])
            refine bodyPost_ret_by (v := .tuple #[.agg (fi 0 0 0 (.slice none 0 0)), .int .i64 4]) (results_cell_row_tmp Tryz.results21 _ _ B 25 (fi 0 0 0 (.slice none 0 0)) (0, 0) _ _ rfl rfl ((unhid HX6).doneH _) Tryz.underlying25 rfl (fi_size _ _ _ _)) rfl ?_
            exact parR_no (unhid HPN) ((unhid HX6).doneB _)
          · have HX6 := hid ((((unhid HXr).after hb5).after (below_alloc w5 (.cells #[.int .i64 x.kind, .int .i64 x.colour, .int .i64 x.left, .int .i64 x.low, .int .i64 x.a, .int .i64 x.b, .string (SB x.text)] 66))).after (below_alloc _ (.cells #[.int .i64 x.kind, .int .i64 x.colour, .int .i64 x.left, .int .i64 x.low, .int .i64 x.a, .int .i64 x.b, .string (SB x.text)] 66)))
            have c3 : w5.cell? ⟨B + 1, 3, none⟩ = some v := ((unhid HXr).after hb5).cell 3
            have hB5 : B + 1 < w5.heap.size := ((unhid HXr).after hb5).size
            have HO5 := hid (own_below (unhid HOWN) hb5)
            have HR5 := hid ((hb5.block h (Array.getElem?_eq_some_iff.1 (unhid HRr)).1).trans (unhid HRr))
            have HTX' := hid (show ∀ y ∈ l ++ [x], y.text.length ≤ 5000 from fun y hy => by
              rcases List.mem_append.1 hy with hy | hy
              · exact (unhid HTX) y hy
              · rw [List.mem_singleton.1 hy]
                exact Nat.le_trans (readIt_text hx) (by omega))
            have HRA' := hid (readAll_snoc (unhid HRA) hx)
            have hs5 : wd.heap.size ≤ w5.heap.size := Nat.le_trans hsr hb5.size
            have hll : l.length ≤ 5002 := by have := readAll_len (unhid HRA); rw [List.length_take] at this; omega
            obtain ⟨A0, c1, rfl, -⟩ := own_slice (unhid HO5)
            clear hx hb5 hres hsr
            go_wp2_with (at_builtin; refine wpList_append_own _ rfl _ _ 23 rfl wd.heap.size 66 i0 _ 7 64 Tryz.underlying23 hi hz0 hz1 hz2 rfl (by decide) _ _ _ rfl (((unhid HO5).alloc _).alloc _) ⟨w5.heap.size + 1, 0, none⟩ 1 1 (itC x) rfl rfl ?c1 ?c2 ?c3 ?c4 ?c5 ?_)
            case c1 =>
              intro j u hj
              match j, hj with
              | 0, hj => simp [itC] at hj; subst hj; simp [Addr.add, go_sem]
              | 1, hj => simp [itC] at hj; subst hj; simp [Addr.add, go_sem]
              | 2, hj => simp [itC] at hj; subst hj; simp [Addr.add, go_sem]
              | 3, hj => simp [itC] at hj; subst hj; simp [Addr.add, go_sem]
              | 4, hj => simp [itC] at hj; subst hj; simp [Addr.add, go_sem]
              | 5, hj => simp [itC] at hj; subst hj; simp [Addr.add, go_sem]
              | 6, hj => simp [itC] at hj; subst hj; simp [Addr.add, go_sem]
            case c2 => intro u hu; simp [itC] at hu; rcases hu with rfl | rfl | rfl | rfl | rfl | rfl | rfl <;> rfl
            case c3 => unfold maxLen; omega
            case c4 => omega
            case c5 => simp; omega
            intro v' w3 hown3 hg3 _
            obtain ⟨A3, c3', rfl, -⟩ := own_slice hown3
            have hrow3 : ∀ k, (Value.slice A0 l.length c1).ownBlock = some k → wd.heap.size ≤ k := fun k hk => by
              rcases Nat.lt_or_ge k wd.heap.size with h' | h'
              · exact absurd hk (own_ne (unhid HO5) (Or.inl h'))
              · exact h'
            have hX3 := (unhid HX6).grown hg3 (fun k hk => by have := hrow3 k hk; omega)
            have hR3 := (hg3.block h (by simp; omega) (fun e => by have := hrow3 h e.symm; omega)).trans (((below_alloc' (below_alloc w5 (.cells #[.int .i64 x.kind, .int .i64 x.colour, .int .i64 x.left, .int .i64 x.low, .int .i64 x.a, .int .i64 x.b, .string (SB x.text)] 66)) (.cells #[.int .i64 x.kind, .int .i64 x.colour, .int .i64 x.left, .int .i64 x.low, .int .i64 x.a, .int .i64 x.b, .string (SB x.text)] 66)).block h (by omega)).trans (unhid HR5))
            have hs3 : wd.heap.size ≤ w3.heap.size := by have := hg3.size; simp at this; omega
            have c33 : w3.cell? ⟨B + 1, 3, none⟩ = some (.slice A0 l.length c1) := hX3.cell 3
            have f33 := hX3.frozen 3
            have HX3 := hid hX3
            have HR3' := hid hR3
            have HO3 := hid hown3
            clear hX3 hR3 hown3 hg3 hrow3 c3
            go_wp2_with fail
            go_roundw
            case rel =>
              refine ⟨k + 1, l ++ [x], .slice A3 (l.length + 1) c3', by omega, by go_num, by rw [unhid HTK]; exact unhid HRA', unhid HTX', (unhid HX3).set 3 _, ?_, (heap_setCell_other _ _ h _ (by dsimp only; omega)).trans (unhid HR3'), by simpa using hs3⟩
              have ho := own_setCell (unhid HO3) (a := ⟨B + 1, 3, none⟩) (by dsimp only; omega) (.slice A3 (l.length + 1) c3')
              rw [List.length_append, List.length_singleton, show its (l ++ [x]) = its l ++ itC x by simp [its]]
              exact ho
            case measure => simp [intOf]; omega
        · obtain rfl : k = vs.length := by omega
          obtain ⟨A0, c1, rfl, hrd, hob⟩ := own_slice (unhid HOWN)
          have HOB := hid hob
          clear hob
          have hll : l.length ≤ 5002 := by have := readAll_len (unhid HRA); rw [List.length_take] at this; omega
          have HRD := hid hrd
          clear hrd
          go_wp2_with fail
          go_meet
          case rel =>
            refine ⟨rfl, A0, l, c1, unhid HXr, ⟨by omega, unhid HRD, fun x hx => Nat.le_trans ((unhid HTX) x hx) (by omega)⟩, fun a ha => ?_, ?_⟩
            · subst ha
              have := (unhid HOB) a.block rfl
              omega
            have hra := unhid HRA
            rw [List.take_length] at hra
            rw [unhid HF0, hra]
            rfl
  case rest =>
    obtain ⟨rfl, A, l, c, hX, hI, hAB, hF⟩ := hcut
    have HX := hid hX
    have HI := hid hI
    have HPS := hid (par_some hF)
    have HGZ := hid ((unhid HG).below hX.below)
    clear hX hI hF HRF
    have c0 : wc.cell? ⟨B + 1, 0, none⟩ = some (.int .i64 sh) := (unhid HX).cell 0
    have c1 : wc.cell? ⟨B + 1, 1, none⟩ = some (.int .i64 sz) := (unhid HX).cell 1
    have c2 : wc.cell? ⟨B + 1, 2, none⟩ = some (.int .i64 hh) := (unhid HX).cell 2
    have c3 : wc.cell? ⟨B + 1, 3, none⟩ = some (.slice A l.length c) := (unhid HX).cell 3
    go_wp2_with fail
    refine (valid_calls (⟨sh, sz, hh, l⟩ : Fc) A c wc (unhid HI)).mono ?_
    rintro e w2 ⟨rfl, hb2⟩
    have HX2 := hid ((unhid HX).after hb2)
    have HI2 := hid ((unhid HI).below hb2)
    have HG2 := hid ((unhid HGZ).below hb2)
    clear hb2 c0 c1 c2 c3
    cases hv : fcB (⟨sh, sz, hh, l⟩ : Fc) with
    | false =>
      have HPN := hid ((unhid HPS).trans (if_neg (by rw [hv]; simp)))
      clear hv
      go_wp2_with (refine wpList_store_row rfl 25 (.tmp 2) (.tmp 79) rfl B (fi 0 0 0 (.slice none 0 0)) rfl rfl 25 _ (unhid HX2).res (fi_size _ _ _ _) rfl (fi_one _ _ _ _ _ _) ?_)
      (try simp only [Exit.inBlock, Exit.then])
      refine bodyPost_ret_by (v := .tuple #[.agg (fi 0 0 0 (.slice none 0 0)), .int .i64 4]) (results_cell_row_tmp Tryz.results21 _ _ B 25 (fi 0 0 0 (.slice none 0 0)) (0, 0) _ _ rfl rfl ((unhid HX2).doneH _) Tryz.underlying25 rfl (fi_size _ _ _ _)) rfl ?_
      exact parR_no (unhid HPN) ((unhid HX2).doneB _)
    | true =>
      have HFM := hid (format_calls (⟨sh, sz, hh, l⟩ : Fc) A c w2 (unhid HG2) (unhid HI2) hv)
      have c0 : w2.cell? ⟨B + 1, 0, none⟩ = some (.int .i64 sh) := (unhid HX2).cell 0
      have c1 : w2.cell? ⟨B + 1, 1, none⟩ = some (.int .i64 sz) := (unhid HX2).cell 1
      have c2 : w2.cell? ⟨B + 1, 2, none⟩ = some (.int .i64 hh) := (unhid HX2).cell 2
      have c3 : w2.cell? ⟨B + 1, 3, none⟩ = some (.slice A l.length c) := (unhid HX2).cell 3
      have HV := hid hv
      clear hv
      go_wp2_with fail
      refine (unhid HFM).mono ?_
      rintro e w4 ⟨rfl, hb4⟩
      have HX4 := hid ((unhid HX2).after hb4)
      have HI4 := hid ((unhid HI2).below hb4)
      clear hb4 c0 c1 c2 c3 HFM
      by_cases hq : fmtF (⟨sh, sz, hh, l⟩ : Fc) = s
      · have HPY := hid ((unhid HPS).trans (if_pos (by rw [unhid HV, decide_eq_true hq]; rfl)))
        have hqb : ((SB (fmtF (⟨sh, sz, hh, l⟩ : Fc))).toList == (SB s).toList) = true := by rw [hq]; simp
        clear hq
        have c0 : w4.cell? ⟨B + 1, 0, none⟩ = some (.int .i64 sh) := (unhid HX4).cell 0
        have c1 : w4.cell? ⟨B + 1, 1, none⟩ = some (.int .i64 sz) := (unhid HX4).cell 1
        have c2 : w4.cell? ⟨B + 1, 2, none⟩ = some (.int .i64 hh) := (unhid HX4).cell 2
        have c3 : w4.cell? ⟨B + 1, 3, none⟩ = some (.slice A l.length c) := (unhid HX4).cell 3
        go_wp2_with (refine wpList_store_row rfl 25 (.tmp 2) (.tmp 80) rfl B (fi sh sz hh (.slice A l.length c)) rfl rfl 25 _ (unhid HX4).res (fi_size _ _ _ _) rfl (fi_one _ _ _ _ _ _) ?_)
        (try simp only [Exit.inBlock, Exit.then])
        refine bodyPost_ret_by (v := .tuple #[.agg (fi sh sz hh (.slice A l.length c)), .int .i64 0]) (results_cell_row_tmp Tryz.results21 _ _ B 25 (fi sh sz hh (.slice A l.length c)) (0, 0) _ _ rfl rfl ((unhid HX4).doneH _) Tryz.underlying25 rfl (fi_size _ _ _ _)) rfl ?_
        exact parR_yes (f := ⟨sh, sz, hh, l⟩) (unhid HPY) ((unhid HX4).doneB _) (itsOk_setRow (unhid HI4) hAB _)
      · have HPN := hid ((unhid HPS).trans (if_neg (by simp [hq])))
        have hqb : ((SB (fmtF (⟨sh, sz, hh, l⟩ : Fc))).toList == (SB s).toList) = false := by rw [ByteArray.toList_eq, ByteArray.toList_eq, SB_data, SB_data]; simpa using hq
        clear hq
        go_wp2_with (refine wpList_store_row rfl 25 (.tmp 2) (.tmp 79) rfl B (fi 0 0 0 (.slice none 0 0)) rfl rfl 25 _ (unhid HX4).res (fi_size _ _ _ _) rfl (fi_one _ _ _ _ _ _) ?_)
        (try simp only [Exit.inBlock, Exit.then])
        refine bodyPost_ret_by (v := .tuple #[.agg (fi 0 0 0 (.slice none 0 0)), .int .i64 4]) (results_cell_row_tmp Tryz.results21 _ _ B 25 (fi 0 0 0 (.slice none 0 0)) (0, 0) _ _ rfl rfl ((unhid HX4).doneH _) Tryz.underlying25 rfl (fi_size _ _ _ _)) rfl ?_
        exact parR_no (unhid HPN) ((unhid HX4).doneB _)

end Go.Proofs.YtmagidoodlkeoaaGreatDoor
