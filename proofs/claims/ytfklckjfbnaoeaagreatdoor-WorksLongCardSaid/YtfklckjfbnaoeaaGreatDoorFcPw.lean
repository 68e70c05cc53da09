/-
  An item read from its text: package face.
-/
import Derived.Test.YtfklckjfbnaoeaaGreatDoorFcPu
set_option linter.unusedSimpArgs false
set_option linter.unusedVariables false
namespace Go.Proofs.YtfklckjfbnaoeaaGreatDoor
open Go.RowKit

set_option maxHeartbeats 4000000 in
set_option maxRecDepth 100000 in
theorem readItem_calls (s : List UInt8) (w : World) (hg : Gl w) (hs : s.length ≤ 5000) :
    Calls Tryz.prog 225 #[.string (SB s)] w (readR s w) := by
  have HG := hid hg
  have HRD := hid (show readIt s = if Lib.hasPrefix s [116, 101, 120, 116, 32] then (if (Lib.cut s [32, 34]).2.2 && (Lib.cut (Lib.cut s [32, 34]).2.1 [34]).2.2 then readWs (Lib.cut (Lib.cut s [32, 34]).2.1 [34]).1 (Lib.split ((Lib.cut s [32, 34]).1 ++ (Lib.cut (Lib.cut s [32, 34]).2.1 [34]).2.1) [32]) else none) else readWs [] (Lib.split s [32]) from rfl)
  clear hg
  go_enter Tryz.func225, Tryz.ntmps225
  go_upto_if 14 with (refine (prefix_lib s [116, 101, 120, 116, 32] _).mono ?_; rintro e w1 ⟨rfl, rfl⟩)
  have hX : XI w w.heap.size ((w.alloc (.cells #[.int .i64 0, .int .i64 0, .int .i64 0, .int .i64 0, .int .i64 0, .int .i64 0, .string { data := #[] }] 320)).alloc (.cells #[.int .i64 0, .int .i64 0, .int .i64 0, .int .i64 0, .int .i64 0, .int .i64 0, .string { data := #[] }] 320)) (xi 0 0 0 0 0 0 []) := xi_start w
  generalize (w.alloc (.cells #[.int .i64 0, .int .i64 0, .int .i64 0, .int .i64 0, .int .i64 0, .int .i64 0, .string { data := #[] }] 320)).alloc (.cells #[.int .i64 0, .int .i64 0, .int .i64 0, .int .i64 0, .int .i64 0, .int .i64 0, .string { data := #[] }] 320) = W at hX ⊢
  generalize hBw : w.heap.size = B at hX ⊢
  clear hBw
  go_cut [0] from 5 to 38 (fun s0 wz => ∃ s' t : List UInt8, readIt s = readWs t (Lib.split s' [32]) ∧ s'.length ≤ 5000 ∧ s0 = .string (SB s') ∧ XI w B wz (xi 0 0 0 0 0 0 t))
  case first =>
    have HX := hid hX
    have hBl := hX.size
    clear hX
    have HGW := hid ((unhid HG).below (unhid HX).below)
    cases hp : Lib.hasPrefix s [116, 101, 120, 116, 32] with
    | false =>
      have HR := hid ((unhid HRD).trans (if_neg (by rw [hp]; simp)))
      clear hp
      go_wp2_with fail
      go_meet
      case rel => exact ⟨s, [], unhid HR, hs, rfl, unhid HX⟩
    | true =>
      have HR := hid ((unhid HRD).trans (if_pos hp))
      clear hp
      have hl1 := cut_len s [32, 34]
      have HC1 := hid (cut_lib s [32, 34] W (unhid HGW) (by omega))
      generalize Lib.cut s [32, 34] = p at *
      obtain ⟨p1, p2, p3⟩ := p
      dsimp only at hl1 HC1 HR
      have hl2 := cut_len p2 [34]
      have HC2 := hid (fun n : Nat => cut_lib p2 [34] (W.drewN n) ((unhid HGW).below (below_drewN' (Below.refl _ _) n)) (by omega))
      generalize Lib.cut p2 [34] = q at *
      obtain ⟨q1, q2, q3⟩ := q
      dsimp only at hl2 HC2 HR
      go_wp2_with fail
      refine (unhid HC1).mono ?_
      rintro e w1 ⟨rfl, n1, rfl⟩
      go_wp2_with fail
      refine ((unhid HC2) n1).mono ?_
      rintro e w2 ⟨rfl, n2, rfl⟩
      have hX2 := (unhid HX).after (below_drewN' (below_drewN' (Below.refl _ _) n1) n2)
      generalize (W.drewN n1).drewN n2 = W2 at hX2 ⊢
      have HX2 := hid hX2
      clear hX2 HC1 HC2
      have c0 : W2.cell? ⟨B + 1, 0, none⟩ = some (.int .i64 0) := (unhid HX2).cell 0
      have c1 : W2.cell? ⟨B + 1, 1, none⟩ = some (.int .i64 0) := (unhid HX2).cell 1
      have c2 : W2.cell? ⟨B + 1, 2, none⟩ = some (.int .i64 0) := (unhid HX2).cell 2
      have c3 : W2.cell? ⟨B + 1, 3, none⟩ = some (.int .i64 0) := (unhid HX2).cell 3
      have c4 : W2.cell? ⟨B + 1, 4, none⟩ = some (.int .i64 0) := (unhid HX2).cell 4
      have c5 : W2.cell? ⟨B + 1, 5, none⟩ = some (.int .i64 0) := (unhid HX2).cell 5
      have c6 : W2.cell? ⟨B + 1, 6, none⟩ = some (.string (SB [])) := (unhid HX2).cell 6
      cases p3 with
      | false =>
        go_wp2_with (refine wpList_store_row rfl 320 (.tmp 2) (.tmp 33) rfl B (xi 0 0 0 0 0 0 []) rfl rfl 320 _ (unhid HX2).res (xi_size _ _ _ _ _ _ _) rfl (xi_one _ _ _ _ _ _ _) ?_)
        (try simp only [Exit.inBlock, Exit.then])
        refine bodyPost_ret_by (v := .tuple #[.agg (xi 0 0 0 0 0 0 []), .bool false]) (results_cell_row_tmp Tryz.results225 _ _ B 320 (xi 0 0 0 0 0 0 []) (0, 0) _ _ rfl rfl ((unhid HX2).doneH _) Tryz.underlying320 rfl (xi_size _ _ _ _ _ _ _)) rfl ?_
        exact readR_no (unhid HR) ((unhid HX2).doneB _)
      | true =>
        cases q3 with
        | false =>
          go_wp2_with (refine wpList_store_row rfl 320 (.tmp 2) (.tmp 33) rfl B (xi 0 0 0 0 0 0 []) rfl rfl 320 _ (unhid HX2).res (xi_size _ _ _ _ _ _ _) rfl (xi_one _ _ _ _ _ _ _) ?_)
          (try simp only [Exit.inBlock, Exit.then])
          refine bodyPost_ret_by (v := .tuple #[.agg (xi 0 0 0 0 0 0 []), .bool false]) (results_cell_row_tmp Tryz.results225 _ _ B 320 (xi 0 0 0 0 0 0 []) (0, 0) _ _ rfl rfl ((unhid HX2).doneH _) Tryz.underlying320 rfl (xi_size _ _ _ _ _ _ _)) rfl ?_
          exact readR_no (unhid HR) ((unhid HX2).doneB _)
        | true =>
          have hd1 : ¬ 9223372036854775807 < p1.length + q2.length := by omega
          have f6 := (unhid HX2).frozen 6
          have zsb : ∀ l : List UInt8, (SB l).size = l.length := fun _ => rfl
          go_wp2_with fail
          go_meet
          case rel => exact ⟨p1 ++ q2, q1, unhid HR, by simp only [List.length_append]; omega, congrArg Value.string (SB_add _ _), (unhid HX2).set 6 _⟩
  case rest =>
    obtain ⟨s', t, hrd, hl, rfl, hX⟩ := hcut
    have HX := hid hX
    have hB1 := hX.size
    have HGC := hid ((unhid HG).below hX.below)
    clear hX
    obtain ⟨hs1, hs2⟩ := split_len s' [32]
    have hwd := fun x (h : x ∈ Lib.split s' [32]) => Nat.le_trans (split_word h) hl
    have HSP := hid (split_lib s' [32] wc (unhid HGC) (by omega) (by decide))
    generalize Lib.split s' [32] = ws at *
    go_wp2_with fail
    refine (unhid HSP).mono ?_
    rintro e w3 ⟨rfl, hw3⟩
    have hX3 : XI w B w3 (xi 0 0 0 0 0 0 t) := by rw [hw3]; exact (unhid HX).after (below_alloc _ _)
    have HR3 := hid (show w3.heap[wc.heap.size]? = some (.cells (strC ws).toArray 9 (0, 0)) by rw [hw3]; exact heap_alloc_new _ _)
    have hg3 : wc.heap.size < w3.heap.size := by rw [hw3]; simp
    clear hw3 HSP
    generalize wc.heap.size = g at *
    have HX3 := hid hX3
    clear hX3 HX HGC
    have c0 : w3.cell? ⟨B + 1, 0, none⟩ = some (.int .i64 0) := (unhid HX3).cell 0
    have c1 : w3.cell? ⟨B + 1, 1, none⟩ = some (.int .i64 0) := (unhid HX3).cell 1
    have c2 : w3.cell? ⟨B + 1, 2, none⟩ = some (.int .i64 0) := (unhid HX3).cell 2
    have c3 : w3.cell? ⟨B + 1, 3, none⟩ = some (.int .i64 0) := (unhid HX3).cell 3
    have c4 : w3.cell? ⟨B + 1, 4, none⟩ = some (.int .i64 0) := (unhid HX3).cell 4
    have c5 : w3.cell? ⟨B + 1, 5, none⟩ = some (.int .i64 0) := (unhid HX3).cell 5
    have c6 : w3.cell? ⟨B + 1, 6, none⟩ = some (.string (SB t)) := (unhid HX3).cell 6
    have HRD := hid hrd
    clear hrd
    match ws, HR3, HRD, hs1, hs2, hwd with
    | [], _, _, hs1, _, _ => simp at hs1
    | [a], _, HRD, _, _, _ =>
      go_wp2_with (refine wpList_store_row rfl 320 (.tmp 2) (.tmp 44) rfl B (xi 0 0 0 0 0 0 t) rfl rfl 320 _ (unhid HX3).res (xi_size _ _ _ _ _ _ _) rfl (xi_one _ _ _ _ _ _ _) ?_)
      (try simp only [Exit.inBlock, Exit.then])
      refine bodyPost_ret_by (v := .tuple #[.agg (xi 0 0 0 0 0 0 t), .bool false]) (results_cell_row_tmp Tryz.results225 _ _ B 320 (xi 0 0 0 0 0 0 t) (0, 0) _ _ rfl rfl ((unhid HX3).doneH _) Tryz.underlying320 rfl (xi_size _ _ _ _ _ _ _)) rfl ?_
      exact readR_no ((unhid HRD).trans rfl) ((unhid HX3).doneB _)
    | a :: b :: r, HR3, HRD, _, hs2, hwd =>
      have HRN := hid ((unhid HRD).trans (show readWs t (a :: b :: r) = readNs (idxW kindW a) (idxW colourW b) t r by unfold readWs; rw [if_neg (by simp)]; rfl))
      clear HRD
      have hrl : r.length ≤ 5000 := by simp at hs2; omega
      have g0 : w3.cell? ⟨g, 0, none⟩ = some (.string (SB a)) := (cell_of_row _ _ _ _ _ _ (unhid HR3)).trans rfl
      have f0 := (unhid HX3).frozen 0
      have hg1 : g < w3.heap.size := hg3
      go_wp2_with fail
      refine (index_lib kindW a (some ⟨w3.heap.size, 0, none⟩) 7 (w3.alloc (.cells (strC kindW).toArray 9)) (rdNew0 _ _ _) (by decide) (by decide)).mono ?_
      rintro e w4 ⟨rfl, rfl⟩
      have hX4 := (unhid HX3).after (below_alloc w3 (.cells (strC kindW).toArray 9))
      have HR4 := hid (((below_alloc w3 (.cells (strC kindW).toArray 9)).block g hg3).trans (unhid HR3))
      have hg4 : g < (w3.alloc (.cells (strC kindW).toArray 9)).heap.size := by simp; omega
      clear c0 c1 c2 c3 c4 c5 c6 g0 f0 hg1
      generalize w3.alloc (.cells (strC kindW).toArray 9) = w4 at *
      generalize idxW kindW a = kd at *
      have HX4 := hid hX4
      clear hX4 HX3 HR3 hg3
      have c0 : w4.cell? ⟨B + 1, 0, none⟩ = some (.int .i64 0) := (unhid HX4).cell 0
      have c1 : w4.cell? ⟨B + 1, 1, none⟩ = some (.int .i64 0) := (unhid HX4).cell 1
      have c2 : w4.cell? ⟨B + 1, 2, none⟩ = some (.int .i64 0) := (unhid HX4).cell 2
      have c3 : w4.cell? ⟨B + 1, 3, none⟩ = some (.int .i64 0) := (unhid HX4).cell 3
      have c4 : w4.cell? ⟨B + 1, 4, none⟩ = some (.int .i64 0) := (unhid HX4).cell 4
      have c5 : w4.cell? ⟨B + 1, 5, none⟩ = some (.int .i64 0) := (unhid HX4).cell 5
      have c6 : w4.cell? ⟨B + 1, 6, none⟩ = some (.string (SB t)) := (unhid HX4).cell 6
      have f0 := (unhid HX4).frozen 0
      go_wp2_with fail
      have hX5 : XI w B (w4.setCell ⟨B + 1, 0, none⟩ (.int .i64 kd)) (xi kd 0 0 0 0 0 t) := (unhid HX4).set 0 (.int .i64 kd)
      have HR5 := hid ((heap_setCell_other w4 ⟨B + 1, 0, none⟩ g (.int .i64 kd) (by dsimp only; omega)).trans (unhid HR4))
      have hg5 : g < (w4.setCell ⟨B + 1, 0, none⟩ (.int .i64 kd)).heap.size := by simpa using hg4
      clear c0 c1 c2 c3 c4 c5 c6 f0
      generalize w4.setCell ⟨B + 1, 0, none⟩ (.int .i64 kd) = w5 at *
      have HX5 := hid hX5
      clear hX5 HX4 HR4 hg4
      have hd13 : (1 : Int) < (r.length : Int) + 1 + 1 := by omega
      have b1 : w5.cell? ⟨g, 1, none⟩ = some (.string (SB b)) := (cell_of_row _ _ _ _ _ _ (unhid HR5)).trans rfl
      refine wp_region_noPanic ?_
      refine wp_region_E (S := fun w' => w'.cell? ⟨g, 1, none⟩ = some (.string (SB b))) 6 7 rfl (by kernel_rfl) (by kernel_rfl) b1 ?_
      intro hSE
      (refine WE_take (i := 1) (v := ?_) rfl (by kernel_rfl) (by decide) (by kernel_rfl) (by kernel_rfl) (fun _ _ _ h => h) (by rfl) hSE ?_ ?_; rotate_left; (focus (intro w hSw; (try dsimp only at hSw); go_simp; (try with_reducible rfl))); simp only [Act.put, List.setIfInBounds_toArray, List.set_cons_zero, List.set_cons_succ])
      (refine WE_take (i := 2) (v := ?_) rfl (by kernel_rfl) (by decide) (by kernel_rfl) (by kernel_rfl) (fun _ _ _ h => h) (by rfl) hSE ?_ ?_; rotate_left; (focus (intro w hSw; (try dsimp only at hSw); go_simp; (try with_reducible rfl))); simp only [Act.put, List.setIfInBounds_toArray, List.set_cons_zero, List.set_cons_succ])
      (refine WE_take (i := 3) (v := ?_) rfl (by kernel_rfl) (by decide) (by kernel_rfl) (by kernel_rfl) (fun _ _ _ h => h) (by rfl) hSE ?_ ?_; rotate_left; (focus (intro w hSw; (try dsimp only at hSw); go_simp; (try with_reducible rfl))); simp only [Act.put, List.setIfInBounds_toArray, List.set_cons_zero, List.set_cons_succ])
      (refine WE_one (i := 0) rfl (by decide) (by kernel_rfl) ?_; intro K hK)
      go_simp
      go_at_call 262
      refine (colourNames_calls _).mono ?_
      rintro e w6 ⟨rfl, hw6⟩
      have hb6 : Below w5.heap.size w5 w6 := by rw [hw6]; exact below_alloc' (Below.drew (Below.refl _ _)) _
      have hrd6 : Rd w6 (some ⟨w5.heap.size, 0, none⟩) (strC colourW) := by rw [hw6]; exact rdNew0 w5.drew _ _
      clear hw6
      have b16 := (hb6.cell (p := ⟨g, 1, none⟩) hg5).trans b1
      refine hK.out _ _ b16 ?_
      clear hSE hK K
      intro hSE
      (try simp only [Act.put, List.setIfInBounds_toArray, List.set_cons_zero, List.set_cons_succ])
      (refine WE_one (i := 4) rfl (by decide) (by kernel_rfl) ?_; intro K hK)
      go_simp
      go_at_call 222
      refine (index_lib colourW b _ 9 w6 hrd6 (by decide) (by decide)).mono ?_
      rintro e w7 ⟨rfl, rfl⟩
      refine hK.out _ _ b16 ?_
      clear hSE hK K
      intro hSE
      (try simp only [Act.put, List.setIfInBounds_toArray, List.set_cons_zero, List.set_cons_succ])
      have HX6 := hid ((unhid HX5).after hb6)
      have HR6 := hid ((hb6.block g hg5).trans (unhid HR5))
      have hg6 : g < w6.heap.size := Nat.lt_of_lt_of_le hg5 hb6.size
      clear hb6 hrd6 b1 b16 HX5 HR5 hg5
      generalize idxW colourW b = cd at *
      have c1 : w6.cell? ⟨B + 1, 1, none⟩ = some (.int .i64 0) := (unhid HX6).cell 1
      have f1 := (unhid HX6).frozen 1
      (refine WE_take (i := 5) (v := ?_) rfl (by kernel_rfl) (by decide) (by kernel_rfl) (by kernel_rfl) (fun _ _ _ h => h) (by rfl) hSE ?_ ?_; rotate_left; (focus (intro w hSw; (try dsimp only at hSw); go_simp; (try with_reducible rfl))); simp only [Act.put, List.setIfInBounds_toArray, List.set_cons_zero, List.set_cons_succ])
      (refine WE_last rfl (by kernel_rfl) (by kernel_rfl) (by kernel_rfl) ?_; intro K hK; go_simp; refine hK.out _ _ (NoPanic.normal ?_); clear hK K)
      have hX7 : XI w B (w6.setCell ⟨B + 1, 1, none⟩ (.int .i64 cd)) (xi kd cd 0 0 0 0 t) := (unhid HX6).set 1 (.int .i64 cd)
      have HR7 := hid ((heap_setCell_other w6 ⟨B + 1, 1, none⟩ g (.int .i64 cd) (by dsimp only; omega)).trans (unhid HR6))
      have hg7 : g < (w6.setCell ⟨B + 1, 1, none⟩ (.int .i64 cd)).heap.size := by simpa using hg6
      clear c1 f1
      generalize w6.setCell ⟨B + 1, 1, none⟩ (.int .i64 cd) = w7 at *
      have HX7 := hid hX7
      clear hX7 HX6 HR6 hg6 hd13
      go_upto_region 14 with (fail)
      go_cut [12] from 39 to 58 (fun s12 wz => ∃ A : Option Addr, s12 = .slice A r.length r.length ∧ (r ≠ [] → A = some ⟨g, 2, none⟩) ∧ wz = w7)
      case first =>
        have hd14 : (2 : Int) ≤ (r.length : Int) + 1 + 1 := by omega
        by_cases hr0 : r = []
        · subst hr0
          go_wp2_with fail
          go_meet
          case rel => exact ⟨some ⟨g, 0, none⟩, rfl, fun h => absurd rfl h, rfl⟩
        · have hrl0 : r.length ≠ 0 := fun e => hr0 (List.eq_nil_of_length_eq_zero e)
          go_wp2_with fail
          go_meet
          case rel => exact ⟨some ⟨g, 2, none⟩, rfl, fun _ => rfl, rfl⟩
      case rest =>
        obtain ⟨A, rfl, hA, rfl⟩ := hcut
        have hrow : ∀ j, j < r.length → wc.cell? ⟨g, 2 + j, none⟩ = some (.string (SB (r.getD j []))) := fun j hj => by
          rw [cell_of_row _ _ _ _ _ _ (unhid HR7)]
          simp [strC, List.getElem?_eq_getElem hj, Nat.add_comm 2 j]
        have hA' : r.length ≠ 0 → A = some ⟨g, 2, none⟩ := fun h => hA (fun e => h (by rw [e]; rfl))
        have HTN := hid ((unhid HRN).trans (readNs_eq kd cd t r))
        clear hA HRN
        have hwr : ∀ j, (r.getD j []).length ≤ 5000 := fun j => by
          rw [List.getD_eq_getElem?_getD]
          cases he : r[j]? with
          | none => simp
          | some x => exact hwd x (List.mem_cons_of_mem _ (List.mem_cons_of_mem _ (List.mem_of_getElem? he)))
        clear hwd hs2
        have HWR := hid hwr
        generalize r.length = n at *
        have HROW := hid hrow
        clear hrow hwr
        go_upto_region 15 with (fail)
        go_cut [70] from 59 to 69 (fun s70 wz => s70 = .bool (decide (3 ≤ n ∧ r.getD (n - 3) [] = [97, 116])) ∧ wz = wc)
        case first =>
          by_cases h3 : 3 ≤ n
          · obtain ⟨q, rfl⟩ : ∃ q, n = q + 3 := ⟨n - 3, by omega⟩
            obtain rfl := hA' (by omega)
            have e3 := (unhid HROW) q (by omega)
            obtain ⟨x3, hx3⟩ : ∃ x, x = r.getD q [] := ⟨_, rfl⟩
            rw [← hx3] at e3
            have HX3' := hid hx3
            clear hx3 h3 hA'
            have hd15 : (3 : Int) ≤ (q : Int) + 3 := by omega
            go_wp2_with fail
            go_meet
            case rel =>
              refine ⟨congrArg Value.bool ?_, rfl⟩
              rw [show q + 3 - 3 = q from rfl, ← unhid HX3']
              rw [ByteArray.toList_eq, SB_data]
              by_cases h : x3 = [97, 116] <;> simp [h]
          · have hd15 : ¬ (3 : Int) ≤ (n : Int) := by omega
            have hd16 : decide ((3 : Int) ≤ (n : Int)) = false := decide_eq_false hd15
            go_wp2_with fail
            go_meet
            case rel => exact ⟨congrArg Value.bool (decide_eq_false (fun h => h3 h.1)).symm, rfl⟩
        case rest =>
          obtain ⟨rfl, rfl⟩ := hcut
          go_upto_if 70 with (fail)
          go_cut [12] from 70 to 91 (fun s12 wz => ∃ (m : Nat) (l o : Int), s12 = .slice A m n ∧ m ≤ n ∧ readIt s = tailR kd cd t l o m (r.getD 0 []) (r.getD 1 []) ∧ XI w B wz (xi kd cd l o 0 0 t) ∧ wz.heap[g]? = some (.cells (strC (a :: b :: r)).toArray 9 (0, 0)))
          case first =>
            by_cases hc : 3 ≤ n ∧ r.getD (n - 3) [] = [97, 116]
            · rw [decide_eq_true hc]
              have HTR := hid ((unhid HTN).trans (if_pos hc))
              obtain ⟨q, rfl⟩ : ∃ q, n = q + 3 := ⟨n - 3, by omega⟩
              obtain rfl := hA' (by omega)
              have e2 := (unhid HROW) (q + 1) (by omega)
              have e1 := (unhid HROW) (q + 2) (by omega)
              have l2 := (unhid HWR) (q + 1)
              have l1 := (unhid HWR) (q + 2)
              rw [show q + 3 - 2 = q + 1 from rfl, show q + 3 - 1 = q + 2 from rfl, show q + 3 - 3 = q from rfl] at HTR
              clear hc hA'
              generalize r.getD (q + 1) [] = y2 at *
              generalize r.getD (q + 2) [] = y1 at *
              have HG9 := hid ((unhid HG).below (unhid HX7).below)
              have hd74 : (0 : Int) ≤ (q : Int) + 1 ∧ (q : Int) + 1 < (q : Int) + 3 := by omega
              have hd75 : (0 : Int) ≤ (q : Int) + 2 ∧ (q : Int) + 2 < (q : Int) + 3 := by omega
              have ht2 : ((q : Int) + 1).toNat = q + 1 := by omega
              have ht1 : ((q : Int) + 2).toNat = q + 2 := by omega
              have c2 : wc.cell? ⟨B + 1, 2, none⟩ = some (.int .i64 0) := (unhid HX7).cell 2
              have HW2 := hid (show IntKind.i64.wrap ((q : Int) + 3 - 2) = (q : Int) + 1 from (IntWalk.i64_in _ (by omega)).trans (by omega))
              have HW1 := hid (show IntKind.i64.wrap ((q : Int) + 3 - 1) = (q : Int) + 2 from (IntWalk.i64_in _ (by omega)).trans (by omega))
              go_wp2_with fail
              have hw2 := unhid HW2
              have hw1 := unhid HW1
              refine wp_region_noPanic ?_
              refine wp_region_E (S := fun w' => w'.cell? ⟨g, 2 + (q + 1), none⟩ = some (.string (SB y2)) ∧ w'.cell? ⟨g, 2 + (q + 2), none⟩ = some (.string (SB y1))) 17 18 rfl (by kernel_rfl) (by kernel_rfl) ⟨e2, e1⟩ ?_
              intro hSE
              (refine WE_take (i := 0) (v := ?_) rfl (by kernel_rfl) (by decide) (by kernel_rfl) (by kernel_rfl) (fun _ _ _ h => h) (by rfl) hSE ?_ ?_; rotate_left; (focus (intro w hSw; (try dsimp only at hSw); go_simp; (try with_reducible rfl))); simp only [Act.put, List.setIfInBounds_toArray, List.set_cons_zero, List.set_cons_succ])
              (refine WE_take (i := 1) (v := ?_) rfl (by kernel_rfl) (by decide) (by kernel_rfl) (by kernel_rfl) (fun _ _ _ h => h) (by rfl) hSE ?_ ?_; rotate_left; (focus (intro w hSw; (try dsimp only at hSw); go_simp; (try with_reducible rfl))); simp only [Act.put, List.setIfInBounds_toArray, List.set_cons_zero, List.set_cons_succ])
              (refine WE_take (i := 2) (v := ?_) rfl (by kernel_rfl) (by decide) (by kernel_rfl) (by kernel_rfl) (fun _ _ _ h => h) (by rfl) hSE ?_ ?_; rotate_left; (focus (intro w hSw; (try dsimp only at hSw); go_simp; (try with_reducible rfl))); simp only [Act.put, List.setIfInBounds_toArray, List.set_cons_zero, List.set_cons_succ])
              (refine WE_take (i := 3) (v := ?_) rfl (by kernel_rfl) (by decide) (by kernel_rfl) (by kernel_rfl) (fun _ _ _ h => h) (by rfl) hSE ?_ ?_; rotate_left; (focus (intro w hSw; (try dsimp only at hSw); go_simp; (try with_reducible rfl))); simp only [Act.put, List.setIfInBounds_toArray, List.set_cons_zero, List.set_cons_succ])
              (refine WE_take (i := 4) (v := ?_) rfl (by kernel_rfl) (by decide) (by kernel_rfl) (by kernel_rfl) (fun _ _ _ h => h) (by rfl) hSE ?_ ?_; rotate_left; (focus (intro w hSw; (try dsimp only at hSw); go_simp; (try with_reducible rfl))); simp only [Act.put, List.setIfInBounds_toArray, List.set_cons_zero, List.set_cons_succ])
              (refine WE_take (i := 5) (v := ?_) rfl (by kernel_rfl) (by decide) (by kernel_rfl) (by kernel_rfl) (fun _ _ _ h => h) (by rfl) hSE ?_ ?_; rotate_left; (focus (intro w hSw; (try dsimp only at hSw); go_simp; (try with_reducible rfl))); simp only [Act.put, List.setIfInBounds_toArray, List.set_cons_zero, List.set_cons_succ])
              (refine WE_take (i := 7) (v := ?_) rfl (by kernel_rfl) (by decide) (by kernel_rfl) (by kernel_rfl) (fun _ _ _ h => h) (by rfl) hSE ?_ ?_; rotate_left; (focus (intro w hSw; (try dsimp only at hSw); go_simp; (try with_reducible rfl))); simp only [Act.put, List.setIfInBounds_toArray, List.set_cons_zero, List.set_cons_succ])
              (refine WE_take (i := 8) (v := ?_) rfl (by kernel_rfl) (by decide) (by kernel_rfl) (by kernel_rfl) (fun _ _ _ h => h) (by rfl) hSE ?_ ?_; rotate_left; (focus (intro w hSw; (try dsimp only at hSw); go_simp; (try with_reducible rfl))); simp only [Act.put, List.setIfInBounds_toArray, List.set_cons_zero, List.set_cons_succ])
              (refine WE_take (i := 9) (v := ?_) rfl (by kernel_rfl) (by decide) (by kernel_rfl) (by kernel_rfl) (fun _ _ _ h => h) (by rfl) hSE ?_ ?_; rotate_left; (focus (intro w hSw; (try dsimp only at hSw); go_simp; (try with_reducible rfl))); simp only [Act.put, List.setIfInBounds_toArray, List.set_cons_zero, List.set_cons_succ])
              (refine WE_take (i := 10) (v := ?_) rfl (by kernel_rfl) (by decide) (by kernel_rfl) (by kernel_rfl) (fun _ _ _ h => h) (by rfl) hSE ?_ ?_; rotate_left; (focus (intro w hSw; (try dsimp only at hSw); go_simp; (try with_reducible rfl))); simp only [Act.put, List.setIfInBounds_toArray, List.set_cons_zero, List.set_cons_succ])
              (refine WE_take (i := 11) (v := ?_) rfl (by kernel_rfl) (by decide) (by kernel_rfl) (by kernel_rfl) (fun _ _ _ h => h) (by rfl) hSE ?_ ?_; rotate_left; (focus (intro w hSw; (try dsimp only at hSw); go_simp; (try with_reducible rfl))); simp only [Act.put, List.setIfInBounds_toArray, List.set_cons_zero, List.set_cons_succ])
              (refine WE_take (i := 12) (v := ?_) rfl (by kernel_rfl) (by decide) (by kernel_rfl) (by kernel_rfl) (fun _ _ _ h => h) (by rfl) hSE ?_ ?_; rotate_left; (focus (intro w hSw; (try dsimp only at hSw); go_simp; (try with_reducible rfl))); simp only [Act.put, List.setIfInBounds_toArray, List.set_cons_zero, List.set_cons_succ])
              (refine WE_one (i := 6) rfl (by decide) (by kernel_rfl) ?_; intro K hK)
              go_simp
              go_at_call 224
              refine (number_calls y2 wc.drew ((unhid HG9).below (Below.drew (Below.refl _ _))) (by omega)).mono ?_
              rintro e w5 ⟨rfl, hb5⟩
              have hb5' : Below wc.heap.size wc w5 := (Below.drew (Below.refl _ _)).trans hb5
              have e25 := (hb5'.cell (p := ⟨g, 2 + (q + 1), none⟩) hg7).trans e2
              have e15 := (hb5'.cell (p := ⟨g, 2 + (q + 2), none⟩) hg7).trans e1
              refine hK.out _ _ ⟨e25, e15⟩ ?_
              clear hSE hK K
              intro hSE
              (try simp only [Act.put, List.setIfInBounds_toArray, List.set_cons_zero, List.set_cons_succ])
              (refine WE_take (i := 14) (v := ?_) rfl (by kernel_rfl) (by decide) (by kernel_rfl) (by kernel_rfl) (fun _ _ _ h => h) (by rfl) hSE ?_ ?_; rotate_left; (focus (intro w hSw; (try dsimp only at hSw); go_simp; (try with_reducible rfl))); simp only [Act.put, List.setIfInBounds_toArray, List.set_cons_zero, List.set_cons_succ])
              (refine WE_one (i := 13) rfl (by decide) (by kernel_rfl) ?_; intro K hK)
              go_simp
              go_at_call 224
              refine (number_calls y1 w5 ((unhid HG9).below hb5') (by omega)).mono ?_
              rintro e w6 ⟨rfl, hb6⟩
              have hb6' : Below wc.heap.size wc w6 := hb5'.trans (hb6.mono hb5'.size)
              have e26 := (hb6'.cell (p := ⟨g, 2 + (q + 1), none⟩) hg7).trans e2
              have e16 := (hb6'.cell (p := ⟨g, 2 + (q + 2), none⟩) hg7).trans e1
              refine hK.out _ _ ⟨e26, e16⟩ ?_
              clear hSE hK K
              intro hSE
              (try simp only [Act.put, List.setIfInBounds_toArray, List.set_cons_zero, List.set_cons_succ])
              have HX9 := hid ((unhid HX7).after hb6')
              have HR9 := hid ((hb6'.block g hg7).trans (unhid HR7))
              have hg9 : g < w6.heap.size := Nat.lt_of_lt_of_le hg7 hb6'.size
              clear hb5 hb5' hb6 hb6' e25 e15 e26 e16 e2 e1 c2 hw1 hw2 hd74 hd75 ht1 ht2
              generalize numP y2 = z2 at *
              generalize numP y1 = z1 at *
              have c2 : w6.cell? ⟨B + 1, 2, none⟩ = some (.int .i64 0) := (unhid HX9).cell 2
              have f2 := (unhid HX9).frozen 2
              (refine WE_one (i := 15) rfl (by decide) (by kernel_rfl) ?_; intro K hK)
              go_simp
              have hX10 : XI w B (w6.setCell ⟨B + 1, 2, none⟩ (.int .i64 z2)) (xi kd cd z2 0 0 0 t) := (unhid HX9).set 2 (.int .i64 z2)
              have HR10 := hid ((heap_setCell_other w6 ⟨B + 1, 2, none⟩ g (.int .i64 z2) (by dsimp only; omega)).trans (unhid HR9))
              clear c2 f2
              generalize w6.setCell ⟨B + 1, 2, none⟩ (.int .i64 z2) = w10 at *
              have HX10 := hid hX10
              refine hK.out _ _ (by
                refine ⟨?_, ?_⟩
                · rw [cell_of_row _ _ _ _ _ _ (unhid HR10), ← cell_of_row _ _ _ _ _ _ (unhid HR9)]; exact hSE.1
                · rw [cell_of_row _ _ _ _ _ _ (unhid HR10), ← cell_of_row _ _ _ _ _ _ (unhid HR9)]; exact hSE.2) ?_
              clear hSE hK K hX10 HX9 HR9 hg9
              intro hSE
              (try simp only [Act.put, List.setIfInBounds_toArray, List.set_cons_zero, List.set_cons_succ])
              have c3 : w10.cell? ⟨B + 1, 3, none⟩ = some (.int .i64 0) := (unhid HX10).cell 3
              have f3 := (unhid HX10).frozen 3
              (refine WE_take (i := 16) (v := ?_) rfl (by kernel_rfl) (by decide) (by kernel_rfl) (by kernel_rfl) (fun _ _ _ h => h) (by rfl) hSE ?_ ?_; rotate_left; (focus (intro w hSw; (try dsimp only at hSw); go_simp; (try with_reducible rfl))); simp only [Act.put, List.setIfInBounds_toArray, List.set_cons_zero, List.set_cons_succ])
              (refine WE_last rfl (by kernel_rfl) (by kernel_rfl) (by kernel_rfl) ?_; intro K hK; go_simp; refine hK.out _ _ (NoPanic.normal ?_); clear hK K)
              have hX11 : XI w B (w10.setCell ⟨B + 1, 3, none⟩ (.int .i64 z1)) (xi kd cd z2 z1 0 0 t) := (unhid HX10).set 3 (.int .i64 z1)
              have HR11 := hid ((heap_setCell_other w10 ⟨B + 1, 3, none⟩ g (.int .i64 z1) (by dsimp only; omega)).trans (unhid HR10))
              clear c3 f3
              generalize w10.setCell ⟨B + 1, 3, none⟩ (.int .i64 z1) = w11 at *
              have hd17 : (0 : Int) ≤ (q : Int) ∧ (q : Int) ≤ (q : Int) + 3 := by omega
              have HW3 := hid (show IntKind.i64.wrap ((q : Int) + 3 - 3) = (q : Int) from (IntWalk.i64_in _ (by omega)).trans (by omega))
              have hw3 := unhid HW3
              go_wp2_with fail
              go_meet
              case rel => exact ⟨q, z2, z1, rfl, by omega, unhid HTR, hX11, unhid HR11⟩
            · rw [decide_eq_false hc]
              have HTR := hid ((unhid HTN).trans (if_neg hc))
              clear hc
              go_wp2_with fail
              go_meet
              case rel => exact ⟨n, 0, 0, rfl, Nat.le_refl _, unhid HTR, unhid HX7, unhid HR7⟩
          case rest =>
            obtain ⟨m, l, o, rfl, hmn, hrt, hX8, hR8⟩ := hcut
            have HX8 := hid hX8
            have HR8 := hid hR8
            have HRT := hid hrt
            have lx := (unhid HWR) 0
            have ly := (unhid HWR) 1
            have hx8 : 1 ≤ n → wc.cell? ⟨g, 2, none⟩ = some (.string (SB (r.getD 0 []))) := fun h => by
              rw [cell_of_row _ _ _ _ _ _ (unhid HR8), ← cell_of_row _ _ _ _ _ _ (unhid HR7)]
              exact (unhid HROW) 0 (by omega)
            have hy8 : 2 ≤ n → (strC (a :: b :: r)).toArray[3]? = some (.string (SB (r.getD 1 []))) := fun h => by
              rw [← cell_of_row _ _ _ _ _ _ (unhid HR7)]
              exact (unhid HROW) 1 (by omega)
            clear hX8 hR8 hrt HX7 HR7 HROW HWR HTN
            generalize r.getD 0 [] = x at *
            generalize r.getD 1 [] = y at *
            match m, hmn, HRT with
            | 0, _, HRT =>
              have c0 : wc.cell? ⟨B + 1, 0, none⟩ = some (.int .i64 kd) := (unhid HX8).cell 0
              have c1 : wc.cell? ⟨B + 1, 1, none⟩ = some (.int .i64 cd) := (unhid HX8).cell 1
              have c2 : wc.cell? ⟨B + 1, 2, none⟩ = some (.int .i64 l) := (unhid HX8).cell 2
              have c3 : wc.cell? ⟨B + 1, 3, none⟩ = some (.int .i64 o) := (unhid HX8).cell 3
              have c4 : wc.cell? ⟨B + 1, 4, none⟩ = some (.int .i64 0) := (unhid HX8).cell 4
              have c5 : wc.cell? ⟨B + 1, 5, none⟩ = some (.int .i64 0) := (unhid HX8).cell 5
              have c6 : wc.cell? ⟨B + 1, 6, none⟩ = some (.string (SB t)) := (unhid HX8).cell 6
              go_wp2_with (refine wpList_store_row rfl 320 (.tmp 2) (.tmp 112) rfl B (xi kd cd l o 0 0 t) rfl rfl 320 _ (unhid HX8).res (xi_size _ _ _ _ _ _ _) rfl (xi_one _ _ _ _ _ _ _) ?_)
              (try simp only [Exit.inBlock, Exit.then])
              refine bodyPost_ret_by (v := .tuple #[.agg (xi kd cd l o 0 0 t), .bool true]) (results_cell_row_tmp Tryz.results225 _ _ B 320 (xi kd cd l o 0 0 t) (0, 0) _ _ rfl rfl ((unhid HX8).doneH _) Tryz.underlying320 rfl (xi_size _ _ _ _ _ _ _)) rfl ?_
              exact readR_yes (x := ⟨kd, cd, l, o, 0, 0, t⟩) ((unhid HRT).trans (by simp [tailR])) ((unhid HX8).doneB _)
            | 1, hmn, HRT =>
              obtain rfl := hA' (by omega)
              have x8 := hx8 hmn
              have HRU := hid ((unhid HRT).trans (show tailR kd cd t l o 1 x y = some ⟨kd, cd, l, o, numP x, 0, t⟩ by simp [tailR]))
              go_wp2_with fail
              refine (number_calls x wc ((unhid HG).below (unhid HX8).below) (by omega)).mono ?_
              rintro e wda ⟨rfl, hbwd⟩
              have HXda := hid ((unhid HX8).after hbwd)
              have RHXda := hid ((hbwd.block g (Array.getElem?_eq_some_iff.1 (unhid HR8)).1).trans (unhid HR8))
              have c4 : wda.cell? ⟨B + 1, 4, none⟩ = some (.int .i64 0) := (unhid HXda).cell 4
              have f4 := (unhid HXda).frozen 4
              clear hbwd
              generalize numP x = z4 at *
              go_upto_region 22 with (fail)
              have HXdb : XI w B (wda.setCell ⟨B + 1, 4, none⟩ (.int .i64 z4)) (xi kd cd l o z4 0 t) := (unhid HXda).set 4 (.int .i64 z4)
              have RHXd := hid ((heap_setCell_other wda ⟨B + 1, 4, none⟩ g (.int .i64 z4) (by dsimp only; omega)).trans (unhid RHXda))
              clear c4 f4
              generalize wda.setCell ⟨B + 1, 4, none⟩ (.int .i64 z4) = wd at *
              have HXd := hid HXdb
              clear HXdb HXda RHXda
              have c0 : wd.cell? ⟨B + 1, 0, none⟩ = some (.int .i64 kd) := (unhid HXd).cell 0
              have c1 : wd.cell? ⟨B + 1, 1, none⟩ = some (.int .i64 cd) := (unhid HXd).cell 1
              have c2 : wd.cell? ⟨B + 1, 2, none⟩ = some (.int .i64 l) := (unhid HXd).cell 2
              have c3 : wd.cell? ⟨B + 1, 3, none⟩ = some (.int .i64 o) := (unhid HXd).cell 3
              have c4 : wd.cell? ⟨B + 1, 4, none⟩ = some (.int .i64 z4) := (unhid HXd).cell 4
              have c5 : wd.cell? ⟨B + 1, 5, none⟩ = some (.int .i64 0) := (unhid HXd).cell 5
              have c6 : wd.cell? ⟨B + 1, 6, none⟩ = some (.string (SB t)) := (unhid HXd).cell 6
              go_wp2_with (refine wpList_store_row rfl 320 (.tmp 2) (.tmp 112) rfl B (xi kd cd l o z4 0 t) rfl rfl 320 _ (unhid HXd).res (xi_size _ _ _ _ _ _ _) rfl (xi_one _ _ _ _ _ _ _) ?_)
              (try simp only [Exit.inBlock, Exit.then])
              refine bodyPost_ret_by (v := .tuple #[.agg (xi kd cd l o z4 0 t), .bool true]) (results_cell_row_tmp Tryz.results225 _ _ B 320 (xi kd cd l o z4 0 t) (0, 0) _ _ rfl rfl ((unhid HXd).doneH _) Tryz.underlying320 rfl (xi_size _ _ _ _ _ _ _)) rfl ?_
              exact readR_yes (x := ⟨kd, cd, l, o, z4, 0, t⟩) (unhid HRU) ((unhid HXd).doneB _)
            | 2, hmn, HRT =>
              obtain rfl := hA' (by omega)
              have x8 := hx8 (by omega)
              have y8 := hy8 hmn
              have HRU := hid ((unhid HRT).trans (show tailR kd cd t l o 2 x y = some ⟨kd, cd, l, o, numP x, numP y, t⟩ by simp [tailR]))
              go_wp2_with fail
              refine (number_calls x wc ((unhid HG).below (unhid HX8).below) (by omega)).mono ?_
              rintro e wda ⟨rfl, hbwd⟩
              have HXda := hid ((unhid HX8).after hbwd)
              have RHXda := hid ((hbwd.block g (Array.getElem?_eq_some_iff.1 (unhid HR8)).1).trans (unhid HR8))
              have c4 : wda.cell? ⟨B + 1, 4, none⟩ = some (.int .i64 0) := (unhid HXda).cell 4
              have f4 := (unhid HXda).frozen 4
              clear hbwd
              generalize numP x = z4 at *
              go_upto_region 22 with (fail)
              have HXdb : XI w B (wda.setCell ⟨B + 1, 4, none⟩ (.int .i64 z4)) (xi kd cd l o z4 0 t) := (unhid HXda).set 4 (.int .i64 z4)
              have RHXd := hid ((heap_setCell_other wda ⟨B + 1, 4, none⟩ g (.int .i64 z4) (by dsimp only; omega)).trans (unhid RHXda))
              clear c4 f4
              generalize wda.setCell ⟨B + 1, 4, none⟩ (.int .i64 z4) = wd at *
              have HXd := hid HXdb
              clear HXdb HXda RHXda
              have y9 : wd.cell? ⟨g, 3, none⟩ = some (.string (SB y)) := (cell_of_row _ _ _ _ _ _ (unhid RHXd)).trans y8
              go_wp2_with fail
              refine (number_calls y wd ((unhid HG).below (unhid HXd).below) (by omega)).mono ?_
              rintro e wea ⟨rfl, hbwe⟩
              have HXea := hid ((unhid HXd).after hbwe)
              have RHXea := hid ((hbwe.block g (Array.getElem?_eq_some_iff.1 (unhid RHXd)).1).trans (unhid RHXd))
              have c5 : wea.cell? ⟨B + 1, 5, none⟩ = some (.int .i64 0) := (unhid HXea).cell 5
              have f5 := (unhid HXea).frozen 5
              clear hbwe
              generalize numP y = z5 at *
              go_upto_region 24 with (fail)
              have HXeb : XI w B (wea.setCell ⟨B + 1, 5, none⟩ (.int .i64 z5)) (xi kd cd l o z4 z5 t) := (unhid HXea).set 5 (.int .i64 z5)
              have RHXe := hid ((heap_setCell_other wea ⟨B + 1, 5, none⟩ g (.int .i64 z5) (by dsimp only; omega)).trans (unhid RHXea))
              clear c5 f5
              generalize wea.setCell ⟨B + 1, 5, none⟩ (.int .i64 z5) = we at *
              have HXe := hid HXeb
              clear HXeb HXea RHXea
              have c0 : we.cell? ⟨B + 1, 0, none⟩ = some (.int .i64 kd) := (unhid HXe).cell 0
              have c1 : we.cell? ⟨B + 1, 1, none⟩ = some (.int .i64 cd) := (unhid HXe).cell 1
              have c2 : we.cell? ⟨B + 1, 2, none⟩ = some (.int .i64 l) := (unhid HXe).cell 2
              have c3 : we.cell? ⟨B + 1, 3, none⟩ = some (.int .i64 o) := (unhid HXe).cell 3
              have c4 : we.cell? ⟨B + 1, 4, none⟩ = some (.int .i64 z4) := (unhid HXe).cell 4
              have c5 : we.cell? ⟨B + 1, 5, none⟩ = some (.int .i64 z5) := (unhid HXe).cell 5
              have c6 : we.cell? ⟨B + 1, 6, none⟩ = some (.string (SB t)) := (unhid HXe).cell 6
              go_wp2_with (refine wpList_store_row rfl 320 (.tmp 2) (.tmp 112) rfl B (xi kd cd l o z4 z5 t) rfl rfl 320 _ (unhid HXe).res (xi_size _ _ _ _ _ _ _) rfl (xi_one _ _ _ _ _ _ _) ?_)
              (try simp only [Exit.inBlock, Exit.then])
              refine bodyPost_ret_by (v := .tuple #[.agg (xi kd cd l o z4 z5 t), .bool true]) (results_cell_row_tmp Tryz.results225 _ _ B 320 (xi kd cd l o z4 z5 t) (0, 0) _ _ rfl rfl ((unhid HXe).doneH _) Tryz.underlying320 rfl (xi_size _ _ _ _ _ _ _)) rfl ?_
              exact readR_yes (x := ⟨kd, cd, l, o, z4, z5, t⟩) (unhid HRU) ((unhid HXe).doneB _)
            | m + 3, hmn, HRT =>
              have c0 : wc.cell? ⟨B + 1, 0, none⟩ = some (.int .i64 kd) := (unhid HX8).cell 0
              have c1 : wc.cell? ⟨B + 1, 1, none⟩ = some (.int .i64 cd) := (unhid HX8).cell 1
              have c2 : wc.cell? ⟨B + 1, 2, none⟩ = some (.int .i64 l) := (unhid HX8).cell 2
              have c3 : wc.cell? ⟨B + 1, 3, none⟩ = some (.int .i64 o) := (unhid HX8).cell 3
              have c4 : wc.cell? ⟨B + 1, 4, none⟩ = some (.int .i64 0) := (unhid HX8).cell 4
              have c5 : wc.cell? ⟨B + 1, 5, none⟩ = some (.int .i64 0) := (unhid HX8).cell 5
              have c6 : wc.cell? ⟨B + 1, 6, none⟩ = some (.string (SB t)) := (unhid HX8).cell 6
              have hd18 : (2 : Int) < (m : Int) + 3 := by omega
              go_wp2_with (refine wpList_store_row rfl 320 (.tmp 2) (.tmp 95) rfl B (xi kd cd l o 0 0 t) rfl rfl 320 _ (unhid HX8).res (xi_size _ _ _ _ _ _ _) rfl (xi_one _ _ _ _ _ _ _) ?_)
              (try simp only [Exit.inBlock, Exit.then])
              refine bodyPost_ret_by (v := .tuple #[.agg (xi kd cd l o 0 0 t), .bool false]) (results_cell_row_tmp Tryz.results225 _ _ B 320 (xi kd cd l o 0 0 t) (0, 0) _ _ rfl rfl ((unhid HX8).doneH _) Tryz.underlying320 rfl (xi_size _ _ _ _ _ _ _)) rfl ?_
              exact readR_no ((unhid HRT).trans (by simp [tailR])) ((unhid HX8).doneB _)

end Go.Proofs.YtfklckjfbnaoeaaGreatDoor
