/-
  The reference's Holding: what holds at a distance.
-/
import Derived.Test.YtmpngoejnmlmbaaGreatRefKit
set_option linter.unusedSimpArgs false
set_option linter.unusedVariables false
namespace Go.Proofs.YtmpngoejnmlmbaaGreat
open Go.RowKit

/-- The signs of a row are right enough to reckon with. -/
def RowSg (len : Int) (R : List Sg) : Prop := ∀ s ∈ R, (0 ≤ s.chain ∧ s.chain ≤ len) ∧ valuedB s.kind s.val = true ∧ 0 ≤ s.val ∧ s.val ≤ 100000
theorem RowSg.val {len dir : Int} {R : List Sg} (h : RowSg len R) : ∀ m ∈ mtl len dir R, valuedB m.s.kind m.s.val = true := by
  intro m hm
  obtain ⟨s, hs, rfl⟩ := List.mem_map.1 hm
  exact (h s hs).2.1

set_option maxHeartbeats 4000000 in
set_option maxRecDepth 100000 in
theorem holding_calls (len : Int) (A : Option Addr) (js : List Int) (c : Nat) (A2 : Option Addr) (R : List Sg) (c2 : Nat) (dir topic k : Int) (w : World) (hl : LnOk w A js) (hj : ∀ j ∈ js, 0 ≤ j ∧ j ≤ len) (hlen : len ≤ 100000)
    (hr : Rd w A2 (signs R)) (hn : R.length ≤ 100000000000) (hok : RowSg len R) (hk0 : 0 ≤ k) (hk : k < len) :
    Calls Tryz.prog 87 #[.agg #[.int .i64 len, .slice A js.length c], .slice A2 R.length c2, .int .i64 dir, .int .i64 topic, .int .i64 k] w fun e w' =>
      e = .returned (.int .i64 (holdP len js (mtl len dir R) dir topic k)) ∧ Below w.heap.size w w' := by
  have HFIN := hid ((holdP_ref (js := js) (dir := dir) (topic := topic) hk (hok.val (dir := dir))).trans (by rw [mtl_len]))
  have hjn := hl.n
  have HL := hid hl
  have HJ := hid hj
  have HR := hid hr
  have HOK := hid hok
  clear hl hj hr hok
  go_enter Tryz.func87, Tryz.ntmps87
  go_wp2_with fail
  generalize hW : w.alloc _ = W
  have hsz : w.heap.size < W.heap.size := by rw [← hW]; simp
  have l0 : W.cell? ⟨w.heap.size, 0, none⟩ = some (.int .i64 len) := by rw [← hW]; simp [go_sem]
  have l1 : W.cell? ⟨w.heap.size, 1, none⟩ = some (.slice A js.length c) := by rw [← hW]; simp [go_sem]
  have hbW : Below w.heap.size w W := by rw [← hW]; exact below_alloc _ _
  clear hW
  have HL := hid ((unhid HL).below hbW)
  have HR := hid ((unhid HR).below hbW)
  generalize hBB : w.heap.size = B at *
  have HBW := hid hbW
  clear hbW
  go_loopw [11, 12] (fun x i wr => ∃ n : Nat, n ≤ R.length ∧ i = .int .i64 n ∧ x = .int .i64 (lastX (mtl len dir R) topic k n) ∧ Below W.heap.size W wr) (fun _ i _ => R.length - (intOf i).toNat)
  case atStart => exact ⟨0, Nat.zero_le _, rfl, rfl, Below.refl _ _⟩
  case round =>
    obtain ⟨n, hn1, rfl, rfl, hbel⟩ := hrel
    have hszr : B < wr.heap.size := Nat.lt_of_lt_of_le hsz hbel.size
    have d0 := (hbel.cell (p := ⟨B, 0, none⟩) hsz).trans l0
    have d1 := (hbel.cell (p := ⟨B, 1, none⟩) hsz).trans l1
    by_cases hlt : n < R.length
    · have HLS := hid (lastX_succ (mtl len dir R) topic k n)
      have HCN := hid (show cntB (mtl len dir R) topic k n = (decide (distI len dir R[n].chain ≤ k) && (decide (0 < startP R[n] topic) || endB R[n] topic)) by simp [cntB, mtl_at hlt])
      obtain ⟨b, off, rfl, hb, hc⟩ := ((unhid HR).below hbel) (signs_ne hlt)
      obtain ⟨m0, m1, m2, m3, m4, m5, m6, m7, m8⟩ := signs_cells hc hlt
      clear hc
      have hxo := unhid HOK R[n] (List.getElem_mem hlt)
      generalize hx : R[n] = x at *
      clear hx
      obtain ⟨⟨hx0, hx1⟩, -⟩ := hxo
      have hlx := (lastX_lt (mtl len dir R) topic k n)
      generalize hlxx : lastX (mtl len dir R) topic k n = lx at *
      have HLX := hid hlxx
      clear hlxx
      have e0 := After.cell (W := wr) (a := ⟨B, 0, none⟩) hszr d0
      have e1 := After.cell (W := wr) (a := ⟨B, 1, none⟩) hszr d1
      have c0 := After.cell (W := wr) (a := ⟨b, off + n * 9, none⟩) hb m0
      have c1 := After.cell (W := wr) (a := ⟨b, off + n * 9 + 1, none⟩) hb m1
      have c2 := After.cell (W := wr) (a := ⟨b, off + n * 9 + 2, none⟩) hb m2
      have c3 := After.cell (W := wr) (a := ⟨b, off + n * 9 + 3, none⟩) hb m3
      have c4 := After.cell (W := wr) (a := ⟨b, off + n * 9 + 4, none⟩) hb m4
      have c5 := After.cell (W := wr) (a := ⟨b, off + n * 9 + 5, none⟩) hb m5
      have c6 := After.cell (W := wr) (a := ⟨b, off + n * 9 + 6, none⟩) hb m6
      have c7 := After.cell (W := wr) (a := ⟨b, off + n * 9 + 7, none⟩) hb m7
      have c8 := After.cell (W := wr) (a := ⟨b, off + n * 9 + 8, none⟩) hb m8
      have KD := fun w => rdistance_calls len A js.length c dir x.chain w hx0 hx1 hlen
      have KS := fun w => start_calls x topic w
      have KE := fun w => end_calls x topic w
      generalize hd : distI len dir x.chain = d at *
      generalize hst : startP x topic = st at *
      generalize hen : endB x topic = en at *
      have KD := hid KD
      have KS := hid KS
      have KE := hid KE
      clear hd hst hen
      have KDS := True.intro
      by_cases hf : d ≤ k
      · by_cases hs : 0 < st
        · have hcn : cntB (mtl len dir R) topic k n = true := by rw [unhid HCN]; simp [hf, hs]
          have HF := hid ((unhid HLS).trans (if_pos hcn))
          clear hcn
          have := decide_eq_true (show d ≤ k by omega)
          have := decide_eq_true (show (0 : Int) < st by omega)
          go_wp2_with fail
          (refine wp_region_below (by kernel_rfl) (by kernel_rfl) ?_; (repeat (go_big_quiet_step (first | (go_at_call 67; exact Calls.after_eq ((unhid KD) _)) | (go_at_call 114; exact Calls.after_of ((unhid KS) _)) | (go_at_call 115; exact Calls.after_of ((unhid KE) _))))); refine wpQuiet_nil ?_; intro wq hw'; obtain ⟨⟨wq2, hbq⟩, hw''⟩ := hw'; dsimp only at hw''; subst hw'')
          clear e0 e1 c0 c1 c2 c3 c4 c5 c6 c7 c8
          go_wp2_with fail
          exact ⟨⟨n + 1, by omega, by go_num, by rw [unhid HF], hbel.trans (hbq.mono hbel.size)⟩, by simp [intOf]; omega⟩
        · have := decide_eq_true (show d ≤ k by omega)
          have := decide_eq_false (show ¬ ((0 : Int) < st) by omega)
          cases en with
          | true =>
            have hcn : cntB (mtl len dir R) topic k n = true := by rw [unhid HCN]; simp [hf]
            have HF := hid ((unhid HLS).trans (if_pos hcn))
            clear hcn
            go_wp2_with fail
            (refine wp_region_below (by kernel_rfl) (by kernel_rfl) ?_; (repeat (go_big_quiet_step (first | (go_at_call 67; exact Calls.after_eq ((unhid KD) _)) | (go_at_call 114; exact Calls.after_of ((unhid KS) _)) | (go_at_call 115; exact Calls.after_of ((unhid KE) _))))); refine wpQuiet_nil ?_; intro wq hw'; obtain ⟨⟨wq2, hbq⟩, hw''⟩ := hw'; dsimp only at hw''; subst hw'')
            clear e0 e1 c0 c1 c2 c3 c4 c5 c6 c7 c8
            go_wp2_with fail
            exact ⟨⟨n + 1, by omega, by go_num, by rw [unhid HF], hbel.trans (hbq.mono hbel.size)⟩, by simp [intOf]; omega⟩
          | false =>
            have hcn : ¬ cntB (mtl len dir R) topic k n = true := by rw [unhid HCN]; simp [hs]
            have HF := hid ((unhid HLS).trans (if_neg hcn))
            clear hcn
            go_wp2_with fail
            (refine wp_region_below (by kernel_rfl) (by kernel_rfl) ?_; (repeat (go_big_quiet_step (first | (go_at_call 67; exact Calls.after_eq ((unhid KD) _)) | (go_at_call 114; exact Calls.after_of ((unhid KS) _)) | (go_at_call 115; exact Calls.after_of ((unhid KE) _))))); refine wpQuiet_nil ?_; intro wq hw'; obtain ⟨⟨wq2, hbq⟩, hw''⟩ := hw'; dsimp only at hw''; subst hw'')
            clear e0 e1 c0 c1 c2 c3 c4 c5 c6 c7 c8
            go_wp2_with fail
            exact ⟨⟨n + 1, by omega, by go_num, by rw [unhid HF], hbel.trans (hbq.mono hbel.size)⟩, by simp [intOf]; omega⟩
      · have hcn : ¬ cntB (mtl len dir R) topic k n = true := by rw [unhid HCN]; simp [hf]
        have HF := hid ((unhid HLS).trans (if_neg hcn))
        clear hcn
        have := decide_eq_false (show ¬ (d ≤ k) by omega)
        go_wp2_with fail
        (refine wp_region_below (by kernel_rfl) (by kernel_rfl) ?_; (repeat (go_big_quiet_step (first | (go_at_call 67; exact Calls.after_eq ((unhid KD) _)) | (go_at_call 114; exact Calls.after_of ((unhid KS) _)) | (go_at_call 115; exact Calls.after_of ((unhid KE) _))))); refine wpQuiet_nil ?_; intro wq hw'; obtain ⟨⟨wq2, hbq⟩, hw''⟩ := hw'; dsimp only at hw''; subst hw'')
        clear e0 e1 c0 c1 c2 c3 c4 c5 c6 c7 c8
        go_wp2_with fail
        exact ⟨⟨n + 1, by omega, by go_num, by rw [unhid HF], hbel.trans (hbq.mono hbel.size)⟩, by simp [intOf]; omega⟩
    · obtain rfl : n = R.length := by omega
      have hlx := lastX_lt (mtl len dir R) topic k R.length
      have hcx := lastX_cnt (mtl len dir R) topic k R.length
      generalize lastX (mtl len dir R) topic k R.length = lx at *
      have HCX := hid hcx
      clear hcx
      by_cases hneg : lx < 0
      · have HF2 := hid (show refP len js (mtl len dir R) dir topic k lx = 0 by simp [refP, hneg])
        have := decide_eq_true (show lx < 0 by omega)
        go_wp2_with fail
        go_ret
        exact ⟨reti (by rw [unhid HFIN, unhid HF2]), by rw [hBB]; exact (unhid HBW).trans (hbel.mono (by omega))⟩
      · obtain ⟨m, rfl⟩ := Int.eq_ofNat_of_zero_le (show 0 ≤ lx by omega)
        clear hneg HCX
        have hm : m < R.length := by omega
        clear hlx
        have hR := (unhid HR).below hbel
        obtain ⟨b, off, rfl, hb, hc⟩ := hR (signs_ne hm)
        obtain ⟨m0, m1, m2, m3, m4, m5, m6, m7, m8⟩ := signs_cells hc hm
        clear hc
        have HFE := hid (fun h : endB R[m] topic = true => (unhid HFIN).trans (refP_end (mtl_at hm) h))
        have HFC := hid (fun h : cutB len js (mtl len dir R) m dir k => (unhid HFIN).trans (refP_cut (topic := topic) (mtl_at hm) h))
        have HFS := hid (fun (h1 : endB R[m] topic = false) (h2 : ¬ cutB len js (mtl len dir R) m dir k) => (unhid HFIN).trans (refP_start (mtl_at hm) h1 h2))
        clear HFIN
        have HCJ := hid (show ∀ j ∈ js, distI len dir R[m].chain < distI len dir j → distI len dir j ≤ k → cutB len js (mtl len dir R) m dir k from fun j hj h1 h2 => .inr ⟨_, mtl_at hm, j, hj, h1, h2⟩)
        have HCP := hid (show ∀ h : m + 1 < R.length, platedP (mtl len dir R) m = true → distI len dir R[m].chain + R[m + 1].val ≤ k → cutB len js (mtl len dir R) m dir k from fun h hp h1 => .inl ⟨hp, _, _, mtl_at hm, mtl_at h, h1⟩)
        have HCN := hid (show (∀ j ∈ js, ¬ (distI len dir R[m].chain < distI len dir j ∧ distI len dir j ≤ k)) → (platedP (mtl len dir R) m = true → ∀ h : m + 1 < R.length, k < distI len dir R[m].chain + R[m + 1].val) → ¬ cutB len js (mtl len dir R) m dir k from fun h1 h2 h3 => by
          rcases h3 with ⟨hp, a, b, ha, hb, h⟩ | ⟨a, ha, j, hj, h⟩
          · have hlt := platedP_lt hp
            rw [mtl_len] at hlt
            rw [mtl_at hm] at ha; rw [mtl_at hlt] at hb
            cases ha; cases hb
            have h5 : distI len dir R[m].chain + R[m + 1].val ≤ k := h
            exact absurd h5 (by have := h2 hp hlt; omega)
          · rw [mtl_at hm] at ha; cases ha
            exact h1 j hj h)
        have hxo := unhid HOK R[m] (List.getElem_mem hm)
        generalize hx : R[m] = x at *
        have HX := hid hx
        clear hx
        obtain ⟨⟨hx0, hx1⟩, -, hx2, hx3⟩ := hxo
        have KD := hid (fun w => rdistance_calls len A js.length c dir x.chain w hx0 hx1 hlen)
        have KS := hid (fun w => start_calls x topic w)
        have KE := hid (fun w => end_calls x topic w)
        have hdb : 0 ≤ distI len dir x.chain ∧ distI len dir x.chain ≤ len := by unfold distI; split <;> omega
        have KP := hid (fun w hr => rplated_calls len dir (some ⟨b, off, none⟩) R c2 m hm w hr hn)
        have hplt := fun h : platedP (mtl len dir R) m = true => (by have := platedP_lt h; rwa [mtl_len] at this : m + 1 < R.length)
        generalize hd : distI len dir x.chain = d at *
        have HD := hid hd
        clear hd
        obtain ⟨hd0, hd1⟩ := hdb
        have := decide_eq_false (show ¬ ((m : Int) < 0) by omega)
        go_wp2_with fail
        refine ((unhid KE) _).mono ?_
        rintro e w1 ⟨rfl, hb1⟩
        cases hen : endB x topic with
        | true =>
          go_wp2_with fail
          go_ret
          exact ⟨reti (unhid HFE hen).symm, by rw [hBB]; exact ((unhid HBW).trans (hbel.mono (by omega))).trans (hb1.mono (by omega))⟩
        | false =>
          have HEN := hid hen
          clear hen
          have hbel1 : Below W.heap.size W w1 := hbel.trans (hb1.mono hbel.size)
          have hsz1 : B < w1.heap.size := Nat.lt_of_lt_of_le hszr hb1.size
          have hbb1 : b < w1.heap.size := Nat.lt_of_lt_of_le hb hb1.size
          have f0 := (hb1.cell (p := ⟨B, 0, none⟩) hszr).trans d0
          have f1 := (hb1.cell (p := ⟨B, 1, none⟩) hszr).trans d1
          have g3 := (hb1.cell (p := ⟨b, off + m * 9 + 3, none⟩) hb).trans m3
          clear d0 d1 m0 m1 m2 m3 m4 m5 m6 m7 m8 hbel hb1
          have e0 := After.cell (W := w1) (a := ⟨B, 0, none⟩) hsz1 f0
          have e1 := After.cell (W := w1) (a := ⟨B, 1, none⟩) hsz1 f1
          have e3 := After.cell (W := w1) (a := ⟨b, off + m * 9 + 3, none⟩) hbb1 g3
          go_wp2_with fail
          (refine wp_region_below (by kernel_rfl) (by kernel_rfl) ?_; (repeat (go_big_quiet_step (first | (go_at_call 67; exact Calls.after_eq ((unhid KD) _))))); refine wpQuiet_nil ?_; intro wq hw'; obtain ⟨⟨wq2, hbq⟩, hw''⟩ := hw'; dsimp only at hw''; subst hw'')
          have hbel2 : Below W.heap.size W wq := hbel1.trans (hbq.mono hbel1.size)
          clear e0 e1 e3 f0 f1 g3
          go_wp2_with fail
          obtain ⟨wo, rfl⟩ : ∃ wo : World, wo = wr := ⟨_, rfl⟩
          go_loopw [14] (fun i wr => ∃ n : Nat, n ≤ js.length ∧ i = .int .i64 n ∧ Upto js n (fun j => ¬ (d < distI len dir j ∧ distI len dir j ≤ k)) ∧ Below wq.heap.size wq wr) (fun i _ => js.length - (intOf i).toNat)
          case atStart => exact ⟨0, Nat.zero_le _, rfl, Upto.zero, Below.refl _ _⟩
          case round =>
            obtain ⟨n, hn2, rfl, hup, hbel3⟩ := hrel
            have HU := hid hup
            clear hup
            have hbelr : Below W.heap.size W wr := hbel2.trans (hbel3.mono hbel2.size)
            have hszr2 : B < wr.heap.size := Nat.lt_of_lt_of_le hsz hbelr.size
            have q0 := (hbelr.cell (p := ⟨B, 0, none⟩) hsz).trans l0
            have q1 := (hbelr.cell (p := ⟨B, 1, none⟩) hsz).trans l1
            by_cases hlt2 : n < js.length
            · obtain ⟨bj, offj, rfl, hbj, hcj⟩ := ((unhid HL).below hbelr).rd (ints_ne hlt2)
              have qj := hcj n _ (ints_at js n hlt2)
              clear hcj
              obtain ⟨hj0, hj1⟩ := unhid HJ js[n] (List.getElem_mem hlt2)
              have HCJ2 := hid (unhid HCJ js[n] (List.getElem_mem hlt2))
              have HUN := hid (fun h => (unhid HU).next hlt2 h)
              clear HCJ
              generalize hjx : js[n] = j at *
              clear hjx
              have KJ := hid (fun w => rdistance_calls len (some ⟨bj, offj, none⟩) js.length c dir j w hj0 hj1 hlen)
              generalize hdj : distI len dir j = dj at *
              clear hdj
              have e0 := After.cell (W := wr) (a := ⟨B, 0, none⟩) hszr2 q0
              have e1 := After.cell (W := wr) (a := ⟨B, 1, none⟩) hszr2 q1
              have ej := After.cell (W := wr) (a := ⟨bj, offj + n, none⟩) hbj qj
              by_cases g1 : d < dj
              · have := decide_eq_true (show d < dj by omega)
                by_cases g2 : dj ≤ k
                · have := decide_eq_true (show dj ≤ k by omega)
                  go_wp2_with fail
                  (refine wp_region_below (by kernel_rfl) (by kernel_rfl) ?_; (repeat (go_big_quiet_step (first | (go_at_call 67; exact Calls.after_eq ((unhid KJ) _))))); refine wpQuiet_nil ?_; intro wq hw'; obtain ⟨⟨wq2, hbq⟩, hw''⟩ := hw'; dsimp only at hw''; subst hw'')
                  clear e0 e1 ej
                  go_wp2_with fail
                  go_ret
                  exact ⟨reti (unhid HFC (unhid HCJ2 g1 g2)).symm, by rw [hBB]; exact ((unhid HBW).trans (hbelr.mono (by omega))).trans (hbq.mono (by omega))⟩
                · have := decide_eq_false (show ¬ (dj ≤ k) by omega)
                  go_wp2_with fail
                  (refine wp_region_below (by kernel_rfl) (by kernel_rfl) ?_; (repeat (go_big_quiet_step (first | (go_at_call 67; exact Calls.after_eq ((unhid KJ) _))))); refine wpQuiet_nil ?_; intro wq hw'; obtain ⟨⟨wq2, hbq⟩, hw''⟩ := hw'; dsimp only at hw''; subst hw'')
                  clear e0 e1 ej
                  go_wp2_with fail
                  first
                    | exact ⟨⟨n + 1, by omega, by go_num, unhid HUN (by omega), hbel3.trans (hbq.mono hbel3.size)⟩, by simp [intOf]; omega⟩
                    | (go_roundw
                       case rel => exact ⟨n + 1, by omega, by go_num, unhid HUN (by omega), hbel3.trans (hbq.mono hbel3.size)⟩
                       case measure => simp [intOf]; omega)
              · have := decide_eq_false (show ¬ (d < dj) by omega)
                go_wp2_with fail
                (refine wp_region_below (by kernel_rfl) (by kernel_rfl) ?_; (repeat (go_big_quiet_step (first | (go_at_call 67; exact Calls.after_eq ((unhid KJ) _))))); refine wpQuiet_nil ?_; intro wq hw'; obtain ⟨⟨wq2, hbq⟩, hw''⟩ := hw'; dsimp only at hw''; subst hw'')
                clear e0 e1 ej
                go_wp2_with fail
                first
                  | exact ⟨⟨n + 1, by omega, by go_num, unhid HUN (by omega), hbel3.trans (hbq.mono hbel3.size)⟩, by simp [intOf]; omega⟩
                  | (go_roundw
                     case rel => exact ⟨n + 1, by omega, by go_num, unhid HUN (by omega), hbel3.trans (hbq.mono hbel3.size)⟩
                     case measure => simp [intOf]; omega)
            · have HUA := hid ((unhid HU).all (by omega))
              clear HU HCJ
              have hRr : Rd wr (some ⟨b, off, none⟩) (signs R) := (unhid HR).below hbelr
              have HRr := hid hRr
              have HPC := hid (fun (h1 : platedP (mtl len dir R) m = true → ∀ h : m + 1 < R.length, k < d + R[m + 1].val) => unhid HCN (unhid HUA) h1)
              clear HCN
              generalize hpp : platedP (mtl len dir R) m = pp at *
              have HPP := hid hpp
              clear hpp
              go_wp2_with fail
              refine ((unhid KP) _ (unhid HRr)).mono ?_
              rintro e w3 ⟨rfl, n3, rfl⟩
              cases pp with
              | true =>
                have hm1 := hplt rfl
                obtain ⟨b', off', hA, hb', hc⟩ := unhid HRr (signs_ne hm1)
                injection hA with hA
                injection hA with hA1 hA2
                subst hA1 hA2
                obtain ⟨n0, n1, n2, n3', n4, n5, n6, n7, n8⟩ := signs_cells hc hm1
                obtain ⟨r0, r1, r2, r3, r4, r5, r6, r7, r8⟩ := signs_cells hc hm
                clear hc
                rw [unhid HX] at r0 r1 r2 r3 r4 r5 r6 r7 r8
                have hyo := (unhid HOK R[m + 1] (List.getElem_mem hm1)).2.2
                have HCP2 := hid (unhid HCP hm1 rfl)
                have HPC2 := hid (fun (h : k < d + R[m + 1].val) => unhid HPC (fun _ h' => h))
                generalize R[m + 1] = y at *
                obtain ⟨hy0, hy1⟩ := hyo
                clear hplt
                by_cases g : y.val ≤ k - d
                · have := decide_eq_true (show y.val ≤ k - d by omega)
                  go_wp2_with fail
                  go_ret
                  exact ⟨reti (unhid HFC (unhid HCP2 (by omega))).symm, by rw [hBB]; exact below_drewN' ((unhid HBW).trans (hbelr.mono (by omega))) _⟩
                · have := decide_eq_false (show ¬ (y.val ≤ k - d) by omega)
                  go_wp2_with fail
                  refine ((unhid KS) _).mono ?_
                  rintro e w4 ⟨rfl, hb4⟩
                  go_wp2_with fail
                  go_ret
                  exact ⟨reti (unhid HFS (unhid HEN) (unhid HPC2 (by omega))).symm, by rw [hBB]; exact (below_drewN' ((unhid HBW).trans (hbelr.mono (by omega))) _).trans (hb4.mono (by simp; omega))⟩
              | false =>
                obtain ⟨b', off', hA, hb', hc⟩ := unhid HRr (signs_ne hm)
                injection hA with hA
                injection hA with hA1 hA2
                subst hA1 hA2
                obtain ⟨r0, r1, r2, r3, r4, r5, r6, r7, r8⟩ := signs_cells hc hm
                clear hc hplt
                rw [unhid HX] at r0 r1 r2 r3 r4 r5 r6 r7 r8
                go_wp2_with fail
                refine ((unhid KS) _).mono ?_
                rintro e w4 ⟨rfl, hb4⟩
                go_wp2_with fail
                go_ret
                exact ⟨reti (unhid HFS (unhid HEN) (unhid HPC (fun h => by cases h))).symm, by rw [hBB]; exact (below_drewN' ((unhid HBW).trans (hbelr.mono (by omega))) _).trans (hb4.mono (by simp; omega))⟩

end Go.Proofs.YtmpngoejnmlmbaaGreat
