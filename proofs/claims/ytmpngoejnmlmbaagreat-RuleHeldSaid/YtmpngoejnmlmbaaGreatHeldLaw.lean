/-
  The law RuleHeld.
-/
import Derived.Test.YtmpngoejnmlmbaaGreatAsk8
import Derived.Test.YtmpngoejnmlmbaaGreatHeldR
import Derived.Deep.DeepCutAuto
set_option linter.unusedSimpArgs false
set_option linter.unusedVariables false
namespace Go.Proofs.YtmpngoejnmlmbaaGreat
open Go.RowKit

def rightH (hour dir topic : Int) : Bool := decide (0 ≤ hour ∧ hour ≤ 10000000) && dirB dir && decide (topic = 1 ∨ topic = 2)
theorem why_held (len : Int) (js : List Int) (l : List Sg) (ed : List Ed) (hour dir topic : Int) : whyE len js l ed true false (rightH hour dir topic) = askedE len js l hour dir topic := by
  unfold whyE askedE rightH
  have h3 : decide (1 ≤ topic ∧ topic ≤ 2) = decide (topic = 1 ∨ topic = 2) := by congr 1; apply propext; omega
  rw [h3]
  simp
theorem why_wanted (len : Int) (js : List Int) (l : List Sg) (ed : List Ed) (hour dir topic : Int) : whyE len js l ed false true (rightH hour dir topic) = orderedE len js ed hour dir topic := by
  unfold whyE orderedE askedE rightH
  rw [sgsB_nil]
  have h3 : decide (1 ≤ topic ∧ topic ≤ 2) = decide (topic = 1 ∨ topic = 2) := by congr 1; apply propext; omega
  rw [h3]
  generalize decide (0 ≤ hour ∧ hour ≤ 10000000) = g1
  generalize dirB dir = g2
  generalize decide (topic = 1 ∨ topic = 2) = g3
  generalize lineB len js = b1
  generalize edsB len js ed = b2
  cases b1 <;> cases b2 <;> cases g1 <;> cases g2 <;> cases g3 <;> simp

set_option maxHeartbeats 4000000 in
set_option maxRecDepth 100000 in
theorem heldL_calls (len : Int) (A : Option Addr) (js : List Int) (c : Nat) (A2 : Option Addr) (l : List Sg) (c2 : Nat) (A3 : Option Addr) (ed : List Ed) (c3 : Nat) (hour dir topic metre : Int) (w : World) (hl : LnOk w A js) (hs : SgsOk w A2 l) (he : EdsOk w A3 ed) (il : I64 len) (_ : I64 hour) (_ : I64 dir) (_ : I64 topic) (_ : I64 metre) :
    Calls Tryz.prog 3 #[.agg #[.int .i64 len, .slice A js.length c, .slice A2 l.length c2, .slice A3 ed.length c3, .int .i64 hour, .int .i64 dir, .int .i64 topic, .int .i64 metre]] w fun e w' => e = .returned (.bool true) ∧ Below w.heap.size w w' := by
  have HL := hid hl
  have HS := hid hs
  have HE := hid he
  have hln := hl.n
  have hsn := hs.n
  have hen := he.n
  clear hl hs he
  go_enter Tryz.func3, Tryz.ntmps3
  go_wp2_with fail
  refine (heavy_calls len A js c A2 l c2 A3 ed.length c3 hour dir topic metre _ ((unhid HL).below (below_alloc _ _)) ((unhid HS).below (below_alloc _ _)) (by omega)).mono ?_
  rintro e W ⟨rfl, hb1⟩
  have HA := (Ask8.new w (.int .i64 len) (.slice A js.length c) (.slice A2 l.length c2) (.slice A3 ed.length c3) (.int .i64 hour) (.int .i64 dir) (.int .i64 topic) (.int .i64 metre) 28).below hb1
  have hbw1 : Below w.heap.size w W := (below_alloc w _).trans (hb1.mono (by simp))
  have HL := hid ((unhid HL).below hbw1)
  have HS := hid ((unhid HS).below hbw1)
  have HE := hid ((unhid HE).below hbw1)
  clear hb1
  have HBW := hid hbw1
  cases hh : heavyB len js l ed.length with
  | true =>
    clear HA
    go_wp2_with fail
    refine (first_calls _).mono ?_
    rintro e w2 ⟨rfl, hb2⟩
    go_wp2_with fail
    go_ret
    exact ⟨rfl, hbw1.trans (hb2.mono hbw1.size)⟩
  | false =>
    clear hbw1
    have hlb : ¬ heavyB len js l ed.length = true := by rw [hh]; simp
    have HH := hid hlb
    clear hh hlb
    obtain ⟨e0, e1, e2, e3, e4, e5, e6, e7⟩ := HA.cells
    go_wp2_with fail
    generalize hBB : w.heap.size = B at *
    refine (heldOf_calls len A js c A2 l c2 hour dir topic _ (unhid HL) (unhid HS)).mono ?_
    rintro e w2 ⟨A4, c4, H, rfl, hz, hnz, hrd, hHl, hb2⟩
    have HZ := hid hz
    have HNZ := hid hnz
    have HRD := hid hrd
    clear hz hnz hrd e0 e1 e2 e3 e4 e5 e6 e7
    obtain ⟨e0, e1, e2, e3, e4, e5, e6, e7⟩ := (HA.below hb2).cells
    go_wp2_with fail
    refine (wanted_calls len A js c A3 ed c3 hour dir topic _ ((unhid HL).below hb2) ((unhid HE).below hb2)).mono ?_
    rintro e w3 ⟨A5, c5, G, rfl, hz, hnz, hrd, hGl, hb3⟩
    have HZ2 := hid hz
    have HNZ2 := hid hnz
    have HRD := hid ((unhid HRD).below hb3)
    have HRD2 := hid hrd
    have hbel : Below W.heap.size W w3 := hb2.trans (hb3.mono hb2.size)
    clear hz hnz hrd hb2 hb3 e0 e1 e2 e3 e4 e5 e6 e7
    have HA3 := HA.below hbel
    obtain ⟨e0, e1, e2, e3, e4, e5, e6, e7⟩ := HA3.cells
    go_upto_region 5 with (fail)
    have HRT := hid (show rightH hour dir topic = (decide (0 ≤ hour ∧ hour ≤ 10000000) && dirB dir && decide (topic = 1 ∨ topic = 2)) from rfl)
    have KH := hid (hour_calls hour)
    have KW := hid (way_calls dir)
    have KT := hid (topic_calls topic)
    have HW1 := hid (why_held len js l ed hour dir topic)
    have HW2 := hid (why_wanted len js l ed hour dir topic)
    generalize decide (0 ≤ hour ∧ hour ≤ 10000000) = g1 at *
    generalize dirB dir = g2 at *
    generalize decide (topic = 1 ∨ topic = 2) = g3 at *
    generalize hrt : rightH hour dir topic = rt at *
    clear hrt
    go_cut [7] (fun s7 wx => s7 = .bool rt ∧ wx = w3)
    case first =>
      go_wp2_with (first | (go_at_call 13; refine ((unhid KH) _).mono ?_; rintro e w' ⟨rfl, rfl⟩) | (go_at_call 14; refine ((unhid KW) _).mono ?_; rintro e w' ⟨rfl, rfl⟩) | (go_at_call 15; refine ((unhid KT) _).mono ?_; rintro e w' ⟨rfl, rfl⟩))
      all_goals
        go_meet
        case rel =>
          refine ⟨?_, rfl⟩
          rw [unhid HRT]
          go_light
          simp_all
    case rest =>
      obtain ⟨rfl, rfl⟩ := hcut
      clear e0 e1 e2 e3 e4 e5 e6 e7
      obtain ⟨q0, q1, q2, q3, q4, q5, q6, q7⟩ := HA3.after
      have HL3 := hid ((unhid HL).below hbel)
      have HS3 := hid ((unhid HS).below hbel)
      have HE3 := hid ((unhid HE).below hbel)
      generalize hE1 : askedE len js l hour dir topic = E1 at *
      generalize hE2 : orderedE len js ed hour dir topic = E2 at *
      have K1 := hid (fun (a b : Bool) (p : After wc) => why_calls len A js c A2 l c2 A3 ed c3 hour dir topic metre a b rt p.w ((unhid HL3).below p.below) ((unhid HS3).below p.below) ((unhid HE3).below p.below))
      have HE1 := hid hE1
      have HE2 := hid hE2
      clear hE1 hE2
      have t1 : (E1 != E1) = false := by simp
      have t2 : (E2 != E2) = false := by simp
      have hv0 : E1 = 0 ∨ (¬ E1 = 0 ∧ H = []) := by
        by_cases h : E1 = 0
        · exact .inl h
        · exact .inr ⟨h, unhid HNZ h⟩
      have hu0 : E2 = 0 ∨ (¬ E2 = 0 ∧ G = []) := by
        by_cases h : E2 = 0
        · exact .inl h
        · exact .inr ⟨h, unhid HNZ2 h⟩
      clear HNZ HNZ2
      go_wp2_with fail
      (refine wp_region_below (by kernel_rfl) (by kernel_rfl) ?_; (repeat (go_big_quiet_step (first | (go_at_call 16; exact Calls.after_of ((unhid K1) _ _ _))))); refine wpQuiet_nil ?_; intro wq hw'; obtain ⟨⟨wq2, hbq⟩, hw''⟩ := hw'; dsimp only at hw''; subst hw'')
      rw [unhid HW1, unhid HW2]
      clear q0 q1 q2 q3 q4 q5 q6 q7 K1 HW1 HW2 HL3 HS3 HE3
      have hbel4 : Below W.heap.size W wq := hbel.trans (hbq.mono hbel.size)
      have HRD := hid ((unhid HRD).below hbq)
      have HRD2 := hid ((unhid HRD2).below hbq)
      have hA4 := HA.below hbel4
      obtain ⟨e0, e1, e2, e3, e4, e5, e6, e7⟩ := hA4.cells
      have HBL4 := hid hbel4
      have hlen3 : ed.length ≤ 60 := by have := unhid HH; simp [heavyB] at this; omega
      rcases hv0 with rfl | ⟨h1, rfl⟩
      · obtain ⟨hv1, hv2, -⟩ := askedE_zero (unhid HE1)
        obtain ⟨n, rfl⟩ := Int.eq_ofNat_of_zero_le (show 0 ≤ len by have := (lineB_len hv1).1; omega)
        obtain ⟨R, hrow, hvv⟩ := unhid HZ rfl
        have hlen2 := (lineB_len hv1).2
        have KR := hid (fun w hl hs => (rheld_calls n A js c A2 l c2 hour dir topic w hl hs hv1 hv2).mono fun e w' h => (show ∃ (A' : Option Addr) (c' : Nat), e = .returned (.slice A' H.length c') ∧ Rd w' A' (hds H) ∧ Below w.heap.size w w' from by
          obtain ⟨A', c', R2, h1, h2, h3, h4⟩ := h
          have h5 : R = mtl n dir R2 := row_eq hrow h1 (sgsB_nodup hv2)
          have h6 : H = heldP (holdS n js (mtl n dir R2) dir topic) := by
            rw [hvv, show ((n : Int)).toNat = n from rfl, strip_hold (rowOk_of hrow (sgsB_bounds hv2)) hrow.far, h5]
          rw [← h6] at h2 h3
          exact ⟨A', c', h2, h3, h4⟩))
        clear hv1 hv2 hrow hvv HZ
        rcases hu0 with rfl | ⟨h2, rfl⟩
        · have KM := hid (fun w (he : EdsOk w A3 ed) => (rwanted_calls n A js.length c A3 ed c3 hour dir topic w (by omega) he.rd (by omega)).mono fun e w' h => (show ∃ (A' : Option Addr) (c' : Nat), e = .returned (.slice A' G.length c') ∧ Rd w' A' (hds G) ∧ Below w.heap.size w w' from by
            obtain ⟨A', c', h2, h3, h4⟩ := h
            have h6 : G = heldP (mustS n ed hour dir topic) := unhid HZ2 rfl
            rw [← h6] at h2 h3
            exact ⟨A', c', h2, h3, h4⟩))
          clear HZ2
          go_wp2_with fail
          refine ((unhid KR) _ ((unhid HL).below (unhid HBL4)) ((unhid HS).below (unhid HBL4))).mono ?_
          rintro e w5 ⟨A6, c6, rfl, hrd6, hb5⟩
          have hbel5 := (unhid HBL4).trans (hb5.mono (unhid HBL4).size)
          have HRD6 := hid hrd6
          have HRD := hid ((unhid HRD).below hb5)
          have HRD2 := hid ((unhid HRD2).below hb5)
          clear e0 e1 e2 e3 e4 e5 e6 e7 hrd6
          obtain ⟨e0, e1, e2, e3, e4, e5, e6, e7⟩ := (HA.below hbel5).cells
          go_wp2_with fail
          refine ((unhid KM) _ ((unhid HE).below hbel5)).mono ?_
          rintro e w6 ⟨A7, c7, rfl, hrd7, hb6⟩
          have hbel6 := (hbel5).trans (hb6.mono (hbel5).size)
          have HRD7 := hid hrd7
          have HRD := hid ((unhid HRD).below hb6)
          have HRD2 := hid ((unhid HRD2).below hb6)
          clear hrd7
          go_wp2_with fail
          refine (sameHeld_calls A4 H c4 A6 _ _ (unhid HRD) ((unhid HRD6).below hb6) (by omega)).mono ?_
          rintro e w7 ⟨rfl, hb7⟩
          have hbel7 := (hbel6).trans (hb7.mono (hbel6).size)
          go_wp2_with fail
          refine (sameHeld_calls A5 G c5 A7 _ _ ((unhid HRD2).below hb7) ((unhid HRD7).below hb7) (by omega)).mono ?_
          rintro e w8 ⟨rfl, hb8⟩
          have hbel8 := hbel7.trans (hb8.mono hbel7.size)
          go_wp2_with fail
          refine (first_calls _).mono ?_
          rintro e w9 ⟨rfl, hb9⟩
          go_wp2_with fail
          go_ret
          have hW := unhid HBW
          have hf2 := hbel8.trans (hb9.mono hbel8.size)
          exact ⟨rfl, by rw [hBB]; exact hW.trans (hf2.mono (by rw [← hBB]; exact (hBB ▸ hW).size))⟩
        · have hb2 : (E2 == 0) = false := by simpa using h2
          have H2 := hid h2
          clear HZ2 h2
          go_wp2_with fail
          refine ((unhid KR) _ ((unhid HL).below (unhid HBL4)) ((unhid HS).below (unhid HBL4))).mono ?_
          rintro e w5 ⟨A6, c6, rfl, hrd6, hb5⟩
          have hbel5 := (unhid HBL4).trans (hb5.mono (unhid HBL4).size)
          have HRD6 := hid hrd6
          have HRD := hid ((unhid HRD).below hb5)
          have HRD2 := hid ((unhid HRD2).below hb5)
          clear e0 e1 e2 e3 e4 e5 e6 e7 hrd6
          obtain ⟨e0, e1, e2, e3, e4, e5, e6, e7⟩ := (HA.below hbel5).cells
          go_wp2_with fail
          refine (sameHeld_calls A4 H c4 A6 _ _ (unhid HRD) (unhid HRD6) (by omega)).mono ?_
          rintro e w7 ⟨rfl, hb7⟩
          have hbel7 := (hbel5).trans (hb7.mono (hbel5).size)
          go_wp2_with fail
          refine (sameHeld_calls A5 [] c5 none _ _ (Rd.nil _ _) (Rd.nil _ _) (by simp)).mono ?_
          rintro e w8 ⟨rfl, hb8⟩
          have hbel8 := hbel7.trans (hb8.mono hbel7.size)
          go_wp2_with fail
          refine (first_calls _).mono ?_
          rintro e w9 ⟨rfl, hb9⟩
          go_wp2_with fail
          go_ret
          have hW := unhid HBW
          have hf2 := hbel8.trans (hb9.mono hbel8.size)
          exact ⟨rfl, by rw [hBB]; exact hW.trans (hf2.mono (by rw [← hBB]; exact (hBB ▸ hW).size))⟩
      · have hb1 : (E1 == 0) = false := by simpa using h1
        have H1 := hid h1
        clear HZ h1
        rcases hu0 with rfl | ⟨h2, rfl⟩
        · obtain ⟨hv1, -⟩ := orderedE_zero (unhid HE2)
          obtain ⟨n, rfl⟩ := Int.eq_ofNat_of_zero_le (show 0 ≤ len by have := (lineB_len hv1).1; omega)
          have hlen2 := (lineB_len hv1).2
          clear hv1
          have KM := hid (fun w (he : EdsOk w A3 ed) => (rwanted_calls n A js.length c A3 ed c3 hour dir topic w (by omega) he.rd (by omega)).mono fun e w' h => (show ∃ (A' : Option Addr) (c' : Nat), e = .returned (.slice A' G.length c') ∧ Rd w' A' (hds G) ∧ Below w.heap.size w w' from by
            obtain ⟨A', c', h2, h3, h4⟩ := h
            have h6 : G = heldP (mustS n ed hour dir topic) := unhid HZ2 rfl
            rw [← h6] at h2 h3
            exact ⟨A', c', h2, h3, h4⟩))
          clear HZ2
          go_wp2_with fail
          refine ((unhid KM) _ ((unhid HE).below (unhid HBL4))).mono ?_
          rintro e w6 ⟨A7, c7, rfl, hrd7, hb6⟩
          have hbel6 := ((unhid HBL4)).trans (hb6.mono ((unhid HBL4)).size)
          have HRD7 := hid hrd7
          have HRD := hid ((unhid HRD).below hb6)
          have HRD2 := hid ((unhid HRD2).below hb6)
          clear hrd7
          go_wp2_with fail
          refine (sameHeld_calls A4 [] c4 none _ _ (Rd.nil _ _) (Rd.nil _ _) (by simp)).mono ?_
          rintro e w7 ⟨rfl, hb7⟩
          have hbel7 := (hbel6).trans (hb7.mono (hbel6).size)
          go_wp2_with fail
          refine (sameHeld_calls A5 G c5 A7 _ _ ((unhid HRD2).below hb7) ((unhid HRD7).below hb7) (by omega)).mono ?_
          rintro e w8 ⟨rfl, hb8⟩
          have hbel8 := hbel7.trans (hb8.mono hbel7.size)
          go_wp2_with fail
          refine (first_calls _).mono ?_
          rintro e w9 ⟨rfl, hb9⟩
          go_wp2_with fail
          go_ret
          have hW := unhid HBW
          have hf2 := hbel8.trans (hb9.mono hbel8.size)
          exact ⟨rfl, by rw [hBB]; exact hW.trans (hf2.mono (by rw [← hBB]; exact (hBB ▸ hW).size))⟩
        · have hb2 : (E2 == 0) = false := by simpa using h2
          have H2 := hid h2
          clear HZ2 h2
          go_wp2_with fail
          refine (sameHeld_calls A4 [] c4 none _ _ (Rd.nil _ _) (Rd.nil _ _) (by simp)).mono ?_
          rintro e w7 ⟨rfl, hb7⟩
          have hbel7 := (unhid HBL4).trans (hb7.mono (unhid HBL4).size)
          go_wp2_with fail
          refine (sameHeld_calls A5 [] c5 none _ _ (Rd.nil _ _) (Rd.nil _ _) (by simp)).mono ?_
          rintro e w8 ⟨rfl, hb8⟩
          have hbel8 := hbel7.trans (hb8.mono hbel7.size)
          go_wp2_with fail
          refine (first_calls _).mono ?_
          rintro e w9 ⟨rfl, hb9⟩
          go_wp2_with fail
          go_ret
          have hW := unhid HBW
          have hf2 := hbel8.trans (hb9.mono hbel8.size)
          exact ⟨rfl, by rw [hBB]; exact hW.trans (hf2.mono (by rw [← hBB]; exact (hBB ▸ hW).size))⟩

end Go.Proofs.YtmpngoejnmlmbaaGreat
