/-
  The law RuleHolds.
-/
import Derived.Test.YtmpngoejnmlmbaaAsk8
import Derived.Test.YtmpngoejnmlmbaaHolds2
import Derived.Deep.DeepCutAuto
set_option linter.unusedSimpArgs false
set_option linter.unusedVariables false
namespace Go.Proofs.Ytmpngoejnmlmbaa
open Go.RowKit

def rightB (len hour dir topic m : Int) : Bool := decide (0 ≤ hour ∧ hour ≤ 10000000) && dirB dir && decide (topic = 1 ∨ topic = 2) && decide (0 ≤ m) && decide (m < len)

theorem why_holds (len : Int) (js : List Int) (l : List Sg) (ed : List Ed) (hour dir topic m : Int) : whyE len js l ed true false (rightB len hour dir topic m) = holdsE len js l hour dir topic m := by
  unfold whyE holdsE askedE rightB
  have h3 : decide (1 ≤ topic ∧ topic ≤ 2) = decide (topic = 1 ∨ topic = 2) := by congr 1; apply propext; omega
  have h4 : m ≤ len - 1 ↔ m < len := by omega
  rw [h3]
  simp only [h4]
  generalize decide (0 ≤ hour ∧ hour ≤ 10000000) = g1
  generalize dirB dir = g2
  generalize decide (topic = 1 ∨ topic = 2) = g3
  generalize lineB len js = b1
  generalize sgsB len js l = b2
  by_cases h1 : 0 ≤ m <;> by_cases h2 : m < len <;> cases b1 <;> cases b2 <;> cases g1 <;> cases g2 <;> cases g3 <;> simp [h1, h2]
theorem why_musts (len : Int) (js : List Int) (l : List Sg) (ed : List Ed) (hour dir topic m : Int) : whyE len js l ed false true (rightB len hour dir topic m) = mustE len js ed hour dir topic m := by
  unfold whyE mustE orderedE askedE rightB
  rw [sgsB_nil]
  have h3 : decide (1 ≤ topic ∧ topic ≤ 2) = decide (topic = 1 ∨ topic = 2) := by congr 1; apply propext; omega
  have h4 : m ≤ len - 1 ↔ m < len := by omega
  rw [h3]
  simp only [h4]
  generalize decide (0 ≤ hour ∧ hour ≤ 10000000) = g1
  generalize dirB dir = g2
  generalize decide (topic = 1 ∨ topic = 2) = g3
  generalize lineB len js = b1
  generalize edsB len js ed = b2
  by_cases h1 : 0 ≤ m <;> by_cases h2 : m < len <;> cases b1 <;> cases b2 <;> cases g1 <;> cases g2 <;> cases g3 <;> simp [h1, h2]
theorem holdsE_zero {len : Int} {js : List Int} {l : List Sg} {hour dir topic m : Int} (h : holdsE len js l hour dir topic m = 0) : lineB len js = true ∧ sgsB len js l = true ∧ 0 ≤ m ∧ m ≤ len - 1 := by
  unfold holdsE at h
  split at h
  · omega
  · rename_i h0
    have := askedE_zero (by simpa using h0)
    split at h
    · exact ⟨this.1, this.2.1, by omega, by omega⟩
    · omega

set_option maxHeartbeats 4000000 in
set_option maxRecDepth 100000 in
theorem holdsL_calls (len : Int) (A : Option Addr) (js : List Int) (c : Nat) (A2 : Option Addr) (l : List Sg) (c2 : Nat) (A3 : Option Addr) (ed : List Ed) (c3 : Nat) (hour dir topic metre : Int) (w : World) (hl : LnOk w A js) (hs : SgsOk w A2 l) (he : EdsOk w A3 ed) (il : I64 len) (_ : I64 hour) (_ : I64 dir) (_ : I64 topic) (_ : I64 metre) :
    Calls Try.prog 6 #[.agg #[.int .i64 len, .slice A js.length c, .slice A2 l.length c2, .slice A3 ed.length c3, .int .i64 hour, .int .i64 dir, .int .i64 topic, .int .i64 metre]] w fun e w' => e = .returned (.bool true) ∧ Below w.heap.size w w' := by
  have HL := hid hl
  have HS := hid hs
  have HE := hid he
  have hln := hl.n
  have hsn := hs.n
  have hen := he.n
  clear hl hs he
  go_enter Try.func6, Try.ntmps6
  go_wp2_with fail
  refine (heavy_calls len A js c A2 l c2 A3 ed.length c3 hour dir topic metre _ ((unhid HL).below (below_alloc _ _)) ((unhid HS).below (below_alloc _ _)) (by omega)).mono ?_
  rintro e W ⟨rfl, hb1⟩
  have HA := (Ask8.new w (.int .i64 len) (.slice A js.length c) (.slice A2 l.length c2) (.slice A3 ed.length c3) (.int .i64 hour) (.int .i64 dir) (.int .i64 topic) (.int .i64 metre) 28).below hb1
  have hbw1 : Below w.heap.size w W := (below_alloc w _).trans (hb1.mono (by simp))
  have HL := hid ((unhid HL).below hbw1)
  have HS := hid ((unhid HS).below hbw1)
  have HE := hid ((unhid HE).below hbw1)
  clear hb1
  have HBW := hid hbw1
  cases hh : heavyB len js l ed.length with
  | true =>
    clear HA
    go_wp2_with fail
    refine (first_calls _).mono ?_
    rintro e w2 ⟨rfl, hb2⟩
    go_wp2_with fail
    go_ret
    exact ⟨rfl, hbw1.trans (hb2.mono hbw1.size)⟩
  | false =>
    clear hbw1
    have hlb : ¬ heavyB len js l ed.length = true := by rw [hh]; simp
    have HH := hid hlb
    clear hh hlb
    obtain ⟨e0, e1, e2, e3, e4, e5, e6, e7⟩ := HA.cells
    go_wp2_with fail
    generalize hBB : w.heap.size = B at *
    refine (holds_calls len A js c A2 l c2 hour dir topic metre _ (unhid HL) (unhid HS) il).mono ?_
    rintro e w2 ⟨v, rfl, hz, hnz, hb2⟩
    have HZ := hid hz
    have HNZ := hid hnz
    clear hz hnz e0 e1 e2 e3 e4 e5 e6 e7
    obtain ⟨e0, e1, e2, e3, e4, e5, e6, e7⟩ := (HA.below hb2).cells
    go_wp2_with fail
    refine (must_calls len A js c A3 ed c3 hour dir topic metre _ ((unhid HL).below hb2) ((unhid HE).below hb2) il).mono ?_
    rintro e w3 ⟨u, rfl, hz, hnz, hb3⟩
    have HZ2 := hid hz
    have HNZ2 := hid hnz
    have hbel : Below W.heap.size W w3 := hb2.trans (hb3.mono hb2.size)
    clear hz hnz hb2 hb3 e0 e1 e2 e3 e4 e5 e6 e7
    have HA3 := HA.below hbel
    obtain ⟨e0, e1, e2, e3, e4, e5, e6, e7⟩ := HA3.cells
    go_upto_region 5 with (fail)
    have HRT := hid (show rightB len hour dir topic metre = (decide (0 ≤ hour ∧ hour ≤ 10000000) && dirB dir && decide (topic = 1 ∨ topic = 2) && decide (0 ≤ metre) && decide (metre < len)) from rfl)
    have KH := hid (hour_calls hour)
    have KW := hid (way_calls dir)
    have KT := hid (topic_calls topic)
    have HW1 := hid (why_holds len js l ed hour dir topic metre)
    have HW2 := hid (why_musts len js l ed hour dir topic metre)
    generalize decide (0 ≤ hour ∧ hour ≤ 10000000) = g1 at *
    generalize dirB dir = g2 at *
    generalize decide (topic = 1 ∨ topic = 2) = g3 at *
    generalize hrt : rightB len hour dir topic metre = rt at *
    clear hrt
    go_cut [7] (fun s7 wx => s7 = .bool rt ∧ wx = w3)
    case first =>
      go_wp2_with (first | (go_at_call 16; refine ((unhid KH) _).mono ?_; rintro e w' ⟨rfl, rfl⟩) | (go_at_call 17; refine ((unhid KW) _).mono ?_; rintro e w' ⟨rfl, rfl⟩) | (go_at_call 29; refine ((unhid KT) _).mono ?_; rintro e w' ⟨rfl, rfl⟩))
      all_goals
        go_meet
        case rel =>
          refine ⟨?_, rfl⟩
          rw [unhid HRT]
          go_light
          first | (simp_all; done) | (simp_all; omega)
    case rest =>
      obtain ⟨rfl, rfl⟩ := hcut
      clear e0 e1 e2 e3 e4 e5 e6 e7
      obtain ⟨q0, q1, q2, q3, q4, q5, q6, q7⟩ := HA3.after
      have HL3 := hid ((unhid HL).below hbel)
      have HS3 := hid ((unhid HS).below hbel)
      have HE3 := hid ((unhid HE).below hbel)
      generalize hE1 : holdsE len js l hour dir topic metre = E1 at *
      generalize hE2 : mustE len js ed hour dir topic metre = E2 at *
      have K1 := hid (fun (a b : Bool) (p : After wc) => why_calls len A js c A2 l c2 A3 ed c3 hour dir topic metre a b rt p.w ((unhid HL3).below p.below) ((unhid HS3).below p.below) ((unhid HE3).below p.below))
      have HE1 := hid hE1
      have HE2 := hid hE2
      clear hE1 hE2
      have t1 : (E1 != E1) = false := by simp
      have t2 : (E2 != E2) = false := by simp
      have t3 : (v == v) = true := by simp
      have t4 : (u == u) = true := by simp
      have hv0 : E1 = 0 ∨ (¬ E1 = 0 ∧ v = 0) := by
        by_cases h : E1 = 0
        · exact .inl h
        · exact .inr ⟨h, unhid HNZ h⟩
      have hu0 : E2 = 0 ∨ (¬ E2 = 0 ∧ u = 0) := by
        by_cases h : E2 = 0
        · exact .inl h
        · exact .inr ⟨h, unhid HNZ2 h⟩
      clear HNZ HNZ2
      go_wp2_with fail
      (refine wp_region_below (by kernel_rfl) (by kernel_rfl) ?_; (repeat (go_big_quiet_step (first | (go_at_call 15; exact Calls.after_of ((unhid K1) _ _ _))))); refine wpQuiet_nil ?_; intro wq hw'; obtain ⟨⟨wq2, hbq⟩, hw''⟩ := hw'; dsimp only at hw''; subst hw'')
      rw [unhid HW1, unhid HW2]
      clear q0 q1 q2 q3 q4 q5 q6 q7 K1 HW1 HW2 HL3 HS3 HE3
      have hbel4 : Below W.heap.size W wq := hbel.trans (hbq.mono hbel.size)
      have hA4 := HA.below hbel4
      obtain ⟨e0, e1, e2, e3, e4, e5, e6, e7⟩ := hA4.cells
      have HBL4 := hid hbel4
      rcases hv0 with rfl | ⟨h1, rfl⟩
      · obtain ⟨hv1, hv2, hv3, hv4⟩ := holdsE_zero (unhid HE1)
        obtain ⟨R, hrow, hvv⟩ := unhid HZ rfl
        have KR := hid (fun w hl hs => (rholds_calls len A js c A2 l c2 hour dir topic metre w hl hs hv1 hv2 hv3 hv4).mono fun e w' h => (show e = .returned (.int .i64 v) ∧ Below w.heap.size w w' from by
          obtain ⟨R2, h1, h2, h3⟩ := h
          refine ⟨h2.trans (reti ?_), h3⟩
          have h5 : R = mtl len dir R2 := row_eq hrow h1 (sgsB_nodup hv2)
          rw [hvv, h5]))
        clear hv1 hv2 hv3 hv4 hrow hvv HZ
        rcases hu0 with rfl | ⟨h2, rfl⟩
        · have HU := hid (unhid HZ2 rfl)
          clear HZ2
          go_wp2_with fail
          refine ((unhid KR) _ ((unhid HL).below (unhid HBL4)) ((unhid HS).below (unhid HBL4))).mono ?_
          rintro e w5 ⟨rfl, hb5⟩
          have hbel5 := (unhid HBL4).trans (hb5.mono (unhid HBL4).size)
          clear e0 e1 e2 e3 e4 e5 e6 e7
          obtain ⟨e0, e1, e2, e3, e4, e5, e6, e7⟩ := (HA.below hbel5).cells
          go_wp2_with fail
          refine (rmust_calls A3 ed c3 hour dir topic metre _ ((unhid HE).below hbel5).rd (by have := unhid HH; simp [heavyB] at this; omega)).mono ?_
          rintro e w6 ⟨rfl, hb6⟩
          rw [← unhid HU]
          go_wp2_with fail
          refine (first_calls _).mono ?_
          rintro e w7 ⟨rfl, hb7⟩
          go_wp2_with fail
          go_ret
          have hW := unhid HBW
          have hf := hbel5.trans (hb6.mono hbel5.size)
          have hf2 := hf.trans (hb7.mono hf.size)
          exact ⟨rfl, by rw [hBB]; exact hW.trans (hf2.mono (by rw [← hBB]; exact (hBB ▸ hW).size))⟩
        · have hb2 : (E2 == 0) = false := by simpa using h2
          have H2 := hid h2
          clear HZ2 h2
          go_wp2_with fail
          refine ((unhid KR) _ ((unhid HL).below (unhid HBL4)) ((unhid HS).below (unhid HBL4))).mono ?_
          rintro e w5 ⟨rfl, hb5⟩
          have hbel5 := (unhid HBL4).trans (hb5.mono (unhid HBL4).size)
          clear e0 e1 e2 e3 e4 e5 e6 e7
          obtain ⟨e0, e1, e2, e3, e4, e5, e6, e7⟩ := (HA.below hbel5).cells
          go_wp2_with fail
          refine (first_calls _).mono ?_
          rintro e w7 ⟨rfl, hb7⟩
          go_wp2_with fail
          go_ret
          have hW := unhid HBW
          have hf2 := hbel5.trans (hb7.mono hbel5.size)
          exact ⟨rfl, by rw [hBB]; exact hW.trans (hf2.mono (by rw [← hBB]; exact (hBB ▸ hW).size))⟩
      · have hb1 : (E1 == 0) = false := by simpa using h1
        have H1 := hid h1
        clear HZ h1
        rcases hu0 with rfl | ⟨h2, rfl⟩
        · have HU := hid (unhid HZ2 rfl)
          clear HZ2
          go_wp2_with fail
          refine (rmust_calls A3 ed c3 hour dir topic metre _ ((unhid HE).below (unhid HBL4)).rd (by have := unhid HH; simp [heavyB] at this; omega)).mono ?_
          rintro e w6 ⟨rfl, hb6⟩
          rw [← unhid HU]
          have hbel6 := (unhid HBL4).trans (hb6.mono (unhid HBL4).size)
          go_wp2_with fail
          refine (first_calls _).mono ?_
          rintro e w7 ⟨rfl, hb7⟩
          go_wp2_with fail
          go_ret
          have hW := unhid HBW
          have hf2 := hbel6.trans (hb7.mono hbel6.size)
          exact ⟨rfl, by rw [hBB]; exact hW.trans (hf2.mono (by rw [← hBB]; exact (hBB ▸ hW).size))⟩
        · have hb2 : (E2 == 0) = false := by simpa using h2
          have H2 := hid h2
          clear HZ2 h2
          go_wp2_with fail
          refine (first_calls _).mono ?_
          rintro e w7 ⟨rfl, hb7⟩
          go_wp2_with fail
          go_ret
          have hW := unhid HBW
          have hf2 := (unhid HBL4).trans (hb7.mono (unhid HBL4).size)
          exact ⟨rfl, by rw [hBB]; exact hW.trans (hf2.mono (by rw [← hBB]; exact (hBB ▸ hW).size))⟩

end Go.Proofs.Ytmpngoejnmlmbaa
