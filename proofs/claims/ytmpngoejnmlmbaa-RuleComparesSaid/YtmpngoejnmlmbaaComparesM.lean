/-
  Package rule's Compare. SameGaps; the law RuleCompares.
-/
import Derived.Test.YtmpngoejnmlmbaaCmpW
import Derived.Test.YtmpngoejnmlmbaaRowM
import Derived.Test.YtmpngoejnmlmbaaAsk8
import Derived.Test.YtmpngoejnmlmbaaRCompare
set_option linter.unusedSimpArgs false
set_option linter.unusedVariables false
namespace Go.Proofs.Ytmpngoejnmlmbaa
open Go.RowKit

section
theorem box_blocks (w : World) (c1 c2 c3 c4 : Array Value) (t1 t2 t3 t4 : TypeId) :
    ((((w.alloc (.cells c1 t1)).alloc (.cells c2 t2)).alloc (.cells c3 t3)).alloc (.cells c4 t4)).heap[w.heap.size]? = some (.cells c1 t1 (0, 0)) ∧
    ((((w.alloc (.cells c1 t1)).alloc (.cells c2 t2)).alloc (.cells c3 t3)).alloc (.cells c4 t4)).heap[w.heap.size + 1]? = some (.cells c2 t2 (0, 0)) ∧
    ((((w.alloc (.cells c1 t1)).alloc (.cells c2 t2)).alloc (.cells c3 t3)).alloc (.cells c4 t4)).heap[w.heap.size + 2]? = some (.cells c3 t3 (0, 0)) ∧
    ((((w.alloc (.cells c1 t1)).alloc (.cells c2 t2)).alloc (.cells c3 t3)).alloc (.cells c4 t4)).heap[w.heap.size + 3]? = some (.cells c4 t4 (0, 0)) ∧
    Below w.heap.size w ((((w.alloc (.cells c1 t1)).alloc (.cells c2 t2)).alloc (.cells c3 t3)).alloc (.cells c4 t4)) ∧
    ((((w.alloc (.cells c1 t1)).alloc (.cells c2 t2)).alloc (.cells c3 t3)).alloc (.cells c4 t4)).heap.size = w.heap.size + 4 := by
  have s1 : (w.alloc (.cells c1 t1)).heap.size = w.heap.size + 1 := by simp
  have s2 : ((w.alloc (.cells c1 t1)).alloc (.cells c2 t2)).heap.size = w.heap.size + 2 := by simp
  have s3 : (((w.alloc (.cells c1 t1)).alloc (.cells c2 t2)).alloc (.cells c3 t3)).heap.size = w.heap.size + 3 := by simp
  refine ⟨?_, ?_, ?_, ?_, below_alloc' (below_alloc' (below_alloc' (below_alloc w _) _) _) _, by simp⟩
  · rw [Below.heap_alloc _ _ _ (by omega), Below.heap_alloc _ _ _ (by omega), Below.heap_alloc _ _ _ (by omega)]; exact heap_alloc_new w _
  · rw [Below.heap_alloc _ _ _ (by omega), Below.heap_alloc _ _ _ (by omega), ← s1]; exact heap_alloc_new _ _
  · rw [Below.heap_alloc _ _ _ (by omega), ← s2]; exact heap_alloc_new _ _
  · rw [← s3]; exact heap_alloc_new _ _

theorem allE_zero {len : Int} {js : List Int} {l : List Sg} {ed : List Ed} {hour : Int} (h : allE len js l ed hour = 0) : lineB len js = true ∧ sgsB len js l = true ∧ edsB len js ed = true ∧ 0 ≤ hour ∧ hour ≤ 10000000 := by
  unfold allE at h
  split at h
  · omega
  · rename_i h1
    split at h
    · omega
    · rename_i h2
      split at h
      · omega
      · rename_i h3
        split at h
        · rename_i h4
          exact ⟨by simpa using h1, by simpa using h2, by simpa using h3, h4.1, h4.2⟩
        · omega

set_option maxHeartbeats 4000000 in
set_option maxRecDepth 100000 in
theorem rcomp_calls (len : Int) (A : Option Addr) (js : List Int) (c : Nat) (A2 : Option Addr) (l : List Sg) (c2 : Nat) (A3 : Option Addr) (ed : List Ed) (c3 : Nat) (hour : Int) (w : World) (hl : LnOk w A js) (hs : SgsOk w A2 l) (he : EdsOk w A3 ed) :
    Calls Try.prog 32 #[.agg #[.int .i64 len, .slice A js.length c], .slice A2 l.length c2, .slice A3 ed.length c3, .int .i64 hour] w (CmpPost len js l ed hour w) := by
  have HL := hid hl
  have HS := hid hs
  have HE := hid he
  clear hl hs he
  go_enter Try.func32, Try.ntmps32
  go_wp2_with fail
  obtain ⟨d0, d1, d2, d3, hbw, hsz⟩ := box_blocks w #[.int .i64 len, .slice A js.length c] #[.slice A2 l.length c2] #[.slice A3 ed.length c3] #[.int .i64 hour] 24 25 26 3
  refine (all_calls len A js c A2 l c2 A3 ed c3 hour _ ((unhid HL).below hbw) ((unhid HS).below hbw) ((unhid HE).below hbw)).mono ?_
  rintro e w1 ⟨rfl, hb1⟩
  have g0 := (hb1.block w.heap.size (by omega)).trans d0
  have g1 := (hb1.block (w.heap.size + 1) (by omega)).trans d1
  have g2 := (hb1.block (w.heap.size + 2) (by omega)).trans d2
  have g3 := (hb1.block (w.heap.size + 3) (by omega)).trans d3
  have hbw1 : Below w.heap.size w w1 := hbw.trans (hb1.mono hbw.size)
  have hsz1 : w.heap.size + 4 ≤ w1.heap.size := by have := hb1.size; omega
  clear d0 d1 d2 d3 hb1 hbw hsz
  generalize hal : allE len js l ed hour = al
  by_cases h0 : al = 0
  · subst h0
    have hv := allE_zero hal
    have HAL := hid hal
    clear hal
    obtain ⟨n, rfl⟩ := Int.eq_ofNat_of_zero_le (show 0 ≤ len by have := (lineB_len hv.1).1; omega)
    have hn := (lineB_len hv.1).2
    have HV := hid hv
    clear hv
    have HG := hid (And.intro g0 (And.intro g1 (And.intro g2 g3)))
    clear g0 g1 g2 g3
    go_wp2_with fail
    have hI0 : CmpI (w1.alloc (.cells #[.slice none 0 0] 54)) w w.heap.size (w.heap.size + 1) (w.heap.size + 2) (w.heap.size + 3) w1.heap.size #[.int .i64 n, .slice A js.length c] (.slice A2 l.length c2) (.slice A3 ed.length c3) (.int .i64 hour) (gapsP n js l ed hour 0) none 0 := by
      obtain ⟨g0, g1, g2, g3⟩ := unhid HG
      refine ⟨?_, ?_, ?_, ?_, by omega, by omega, by omega, by omega, heap_alloc_new _ _, World.ownsRow_nil _ _ _ _, below_alloc' hbw1 _, by omega⟩
      · rw [Below.heap_alloc _ _ _ (by omega)]; exact g0
      · rw [Below.heap_alloc _ _ _ (by omega)]; exact g1
      · rw [Below.heap_alloc _ _ _ (by omega)]; exact g2
      · rw [Below.heap_alloc _ _ _ (by omega)]; exact g3
    refine (each_calls 67 _ (fun i w' => ∃ (A' : Option Addr) (c' : Nat), CmpI w' w w.heap.size (w.heap.size + 1) (w.heap.size + 2) (w.heap.size + 3) w1.heap.size #[.int .i64 n, .slice A js.length c] (.slice A2 l.length c2) (.slice A3 ed.length c3) (.int .i64 hour) (gapsP n js l ed hour i) A' c') (fun _ _ => by rfl) ?_ _ ⟨none, 0, hI0⟩).mono ?_
    · rintro i wi hi ⟨A5, c5, st⟩
      have hlen := gapsP_len n js l ed hour i
      have hlen2 : i * n ≤ 4 * 100000 := Nat.mul_le_mul (by omega) (by omega)
      refine (cmp_calls n A js c A2 l c2 A3 ed c3 hour (topI i) (dirI i) _ _ _ _ _ w wi _ A5 c5 (unhid HL) (unhid HS) (unhid HE) (unhid HV).1 (unhid HV).2.1 (unhid HV).2.2.1 st (by omega)).mono ?_
      rintro e w' ⟨rfl, R, A6, c6, hrow, h6⟩
      refine ⟨rfl, A6, c6, ?_⟩
      rw [gapsP_succ]
      have e := rowM_eq hrow (sgsB_nodup (unhid HV).2.1)
      subst e
      exact h6
    · rintro e w2 ⟨rfl, A5, c5, hI⟩
      have o2 := cell_of_one hI.o
      obtain ⟨A7, c7, hvv, hrd, -⟩ := own_slice hI.own
      injection hvv with hv1 hv2 hv3
      subst hv1 hv3
      have HRD := hid hrd
      have HBL := hid hI.below
      have hlen := gapsP_len n js l ed hour 4
      clear hI hrd hI0
      go_wp2_with fail
      go_ret2
      exact ⟨A5, c5, gapsP n js l ed hour 4, by rw [unhid HAL]; rfl, fun _ => rfl, fun h => absurd (unhid HAL) h, unhid HRD, by omega, unhid HBL⟩
  · have h0' : (al != 0) = true := by simpa using h0
    have HAL := hid hal
    have H0 := hid h0
    clear hal h0 g0 g1 g2 g3
    go_wp2_with fail
    go_ret2
    exact ⟨none, 0, [], by rw [unhid HAL]; rfl, fun h => absurd ((unhid HAL).symm.trans h) (unhid H0), fun _ => rfl, Rd.nil _ _, by simp, hbw1⟩
end

section
theorem gps_cells {w : World} {b off : Nat} {l : List Gp} (h : ∀ j u, (gps l)[j]? = some u → w.cell? ⟨b, off + j, none⟩ = some u) {k : Nat} (hk : k < l.length) :
    w.cell? ⟨b, off + k * 6, none⟩ = some (.int .i64 l[k].topic) ∧ w.cell? ⟨b, off + k * 6 + 1, none⟩ = some (.int .i64 l[k].dir) ∧ w.cell? ⟨b, off + k * 6 + 2, none⟩ = some (.int .i64 l[k].fr) ∧
    w.cell? ⟨b, off + k * 6 + 3, none⟩ = some (.int .i64 l[k].to) ∧ w.cell? ⟨b, off + k * 6 + 4, none⟩ = some (.int .i64 l[k].has) ∧ w.cell? ⟨b, off + k * 6 + 5, none⟩ = some (.int .i64 l[k].should) :=
  ⟨h _ _ (gps_at' hk 0 (by omega)), h _ _ (gps_at' hk 1 (by omega)), h _ _ (gps_at' hk 2 (by omega)), h _ _ (gps_at' hk 3 (by omega)), h _ _ (gps_at' hk 4 (by omega)), h _ _ (gps_at' hk 5 (by omega))⟩

set_option maxHeartbeats 1000000 in
theorem sameGaps_calls (A : Option Addr) (l : List Gp) (c : Nat) (A2 : Option Addr) (c2 : Nat) (w : World) (h : Rd w A (gps l)) (h2 : Rd w A2 (gps l)) (hn : l.length ≤ 100000000000) :
    Calls Try.prog 33 #[.slice A l.length c, .slice A2 l.length c2] w fun e w' => e = .returned (.bool true) ∧ Below w.heap.size w w' := by
  have H1 := hid h
  have H2 := hid h2
  clear h h2
  have hlen' : ((l.length : Int) != (l.length : Int)) = false := by simp
  go_enter Try.func33, Try.ntmps33
  go_wp2_with fail
  go_loopw [5] (fun i wr => ∃ k : Nat, k ≤ l.length ∧ i = .int .i64 k ∧ ∃ n, wr = w.drewN n) (fun i _ => l.length - (intOf i).toNat)
  case atStart => exact ⟨0, Nat.zero_le _, rfl, 0, rfl⟩
  case round =>
    obtain ⟨k, hk, rfl, n, rfl⟩ := hrel
    by_cases hlt : k < l.length
    · obtain ⟨b, off, rfl, hb, hc⟩ := (unhid H1) (gps_ne' hlt)
      obtain ⟨b2, off2, rfl, hb2, hc2⟩ := (unhid H2) (gps_ne' hlt)
      obtain ⟨m0, m1, m2, m3, m4, m5⟩ := gps_cells hc hlt
      obtain ⟨n0, n1, n2, n3, n4, n5⟩ := gps_cells hc2 hlt
      clear hc hc2
      generalize hx : l[k] = x at *
      clear hx
      have b0 : (x.topic == x.topic) = true := by simp
      have b1 : (x.dir == x.dir) = true := by simp
      have b2 : (x.fr == x.fr) = true := by simp
      have b3 : (x.to == x.to) = true := by simp
      have b4 : (x.has == x.has) = true := by simp
      have b5 : (x.should == x.should) = true := by simp
      go_wp2_with fail
      go_quiet (fail)
      go_wp2_with fail
      go_roundw
      case rel => exact ⟨k + 1, by omega, by go_num, _, rfl⟩
      case measure => simp [intOf]; omega
    · go_wp2_with fail
      go_ret
      exact ⟨rfl, below_drewN' (Below.refl _ _) _⟩

theorem why_all (len : Int) (js : List Int) (l : List Sg) (ed : List Ed) (hour : Int) : whyE len js l ed true true (decide (0 ≤ hour ∧ hour ≤ 10000000)) = allE len js l ed hour := by
  unfold whyE allE
  by_cases hh : 0 ≤ hour ∧ hour ≤ 10000000
  · rw [decide_eq_true hh]; simp [hh]
  · rw [decide_eq_false hh, if_neg hh]; simp

set_option maxHeartbeats 4000000 in
set_option maxRecDepth 100000 in
theorem compares_calls (len : Int) (A : Option Addr) (js : List Int) (c : Nat) (A2 : Option Addr) (l : List Sg) (c2 : Nat) (A3 : Option Addr) (ed : List Ed) (c3 : Nat) (hour dir topic metre : Int) (w : World) (hl : LnOk w A js) (hs : SgsOk w A2 l) (he : EdsOk w A3 ed) (_ : I64 len) (_ : I64 hour) (_ : I64 dir) (_ : I64 topic) (_ : I64 metre) :
    Calls Try.prog 7 #[.agg #[.int .i64 len, .slice A js.length c, .slice A2 l.length c2, .slice A3 ed.length c3, .int .i64 hour, .int .i64 dir, .int .i64 topic, .int .i64 metre]] w fun e w' => e = .returned (.bool true) ∧ Below w.heap.size w w' := by
  have HL := hid hl
  have HS := hid hs
  have HE := hid he
  have hln := hl.n
  have hsn := hs.n
  have hen := he.n
  clear hl hs he
  go_enter Try.func7, Try.ntmps7
  go_wp2_with fail
  refine (heavy_calls len A js c A2 l c2 A3 ed.length c3 hour dir topic metre _ ((unhid HL).below (below_alloc _ _)) ((unhid HS).below (below_alloc _ _)) (by omega)).mono ?_
  rintro e W ⟨rfl, hb1⟩
  have HA := (Ask8.new w (.int .i64 len) (.slice A js.length c) (.slice A2 l.length c2) (.slice A3 ed.length c3) (.int .i64 hour) (.int .i64 dir) (.int .i64 topic) (.int .i64 metre) 28).below hb1
  have hbw1 : Below w.heap.size w W := (below_alloc w _).trans (hb1.mono (by simp))
  have HL := hid ((unhid HL).below hbw1)
  have HS := hid ((unhid HS).below hbw1)
  have HE := hid ((unhid HE).below hbw1)
  clear hb1
  have HBW := hid hbw1
  cases hh : heavyB len js l ed.length with
  | true =>
    clear HA
    go_wp2_with fail
    refine (first_calls _).mono ?_
    rintro e w2 ⟨rfl, hb2⟩
    go_wp2_with fail
    go_ret
    exact ⟨rfl, hbw1.trans (hb2.mono hbw1.size)⟩
  | false =>
    clear hbw1
    have hlb : ¬ heavyB len js l ed.length = true := by rw [hh]; simp
    have HH := hid hlb
    clear hh hlb
    obtain ⟨e0, e1, e2, e3, e4, e5, e6, e7⟩ := HA.cells
    go_wp2_with fail
    generalize hBB : w.heap.size = B at *
    refine (rcomp_calls len A js c A2 l c2 A3 ed c3 hour _ (unhid HL) (unhid HS) (unhid HE)).mono ?_
    rintro e w3 ⟨A4, c4, G, rfl, hz, hnz, hrd, hGl, hbel⟩
    have HZ := hid hz
    have HNZ := hid hnz
    have HRD := hid hrd
    clear hz hnz hrd e0 e1 e2 e3 e4 e5 e6 e7
    have HA3 := HA.below hbel
    obtain ⟨e0, e1, e2, e3, e4, e5, e6, e7⟩ := HA3.cells
    obtain ⟨q0, q1, q2, q3, q4, q5, q6, q7⟩ := HA3.after
    have HL3 := hid ((unhid HL).below hbel)
    have HS3 := hid ((unhid HS).below hbel)
    have HE3 := hid ((unhid HE).below hbel)
    have HWA := hid (why_all len js l ed hour)
    generalize hg1 : decide (0 ≤ hour ∧ hour ≤ 10000000) = g1 at *
    have G1 := hid hg1
    clear hg1
    generalize hea : allE len js l ed hour = ea at *
    have HEA := hid hea
    clear hea
    have KH := hid (fun (p : After w3) => (hour_calls hour p.w).mono fun _ _ h => (⟨h.1.trans (by rw [unhid G1]), h.2⟩ : _ ∧ _))
    have KY := hid (fun (p : After w3) => (why_calls len A js c A2 l c2 A3 ed c3 hour dir topic metre true true g1 p.w ((unhid HL3).below p.below) ((unhid HS3).below p.below) ((unhid HE3).below p.below)).mono fun _ _ h => (⟨h.1.trans (by rw [unhid HWA]), h.2⟩ : _ ∧ _))
    clear HWA
    by_cases h0 : ea = 0
    · subst h0
      have hv := allE_zero (unhid HEA)
      have hG := unhid HZ rfl
      obtain ⟨n, rfl⟩ := Int.eq_ofNat_of_zero_le (show 0 ≤ len by have := (lineB_len hv.1).1; omega)
      rw [show ((n : Int)).toNat = n from rfl] at hG
      have HG := hid hG
      have hed50 := edsB_len hv.2.2.1
      have KC := hid (fun w hl hs he => rcompare_calls n A js c A2 l c2 A3 ed c3 hour w hl hs he hv.1 hv.2.1 (by omega))
      rw [← hG] at KC
      clear hv hG HZ HNZ
      go_wp2_with fail
      (refine wp_region_below (by kernel_rfl) (by kernel_rfl) ?_; (repeat (go_big_quiet_step (first | (go_at_call 16; exact Calls.after_same ((unhid KH) _)) | (go_at_call 15; exact Calls.after_of ((unhid KY) _))))); refine wpQuiet_nil ?_; intro wq hw'; obtain ⟨⟨wq2, hbq⟩, hw''⟩ := hw'; dsimp only at hw''; subst hw'')
      clear q0 q1 q2 q3 q4 q5 q6 q7 e0 e1 e2 e3 e4 e5 e6 e7
      have hbel3 : Below W.heap.size W wq := hbel.trans (hbq.mono hbel.size)
      obtain ⟨e0, e1, e2, e3, e4, e5, e6, e7⟩ := (HA.below hbel3).cells
      have HRD := hid ((unhid HRD).below hbq)
      have HBL3 := hid hbel3
      go_wp2_with fail
      refine ((unhid KC) _ ((unhid HL).below (unhid HBL3)) ((unhid HS).below (unhid HBL3)) ((unhid HE).below (unhid HBL3))).mono ?_
      rintro e w5 ⟨A6, c6, rfl, hrd6, hb5⟩
      have HRD6 := hid hrd6
      have HRD := hid ((unhid HRD).below hb5)
      clear hrd6
      go_wp2_with fail
      refine (sameGaps_calls A4 G c4 A6 c6 _ (unhid HRD) (unhid HRD6) (by omega)).mono ?_
      rintro e w6 ⟨rfl, hb6⟩
      go_wp2_with fail
      refine (first_calls _).mono ?_
      rintro e w7 ⟨rfl, hb7⟩
      go_wp2_with fail
      go_ret
      have hW := unhid HBW
      have h5 := (unhid HBL3).trans (hb5.mono (unhid HBL3).size)
      have h6 := h5.trans (hb6.mono h5.size)
      have h7 := h6.trans (hb7.mono h6.size)
      exact ⟨rfl, by rw [hBB]; exact hW.trans (h7.mono (by rw [← hBB]; exact (hBB ▸ hW).size))⟩
    · have h0' : (ea != 0) = true := by simpa using h0
      have hee : (ea == ea) = true := by simp
      have hG := unhid HNZ h0
      subst hG
      clear HNZ HZ hGl
      have HBL3 := hid hbel
      go_wp2_with fail
      (refine wp_region_below (by kernel_rfl) (by kernel_rfl) ?_; (repeat (go_big_quiet_step (first | (go_at_call 16; exact Calls.after_same ((unhid KH) _)) | (go_at_call 15; exact Calls.after_of ((unhid KY) _))))); refine wpQuiet_nil ?_; intro wq hw'; obtain ⟨⟨wq2, hbq⟩, hw''⟩ := hw'; dsimp only at hw''; subst hw'')
      clear q0 q1 q2 q3 q4 q5 q6 q7 e0 e1 e2 e3 e4 e5 e6 e7
      go_wp2_with fail
      refine (first_calls _).mono ?_
      rintro e w7 ⟨rfl, hb7⟩
      go_wp2_with fail
      go_ret
      have hW := unhid HBW
      have h5 := (unhid HBL3).trans (hbq.mono (unhid HBL3).size)
      have h7 := h5.trans (hb7.mono h5.size)
      exact ⟨rfl, by rw [hBB]; exact hW.trans (h7.mono (by rw [← hBB]; exact (hBB ▸ hW).size))⟩
end

end Go.Proofs.Ytmpngoejnmlmbaa
