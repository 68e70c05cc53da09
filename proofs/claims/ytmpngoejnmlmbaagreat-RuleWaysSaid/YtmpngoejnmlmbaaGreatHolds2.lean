/-
  Package rule's Must; the reference's Must and Holds.
-/
import Derived.Test.YtmpngoejnmlmbaaGreatHolds
import Derived.Test.YtmpngoejnmlmbaaGreatRowsP
set_option linter.unusedSimpArgs false
set_option linter.unusedVariables false
namespace Go.Proofs.YtmpngoejnmlmbaaGreat
open Go.RowKit

def MustPost (len : Int) (js : List Int) (ed : List Ed) (hour dir topic m : Int) (w : World) (e : Ending) (w' : World) : Prop :=
  ∃ v : Int, e = .returned (.tuple #[.int .i64 v, .int .i64 (mustE len js ed hour dir topic m)]) ∧
    (mustE len js ed hour dir topic m = 0 → v = mustP ed hour dir topic m) ∧ (mustE len js ed hour dir topic m ≠ 0 → v = 0) ∧ Below w.heap.size w w'

set_option maxHeartbeats 4000000 in
set_option maxRecDepth 100000 in
theorem must_calls (len : Int) (A : Option Addr) (js : List Int) (c : Nat) (A2 : Option Addr) (ed : List Ed) (c2 : Nat) (hour dir topic m : Int) (w : World) (hl : LnOk w A js) (hs : EdsOk w A2 ed) (hlen : I64 len) :
    Calls Tryz.prog 25 #[.agg #[.int .i64 len, .slice A js.length c], .slice A2 ed.length c2, .int .i64 hour, .int .i64 dir, .int .i64 topic, .int .i64 m] w (MustPost len js ed hour dir topic m w) := by
  have HL := hid hl
  have HS := hid hs
  clear hl hs
  go_enter Tryz.func25, Tryz.ntmps25
  go_wp2_with fail
  refine (ordered_calls len A js c A2 ed c2 hour dir topic _ ((unhid HL).below (below_alloc _ _)) ((unhid HS).below (below_alloc _ _))).mono ?_
  rintro e w1 ⟨rfl, hb1⟩
  have d0 := hb1.cell (p := ⟨w.heap.size, 0, none⟩) (by simp)
  have d1 := hb1.cell (p := ⟨w.heap.size, 1, none⟩) (by simp)
  simp [go_sem] at d0 d1
  have hbw1 : Below w.heap.size w w1 := (below_alloc w _).trans (hb1.mono (by simp))
  have hB1 : w.heap.size < w1.heap.size := Nat.lt_of_lt_of_le (by simp) hb1.size
  clear hb1
  have hee : mustE len js ed hour dir topic m = if orderedE len js ed hour dir topic ≠ 0 then orderedE len js ed hour dir topic else if 0 ≤ m ∧ m ≤ len - 1 then 0 else 2 := rfl
  generalize he : orderedE len js ed hour dir topic = er at *
  by_cases h0 : er = 0
  · subst h0
    have hv := orderedE_zero he
    clear he
    have hlen2 := lineB_len hv.1
    have HB := hid (edsB_bounds hv.2.1)
    have hl50 := edsB_len hv.2.1
    have HN := hid (edsB_nodup hv.2.1)
    clear hv
    simp only [ne_eq, not_true, if_false] at hee
    by_cases hm : 0 ≤ m ∧ m ≤ len - 1
    · rw [if_pos hm] at hee
      have HEE := hid hee
      have hdm := decide_eq_true hm
      obtain ⟨hm1, hm2⟩ := hm
      clear hee
      have hrw : ∀ w, Calls Tryz.prog 50 #[.int .i64 0, .int .i64 m, .int .i64 (len - 1)] w fun e w' => e = .returned (.bool true) ∧ w = w' := fun w => (within_calls 0 m (len - 1) w).mono fun _ _ h => ⟨h.1.trans (by rw [hdm]), h.2⟩
      have HRW := hid hrw
      clear hrw hdm
      obtain ⟨n, rfl⟩ := Int.eq_ofNat_of_zero_le (show 0 ≤ len by omega)
      obtain ⟨k, rfl⟩ := Int.eq_ofNat_of_zero_le hm1
      have hkn : k < n := by omega
      go_wp2_with (go_at_call 50; refine ((unhid HRW) _).mono ?_; rintro e w' ⟨rfl, rfl⟩)
      refine (mustStrip_calls n A js.length c A2 ed c2 hour dir topic _ hlen2.2 ((unhid HS).below hbw1).rd (by omega) (unhid HB) (unhid HN)).mono ?_
      rintro e w2 ⟨A3, rfl, hrd, hb2, -⟩
      obtain ⟨b, off, rfl, hb, hc⟩ := hrd (ints_ne (l := mustS n ed hour dir topic) (k := k) (by simp; omega))
      have hck := hc k _ (ints_at (mustS n ed hour dir topic) k (by simp; omega))
      have hval : (mustS n ed hour dir topic)[k]'(by simp; omega) = mustP ed hour dir topic k := by simp [mustS]
      rw [hval] at hck
      clear hc hval
      go_wp2_with fail
      go_ret2
      exact ⟨_, by rw [unhid HEE]; rfl, fun _ => rfl, fun h => absurd (unhid HEE) h, hbw1.trans (hb2.mono hbw1.size)⟩
    · rw [if_neg hm] at hee
      have HEE := hid hee
      have hdm := decide_eq_false hm
      clear hee hm
      have hrw : ∀ w, Calls Tryz.prog 50 #[.int .i64 0, .int .i64 m, .int .i64 (len - 1)] w fun e w' => e = .returned (.bool false) ∧ w = w' := fun w => (within_calls 0 m (len - 1) w).mono fun _ _ h => ⟨h.1.trans (by rw [hdm]), h.2⟩
      have HRW := hid hrw
      clear hrw hdm
      go_wp2_with (go_at_call 50; refine ((unhid HRW) _).mono ?_; rintro e w' ⟨rfl, rfl⟩)
      go_ret2
      exact ⟨0, by rw [unhid HEE]; rfl, fun h => absurd ((unhid HEE).symm.trans h) (by omega), fun _ => rfl, hbw1⟩
  · have h0' : (er != 0) = true := by simpa using h0
    rw [if_pos h0] at hee
    have HEE := hid hee
    have H0 := hid h0
    clear he hee h0
    go_wp2_with fail
    go_ret2
    exact ⟨0, by rw [unhid HEE]; rfl, fun h => absurd ((unhid HEE).symm.trans h) (unhid H0), fun _ => rfl, hbw1⟩

theorem mustStep_yes {hour dir topic m : Int} {st : Int × Int} {e : Ed} (h : edHit hour dir topic m e = true) (h2 : st.1 < e.num) : mustStep hour dir topic m st e = (e.num, e.val) := if_pos ⟨h, h2⟩
theorem mustStep_no {hour dir topic m : Int} {st : Int × Int} {e : Ed} (h : ¬ (edHit hour dir topic m e = true ∧ st.1 < e.num)) : mustStep hour dir topic m st e = st := if_neg h

set_option maxHeartbeats 4000000 in
set_option maxRecDepth 100000 in
theorem rmust_calls (A : Option Addr) (ed : List Ed) (c : Nat) (hour dir topic m : Int) (w : World) (hr : Rd w A (edicts ed)) (hn : ed.length ≤ 100000000) :
    Calls Tryz.prog 65 #[.slice A ed.length c, .int .i64 hour, .int .i64 dir, .int .i64 topic, .int .i64 m] w fun e w' => e = .returned (.int .i64 (mustP ed hour dir topic m)) ∧ Below w.heap.size w w' := by
  have HR := hid hr
  clear hr
  go_enter Tryz.func65, Tryz.ntmps65
  go_wp2_with fail
  go_loopw [11, 12, 13] (fun a b i wr => ∃ n : Nat, n ≤ ed.length ∧ i = .int .i64 n ∧ a = .int .i64 (mustRun hour dir topic m (ed.take n)).1 ∧ b = .int .i64 (mustRun hour dir topic m (ed.take n)).2 ∧ Below w.heap.size w wr) (fun _ _ i _ => ed.length - (intOf i).toNat)
  case atStart => exact ⟨0, Nat.zero_le _, rfl, rfl, rfl, Below.refl _ _⟩
  case round =>
    obtain ⟨n, hn1, rfl, rfl, rfl, hbel⟩ := hrel
    by_cases hlt : n < ed.length
    · obtain ⟨b, off, rfl, hb, hc⟩ := ((unhid HR).below hbel) (edicts_ne hlt)
      obtain ⟨m0, m1, m2, m3, m4, m5, m6, m7⟩ := edicts_cells hc hlt
      clear hc
      have HST := hid (mustRun_snoc hour dir topic m ed hlt)
      generalize hx : ed[n] = x at *
      clear hx
      generalize hst : mustRun hour dir topic m (ed.take n) = st at *
      obtain ⟨a0, b0⟩ := st
      have HS := hid hst
      clear hst
      dsimp only
      by_cases hh : edHit hour dir topic m x = true ∧ a0 < x.num
      · have HF := hid ((unhid HST).trans (mustStep_yes hh.1 hh.2))
        obtain ⟨h1, h2⟩ := hh
        unfold edHit at h1
        simp at h1
        obtain ⟨⟨⟨⟨⟨g1, g2⟩, g3⟩, g4⟩, g5⟩, g6⟩ := h1
        have b1 : (x.topic == topic) = true := by simpa using g1
        have b2 : (x.dir == dir) = true := by simpa using g2
        have := decide_eq_true (show x.st ≤ hour by omega)
        have := decide_eq_true (show hour < x.en by omega)
        have := decide_eq_true (show x.fr ≤ m by omega)
        have := decide_eq_true (show m < x.to by omega)
        have := decide_eq_true (show a0 < x.num by omega)
        clear g1 g2
        go_wp2_with fail
        go_quiet (fail)
        go_wp2_with fail
        first
          | exact ⟨⟨n + 1, by omega, by go_num, by rw [unhid HF], by rw [unhid HF], below_drewN' (below_alloc' hbel _) _⟩, by simp [intOf]; omega⟩
          | (go_roundw
             case rel => exact ⟨n + 1, by omega, by go_num, by rw [unhid HF], by rw [unhid HF], below_drewN' (below_alloc' hbel _) _⟩
             case measure => simp [intOf]; omega)
      · have HF := hid ((unhid HST).trans (mustStep_no hh))
        have HN := hid hh
        clear hh
        go_wp2_with fail
        all_goals first
          | (exfalso; have h := unhid HN; go_light; (try simp only [beq_iff_eq, beq_eq_false_iff_ne, ne_eq, bne_iff_ne, bne_eq_false_iff_eq, decide_eq_true_eq, decide_eq_false_iff_not, Bool.and_eq_true, Bool.or_eq_true, Bool.and_eq_false_iff, Bool.or_eq_false_iff, Bool.not_eq_true', Bool.not_eq_false', Bool.not_eq_true] at *); revert h; unfold edHit; simp; omega)
          | (go_roundw
             case rel => exact ⟨n + 1, by omega, by go_num, by rw [unhid HF], by rw [unhid HF], below_alloc' hbel _⟩
             case measure => simp [intOf]; omega)
    · have HF := hid (show mustRun hour dir topic m (ed.take n) = mustRun hour dir topic m ed by rw [List.take_of_length_le (by omega)])
      go_wp2_with fail
      go_ret
      exact ⟨reti (by rw [unhid HF]; rfl), hbel⟩

theorem rowSg_of {len hour dir : Int} {js : List Int} {l R : List Sg} (h : InsRow len hour dir l R) (hs : sgsB len js l = true) : RowSg len R := fun s hm => by
  have h1 := h.perm.subset hm
  have h2 : s ∈ l := (List.mem_filter.1 h1).1
  refine ⟨(sgsB_bounds hs s h2).1, ?_, (sgsB_bounds hs s h2).2⟩
  simp [sgsB] at hs
  have := (signOk_iff.1 (hs.1.2 s h2)).2.1
  simp [rvaluedB] at this
  exact this.2

set_option maxHeartbeats 4000000 in
set_option maxRecDepth 100000 in
theorem rholds_calls (len : Int) (A : Option Addr) (js : List Int) (c : Nat) (A2 : Option Addr) (l : List Sg) (c2 : Nat) (hour dir topic m : Int) (w : World) (hl : LnOk w A js) (hs : SgsOk w A2 l) (hv : lineB len js = true) (hv2 : sgsB len js l = true) (hm1 : 0 ≤ m) (hm2 : m ≤ len - 1) :
    Calls Tryz.prog 76 #[.agg #[.int .i64 len, .slice A js.length c], .slice A2 l.length c2, .int .i64 hour, .int .i64 dir, .int .i64 topic, .int .i64 m] w fun e w' =>
      ∃ R, InsRow len hour dir l R ∧ e = .returned (.int .i64 (holdP len js (mtl len dir R) dir topic (metreI len dir m))) ∧ Below w.heap.size w w' := by
  have HL := hid hl
  have HS := hid hs
  clear hl hs
  have hlen2 := lineB_len hv
  have HJ := hid (lineB_mem hv)
  have HV2 := hid hv2
  have HC := hid (sgsB_chain hv2)
  have hl100 := sgsB_len hv2
  have hmi := metreI_lt2 (dir := dir) hm1 hm2
  clear hv hv2
  go_enter Tryz.func76, Tryz.ntmps76
  go_wp2_with fail
  generalize hW : w.alloc _ = w1
  have hB1 : w.heap.size < w1.heap.size := by rw [← hW]; simp
  have d0 : w1.cell? ⟨w.heap.size, 0, none⟩ = some (.int .i64 len) := by rw [← hW]; simp [go_sem]
  have d1 : w1.cell? ⟨w.heap.size, 1, none⟩ = some (.slice A js.length c) := by rw [← hW]; simp [go_sem]
  have hbw1 : Below w.heap.size w w1 := by rw [← hW]; exact below_alloc _ _
  clear hW
  have HRL := hid (fun R (h : InsRow len hour dir l R) => (show R.length ≤ 100 from by have := selS_len hour dir l; have := h.perm.length_eq; omega))
  go_region_held3 (fun w' => w'.cell? ⟨w.heap.size, 0, none⟩ = some (.int .i64 len) ∧ w'.cell? ⟨w.heap.size, 1, none⟩ = some (.slice A js.length c) ∧ Below w1.heap.size w1 w') (first | (refine ⟨?_, ?_, ?_⟩ <;> assumption) | (exact ⟨by assumption, by assumption, Below.drew (Below.refl _ _)⟩) | go_keep)
    (first
      | (go_at_call 86; have hh := ‹_ ∧ _ ∧ Below w1.heap.size w1 _›; refine (rrow_calls len A js.length c A2 l c2 hour dir _ ((unhid HS).below (hbw1.trans (hh.2.2.mono hbw1.size))) (by omega) hlen2.2 (unhid HC)).mono ?_; rintro e w2 ⟨A3, c3, R, rfl, hrow, hrd, hb2⟩; have hB2 := hh.2.2.trans (hb2.mono hh.2.2.size); have e0 := (hB2.cell (p := ⟨w.heap.size, 0, none⟩) hB1).trans d0; have e1 := (hB2.cell (p := ⟨w.heap.size, 1, none⟩) hB1).trans d1; clear hh)
      | (go_at_call 66; have hh := ‹_ ∧ _ ∧ Below w1.heap.size w1 _›; refine (beginning_calls len A js.length c dir m _ hm1 (by omega) hlen2.2).mono ?_; rintro e w5 ⟨rfl, rfl⟩; have e0 := (World.cell?_alloc_lt _ (.cells #[.int .i64 len, .slice A js.length c] 24) ⟨w.heap.size, 0, none⟩ (Nat.lt_of_lt_of_le hB1 hh.2.2.size)).trans hh.1; have e1 := (World.cell?_alloc_lt _ (.cells #[.int .i64 len, .slice A js.length c] 24) ⟨w.heap.size, 1, none⟩ (Nat.lt_of_lt_of_le hB1 hh.2.2.size)).trans hh.2.1; have hB2 := below_alloc' hh.2.2 (.cells #[.int .i64 len, .slice A js.length c] 24); clear hh)
      | (go_at_call 87; have hh := ‹_ ∧ _ ∧ Below w1.heap.size w1 _›; refine (holding_calls len A js c A3 R c3 dir topic (metreI len dir m) _ ((unhid HL).below (hbw1.trans (hh.2.2.mono hbw1.size))) (unhid HJ) hlen2.2 (by first | exact hrd | exact hrd.alloc _) (by have := unhid HRL R hrow; omega) (rowSg_of hrow (unhid HV2)) hmi.1 hmi.2).mono ?_; rintro e w6 ⟨rfl, hb2⟩; have hB2 := hh.2.2.trans (hb2.mono hh.2.2.size); have e0 := (hB2.cell (p := ⟨w.heap.size, 0, none⟩) hB1).trans d0; have e1 := (hB2.cell (p := ⟨w.heap.size, 1, none⟩) hB1).trans d1; clear hh))
  all_goals
    have hh := ‹_ ∧ _ ∧ Below w1.heap.size w1 _›
    have HROW := hid hrow
    clear hrow
    go_wp2_with fail
    go_ret
    exact ⟨R, unhid HROW, rfl, hbw1.trans (hh.2.2.mono hbw1.size)⟩

end Go.Proofs.YtmpngoejnmlmbaaGreat
