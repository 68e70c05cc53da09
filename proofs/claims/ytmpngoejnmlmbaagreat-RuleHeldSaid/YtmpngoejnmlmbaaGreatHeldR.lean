/-
  The reference's Held and Wanted; package rule's Wanted; sameHeld.
-/
import Derived.Test.YtmpngoejnmlmbaaGreatStretch
set_option linter.unusedSimpArgs false
set_option linter.unusedVariables false
namespace Go.Proofs.YtmpngoejnmlmbaaGreat
open Go.RowKit

set_option maxHeartbeats 1000000 in
theorem rheld_calls (n : Nat) (A : Option Addr) (js : List Int) (c : Nat) (A2 : Option Addr) (l : List Sg) (c2 : Nat) (hour dir topic : Int) (w : World) (hl : LnOk w A js) (hs : SgsOk w A2 l) (hv : lineB n js = true) (hv2 : sgsB n js l = true) :
    Calls Tryz.prog 17 #[.agg #[.int .i64 n, .slice A js.length c], .slice A2 l.length c2, .int .i64 hour, .int .i64 dir, .int .i64 topic] w fun e w' =>
      ∃ (A' : Option Addr) (c' : Nat) (R : List Sg), InsRow n hour dir l R ∧ e = .returned (.slice A' (heldP (holdS n js (mtl n dir R) dir topic)).length c') ∧ Rd w' A' (hds (heldP (holdS n js (mtl n dir R) dir topic))) ∧ Below w.heap.size w w' := by
  have HL := hid hl
  have HS := hid hs
  have HV := hid hv
  have HV2 := hid hv2
  have hn := (lineB_len hv).2
  clear hl hs hv hv2
  go_enter Tryz.func17, Tryz.ntmps17
  go_wp2_with fail
  refine (rall_calls n A js c A2 l c2 hour dir topic _ ((unhid HL).below (below_alloc _ _)) ((unhid HS).below (below_alloc _ _)) (unhid HV) (unhid HV2)).mono ?_
  rintro e w1 ⟨A3, c3, R, hrow, rfl, hrd, hb1⟩
  have hbw1 : Below w.heap.size w w1 := (below_alloc w _).trans (hb1.mono (by simp))
  have hK := stretches_calls A3 (holdS n js (mtl n dir R) dir topic) c3 w1 hrd (by simp; omega)
  rw [holdS_len] at hK
  have HK := hid hK
  have HROW := hid hrow
  clear hb1 hK hrow hrd
  go_wp2_with fail
  refine (unhid HK).mono ?_
  rintro e w2 ⟨A4, c4, rfl, hrd4, hb2⟩
  go_wp2_with fail
  go_ret
  exact ⟨A4, c4, R, unhid HROW, rfl, hrd4, hbw1.trans (hb2.mono hbw1.size)⟩

set_option maxHeartbeats 1000000 in
theorem rwanted_calls (n : Nat) (A : Option Addr) (q c : Nat) (A2 : Option Addr) (ed : List Ed) (c2 : Nat) (hour dir topic : Int) (w : World) (hn : n ≤ 100000) (hr : Rd w A2 (edicts ed)) (hl : ed.length ≤ 100000000) :
    Calls Tryz.prog 18 #[.agg #[.int .i64 n, .slice A q c], .slice A2 ed.length c2, .int .i64 hour, .int .i64 dir, .int .i64 topic] w fun e w' =>
      ∃ (A' : Option Addr) (c' : Nat), e = .returned (.slice A' (heldP (mustS n ed hour dir topic)).length c') ∧ Rd w' A' (hds (heldP (mustS n ed hour dir topic))) ∧ Below w.heap.size w w' := by
  have HR := hid hr
  clear hr
  go_enter Tryz.func18, Tryz.ntmps18
  go_wp2_with fail
  refine (rmusts_calls n A q c A2 ed c2 hour dir topic _ hn ((unhid HR).below (below_alloc _ _)) hl).mono ?_
  rintro e w1 ⟨A3, c3, rfl, hrd, hb1⟩
  have hbw1 : Below w.heap.size w w1 := (below_alloc w _).trans (hb1.mono (by simp))
  have hK := stretches_calls A3 (mustS n ed hour dir topic) c3 w1 hrd (by simp; omega)
  rw [mustS_len] at hK
  have HK := hid hK
  clear hb1 hK hrd
  go_wp2_with fail
  refine (unhid HK).mono ?_
  rintro e w2 ⟨A4, c4, rfl, hrd4, hb2⟩
  go_wp2_with fail
  go_ret
  exact ⟨A4, c4, rfl, hrd4, hbw1.trans (hb2.mono hbw1.size)⟩

def WantedPost (len : Int) (js : List Int) (ed : List Ed) (hour dir topic : Int) (w : World) (e : Ending) (w' : World) : Prop :=
  ∃ (A' : Option Addr) (c' : Nat) (H : List Hd), e = .returned (.tuple #[.slice A' H.length c', .int .i64 (orderedE len js ed hour dir topic)]) ∧
    (orderedE len js ed hour dir topic = 0 → H = heldP (mustS len.toNat ed hour dir topic)) ∧ (orderedE len js ed hour dir topic ≠ 0 → H = []) ∧ Rd w' A' (hds H) ∧ H.length ≤ 100000 ∧ Below w.heap.size w w'

set_option maxHeartbeats 4000000 in
set_option maxRecDepth 100000 in
theorem wanted_calls (len : Int) (A : Option Addr) (js : List Int) (c : Nat) (A2 : Option Addr) (ed : List Ed) (c2 : Nat) (hour dir topic : Int) (w : World) (hl : LnOk w A js) (hs : EdsOk w A2 ed) :
    Calls Tryz.prog 12 #[.agg #[.int .i64 len, .slice A js.length c], .slice A2 ed.length c2, .int .i64 hour, .int .i64 dir, .int .i64 topic] w (WantedPost len js ed hour dir topic w) := by
  have HL := hid hl
  have HS := hid hs
  clear hl hs
  go_enter Tryz.func12, Tryz.ntmps12
  go_wp2_with fail
  refine (ordered_calls len A js c A2 ed c2 hour dir topic _ ((unhid HL).below (below_alloc _ _)) ((unhid HS).below (below_alloc _ _))).mono ?_
  rintro e w1 ⟨rfl, hb1⟩
  have d0 := hb1.cell (p := ⟨w.heap.size, 0, none⟩) (by simp)
  have d1 := hb1.cell (p := ⟨w.heap.size, 1, none⟩) (by simp)
  simp [go_sem] at d0 d1
  have hbw1 : Below w.heap.size w w1 := (below_alloc w _).trans (hb1.mono (by simp))
  clear hb1
  generalize he : orderedE len js ed hour dir topic = er
  by_cases h0 : er = 0
  · subst h0
    have hv := orderedE_zero he
    have HE := hid he
    clear he
    obtain ⟨n, rfl⟩ := Int.eq_ofNat_of_zero_le (show 0 ≤ len by have := (lineB_len hv.1).1; omega)
    have hn := (lineB_len hv.1).2
    have HB := hid (edsB_bounds hv.2.1)
    have hl50 := edsB_len hv.2.1
    have HN := hid (edsB_nodup hv.2.1)
    clear hv
    go_wp2_with fail
    refine (mustStrip_calls n A js.length c A2 ed c2 hour dir topic _ hn ((unhid HS).below hbw1).rd (by omega) (unhid HB) (unhid HN)).mono ?_
    rintro e w2 ⟨A', rfl, hrd, hb2⟩
    have hbw2 : Below w.heap.size w w2 := hbw1.trans (hb2.mono hbw1.size)
    have hK := held_calls A' (mustS n ed hour dir topic) n w2 hrd (by simp; omega)
    rw [mustS_len] at hK
    have HK := hid hK
    clear hK
    go_wp2_with fail
    refine (unhid HK).mono ?_
    rintro e w3 ⟨A3, c3, rfl, hrd3, hb3⟩
    go_wp2_with fail
    go_ret2
    exact ⟨A3, c3, heldP (mustS n ed hour dir topic), by rw [unhid HE]; rfl, fun _ => rfl, fun h => absurd (unhid HE) h, hrd3, by have := heldP_len (mustS n ed hour dir topic); simp at this; omega, hbw2.trans (hb3.mono hbw2.size)⟩
  · have h0' : (er != 0) = true := by simpa using h0
    have HE := hid he
    have H0 := hid h0
    clear he h0
    go_wp2_with fail
    go_ret2
    exact ⟨none, 0, [], by rw [unhid HE]; rfl, fun h => absurd ((unhid HE).symm.trans h) (unhid H0), fun _ => rfl, Rd.nil _ _, by simp, hbw1⟩

theorem hds_cells {w : World} {b off : Nat} {l : List Hd} (h : ∀ j u, (hds l)[j]? = some u → w.cell? ⟨b, off + j, none⟩ = some u) {k : Nat} (hk : k < l.length) :
    w.cell? ⟨b, off + k * 3, none⟩ = some (.int .i64 l[k].fr) ∧ w.cell? ⟨b, off + k * 3 + 1, none⟩ = some (.int .i64 l[k].to) ∧ w.cell? ⟨b, off + k * 3 + 2, none⟩ = some (.int .i64 l[k].val) :=
  ⟨h _ _ (flat_at (f := hdC) (K := 3) (fun _ => rfl) l k 0 hk (by omega)), h _ _ (flat_at (f := hdC) (K := 3) (fun _ => rfl) l k 1 hk (by omega)), h _ _ (flat_at (f := hdC) (K := 3) (fun _ => rfl) l k 2 hk (by omega))⟩
theorem hds_ne {l : List Hd} {k : Nat} (h : k < l.length) : hds l ≠ [] := flat_ne (f := hdC) (K := 3) (fun _ => rfl) (by omega) h

set_option maxHeartbeats 1000000 in
theorem sameHeld_calls (A : Option Addr) (l : List Hd) (c : Nat) (A2 : Option Addr) (c2 : Nat) (w : World) (h : Rd w A (hds l)) (h2 : Rd w A2 (hds l)) (hn : l.length ≤ 100000000000) :
    Calls Tryz.prog 19 #[.slice A l.length c, .slice A2 l.length c2] w fun e w' => e = .returned (.bool true) ∧ Below w.heap.size w w' := by
  have H1 := hid h
  have H2 := hid h2
  clear h h2
  have hlen' : ((l.length : Int) != (l.length : Int)) = false := by simp
  go_enter Tryz.func19, Tryz.ntmps19
  go_wp2_with fail
  go_loopw [5] (fun i wr => ∃ k : Nat, k ≤ l.length ∧ i = .int .i64 k ∧ ∃ n, wr = w.drewN n) (fun i _ => l.length - (intOf i).toNat)
  case atStart => exact ⟨0, Nat.zero_le _, rfl, 0, rfl⟩
  case round =>
    obtain ⟨k, hk, rfl, n, rfl⟩ := hrel
    by_cases hlt : k < l.length
    · obtain ⟨b, off, rfl, hb, hc⟩ := (unhid H1) (hds_ne hlt)
      obtain ⟨b2, off2, rfl, hb2, hc2⟩ := (unhid H2) (hds_ne hlt)
      obtain ⟨m0, m1, m2⟩ := hds_cells hc hlt
      obtain ⟨n0, n1, n2⟩ := hds_cells hc2 hlt
      clear hc hc2
      generalize hx : l[k] = x at *
      clear hx
      have b0 : (x.fr == x.fr) = true := by simp
      have b1 : (x.to == x.to) = true := by simp
      have b2 : (x.val == x.val) = true := by simp
      go_wp2_with fail
      go_quiet (fail)
      go_wp2_with fail
      go_roundw
      case rel => exact ⟨k + 1, by omega, by go_num, _, rfl⟩
      case measure => simp [intOf]; omega
    · go_wp2_with fail
      go_ret
      exact ⟨rfl, below_drewN' (Below.refl _ _) _⟩

end Go.Proofs.YtmpngoejnmlmbaaGreat
