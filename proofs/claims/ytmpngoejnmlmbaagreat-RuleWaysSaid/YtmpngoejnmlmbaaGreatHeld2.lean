/-
  What holds on a line: rule.Held.
-/
import Derived.Test.YtmpngoejnmlmbaaGreatHeld
set_option linter.unusedSimpArgs false
set_option linter.unusedVariables false
namespace Go.Proofs.YtmpngoejnmlmbaaGreat
open Go.RowKit

theorem lineB_mem {len : Int} {js : List Int} (h : lineB len js = true) : ∀ j ∈ js, 0 ≤ j ∧ j ≤ len := by
  intro j hj
  obtain ⟨k, hk, rfl⟩ := List.getElem_of_mem hj
  obtain ⟨-, -, -, h4⟩ := lineB_iff.1 h
  have := h4 k hk
  unfold lineOk at this
  rw [show js.getD k 0 = js[k] by simp [List.getD, hk]] at this
  omega
theorem sgsB_bounds {len : Int} {js : List Int} {l : List Sg} (h : sgsB len js l = true) : ∀ s ∈ l, (0 ≤ s.chain ∧ s.chain ≤ len) ∧ 0 ≤ s.val ∧ s.val ≤ 100000 := by
  intro s hs
  simp only [sgsB, Bool.and_eq_true, List.all_eq_true] at h
  obtain ⟨-, h2, h3, -⟩ := signOk_iff.1 (h.1.2 s hs)
  refine ⟨h3, ?_⟩
  simp only [rvaluedB, valuedB, Bool.and_eq_true, decide_eq_true_eq] at h2
  have h2 := h2.2
  split at h2
  · simp at h2; omega
  · split at h2
    · simp at h2; omega
    · split at h2 <;> simp at h2 <;> omega
theorem heldP_len (s : List Int) : (heldP s).length ≤ s.length := hdRun_len s _
theorem stripP_len (ev : List (Int × Int)) (n : Nat) (dir : Int) : (stripP ev n dir).length = n := stRun_len ev n dir n

def HeldPost (len : Int) (js : List Int) (l : List Sg) (hour dir topic : Int) (w : World) (e : Ending) (w' : World) : Prop :=
  ∃ (A' : Option Addr) (c' : Nat) (H : List Hd), e = .returned (.tuple #[.slice A' H.length c', .int .i64 (askedE len js l hour dir topic)]) ∧
    (askedE len js l hour dir topic = 0 → ∃ R, IsRow len hour dir l R ∧ H = heldP (stripP (eventsP len js R dir topic) len.toNat dir)) ∧ (askedE len js l hour dir topic ≠ 0 → H = []) ∧ Rd w' A' (hds H) ∧ H.length ≤ 100000 ∧ Below w.heap.size w w'

set_option maxHeartbeats 1000000 in
theorem heldOf_calls (len : Int) (A : Option Addr) (js : List Int) (c : Nat) (A2 : Option Addr) (l : List Sg) (c2 : Nat) (hour dir topic : Int) (w : World) (hl : LnOk w A js) (hs : SgsOk w A2 l) :
    Calls Tryz.prog 11 #[.agg #[.int .i64 len, .slice A js.length c], .slice A2 l.length c2, .int .i64 hour, .int .i64 dir, .int .i64 topic] w (HeldPost len js l hour dir topic w) := by
  have HL := hid hl
  have HS := hid hs
  clear hl hs
  go_enter Tryz.func11, Tryz.ntmps11
  go_wp2_with fail
  refine (asked_calls len A js c A2 l c2 hour dir topic _ ((unhid HL).below (below_alloc _ _)) ((unhid HS).below (below_alloc _ _))).mono ?_
  rintro e w1 ⟨rfl, hb1⟩
  have d0 := hb1.cell (p := ⟨w.heap.size, 0, none⟩) (by simp)
  have d1 := hb1.cell (p := ⟨w.heap.size, 1, none⟩) (by simp)
  simp [go_sem] at d0 d1
  have hbw1 : Below w.heap.size w w1 := (below_alloc w _).trans (hb1.mono (by simp))
  clear hb1
  generalize he : askedE len js l hour dir topic = er
  by_cases h0 : er = 0
  · subst h0
    have hv := askedE_zero he
    have HE := hid he
    clear he
    obtain ⟨n, rfl⟩ := Int.eq_ofNat_of_zero_le (show 0 ≤ len by have := (lineB_len hv.1).1; omega)
    have hn := (lineB_len hv.1).2
    have HJ := hid (lineB_mem hv.1)
    have HB := hid (sgsB_bounds hv.2.1)
    have hl100 := sgsB_len hv.2.1
    clear hv
    go_wp2_with fail
    refine (stripOf_calls n A js c A2 l c2 hour dir topic _ ((unhid HL).below hbw1) (unhid HJ) hn ((unhid HS).below hbw1) (Nat.le_trans hl100 (by omega)) (unhid HB)).mono ?_
    rintro e w2 ⟨A', R, hrow, rfl, hrd, hb2, -⟩
    have hbw2 : Below w.heap.size w w2 := hbw1.trans (hb2.mono hbw1.size)
    have HR := hid hrow
    clear hrow
    have hst := stripP_len (eventsP n js R dir topic) n dir
    generalize hs : stripP (eventsP n js R dir topic) n dir = s at *
    have HST := hid hs
    clear hs
    go_wp2_with fail
    refine (show Calls Tryz.prog 41 #[.slice A' n n] _ _ by rw [← hst]; exact held_calls A' s _ _ hrd (by omega)).mono ?_
    rintro e w3 ⟨A3, c3, rfl, hrd3, hb3⟩
    go_wp2_with fail
    go_ret2
    exact ⟨A3, c3, heldP s, by rw [unhid HE]; rfl, fun _ => ⟨R, unhid HR, by rw [← unhid HST]; rfl⟩, fun h => absurd (unhid HE) h, hrd3, by have := heldP_len s; omega, hbw2.trans (hb3.mono hbw2.size)⟩
  · have h0' : (er != 0) = true := by simpa using h0
    have HE := hid he
    have H0 := hid h0
    clear he h0
    go_wp2_with fail
    go_ret2
    exact ⟨none, 0, [], by rw [unhid HE]; rfl, fun h => absurd ((unhid HE).symm.trans h) (unhid H0), fun _ => rfl, Rd.nil _ _, by simp, hbw1⟩

end Go.Proofs.YtmpngoejnmlmbaaGreat
