/-
  The law's first example.
-/
import Derived.Test.YtmpngoejnmlmbaaGreatHeld2
set_option linter.unusedSimpArgs false
set_option linter.unusedVariables false
namespace Go.Proofs.YtmpngoejnmlmbaaGreat
open Go.RowKit

def sg1 : Sg := { num := 1, kind := 1, val := 70, chain := 200, dir := 1, rank := 1, up := 0, down := 9, cA := none, cov := [], cc := 0 }
def fV (k : Nat) : Int := if k ≤ 200 then 0 else if k ≤ 600 then 70 else 0
def fN (k : Nat) : Nat := if k ≤ 200 then 0 else if k ≤ 600 then 1 else 2
theorem first_events : eventsP 1000 [600] [⟨sg1, 200⟩] 1 1 = [(200, 70), (600, 0)] := by decide +kernel
theorem first_adv (k : Nat) : advP (List.drop (fN k) [(200, 70), (600, 0)]) (fV k) (fN k) k = (fV (k + 1), fN (k + 1)) := by
  rcases (show k < 200 ∨ k = 200 ∨ (200 < k ∧ k < 600) ∨ k = 600 ∨ 600 < k by omega) with h | rfl | ⟨h, h2⟩ | rfl | h
  · have e1 : fN k = 0 := if_pos (by omega)
    have e2 : fV k = 0 := if_pos (by omega)
    have e3 : fN (k + 1) = 0 := if_pos (by omega)
    have e4 : fV (k + 1) = 0 := if_pos (by omega)
    rw [e1, e2, e3, e4, List.drop_zero, advP, if_neg (by dsimp only; omega)]
  · decide
  · have e1 : fN k = 1 := by unfold fN; rw [if_neg (by omega), if_pos (by omega)]
    have e2 : fV k = 70 := by unfold fV; rw [if_neg (by omega), if_pos (by omega)]
    have e3 : fN (k + 1) = 1 := by unfold fN; rw [if_neg (by omega), if_pos (by omega)]
    have e4 : fV (k + 1) = 70 := by unfold fV; rw [if_neg (by omega), if_pos (by omega)]
    rw [e1, e2, e3, e4, List.drop_succ_cons, List.drop_zero, advP, if_neg (by dsimp only; omega)]
  · decide
  · have e1 : fN k = 2 := by unfold fN; rw [if_neg (by omega), if_neg (by omega)]
    have e2 : fV k = 0 := by unfold fV; rw [if_neg (by omega), if_neg (by omega)]
    have e3 : fN (k + 1) = 2 := by unfold fN; rw [if_neg (by omega), if_neg (by omega)]
    have e4 : fV (k + 1) = 0 := by unfold fV; rw [if_neg (by omega), if_neg (by omega)]
    rw [e1, e2, e3, e4]; rfl
theorem first_run (k : Nat) (hk : k ≤ 1000) : stRun [(200, 70), (600, 0)] 1000 1 k = ((fV k, fN k), (List.range k).map (fun m => fV (m + 1)) ++ List.replicate (1000 - k) 0) := by
  induction k with
  | zero => simp only [stRun, List.range_zero, List.foldl_nil, List.map_nil, List.nil_append]; rfl
  | succ k ih =>
    rw [stRun_succ, ih (by omega), stStep]
    dsimp only
    rw [first_adv]
    congr 1
    rw [show (metreI ((1000 : Nat) : Int) 1 (k : Int)).toNat = k by simp [metreI], List.range_succ, List.map_append, List.set_append_right _ _ (by simp), show 1000 - k = (1000 - (k + 1)) + 1 by omega, List.replicate_succ]
    simp
theorem first_strip : stripP [(200, 70), (600, 0)] 1000 1 = (List.range 1000).map (fun m => fV (m + 1)) := by
  rw [stripP, first_run 1000 (by omega)]; simp
theorem first_held (k : Nat) (hk : k ≤ 1000) : hdRun ((List.range 1000).map (fun m => fV (m + 1))) k = if k ≤ 200 then [] else if k ≤ 600 then [⟨200, k, 70⟩] else [⟨200, 600, 70⟩] := by
  induction k with
  | zero => simp [hdRun]
  | succ k ih =>
    rw [hdRun_succ _ _ (by simp; omega), ih (by omega)]
    rw [show ((List.range 1000).map (fun m => fV (m + 1)))[k]'(by simp; omega) = fV (k + 1) by simp]
    rcases (show k < 200 ∨ k = 200 ∨ (200 < k ∧ k < 600) ∨ k = 600 ∨ 600 < k by omega) with h | rfl | ⟨h, h2⟩ | rfl | h
    · rw [if_pos (by omega), if_pos (by omega), show fV (k + 1) = 0 from if_pos (by omega)]; simp [hdStep]
    · simp [hdStep, fV]
    · rw [if_neg (by omega), if_pos (by omega), if_neg (by omega), if_pos (by omega), show fV (k + 1) = 70 by unfold fV; rw [if_neg (by omega), if_pos (by omega)]]
      simp [hdStep]
    · simp [hdStep, fV]
    · rw [if_neg (by omega), if_neg (by omega), if_neg (by omega), if_neg (by omega), show fV (k + 1) = 0 by unfold fV; rw [if_neg (by omega), if_neg (by omega)]]
      simp [hdStep]
theorem first_pure : heldP (stripP (eventsP 1000 [600] [⟨sg1, 200⟩] 1 1) 1000 1) = [⟨200, 600, 70⟩] := by
  rw [first_events, first_strip, heldP]
  simp only [List.length_map, List.length_range]
  rw [first_held 1000 (by omega)]
  simp
theorem first_row {R : List Mt} (h : IsRow 1000 3 1 [sg1] R) : R = [⟨sg1, 200⟩] := by
  have : selP 1000 3 1 [sg1] = [⟨sg1, 200⟩] := by simp [selP, sg1, spkB, distI]
  have hp := h.perm
  rw [this] at hp
  exact List.perm_singleton.1 hp
theorem first_asked : askedE 1000 [600] [sg1] 3 1 1 = 0 := by
  have hl : lineB 1000 [600] = true := lineB_iff.2 ⟨by omega, by omega, by simp, fun k hk => by
    simp at hk; subst hk; simp [lineOk]⟩
  have hs : sgsB 1000 [600] [sg1] = true := by simp [sgsB, hl, signOk, sg1, valuedB, dirB, hoursB]
  simp [askedE, hl, hs, dirB]

theorem rdNew1 (w : World) (cs : List Value) (t : TypeId) : Rd (w.alloc (.cells cs.toArray t)) (some ⟨w.heap.size, 0, none⟩) cs := fun _ =>
  ⟨w.heap.size, 0, rfl, by simp, fun j u hu => by rw [Nat.zero_add, cell_of_row _ _ j _ _ _ (heap_alloc_new w (.cells cs.toArray t))]; simpa using hu⟩

set_option maxHeartbeats 1000000 in
set_option maxRecDepth 100000 in
theorem first_calls (w : World) : Calls Tryz.prog 10 #[] w fun e w' => e = .returned (.bool true) ∧ Below w.heap.size w w' := by
  go_enter Tryz.func10, Tryz.ntmps10
  go_wp2_with fail
  have hL : LnOk (((w.alloc (.cells #[.int .i64 600] 3)).alloc (.cells #[.int .i64 1000, .slice (some ⟨w.heap.size, 0, none⟩) 1 1] 24)).alloc (.cells #[.int .i64 1, .int .i64 1, .int .i64 70, .int .i64 200, .int .i64 1, .int .i64 1, .int .i64 0, .int .i64 9, .slice none 0 0] 80)) (some ⟨w.heap.size, 0, none⟩) [600] :=
    ⟨by simp, ((rdNew1 w [.int .i64 600] 3).alloc _).alloc _⟩
  have hS : SgsOk (((w.alloc (.cells #[.int .i64 600] 3)).alloc (.cells #[.int .i64 1000, .slice (some ⟨w.heap.size, 0, none⟩) 1 1] 24)).alloc (.cells #[.int .i64 1, .int .i64 1, .int .i64 70, .int .i64 200, .int .i64 1, .int .i64 1, .int .i64 0, .int .i64 9, .slice none 0 0] 80)) (some ⟨w.heap.size + 2, 0, none⟩) [sg1] :=
    ⟨by simp, by
      have h := rdNew1 ((w.alloc (.cells #[.int .i64 600] 3)).alloc (.cells #[.int .i64 1000, .slice (some ⟨w.heap.size, 0, none⟩) 1 1] 24)) (signs [sg1]) 80
      simpa [signs, sgC, sg1] using h, fun s hs => by
      simp only [List.mem_singleton] at hs; subst hs
      exact ⟨by simp [sg1], Rd.nil _ _, by simp [sg1, I64]⟩⟩
  have hbw : Below w.heap.size w (((w.alloc (.cells #[.int .i64 600] 3)).alloc (.cells #[.int .i64 1000, .slice (some ⟨w.heap.size, 0, none⟩) 1 1] 24)).alloc (.cells #[.int .i64 1, .int .i64 1, .int .i64 70, .int .i64 200, .int .i64 1, .int .i64 1, .int .i64 0, .int .i64 9, .slice none 0 0] 80)) := below_alloc' (below_alloc' (below_alloc _ _) _) _
  refine (heldOf_calls 1000 (some ⟨w.heap.size, 0, none⟩) [600] 1 (some ⟨w.heap.size + 2, 0, none⟩) [sg1] 1 3 1 1 _ hL hS).mono ?_
  rintro e w1 ⟨A', c', H, rfl, h1, -, hrd, hH, hb1⟩
  obtain ⟨R, hR, hH2⟩ := h1 first_asked
  rw [first_row hR, show (1000 : Int).toNat = 1000 from rfl, first_pure] at hH2
  subst hH2
  have hb2 : Below w.heap.size w w1 := hbw.trans (hb1.mono hbw.size)
  obtain ⟨b, off, rfl, hb, hc⟩ := hrd (by simp [hds, hdC])
  have e0 : w1.cell? ⟨b, off, none⟩ = some (.int .i64 200) := hc 0 _ rfl
  have e1 : w1.cell? ⟨b, off + 1, none⟩ = some (.int .i64 600) := hc 1 _ rfl
  have e2 : w1.cell? ⟨b, off + 2, none⟩ = some (.int .i64 70) := hc 2 _ rfl
  rw [first_asked]
  clear hc hrd h1 hL hS hb1 hbw hR
  go_wp2_with fail
  all_goals (go_ret; exact ⟨rfl, hb2⟩)

end Go.Proofs.YtmpngoejnmlmbaaGreat
