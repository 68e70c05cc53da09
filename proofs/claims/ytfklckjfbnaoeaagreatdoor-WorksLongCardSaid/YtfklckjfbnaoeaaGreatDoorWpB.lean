/-
  Which setups are valid, both sides.
-/
import Derived.Test.YtfklckjfbnaoeaaGreatDoorWpA
import Derived.Test.YtfklckjfbnaoeaaGreatDoorWaL
import Derived.Test.YtfklckjfbnaoeaaGreatDoorWaK
set_option linter.unusedSimpArgs false
set_option linter.unusedVariables false
namespace Go.Proofs.YtfklckjfbnaoeaaGreatDoor
open Go.RowKit

def lifeB (l : List Int) (m : Int) : Bool := l.all fun x => decide (0 ≤ x ∧ x ≤ m)
def shelfB (a b : Int) (l : List Int) : Bool := lifeB l 100000 && decide (1 ≤ a ∧ a ≤ 1000) && decide (1 ≤ b ∧ b ≤ 1000)
def setupB (a b : Int) (l : List Int) (s : Int) (k : List Int) : Bool := shelfB a b l && decide (1 ≤ s ∧ s ≤ 150) && lifeB k 1000
theorem life_no {l : List Int} {m : Int} {k : Nat} (hk : k < l.length) (h : ¬ (0 ≤ l.getD k 0 ∧ l.getD k 0 ≤ m)) : lifeB l m = false := by
  rw [Bool.eq_false_iff]
  intro hs
  have := List.all_eq_true.1 hs (l.getD k 0) (by rw [List.getD_eq_getElem?_getD, List.getElem?_eq_getElem hk]; exact List.getElem_mem hk)
  exact h (of_decide_eq_true this)
theorem life_yes {l : List Int} {m : Int} (h : ∀ k, k < l.length → 0 ≤ l.getD k 0 ∧ l.getD k 0 ≤ m) : lifeB l m = true := by
  refine List.all_eq_true.2 fun x hx => decide_eq_true ?_
  obtain ⟨k, hk, rfl⟩ := List.getElem_of_mem hx
  have := h k hk
  rw [List.getD_eq_getElem?_getD, List.getElem?_eq_getElem hk] at this
  exact this
theorem shelf_no (a b : Int) {l : List Int} (h : lifeB l 100000 = false) : shelfB a b l = false := by simp only [shelfB, h, Bool.false_and]
theorem setup_no (a b s : Int) (l : List Int) {k : List Int} (h : lifeB k 1000 = false) : setupB a b l s k = false := by simp only [setupB, h, Bool.and_false]

set_option maxHeartbeats 4000000 in
set_option maxRecDepth 100000 in
theorem pvalidRules_calls (a b l0 l1 l2 : Int) (w : World) :
    Calls Tryz.prog 49 #[.agg #[.int .i64 a, .int .i64 b, .int .i64 l0, .int .i64 l1, .int .i64 l2]] w fun e w' => e = .returned (.bool (shelfB a b [l0, l1, l2])) ∧ Below w.heap.size w w' := by
  have HB := hid (below_alloc w (.cells #[.int .i64 a, .int .i64 b, .int .i64 l0, .int .i64 l1, .int .i64 l2] 24))
  have HH := hid (heap_alloc_new w (.cells #[.int .i64 a, .int .i64 b, .int .i64 l0, .int .i64 l1, .int .i64 l2] 24))
  go_enter Tryz.func49, Tryz.ntmps49
  go_upto_region 1 with (fail)
  change Code.wp _ _ _ _ (w.alloc (.cells #[.int .i64 a, .int .i64 b, .int .i64 l0, .int .i64 l1, .int .i64 l2] 24))
  generalize w.alloc (.cells #[.int .i64 a, .int .i64 b, .int .i64 l0, .int .i64 l1, .int .i64 l2] 24) = W at *
  have hh := unhid HH
  have s0 := cell_of_row _ w.heap.size 0 _ _ _ hh
  have s1 := cell_of_row _ w.heap.size 1 _ _ _ hh
  have s2 := cell_of_row _ w.heap.size 2 _ _ _ hh
  have s3 := cell_of_row _ w.heap.size 3 _ _ _ hh
  have s4 := cell_of_row _ w.heap.size 4 _ _ _ hh
  simp at s0 s1 s2 s3 s4
  clear hh
  go_upto_region 2 with (fail)
  go_loopw [7] (fun iv wr => ∃ k : Nat, k ≤ 3 ∧ iv = .int .i64 k ∧ (∀ j, j < k → 0 ≤ [l0, l1, l2].getD j 0 ∧ [l0, l1, l2].getD j 0 ≤ 100000) ∧ wr = W) (fun iv _ => 3 - (intOf iv).toNat)
  case atStart => exact ⟨0, Nat.zero_le _, rfl, fun j h => absurd h (by omega), rfl⟩
  case round =>
    obtain ⟨k, hk, rfl, hall, rfl⟩ := hrel
    have HALL := hid hall
    clear hall
    by_cases hlt : k < 3
    · have hki : (k : Int) < 3 := by omega
      obtain ⟨x, hx⟩ : ∃ x, x = [l0, l1, l2].getD k 0 := ⟨_, rfl⟩
      have ix : ∀ w, (Instr.index 22 (.agg #[.int .i64 l0, .int .i64 l1, .int .i64 l2]) (.int .i64 (k : Int))).run Tryz.prog w = .ok (.int .i64 x) w := by
        subst hx
        obtain rfl | rfl | rfl : k = 0 ∨ k = 1 ∨ k = 2 := by omega
        all_goals (intro w; kernel_rfl)
      have HNO := hid (fun h : ¬ (0 ≤ x ∧ x ≤ 100000) => shelf_no a b (life_no (l := [l0, l1, l2]) (m := 100000) (k := k) (by simpa using hlt) (by rw [← hx]; exact h)))
      have HYES := hid (fun (h : 0 ≤ x ∧ x ≤ 100000) => (show 0 ≤ [l0, l1, l2].getD k 0 ∧ [l0, l1, l2].getD k 0 ≤ 100000 by rw [← hx]; exact h))
      clear hx
      by_cases c1 : 0 ≤ x ∧ x ≤ 100000
      rotate_left
      · have HN := hid ((unhid HNO) c1)
        have d1 : decide (0 ≤ x ∧ x ≤ 100000) = false := decide_eq_false c1
        clear c1
        go_wp2_with (go_at_call 88; refine (swithin_calls _ _ _ _).mono ?_; rintro e w' ⟨rfl, rfl⟩)
        go_ret
        exact ⟨retb (by rw [unhid HN]), unhid HB⟩
      have d1 : decide (0 ≤ x ∧ x ≤ 100000) = true := decide_eq_true c1
      have HS := hid ((unhid HYES) c1)
      clear c1
      go_wp2_with (go_at_call 88; refine (swithin_calls _ _ _ _).mono ?_; rintro e w' ⟨rfl, rfl⟩)
      go_roundw
      case rel => exact ⟨k + 1, by omega, by go_num, fun i hi => by
        rcases Nat.lt_succ_iff_lt_or_eq.1 hi with h | rfl
        · exact (unhid HALL) i h
        · exact unhid HS, (by first | rfl | trivial)⟩
      case measure => simp [intOf]; omega
    · obtain rfl : k = 3 := by omega
      have HL := hid (life_yes (l := [l0, l1, l2]) (m := 100000) (unhid HALL))
      by_cases q0 : 1 ≤ a ∧ a ≤ 1000
      rotate_left
      · have d0 : decide (1 ≤ a ∧ a ≤ 1000) = false := decide_eq_false q0
        have HN := hid (show shelfB a b [l0, l1, l2] = false by simp [shelfB, d0])
        clear q0
        go_wp2_with (go_at_call 88; refine (swithin_calls _ _ _ _).mono ?_; rintro e w' ⟨rfl, rfl⟩)
        go_ret
        exact ⟨retb (by rw [unhid HN]), unhid HB⟩
      have d0 : decide (1 ≤ a ∧ a ≤ 1000) = true := decide_eq_true q0
      clear q0
      have HN := hid (show shelfB a b [l0, l1, l2] = decide (1 ≤ b ∧ b ≤ 1000) by simp only [shelfB, unhid HL, d0, Bool.true_and])
      go_wp2_with (go_at_call 88; refine (swithin_calls _ _ _ _).mono ?_; rintro e w' ⟨rfl, rfl⟩)
      go_ret
      exact ⟨retb (by rw [unhid HN]; simp), unhid HB⟩

set_option maxHeartbeats 4000000 in
set_option maxRecDepth 100000 in
theorem rvalidRules_calls (a b l0 l1 l2 : Int) (w : World) :
    Calls Tryz.prog 28 #[.agg #[.int .i64 a, .int .i64 b, .int .i64 l0, .int .i64 l1, .int .i64 l2]] w fun e w' => e = .returned (.bool (shelfB a b [l0, l1, l2])) ∧ Below w.heap.size w w' := by
  have HB := hid (below_alloc w (.cells #[.int .i64 a, .int .i64 b, .int .i64 l0, .int .i64 l1, .int .i64 l2] 24))
  have HH := hid (heap_alloc_new w (.cells #[.int .i64 a, .int .i64 b, .int .i64 l0, .int .i64 l1, .int .i64 l2] 24))
  go_enter Tryz.func28, Tryz.ntmps28
  go_upto_region 1 with (fail)
  change Code.wp _ _ _ _ (w.alloc (.cells #[.int .i64 a, .int .i64 b, .int .i64 l0, .int .i64 l1, .int .i64 l2] 24))
  generalize w.alloc (.cells #[.int .i64 a, .int .i64 b, .int .i64 l0, .int .i64 l1, .int .i64 l2] 24) = W at *
  have hh := unhid HH
  have s0 := cell_of_row _ w.heap.size 0 _ _ _ hh
  have s1 := cell_of_row _ w.heap.size 1 _ _ _ hh
  have s2 := cell_of_row _ w.heap.size 2 _ _ _ hh
  have s3 := cell_of_row _ w.heap.size 3 _ _ _ hh
  have s4 := cell_of_row _ w.heap.size 4 _ _ _ hh
  simp at s0 s1 s2 s3 s4
  clear hh
  go_upto_region 2 with (fail)
  go_loopw [3] (fun iv wr => ∃ k : Nat, k ≤ 3 ∧ iv = .int .i64 k ∧ (∀ j, j < k → 0 ≤ [l0, l1, l2].getD j 0 ∧ [l0, l1, l2].getD j 0 ≤ 100000) ∧ wr = W) (fun iv _ => 3 - (intOf iv).toNat)
  case atStart => exact ⟨0, Nat.zero_le _, rfl, fun j h => absurd h (by omega), rfl⟩
  case round =>
    obtain ⟨k, hk, rfl, hall, rfl⟩ := hrel
    have HALL := hid hall
    clear hall
    by_cases hlt : k < 3
    · have hki : (k : Int) < 3 := by omega
      obtain ⟨x, hx⟩ : ∃ x, x = [l0, l1, l2].getD k 0 := ⟨_, rfl⟩
      have ix : wr.cell? ⟨w.heap.size, 2 + k, none⟩ = some (.int .i64 x) := by
        subst hx
        obtain rfl | rfl | rfl : k = 0 ∨ k = 1 ∨ k = 2 := by omega
        · exact s2
        · exact s3
        · exact s4
      have HNO := hid (fun h : ¬ (0 ≤ x ∧ x ≤ 100000) => shelf_no a b (life_no (l := [l0, l1, l2]) (m := 100000) (k := k) (by simpa using hlt) (by rw [← hx]; exact h)))
      have HYES := hid (fun (h : 0 ≤ x ∧ x ≤ 100000) => (show 0 ≤ [l0, l1, l2].getD k 0 ∧ [l0, l1, l2].getD k 0 ≤ 100000 by rw [← hx]; exact h))
      clear hx
      by_cases c1 : 0 ≤ x ∧ x ≤ 100000
      rotate_left
      · have HN := hid ((unhid HNO) c1)
        have d1 : decide (0 ≤ x ∧ x ≤ 100000) = false := decide_eq_false c1
        clear c1
        go_wp2_with (go_at_call 61; refine (sfrom_calls _ _ _ _).mono ?_; rintro e w' ⟨rfl, rfl⟩)
        go_ret
        exact ⟨retb (by rw [unhid HN]), unhid HB⟩
      have d1 : decide (0 ≤ x ∧ x ≤ 100000) = true := decide_eq_true c1
      have HS := hid ((unhid HYES) c1)
      clear c1
      go_wp2_with (go_at_call 61; refine (sfrom_calls _ _ _ _).mono ?_; rintro e w' ⟨rfl, rfl⟩)
      go_roundw
      case rel => exact ⟨k + 1, by omega, by go_num, fun i hi => by
        rcases Nat.lt_succ_iff_lt_or_eq.1 hi with h | rfl
        · exact (unhid HALL) i h
        · exact unhid HS, (by first | rfl | trivial)⟩
      case measure => simp [intOf]; omega
    · obtain rfl : k = 3 := by omega
      have HL := hid (life_yes (l := [l0, l1, l2]) (m := 100000) (unhid HALL))
      by_cases q0 : 1 ≤ a ∧ a ≤ 1000
      rotate_left
      · have d0 : decide (1 ≤ a ∧ a ≤ 1000) = false := decide_eq_false q0
        have HN := hid (show shelfB a b [l0, l1, l2] = false by simp [shelfB, d0])
        clear q0
        go_wp2_with (go_at_call 61; refine (sfrom_calls _ _ _ _).mono ?_; rintro e w' ⟨rfl, rfl⟩)
        go_ret
        exact ⟨retb (by rw [unhid HN]), unhid HB⟩
      have d0 : decide (1 ≤ a ∧ a ≤ 1000) = true := decide_eq_true q0
      clear q0
      have HN := hid (show shelfB a b [l0, l1, l2] = decide (1 ≤ b ∧ b ≤ 1000) by simp only [shelfB, unhid HL, d0, Bool.true_and])
      go_wp2_with (go_at_call 61; refine (sfrom_calls _ _ _ _).mono ?_; rintro e w' ⟨rfl, rfl⟩)
      go_ret
      exact ⟨retb (by rw [unhid HN]; simp), unhid HB⟩

set_option maxHeartbeats 1000000 in
theorem aged0_calls (k : Int) (w : World) :
    Calls Tryz.prog 91 #[.int .i64 0, .int .i64 k, .int .i64 0] w fun e w' => e = .returned (.int .i64 0) ∧ w = w' := by
  go_enter Tryz.func91, Tryz.ntmps91
  go_upto_region 2 with (fail)
  go_loopw [8, 0] (fun iv av wr => iv = .int .i64 0 ∧ av = .int .i64 0 ∧ wr = w) (fun _ _ _ => 0)
  case atStart => exact ⟨rfl, rfl, (by first | rfl | trivial)⟩
  case round =>
    obtain ⟨rfl, rfl, rfl⟩ := hrel
    go_wp2_with fail
    go_ret
    exact ⟨by simp, (by first | rfl | trivial)⟩
theorem aged_calls (k : Int) (w : World) :
    Calls Tryz.prog 50 #[.int .i64 0, .int .i64 k, .int .i64 0] w fun e w' => e = .returned (.tuple #[.int .i64 0, .int .i64 (if 0 ≤ k ∧ k ≤ 1000 then 0 else 2)]) ∧ w = w' := by
  by_cases hk : 0 ≤ k ∧ k ≤ 1000
  · rw [if_pos hk]
    have d : decide (0 ≤ k ∧ k ≤ 1000) = true := decide_eq_true hk
    clear hk
    go_enter Tryz.func50, Tryz.ntmps50
    go_wp2_with first | (go_at_call 89; refine (lwithin_calls _ _ _ _).mono ?_; rintro e w' ⟨rfl, rfl⟩) | (go_at_call 90; refine (ageable_calls _ _).mono ?_; rintro e w' ⟨rfl, rfl⟩) | (go_at_call 91; refine (aged0_calls _ _).mono ?_; rintro e w' ⟨rfl, rfl⟩)
    go_ret2
    exact ⟨rfl, (by first | rfl | trivial)⟩
  · rw [if_neg hk]
    have d : decide (0 ≤ k ∧ k ≤ 1000) = false := decide_eq_false hk
    clear hk
    go_enter Tryz.func50, Tryz.ntmps50
    go_wp2_with first | (go_at_call 89; refine (lwithin_calls _ _ _ _).mono ?_; rintro e w' ⟨rfl, rfl⟩) | (go_at_call 90; refine (ageable_calls _ _).mono ?_; rintro e w' ⟨rfl, rfl⟩)
    go_ret2
    exact ⟨rfl, (by first | rfl | trivial)⟩

set_option maxHeartbeats 4000000 in
set_option maxRecDepth 100000 in
theorem validSetup_calls (a b l0 l1 l2 s k0 k1 k2 k3 : Int) (w : World) :
    Calls Tryz.prog 22 #[.agg #[.int .i64 a, .int .i64 b, .int .i64 l0, .int .i64 l1, .int .i64 l2, .int .i64 s, .int .i64 k0, .int .i64 k1, .int .i64 k2, .int .i64 k3]] w fun e w' => e = .returned (.bool (setupB a b [l0, l1, l2] s [k0, k1, k2, k3])) ∧ Below w.heap.size w w' := by
  have HB := hid (below_alloc w (.cells #[.int .i64 a, .int .i64 b, .int .i64 l0, .int .i64 l1, .int .i64 l2, .int .i64 s, .int .i64 k0, .int .i64 k1, .int .i64 k2, .int .i64 k3] 29))
  have HH := hid (heap_alloc_new w (.cells #[.int .i64 a, .int .i64 b, .int .i64 l0, .int .i64 l1, .int .i64 l2, .int .i64 s, .int .i64 k0, .int .i64 k1, .int .i64 k2, .int .i64 k3] 29))
  go_enter Tryz.func22, Tryz.ntmps22
  go_upto_region 1 with (fail)
  change Code.wp _ _ _ _ (w.alloc (.cells #[.int .i64 a, .int .i64 b, .int .i64 l0, .int .i64 l1, .int .i64 l2, .int .i64 s, .int .i64 k0, .int .i64 k1, .int .i64 k2, .int .i64 k3] 29))
  generalize w.alloc (.cells #[.int .i64 a, .int .i64 b, .int .i64 l0, .int .i64 l1, .int .i64 l2, .int .i64 s, .int .i64 k0, .int .i64 k1, .int .i64 k2, .int .i64 k3] 29) = W at *
  have hh := unhid HH
  have s0 := cell_of_row _ w.heap.size 0 _ _ _ hh
  have s1 := cell_of_row _ w.heap.size 1 _ _ _ hh
  have s2 := cell_of_row _ w.heap.size 2 _ _ _ hh
  have s3 := cell_of_row _ w.heap.size 3 _ _ _ hh
  have s4 := cell_of_row _ w.heap.size 4 _ _ _ hh
  have s5 := cell_of_row _ w.heap.size 5 _ _ _ hh
  have s6 := cell_of_row _ w.heap.size 6 _ _ _ hh
  have s7 := cell_of_row _ w.heap.size 7 _ _ _ hh
  have s8 := cell_of_row _ w.heap.size 8 _ _ _ hh
  have s9 := cell_of_row _ w.heap.size 9 _ _ _ hh
  simp at s0 s1 s2 s3 s4 s5 s6 s7 s8 s9
  obtain ⟨sv, hsv⟩ : ∃ x, x = shelfB a b [l0, l1, l2] := ⟨_, rfl⟩
  obtain ⟨tv, htv⟩ : ∃ x, x = decide (1 ≤ s ∧ s ≤ 150) := ⟨_, rfl⟩
  have HV := hid (fun w => pvalidRules_calls a b l0 l1 l2 w)
  have HT := hid (fun w => wwithin_calls 1 s 150 w)
  have HE := hid (show setupB a b [l0, l1, l2] s [k0, k1, k2, k3] = (sv && tv && lifeB [k0, k1, k2, k3] 1000) by rw [hsv, htv]; rfl)
  have hl := (Array.getElem?_eq_some_iff.1 hh).1
  rw [← hsv] at HV
  rw [← htv] at HT
  clear hsv htv hh
  cases sv with
  | false =>
    have HN := hid (show setupB a b [l0, l1, l2] s [k0, k1, k2, k3] = false by rw [unhid HE]; rfl)
    clear HE
    go_wp2_with fail
    refine ((unhid HV) _).mono ?_
    rintro e wq2 ⟨rfl, hbq⟩
    have f5 := (hbq.cell (p := ⟨w.heap.size, 5, none⟩) hl).trans s5
    have HB := hid ((unhid HB).trans (hbq.mono (unhid HB).size))
    clear hbq
    go_wp2_with fail
    go_ret
    exact ⟨retb (by rw [unhid HN]), unhid HB⟩
  | true =>
    cases tv with
    | false =>
      have HN := hid (show setupB a b [l0, l1, l2] s [k0, k1, k2, k3] = false by rw [unhid HE]; rfl)
      clear HE
      go_wp2_with fail
      refine ((unhid HV) _).mono ?_
      rintro e wq2 ⟨rfl, hbq⟩
      have f5 := (hbq.cell (p := ⟨w.heap.size, 5, none⟩) hl).trans s5
      have HB := hid ((unhid HB).trans (hbq.mono (unhid HB).size))
      clear hbq
      go_wp2_with (go_at_call 31; refine ((unhid HT) _).mono ?_; rintro e w' ⟨rfl, rfl⟩)
      go_ret
      exact ⟨retb (by rw [unhid HN]), unhid HB⟩
    | true =>
      have HN := hid (show setupB a b [l0, l1, l2] s [k0, k1, k2, k3] = lifeB [k0, k1, k2, k3] 1000 by rw [unhid HE]; rfl)
      clear HE
      go_wp2_with fail
      refine ((unhid HV) _).mono ?_
      rintro e wq2 ⟨rfl, hbq⟩
      have f5 := (hbq.cell (p := ⟨w.heap.size, 5, none⟩) hl).trans s5
      have HB := hid ((unhid HB).trans (hbq.mono (unhid HB).size))
      have hh := (hbq.block _ (Array.getElem?_eq_some_iff.1 (unhid HH)).1).trans (unhid HH)
      clear hbq s0 s1 s2 s3 s4 s5 s6 s7 s8 s9
      have s6 := cell_of_row _ w.heap.size 6 _ _ _ hh
      have s7 := cell_of_row _ w.heap.size 7 _ _ _ hh
      have s8 := cell_of_row _ w.heap.size 8 _ _ _ hh
      have s9 := cell_of_row _ w.heap.size 9 _ _ _ hh
      simp at s6 s7 s8 s9
      clear hh HH
      go_upto_region 4 with (go_at_call 31; refine ((unhid HT) _).mono ?_; rintro e w' ⟨rfl, rfl⟩)
      go_loopw [20] (fun iv wr => ∃ k : Nat, k ≤ 4 ∧ iv = .int .i64 k ∧ (∀ j, j < k → 0 ≤ [k0, k1, k2, k3].getD j 0 ∧ [k0, k1, k2, k3].getD j 0 ≤ 1000) ∧ wr = wq2) (fun iv _ => 4 - (intOf iv).toNat)
      case atStart => exact ⟨0, Nat.zero_le _, rfl, fun j h => absurd h (by omega), rfl⟩
      case round =>
        obtain ⟨k, hk, rfl, hall, rfl⟩ := hrel
        have HALL := hid hall
        clear hall
        by_cases hlt : k < 4
        · have hki : (k : Int) < 4 := by omega
          obtain ⟨x, hx⟩ : ∃ x, x = [k0, k1, k2, k3].getD k 0 := ⟨_, rfl⟩
          have ix : ∀ w, (Instr.index 25 (.agg #[.int .i64 k0, .int .i64 k1, .int .i64 k2, .int .i64 k3]) (.int .i64 (k : Int))).run Tryz.prog w = .ok (.int .i64 x) w := by
            subst hx
            obtain rfl | rfl | rfl | rfl : k = 0 ∨ k = 1 ∨ k = 2 ∨ k = 3 := by omega
            all_goals (intro w; kernel_rfl)
          have HNO := hid (fun h : ¬ (0 ≤ x ∧ x ≤ 1000) => setup_no a b s [l0, l1, l2] (life_no (l := [k0, k1, k2, k3]) (m := 1000) (k := k) (by simpa using hlt) (by rw [← hx]; exact h)))
          have HYES := hid (fun (h : 0 ≤ x ∧ x ≤ 1000) => (show 0 ≤ [k0, k1, k2, k3].getD k 0 ∧ [k0, k1, k2, k3].getD k 0 ≤ 1000 by rw [← hx]; exact h))
          have HA := hid (fun w => aged_calls x w)
          clear hx
          by_cases c1 : 0 ≤ x ∧ x ≤ 1000
          rotate_left
          · have HN := hid ((unhid HNO) c1)
            rw [if_neg c1] at HA
            clear c1
            go_wp2_with (go_at_call 50; refine ((unhid HA) _).mono ?_; rintro e w' ⟨rfl, rfl⟩)
            go_ret
            exact ⟨retb (by rw [unhid HN]), unhid HB⟩
          have HS := hid ((unhid HYES) c1)
          rw [if_pos c1] at HA
          clear c1
          go_wp2_with (go_at_call 50; refine ((unhid HA) _).mono ?_; rintro e w' ⟨rfl, rfl⟩)
          go_roundw
          case rel => exact ⟨k + 1, by omega, by go_num, fun i hi => by
            rcases Nat.lt_succ_iff_lt_or_eq.1 hi with h | rfl
            · exact (unhid HALL) i h
            · exact unhid HS, (by first | rfl | trivial)⟩
          case measure => simp [intOf]; omega
        · obtain rfl : k = 4 := by omega
          have HN := hid ((unhid HN).trans (life_yes (l := [k0, k1, k2, k3]) (m := 1000) (unhid HALL)))
          go_wp2_with fail
          go_ret
          exact ⟨retb (by rw [unhid HN]), unhid HB⟩

set_option maxHeartbeats 4000000 in
set_option maxRecDepth 100000 in
theorem rvalidSetup_calls (a b l0 l1 l2 s k0 k1 k2 k3 : Int) (w : World) :
    Calls Tryz.prog 8 #[.agg #[.int .i64 a, .int .i64 b, .int .i64 l0, .int .i64 l1, .int .i64 l2, .int .i64 s, .int .i64 k0, .int .i64 k1, .int .i64 k2, .int .i64 k3]] w fun e w' => e = .returned (.bool (setupB a b [l0, l1, l2] s [k0, k1, k2, k3])) ∧ Below w.heap.size w w' := by
  have HB := hid (below_alloc w (.cells #[.int .i64 a, .int .i64 b, .int .i64 l0, .int .i64 l1, .int .i64 l2, .int .i64 s, .int .i64 k0, .int .i64 k1, .int .i64 k2, .int .i64 k3] 29))
  have HH := hid (heap_alloc_new w (.cells #[.int .i64 a, .int .i64 b, .int .i64 l0, .int .i64 l1, .int .i64 l2, .int .i64 s, .int .i64 k0, .int .i64 k1, .int .i64 k2, .int .i64 k3] 29))
  go_enter Tryz.func8, Tryz.ntmps8
  go_upto_region 1 with (fail)
  change Code.wp _ _ _ _ (w.alloc (.cells #[.int .i64 a, .int .i64 b, .int .i64 l0, .int .i64 l1, .int .i64 l2, .int .i64 s, .int .i64 k0, .int .i64 k1, .int .i64 k2, .int .i64 k3] 29))
  generalize w.alloc (.cells #[.int .i64 a, .int .i64 b, .int .i64 l0, .int .i64 l1, .int .i64 l2, .int .i64 s, .int .i64 k0, .int .i64 k1, .int .i64 k2, .int .i64 k3] 29) = W at *
  have hh := unhid HH
  have s0 := cell_of_row _ w.heap.size 0 _ _ _ hh
  have s1 := cell_of_row _ w.heap.size 1 _ _ _ hh
  have s2 := cell_of_row _ w.heap.size 2 _ _ _ hh
  have s3 := cell_of_row _ w.heap.size 3 _ _ _ hh
  have s4 := cell_of_row _ w.heap.size 4 _ _ _ hh
  have s5 := cell_of_row _ w.heap.size 5 _ _ _ hh
  have s6 := cell_of_row _ w.heap.size 6 _ _ _ hh
  have s7 := cell_of_row _ w.heap.size 7 _ _ _ hh
  have s8 := cell_of_row _ w.heap.size 8 _ _ _ hh
  have s9 := cell_of_row _ w.heap.size 9 _ _ _ hh
  simp at s0 s1 s2 s3 s4 s5 s6 s7 s8 s9
  have hl := (Array.getElem?_eq_some_iff.1 hh).1
  have HV := hid (rvalidRules_calls a b l0 l1 l2)
  have HE := hid (fun (h : lifeB [k0, k1, k2, k3] 1000 = true) => (show setupB a b [l0, l1, l2] s [k0, k1, k2, k3] = (shelfB a b [l0, l1, l2] && decide (1 ≤ s ∧ s ≤ 150)) by simp only [setupB, h, Bool.and_true]))
  clear hh HH
  go_upto_region 2 with (fail)
  go_loopw [3] (fun iv wr => ∃ k : Nat, k ≤ 4 ∧ iv = .int .i64 k ∧ (∀ j, j < k → 0 ≤ [k0, k1, k2, k3].getD j 0 ∧ [k0, k1, k2, k3].getD j 0 ≤ 1000) ∧ wr = W) (fun iv _ => 4 - (intOf iv).toNat)
  case atStart => exact ⟨0, Nat.zero_le _, rfl, fun j h => absurd h (by omega), rfl⟩
  case round =>
    obtain ⟨k, hk, rfl, hall, rfl⟩ := hrel
    have HALL := hid hall
    clear hall
    by_cases hlt : k < 4
    · have hki : (k : Int) < 4 := by omega
      obtain ⟨x, hx⟩ : ∃ x, x = [k0, k1, k2, k3].getD k 0 := ⟨_, rfl⟩
      have ix : wr.cell? ⟨w.heap.size, 6 + k, none⟩ = some (.int .i64 x) := by
        subst hx
        obtain rfl | rfl | rfl | rfl : k = 0 ∨ k = 1 ∨ k = 2 ∨ k = 3 := by omega
        · exact s6
        · exact s7
        · exact s8
        · exact s9
      have HNO := hid (fun h : ¬ (0 ≤ x ∧ x ≤ 1000) => setup_no a b s [l0, l1, l2] (life_no (l := [k0, k1, k2, k3]) (m := 1000) (k := k) (by simpa using hlt) (by rw [← hx]; exact h)))
      have HYES := hid (fun (h : 0 ≤ x ∧ x ≤ 1000) => (show 0 ≤ [k0, k1, k2, k3].getD k 0 ∧ [k0, k1, k2, k3].getD k 0 ≤ 1000 by rw [← hx]; exact h))
      clear hx
      by_cases c1 : 0 ≤ x ∧ x ≤ 1000
      rotate_left
      · have HN := hid ((unhid HNO) c1)
        have d1 : decide (0 ≤ x ∧ x ≤ 1000) = false := decide_eq_false c1
        clear c1
        go_wp2_with (go_at_call 27; refine (wfrom_calls _ _ _ _).mono ?_; rintro e w' ⟨rfl, rfl⟩)
        go_ret
        exact ⟨retb (by rw [unhid HN]), unhid HB⟩
      have d1 : decide (0 ≤ x ∧ x ≤ 1000) = true := decide_eq_true c1
      have HS := hid ((unhid HYES) c1)
      clear c1
      go_wp2_with (go_at_call 27; refine (wfrom_calls _ _ _ _).mono ?_; rintro e w' ⟨rfl, rfl⟩)
      go_roundw
      case rel => exact ⟨k + 1, by omega, by go_num, fun i hi => by
        rcases Nat.lt_succ_iff_lt_or_eq.1 hi with h | rfl
        · exact (unhid HALL) i h
        · exact unhid HS, (by first | rfl | trivial)⟩
      case measure => simp [intOf]; omega
    · obtain rfl : k = 4 := by omega
      have HN := hid ((unhid HE) (life_yes (l := [k0, k1, k2, k3]) (m := 1000) (unhid HALL)))
      obtain ⟨sv, hsv⟩ : ∃ x, x = shelfB a b [l0, l1, l2] := ⟨_, rfl⟩
      rw [← hsv] at HN HV
      clear hsv HE
      cases sv with
      | false =>
        go_wp2_with fail
        refine ((unhid HV) _).mono ?_
        rintro e wq2 ⟨rfl, hbq⟩
        have HB := hid ((unhid HB).trans (hbq.mono (unhid HB).size))
        clear hbq
        go_wp2_with fail
        go_ret
        exact ⟨retb (by rw [unhid HN]; rfl), unhid HB⟩
      | true =>
        go_wp2_with fail
        refine ((unhid HV) _).mono ?_
        rintro e wq2 ⟨rfl, hbq⟩
        have f5 := (hbq.cell (p := ⟨w.heap.size, 5, none⟩) hl).trans s5
        have HB := hid ((unhid HB).trans (hbq.mono (unhid HB).size))
        clear hbq s0 s1 s2 s3 s4 s5 s6 s7 s8 s9
        go_wp2_with (go_at_call 27; refine (wfrom_calls _ _ _ _).mono ?_; rintro e w' ⟨rfl, rfl⟩)
        go_ret
        exact ⟨retb (by rw [unhid HN]; simp), unhid HB⟩

end Go.Proofs.YtfklckjfbnaoeaaGreatDoor
