/-
  The errors of asks: package rule's asked, the law's why; sameInts.
-/
import Derived.Test.YtmpngoejnmlmbaaGreatRowOf
import Derived.Test.YtmpngoejnmlmbaaGreatEdictr
set_option linter.unusedSimpArgs false
set_option linter.unusedVariables false
namespace Go.Proofs.YtmpngoejnmlmbaaGreat
open Go.RowKit

/-- The error of a line, signs, an hour, a direction and a topic. -/
noncomputable def askedE (len : Int) (js : List Int) (l : List Sg) (hour dir topic : Int) : Int :=
  if lineB len js = false then 70 else if sgsB len js l = false then 71 else if (decide (0 ≤ hour ∧ hour ≤ 10000000) && dirB dir && decide (1 ≤ topic ∧ topic ≤ 2)) = false then 2 else 0

set_option maxHeartbeats 1000000 in
theorem asked_calls (len : Int) (A : Option Addr) (js : List Int) (c : Nat) (A2 : Option Addr) (l : List Sg) (c2 : Nat) (hour dir topic : Int) (w : World) (hl : LnOk w A js) (hs : SgsOk w A2 l) :
    Calls Tryz.prog 39 #[.agg #[.int .i64 len, .slice A js.length c], .slice A2 l.length c2, .int .i64 hour, .int .i64 dir, .int .i64 topic] w fun e w' =>
      e = .returned (.int .i64 (askedE len js l hour dir topic)) ∧ Below w.heap.size w w' := by
  have HL := hid hl
  have HS := hid hs
  have hln := hl.n
  clear hl hs
  go_enter Tryz.func39, Tryz.ntmps39
  go_wp2_with fail
  refine (validLine_calls len A js c _ hln ((unhid HL).rd.below (below_alloc _ _))).mono ?_
  rintro e w1 ⟨rfl, hb1⟩
  have d0 := hb1.cell (p := ⟨w.heap.size, 0, none⟩) (by simp)
  have d1 := hb1.cell (p := ⟨w.heap.size, 1, none⟩) (by simp)
  simp [go_sem] at d0 d1
  have hbw1 : Below w.heap.size w w1 := (below_alloc w _).trans (hb1.mono (by simp))
  clear hb1
  cases h1 : lineB len js with
  | false =>
    have H1 := hid h1
    clear h1
    go_wp2_with fail
    go_ret
    exact ⟨reti (by rw [askedE, if_pos (unhid H1)]), hbw1⟩
  | true =>
    have H1 := hid h1
    clear h1
    go_wp2_with fail
    refine (validSigns_calls len A js c A2 l c2 _ ((unhid HL).below hbw1) ((unhid HS).below hbw1)).mono ?_
    rintro e w2 ⟨rfl, hb2⟩
    have hbw2 : Below w.heap.size w w2 := hbw1.trans (hb2.mono hbw1.size)
    clear hb2
    cases h2 : sgsB len js l with
    | false =>
      have H2 := hid h2
      clear h2
      go_wp2_with fail
      go_ret
      exact ⟨reti (by rw [askedE, if_neg (by rw [unhid H1]; simp), if_pos (unhid H2)]), hbw2⟩
    | true =>
      have H2 := hid h2
      clear h2
      go_wp2_with (first | (go_at_call 50; refine (within_calls _ _ _ _).mono ?_; rintro e w' ⟨rfl, rfl⟩) | (go_at_call 78; refine (direction_calls _ _).mono ?_; rintro e w' ⟨rfl, rfl⟩))
      all_goals
        go_ret
        refine ⟨reti ?_, hbw2⟩
        rw [askedE, if_neg (by rw [unhid H1]; simp), if_neg (by rw [unhid H2]; simp)]
        go_light
        (try simp only [beq_iff_eq, beq_eq_false_iff_ne, ne_eq, bne_iff_ne, bne_eq_false_iff_eq, decide_eq_true_eq, decide_eq_false_iff_not, Bool.and_eq_true, Bool.or_eq_true, Bool.and_eq_false_iff, Bool.or_eq_false_iff, Bool.not_eq_true', Bool.not_eq_false', Bool.not_eq_true] at *)
        first | (rw [if_neg (by simp; grind)]) | (rw [if_pos (by simp; grind)])

set_option maxHeartbeats 1000000 in
theorem sameInts_calls (A : Option Addr) (l : List Int) (c : Nat) (A2 : Option Addr) (l2 : List Int) (c2 : Nat) (w : World) (h : Rd w A (ints l)) (h2 : Rd w A2 (ints l2)) (hn : l.length ≤ 100000000000) (hn2 : l2.length ≤ 100000000000) :
    Calls Tryz.prog 23 #[.slice A l.length c, .slice A2 l2.length c2] w fun e w' => e = .returned (.bool (decide (l = l2))) ∧ Below w.heap.size w w' := by
  by_cases hlen : l.length = l2.length
  · have hlen' : ((l.length : Int) != (l2.length : Int)) = false := by simp; omega
    have HL := hid hlen
    go_enter Tryz.func23, Tryz.ntmps23
    clear hlen
    go_wp2_with fail
    go_loopw [5] (fun i wr => ∃ k : Nat, k ≤ l.length ∧ i = .int .i64 k ∧ (l.take k = l2.take k) ∧ ∃ n, wr = w.drewN n) (fun i _ => l.length - (intOf i).toNat)
    case atStart => exact ⟨0, Nat.zero_le _, rfl, rfl, 0, rfl⟩
    case round =>
      obtain ⟨k, hk, rfl, htk, n, rfl⟩ := hrel
      have HT := hid htk
      clear htk
      by_cases hlt : k < l.length
      · have hlt2 : k < l2.length := by have := unhid HL; omega
        obtain ⟨b, off, rfl, hb, hc⟩ := h (ints_ne hlt)
        obtain ⟨b2, off2, rfl, hb2, hc2⟩ := h2 (ints_ne hlt2)
        have e1 := hc k _ (ints_at l k hlt)
        have e2 := hc2 k _ (ints_at l2 k hlt2)
        clear hc hc2
        by_cases he : l[k] = l2[k]
        · have he' : (l[k] != l2[k]) = false := by simpa using he
          have HE := hid he
          clear he
          go_wp2_with fail
          go_quiet (fail)
          go_wp2_with fail
          go_roundw
          case rel => exact ⟨k + 1, by omega, by go_num, by rw [List.take_succ_eq_append_getElem hlt, List.take_succ_eq_append_getElem hlt2, unhid HT, unhid HE], _, rfl⟩
          case measure => simp [intOf]; omega
        · have he' : (l[k] != l2[k]) = true := by simpa using he
          go_wp2_with fail
          go_quiet (fail)
          go_wp2_with fail
          go_ret
          refine ⟨retb (iff_of_false (by simp) ?_), below_drewN' (below_drewN' (Below.refl _ _) _) _⟩
          rw [decide_eq_true_eq]; rintro rfl; exact he rfl
      · go_wp2_with fail
        go_ret
        refine ⟨retb (iff_of_true rfl ?_), below_drewN' (Below.refl _ _) _⟩
        rw [decide_eq_true_eq]
        have := unhid HT
        rwa [List.take_of_length_le (by omega), List.take_of_length_le (by have := unhid HL; omega)] at this
  · have hlen' : ((l.length : Int) != (l2.length : Int)) = true := by simp; omega
    go_enter Tryz.func23, Tryz.ntmps23
    go_wp2_with fail
    go_ret
    refine ⟨retb (iff_of_false (by simp) ?_), Below.refl _ _⟩
    rw [decide_eq_true_eq]; rintro rfl; exact hlen rfl

end Go.Proofs.YtmpngoejnmlmbaaGreat
