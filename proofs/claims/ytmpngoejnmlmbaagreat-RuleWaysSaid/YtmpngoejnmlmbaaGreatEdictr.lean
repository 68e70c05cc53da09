/-
  Edicts: ValidEdicts of the reference.
-/
import Derived.Test.YtmpngoejnmlmbaaGreatEdict
set_option linter.unusedSimpArgs false
set_option linter.unusedVariables false
namespace Go.Proofs.YtmpngoejnmlmbaaGreat
open Go.RowKit

set_option maxHeartbeats 4000000 in
set_option maxRecDepth 100000 in
theorem rvalidEdicts_calls (len : Int) (A : Option Addr) (js : List Int) (c : Nat) (A2 : Option Addr) (l : List Ed) (c2 : Nat) (w : World) (hl : LnOk w A js) (hs : EdsOk w A2 l) :
    Calls Tryz.prog 45 #[.agg #[.int .i64 len, .slice A js.length c], .slice A2 l.length c2] w fun e w' =>
      e = .returned (.bool (edsB len js l)) ∧ Below w.heap.size w w' := by
  have HL := hid hl
  have HS := hid hs
  have hln := hl.n
  have hsn := hs.n
  clear hl hs
  go_enter Tryz.func45, Tryz.ntmps45
  go_wp2_with fail
  refine (rvalidLine_calls len A js c _ hln ((unhid HL).rd.below (below_alloc _ _))).mono ?_
  rintro e w1 ⟨rfl, hb1⟩
  by_cases h1 : lineB len js = true
  · rw [h1]
    have H1 := hid h1
    clear h1
    by_cases h2 : l.length ≤ 50
    · have d0 := hb1.cell (p := ⟨w.heap.size, 0, none⟩) (by simp)
      have d1 := hb1.cell (p := ⟨w.heap.size, 1, none⟩) (by simp)
      simp [go_sem] at d0 d1
      have hbw1 : Below w.heap.size w w1 := (below_alloc w _).trans (hb1.mono (by simp))
      have hsz : w.heap.size + 1 ≤ w1.heap.size := by simpa using hb1.size
      clear hb1
      go_wp2_with fail
      go_loopw [5] (fun i wr => ∃ k : Nat, k ≤ l.length ∧ i = .int .i64 k ∧ Upto l k (fun s => edOk len s = true) ∧ ((l.take k).map Ed.num).Nodup ∧ Below w1.heap.size w1 wr) (fun i _ => l.length - (intOf i).toNat)
      case atStart => exact ⟨0, Nat.zero_le _, rfl, Upto.zero, by simp, Below.refl _ _⟩
      case round =>
        obtain ⟨k, hk, rfl, hup, hnd, hbel⟩ := hrel
        have HN := hid hnd
        clear hnd
        have hbw : Below w.heap.size w wr := hbw1.trans (hbel.mono hbw1.size)
        by_cases hlt : k < l.length
        · obtain ⟨b, off, rfl, hb, hc⟩ := (unhid HS).rd (edicts_ne hlt)
          obtain ⟨c0, c1, c2, c3, c4, c5, c6, c7⟩ := edicts_cells (w := wr) (fun j u hu => (hbw.cell (p := ⟨b, off + j, none⟩) hb).trans (hc j u hu)) hlt
          have HC := hid hc
          clear hc
          have e0 : wr.cell? ⟨w.heap.size, 0, none⟩ = _ := (hbel.cell (p := ⟨w.heap.size, 0, none⟩) hsz).trans d0
          have e1 : wr.cell? ⟨w.heap.size, 1, none⟩ = _ := (hbel.cell (p := ⟨w.heap.size, 1, none⟩) hsz).trans d1
          have hin : l[k] ∈ l := List.getElem_mem hlt
          generalize hx : l[k] = x at *
          have HX := hid hx
          clear hx
          have hwr : w.heap.size < wr.heap.size := by have := hbel.size; omega
          by_cases htop : edTop x = true
          · have htop' : (x.topic = 1 ∧ (10 ≤ x.val ∧ x.val ≤ 200)) ∨ ((x.topic == 1) = false ∧ (x.topic == 2) = true ∧ (x.val == 1) = true) := by
              simp only [edTop, Bool.and_eq_true, Bool.or_eq_true, decide_eq_true_eq] at htop
              rcases htop with h | h
              · exact Or.inl h
              · exact Or.inr ⟨by simp; omega, by simp; omega, by simp; omega⟩
            have HT := hid htop
            clear htop
            rcases htop' with ⟨t1, t2⟩ | ⟨t1, t2, t3⟩
            all_goals
              first
                | have t1' : (x.topic == 1) = true := by simpa using t1
                  have T1 := hid t1
                  clear t1
                | skip
              go_wp2_with (first | (go_at_call 77; refine (rwithin_calls _ _ _ _).mono ?_; rintro e w' ⟨rfl, rfl⟩) | (go_at_call 85; refine (rhours_calls _ _ _).mono ?_; rintro e w' ⟨rfl, rfl⟩) | (go_at_call 84; refine (rdirection_calls _ _).mono ?_; rintro e w' ⟨rfl, rfl⟩))
              all_goals first
                | (go_ret; refine ⟨retb (iff_of_false (by simp) ?_), below_alloc' hbw _⟩
                   intro h
                   simp only [edsB, Bool.and_eq_true, List.all_eq_true] at h
                   have h3 := edOk_iff.1 (h.1.2 x hin)
                   obtain ⟨k1, k2, k3, k4, k5, k6, k7⟩ := h3
                   clear h hup
                   go_light
                   first | omega | contradiction | grind)
                | skip
              obtain ⟨wm, rfl⟩ : ∃ wm : World, wm = wr := ⟨_, rfl⟩
              have q1 : 1 ≤ x.num ∧ x.num ≤ 1000000000 := by assumption
              have q2 : dirB x.dir = true := by assumption
              have q3 : 0 ≤ x.fr := by omega
              have q4 : x.fr < x.to := by omega
              have q5 : x.to ≤ len := by omega
              have q6 : hoursB x.st x.en = true := by first | assumption | grind
              have hok' : edOk len x = true := by simp [edOk, q1, q2, q3, q4, q5, q6, unhid HT]
              have HOK := hid hok'
              clear hok' q1 q2 q3 q4 q5 q6
              go_loopw [8] (fun i wr => ∃ m : Nat, m ≤ k ∧ i = .int .i64 m ∧ Upto l m (fun y => y.num ≠ x.num) ∧ Below (wm.heap.size + 1) (wm.alloc (.cells #[.int .i64 x.num, .int .i64 x.topic, .int .i64 x.val, .int .i64 x.dir, .int .i64 x.fr, .int .i64 x.to, .int .i64 x.st, .int .i64 x.en] 93)) wr) (fun i _ => k - (intOf i).toNat)
              case atStart => exact ⟨0, Nat.zero_le _, rfl, Upto.zero, Below.refl _ _⟩
              case round =>
                obtain ⟨m2, hm2, rfl, hupn, hbeln⟩ := hrel
                have i0 := hbeln.cell (p := ⟨wm.heap.size, 0, none⟩) (by simp)
                simp [go_sem] at i0
                have hbwn : Below w.heap.size w wr := (below_alloc' hbw _).trans (hbeln.mono (by have := hbw.size; omega))
                by_cases hlt2 : m2 < k
                · have hlt3 : m2 < l.length := by omega
                  obtain ⟨n0, -⟩ := edicts_cells (w := wr) (fun j u hu => (hbwn.cell (p := ⟨b, off + j, none⟩) hb).trans ((unhid HC) j u hu)) hlt3
                  by_cases h10 : l[m2].num = x.num
                  · have h11 : (l[m2].num == x.num) = true := by simpa using h10
                    have H10 := hid h10
                    clear h10
                    go_wp2_with fail
                    go_quiet (fail)
                    go_wp2_with fail
                    go_ret
                    refine ⟨retb (iff_of_false (by simp) ?_), below_drewN' hbwn _⟩
                    intro h
                    simp only [edsB, Bool.and_eq_true, decide_eq_true_eq] at h
                    exact nd_ne (f := Ed.num) hlt hlt2 h.2 (by rw [unhid HX]; exact unhid H10)
                  · have h11 : (l[m2].num == x.num) = false := by simpa using h10
                    go_wp2_with fail
                    go_quiet (fail)
                    go_wp2_with fail
                    go_roundw
                    case rel => exact ⟨m2 + 1, by omega, by go_num, hupn.next hlt3 h10, below_drewN' hbeln _⟩
                    case measure => simp [intOf]; omega
                · go_wp2_with fail
                  go_roundw
                  case rel =>
                    refine ⟨k + 1, by omega, by go_num, hup.next hlt (by rw [unhid HX]; exact unhid HOK), nd_next hlt (unhid HN) ?_, ?_⟩
                    · rw [unhid HX]
                      intro hmem
                      obtain ⟨y, hy, hye⟩ := List.mem_map.1 (List.mem_reverse.1 hmem)
                      exact hupn y (by rw [show m2 = k by omega]; exact hy) hye
                    · exact (below_alloc' hbel _).trans (hbeln.mono (by have := hbel.size; omega))
                  case measure => simp [intOf]; omega
          · have hno : ∀ h : edsB len js l = true, False := by
              intro h
              simp only [edsB, Bool.and_eq_true, List.all_eq_true] at h
              have h3 := h.1.2 x hin
              simp [edOk, htop] at h3
            have HNO := hid hno
            clear hno
            go_wp2_with (first | (go_at_call 77; refine (rwithin_calls _ _ _ _).mono ?_; rintro e w' ⟨rfl, rfl⟩))
            all_goals first
              | (go_ret; exact ⟨retb (iff_of_false (by simp) (unhid HNO)), below_alloc' hbw _⟩)
              | (exfalso; apply htop; go_light; (try simp only [beq_iff_eq, beq_eq_false_iff_ne, ne_eq, bne_iff_ne, bne_eq_false_iff_eq, decide_eq_true_eq, decide_eq_false_iff_not, Bool.and_eq_true, Bool.or_eq_true, Bool.and_eq_false_iff, Bool.or_eq_false_iff, Bool.not_eq_true', Bool.not_eq_false', Bool.not_eq_true] at *); simp only [edTop, Bool.and_eq_true, Bool.or_eq_true, decide_eq_true_eq]; first | omega | grind)
        · go_wp2_with fail
          go_ret
          refine ⟨retb (iff_of_true rfl ?_), hbw⟩
          have h3 : l.all (edOk len) = true := List.all_eq_true.2 (hup.all (by omega))
          have h4 := unhid HN
          rw [List.take_of_length_le (by omega)] at h4
          simp [edsB, unhid H1, h2, h3, h4]
    · go_wp2_with fail
      go_ret
      refine ⟨retb (iff_of_false (by simp) ?_), (below_alloc w _).trans (hb1.mono (by simp))⟩
      intro h
      simp only [edsB, Bool.and_eq_true, decide_eq_true_eq] at h
      exact h2 h.1.1.2
  · rw [Bool.not_eq_true] at h1
    rw [h1]
    go_wp2_with fail
    go_ret
    exact ⟨retb (iff_of_false (by simp) (by simp [edsB, h1])), (below_alloc w _).trans (hb1.mono (by simp))⟩

end Go.Proofs.YtmpngoejnmlmbaaGreat
