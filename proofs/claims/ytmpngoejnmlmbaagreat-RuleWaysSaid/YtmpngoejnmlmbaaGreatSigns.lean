/-
  ValidSigns over a whole list, of package rule and of its reference.
-/
import Derived.Test.YtmpngoejnmlmbaaGreatSign
set_option linter.unusedSimpArgs false
set_option linter.unusedVariables false
namespace Go.Proofs.YtmpngoejnmlmbaaGreat
open Go.RowKit

/-- A line's junctions in memory. -/
structure LnOk (w : World) (A : Option Addr) (js : List Int) : Prop where
  n : js.length ≤ 20000000000000
  rd : Rd w A (ints js)
theorem LnOk.below {w w' : World} {A : Option Addr} {js : List Int} (h : LnOk w A js) (hb : Below w.heap.size w w') : LnOk w' A js := ⟨h.n, h.rd.below hb⟩

noncomputable def sgsB (len : Int) (js : List Int) (l : List Sg) : Bool := lineB len js && decide (l.length ≤ 100) && l.all (signOk len) && decide (l.map Sg.num).Nodup

set_option maxHeartbeats 1000000 in
theorem validSigns_calls (len : Int) (A : Option Addr) (js : List Int) (c : Nat) (A2 : Option Addr) (l : List Sg) (c2 : Nat) (w : World) (hl : LnOk w A js) (hs : SgsOk w A2 l) :
    Calls Tryz.prog 31 #[.agg #[.int .i64 len, .slice A js.length c], .slice A2 l.length c2] w fun e w' =>
      e = .returned (.bool (sgsB len js l)) ∧ Below w.heap.size w w' := by
  have HL := hid hl
  have HS := hid hs
  have hln := hl.n
  have hsn := hs.n
  clear hl hs
  go_enter Tryz.func31, Tryz.ntmps31
  go_wp2_with fail
  refine (validLine_calls len A js c _ hln ((unhid HL).rd.below (below_alloc _ _))).mono ?_
  rintro e w1 ⟨rfl, hb1⟩
  by_cases h1 : lineB len js = true
  · rw [h1]
    have H1 := hid h1
    clear h1
    by_cases h2 : l.length ≤ 100
    · have d0 := hb1.cell (p := ⟨w.heap.size, 0, none⟩) (by simp)
      have d1 := hb1.cell (p := ⟨w.heap.size, 1, none⟩) (by simp)
      simp [go_sem] at d0 d1
      have hbw1 : Below w.heap.size w w1 := (below_alloc w _).trans (hb1.mono (by simp))
      have hsz : w.heap.size + 1 ≤ w1.heap.size := by simpa using hb1.size
      clear hb1
      go_wp2_with fail
      go_loopw [17] (fun i wr => ∃ k : Nat, k ≤ l.length ∧ i = .int .i64 k ∧ Upto l k (fun s => signOk len s = true) ∧ Below w1.heap.size w1 wr) (fun i _ => l.length - (intOf i).toNat)
      case atStart => exact ⟨0, Nat.zero_le _, rfl, Upto.zero, Below.refl _ _⟩
      case round =>
        obtain ⟨k, hk, rfl, hup, hbel⟩ := hrel
        have hbw : Below w.heap.size w wr := hbw1.trans (hbel.mono hbw1.size)
        by_cases hlt : k < l.length
        · obtain ⟨b, off, rfl, hb, hc⟩ := (unhid HS).rd (signs_ne hlt)
          obtain ⟨c0, c1, c2, c3, c4, c5, c6, c7, c8⟩ := signs_cells (w := wr) (fun j u hu => (hbw.cell (p := ⟨b, off + j, none⟩) hb).trans (hc j u hu)) hlt
          clear hc
          have e0 : wr.cell? ⟨w.heap.size, 0, none⟩ = _ := (hbel.cell (p := ⟨w.heap.size, 0, none⟩) hsz).trans d0
          have e1 : wr.cell? ⟨w.heap.size, 1, none⟩ = _ := (hbel.cell (p := ⟨w.heap.size, 1, none⟩) hsz).trans d1
          have hin : l[k] ∈ l := List.getElem_mem hlt
          generalize hx : l[k] = x at *
          have HX := hid hx
          clear hx
          have hwr : w.heap.size < wr.heap.size := by have := hbel.size; omega
          go_wp2_with fail
          refine (validSign_calls len A js.length c x _ (((unhid HS).all x hin).below (below_alloc' hbw _))).mono ?_
          rintro e w2 ⟨rfl, hb2⟩
          have hbel2 : Below w1.heap.size w1 w2 := (below_alloc' hbel _).trans (hb2.mono (by have := hbel.size; simp; omega))
          by_cases h3 : signOk len x = true
          · rw [h3]
            go_wp2_with fail
            go_roundw
            case rel => exact ⟨k + 1, by omega, by go_num, hup.next hlt (by rw [unhid HX]; exact h3), hbel2⟩
            case measure => simp [intOf]; omega
          · rw [Bool.not_eq_true] at h3
            rw [h3]
            go_wp2_with fail
            go_ret
            refine ⟨retb (iff_of_false (by simp) ?_), hbw1.trans (hbel2.mono hbw1.size)⟩
            intro h
            simp only [sgsB, Bool.and_eq_true, List.all_eq_true] at h
            rw [h.1.2 x hin] at h3
            cases h3
        · go_wp2_with fail
          refine (differentSign_calls A2 l c2 _ ((unhid HS).below hbw)).mono ?_
          rintro e w2 ⟨rfl, hb2⟩
          have hall := hup.all (by omega)
          have hfin : sgsB len js l = decide (l.map Sg.num).Nodup := by
            have h3 : l.all (signOk len) = true := List.all_eq_true.2 hall
            simp [sgsB, unhid H1, h2, h3]
          have Hfin := hid hfin
          clear hfin
          generalize decide (l.map Sg.num).Nodup = q at Hfin ⊢
          go_wp2_with fail
          go_ret
          exact ⟨by rw [unhid Hfin]; rfl, hbw.trans (hb2.mono hbw.size)⟩
    · go_wp2_with fail
      go_ret
      refine ⟨retb (iff_of_false (by simp) ?_), (below_alloc w _).trans (hb1.mono (by simp))⟩
      intro h
      simp only [sgsB, Bool.and_eq_true, decide_eq_true_eq] at h
      exact h2 h.1.1.2
  · rw [Bool.not_eq_true] at h1
    rw [h1]
    go_wp2_with fail
    go_ret
    exact ⟨retb (iff_of_false (by simp) (by simp [sgsB, h1])), (below_alloc w _).trans (hb1.mono (by simp))⟩

theorem signOk_iff {len : Int} {s : Sg} : signOk len s = true ↔ (1 ≤ s.num ∧ s.num ≤ 1000000000) ∧ rvaluedB s.kind s.val = true ∧ (0 ≤ s.chain ∧ s.chain ≤ len) ∧ dirB s.dir = true ∧ (1 ≤ s.rank ∧ s.rank ≤ 9) ∧ hoursB s.up s.down = true ∧ s.cov.length ≤ 10 ∧ ∀ c ∈ s.cov, hoursB c.1 c.2 = true := by
  simp only [signOk, rvaluedB, Bool.and_eq_true, decide_eq_true_eq, Bool.not_eq_true', List.any_eq_false, Bool.not_eq_true, Bool.not_eq_false', Bool.not_eq_false]
  exact ⟨fun ⟨⟨⟨⟨⟨⟨⟨⟨a, b⟩, c⟩, d⟩, e⟩, f⟩, g⟩, h⟩, i⟩ => ⟨a, ⟨b, c⟩, d, e, f, g, h, i⟩, fun ⟨a, ⟨b, c⟩, d, e, f, g, h, i⟩ => ⟨⟨⟨⟨⟨⟨⟨⟨a, b⟩, c⟩, d⟩, e⟩, f⟩, g⟩, h⟩, i⟩⟩
theorem up_of_hours {a b : Int} (h : hoursB a b = true) : a ≤ 10000000 := by simp [hoursB] at h; omega

set_option maxHeartbeats 2000000 in
set_option maxRecDepth 100000 in
theorem rvalidSigns_calls (len : Int) (A : Option Addr) (js : List Int) (c : Nat) (A2 : Option Addr) (l : List Sg) (c2 : Nat) (w : World) (hl : LnOk w A js) (hs : SgsOk w A2 l) :
    Calls Tryz.prog 44 #[.agg #[.int .i64 len, .slice A js.length c], .slice A2 l.length c2] w fun e w' =>
      e = .returned (.bool (sgsB len js l)) ∧ Below w.heap.size w w' := by
  have HL := hid hl
  have HS := hid hs
  have hln := hl.n
  have hsn := hs.n
  clear hl hs
  go_enter Tryz.func44, Tryz.ntmps44
  go_wp2_with fail
  refine (rvalidLine_calls len A js c _ hln ((unhid HL).rd.below (below_alloc _ _))).mono ?_
  rintro e w1 ⟨rfl, hb1⟩
  by_cases h1 : lineB len js = true
  · rw [h1]
    have H1 := hid h1
    clear h1
    by_cases h2 : l.length ≤ 100
    · have d0 := hb1.cell (p := ⟨w.heap.size, 0, none⟩) (by simp)
      have d1 := hb1.cell (p := ⟨w.heap.size, 1, none⟩) (by simp)
      simp [go_sem] at d0 d1
      have hbw1 : Below w.heap.size w w1 := (below_alloc w _).trans (hb1.mono (by simp))
      have hsz : w.heap.size + 1 ≤ w1.heap.size := by simpa using hb1.size
      clear hb1
      go_wp2_with fail
      go_loopw [5] (fun i wr => ∃ k : Nat, k ≤ l.length ∧ i = .int .i64 k ∧ Upto l k (fun s => signOk len s = true) ∧ ((l.take k).map Sg.num).Nodup ∧ Below w1.heap.size w1 wr) (fun i _ => l.length - (intOf i).toNat)
      case atStart => exact ⟨0, Nat.zero_le _, rfl, Upto.zero, by simp, Below.refl _ _⟩
      case round =>
        obtain ⟨k, hk, rfl, hup, hnd, hbel⟩ := hrel
        have HN := hid hnd
        clear hnd
        have hbw : Below w.heap.size w wr := hbw1.trans (hbel.mono hbw1.size)
        by_cases hlt : k < l.length
        · obtain ⟨b, off, rfl, hb, hc⟩ := (unhid HS).rd (signs_ne hlt)
          obtain ⟨c0, c1, c2, c3, c4, c5, c6, c7, c8⟩ := signs_cells (w := wr) (fun j u hu => (hbw.cell (p := ⟨b, off + j, none⟩) hb).trans (hc j u hu)) hlt
          have HC := hid hc
          clear hc
          have e0 : wr.cell? ⟨w.heap.size, 0, none⟩ = _ := (hbel.cell (p := ⟨w.heap.size, 0, none⟩) hsz).trans d0
          have e1 : wr.cell? ⟨w.heap.size, 1, none⟩ = _ := (hbel.cell (p := ⟨w.heap.size, 1, none⟩) hsz).trans d1
          have hin : l[k] ∈ l := List.getElem_mem hlt
          have hok := (unhid HS).all _ hin
          generalize hx : l[k] = x at *
          have HX := hid hx
          clear hx
          have hwr : w.heap.size < wr.heap.size := by have := hbel.size; omega
          have hxn := hok.n
          go_wp2_with (first | (go_at_call 77; refine (rwithin_calls _ _ _ _).mono ?_; rintro e w' ⟨rfl, rfl⟩) | (go_at_call 83; refine (value_calls _ _ _).mono ?_; rintro e w' ⟨rfl, rfl⟩) | (go_at_call 85; refine (rhours_calls _ _ _).mono ?_; rintro e w' ⟨rfl, rfl⟩) | (go_at_call 84; refine (rdirection_calls _ _).mono ?_; rintro e w' ⟨rfl, rfl⟩))
          all_goals first
            | (go_ret; refine ⟨retb (iff_of_false (by simp) ?_), below_alloc' hbw _⟩
               intro h
               simp only [sgsB, Bool.and_eq_true, List.all_eq_true] at h
               have h3 := signOk_iff.1 (h.1.2 x hin)
               have h4 := up_of_hours h3.2.2.2.2.2.1
               obtain ⟨k1, k2, k3, k4, k5, k6, k7, k8⟩ := h3
               clear h hup
               go_light
               first | omega | contradiction)
            | skip
          obtain ⟨wo, rfl⟩ : ∃ wo : World, wo = wr := ⟨_, rfl⟩
          have q1 : 1 ≤ x.num ∧ x.num ≤ 1000000000 := by assumption
          have q2 : rvaluedB x.kind x.val = true := by assumption
          have q3 : 0 ≤ x.chain ∧ x.chain ≤ len := by assumption
          have q4 : dirB x.dir = true := by assumption
          have q5 : 1 ≤ x.rank ∧ x.rank ≤ 9 := by assumption
          have q6 : hoursB x.up x.down = true := by assumption
          have q7 : x.cov.length ≤ 10 := by omega
          have Q := hid (And.intro q1 (And.intro q2 (And.intro q3 (And.intro q4 (And.intro q5 q6)))))
          clear q1 q2 q3 q4 q5 q6
          go_loopw [7] (fun i wr => ∃ m : Nat, m ≤ x.cov.length ∧ i = .int .i64 m ∧ Upto x.cov m (fun c => hoursB c.1 c.2 = true) ∧ Below (wo.heap.size + 1) (wo.alloc (.cells #[.int .i64 x.num, .int .i64 x.kind, .int .i64 x.val, .int .i64 x.chain, .int .i64 x.dir, .int .i64 x.rank, .int .i64 x.up, .int .i64 x.down, .slice x.cA x.cov.length x.cc] 80)) wr) (fun i _ => x.cov.length - (intOf i).toNat)
          case atStart => exact ⟨0, Nat.zero_le _, rfl, Upto.zero, Below.refl _ _⟩
          case round =>
            obtain ⟨m, hm, rfl, hupm, hbelm⟩ := hrel
            have f0 := hbelm.cell (p := ⟨wo.heap.size, 0, none⟩) (by simp)
            have f8 := hbelm.cell (p := ⟨wo.heap.size, 8, none⟩) (by simp)
            simp [go_sem] at f0 f8
            have hbwm : Below w.heap.size w wr := (below_alloc' hbw _).trans (hbelm.mono (by have := hbw.size; omega))
            by_cases hltm : m < x.cov.length
            · obtain ⟨b2, off2, hA2, hb2, hcc⟩ := hok.rd (spans_ne hltm)
              have g0 : wr.cell? ⟨b2, off2 + m * 2, none⟩ = some (.int .i64 x.cov[m].1) := (hbwm.cell (p := ⟨b2, _, none⟩) hb2).trans (hcc _ _ (spans_0 hltm))
              have g1 : wr.cell? ⟨b2, off2 + m * 2 + 1, none⟩ = some (.int .i64 x.cov[m].2) := (hbwm.cell (p := ⟨b2, _, none⟩) hb2).trans (hcc _ _ (spans_1 hltm))
              clear hcc
              rw [hA2] at f8
              have HA2 := hid hA2
              clear hA2
              by_cases h9 : hoursB x.cov[m].1 x.cov[m].2 = true
              · go_wp2_with fail
                go_quiet ((go_at_call 85; exact Calls.quiet_of_same ((rhours_calls _ _ _).mono fun _ _ h => ⟨h.1.trans (by rw [h9]), h.2.symm⟩)))
                go_wp2_with fail
                go_roundw
                case rel => exact ⟨m + 1, by omega, by go_num, hupm.next hltm h9, below_drewN' hbelm _⟩
                case measure => simp [intOf]; omega
              · rw [Bool.not_eq_true] at h9
                go_wp2_with fail
                go_quiet ((go_at_call 85; exact Calls.quiet_of_same ((rhours_calls _ _ _).mono fun _ _ h => ⟨h.1.trans (by rw [h9]), h.2.symm⟩)))
                go_wp2_with fail
                go_ret
                refine ⟨retb (iff_of_false (by simp) ?_), below_drewN' hbwm _⟩
                intro h
                simp only [sgsB, Bool.and_eq_true, List.all_eq_true] at h
                have h3 := (signOk_iff.1 (h.1.2 x hin)).2.2.2.2.2.2.2 _ (List.getElem_mem hltm)
                rw [h9] at h3; cases h3
            · have hcov := hupm.all (by omega)
              have hok' : signOk len x = true := signOk_iff.2 ⟨(unhid Q).1, (unhid Q).2.1, (unhid Q).2.2.1, (unhid Q).2.2.2.1, (unhid Q).2.2.2.2.1, (unhid Q).2.2.2.2.2, q7, hcov⟩
              clear hupm
              go_wp2_with fail
              obtain ⟨wm, rfl⟩ : ∃ wm : World, wm = wr := ⟨_, rfl⟩
              go_loopw [8] (fun i wr => ∃ m : Nat, m ≤ k ∧ i = .int .i64 m ∧ Upto l m (fun y => y.num ≠ x.num) ∧ Below wm.heap.size wm wr) (fun i _ => k - (intOf i).toNat)
              case atStart => exact ⟨0, Nat.zero_le _, rfl, Upto.zero, Below.refl _ _⟩
              case round =>
                obtain ⟨m2, hm2, rfl, hupn, hbeln⟩ := hrel
                have hbms := hbelm.size
                simp at hbms
                have i0 : wr.cell? ⟨wo.heap.size, 0, none⟩ = _ := (hbeln.cell (p := ⟨wo.heap.size, 0, none⟩) (by simp; omega)).trans f0
                have hbwn : Below w.heap.size w wr := hbwm.trans (hbeln.mono hbwm.size)
                by_cases hlt2 : m2 < k
                · have hlt3 : m2 < l.length := by omega
                  obtain ⟨n0, -⟩ := signs_cells (w := wr) (fun j u hu => (hbwn.cell (p := ⟨b, off + j, none⟩) hb).trans ((unhid HC) j u hu)) hlt3
                  by_cases h10 : l[m2].num = x.num
                  · have h11 : (l[m2].num == x.num) = true := by simpa using h10
                    have H10 := hid h10
                    clear h10
                    go_wp2_with fail
                    go_quiet (fail)
                    go_wp2_with fail
                    go_ret
                    refine ⟨retb (iff_of_false (by simp) ?_), below_drewN' hbwn _⟩
                    intro h
                    simp only [sgsB, Bool.and_eq_true, decide_eq_true_eq] at h
                    exact nd_ne (f := Sg.num) hlt hlt2 h.2 (by rw [unhid HX]; exact unhid H10)
                  · have h11 : (l[m2].num == x.num) = false := by simpa using h10
                    go_wp2_with fail
                    go_quiet (fail)
                    go_wp2_with fail
                    go_roundw
                    case rel => exact ⟨m2 + 1, by omega, by go_num, hupn.next hlt3 h10, below_drewN' hbeln _⟩
                    case measure => simp [intOf]; omega
                · go_wp2_with fail
                  go_roundw
                  case rel =>
                    refine ⟨k + 1, by omega, by go_num, hup.next hlt (by rw [unhid HX]; exact hok'), nd_next hlt (unhid HN) ?_, ?_⟩
                    · rw [unhid HX]
                      intro hmem
                      obtain ⟨y, hy, hye⟩ := List.mem_map.1 (List.mem_reverse.1 hmem)
                      exact hupn y (by rw [show m2 = k by omega]; exact hy) hye
                    · exact (below_alloc' hbel _).trans ((hbelm.trans (hbeln.mono (by omega))).mono (by have := hbel.size; omega))
                  case measure => simp [intOf]; omega
        · go_wp2_with fail
          go_ret
          refine ⟨retb (iff_of_true rfl ?_), hbw⟩
          have h3 : l.all (signOk len) = true := List.all_eq_true.2 (hup.all (by omega))
          have h4 := unhid HN
          rw [List.take_of_length_le (by omega)] at h4
          simp [sgsB, unhid H1, h2, h3, h4]
    · go_wp2_with fail
      go_ret
      refine ⟨retb (iff_of_false (by simp) ?_), (below_alloc w _).trans (hb1.mono (by simp))⟩
      intro h
      simp only [sgsB, Bool.and_eq_true, decide_eq_true_eq] at h
      exact h2 h.1.1.2
  · rw [Bool.not_eq_true] at h1
    rw [h1]
    go_wp2_with fail
    go_ret
    exact ⟨retb (iff_of_false (by simp) (by simp [sgsB, h1])), (below_alloc w _).trans (hb1.mono (by simp))⟩

end Go.Proofs.YtmpngoejnmlmbaaGreat
