/-
  Package rule's at, ordered, Holds and Must; the reference's Must and Holds.
-/
import Derived.Test.YtmpngoejnmlmbaaGreatMust
import Derived.Test.YtmpngoejnmlmbaaGreatHolding
import Derived.Test.YtmpngoejnmlmbaaGreatHeld2
set_option linter.unusedSimpArgs false
set_option linter.unusedVariables false
namespace Go.Proofs.YtmpngoejnmlmbaaGreat
open Go.RowKit

set_option maxHeartbeats 1000000 in
theorem at_calls (A : Option Addr) (ev : List (Int × Int)) (c : Nat) (k : Int) (w : World) (hr : Rd w A (evs ev)) (hn : ev.length ≤ 1000000000000) :
    Calls Tryz.prog 51 #[.slice A ev.length c, .int .i64 k] w fun e w' => e = .returned (.int .i64 (atP ev k)) ∧ Below w.heap.size w w' := by
  have HR := hid hr
  clear hr
  go_enter Tryz.func51, Tryz.ntmps51
  go_wp2_with fail
  go_loopw [5, 10] (fun v i wr => ∃ n : Nat, n ≤ ev.length ∧ i = .int .i64 n ∧ v = .int .i64 (atP (ev.take n) k) ∧ Below w.heap.size w wr) (fun _ i _ => ev.length - (intOf i).toNat)
  case atStart => exact ⟨0, Nat.zero_le _, rfl, rfl, Below.refl _ _⟩
  case round =>
    obtain ⟨n, hn1, rfl, rfl, hbel⟩ := hrel
    by_cases hlt : n < ev.length
    · obtain ⟨b, off, rfl, hb, hc⟩ := ((unhid HR).below hbel) (evs_ne hlt)
      obtain ⟨m0, m1⟩ := evs_cells hc hlt
      clear hc
      have hst : atP (ev.take (n + 1)) k = if ev[n].1 ≤ k then ev[n].2 else atP (ev.take n) k := by rw [List.take_succ_eq_append_getElem hlt, atP_snoc]
      generalize hx : ev[n] = x at *
      clear hx
      generalize hv : atP (ev.take n) k = v0 at *
      have HV := hid hv
      have HST := hid hst
      clear hv hst
      by_cases hf : x.1 ≤ k
      · have HF := hid ((unhid HST).trans (if_pos hf))
        go_wp2_with fail
        go_roundw
        case rel => exact ⟨n + 1, by omega, by go_num, by rw [unhid HF], below_alloc' hbel _⟩
        case measure => simp [intOf]; omega
      · have HF := hid ((unhid HST).trans (if_neg hf))
        go_wp2_with fail
        go_roundw
        case rel => exact ⟨n + 1, by omega, by go_num, by rw [unhid HF], below_alloc' hbel _⟩
        case measure => simp [intOf]; omega
    · have HF := hid (show atP (ev.take n) k = atP ev k by rw [List.take_of_length_le (by omega)])
      go_wp2_with fail
      go_ret
      exact ⟨reti (unhid HF), hbel⟩

/-- The error of a line, edicts, an hour, a direction and a topic. -/
noncomputable def orderedE (len : Int) (js : List Int) (ed : List Ed) (hour dir topic : Int) : Int :=
  if lineB len js = true ∧ edsB len js ed = false then 72 else askedE len js [] hour dir topic

theorem sgsNil (w : World) : SgsOk w none [] := ⟨by simp, Rd.nil _ _, by simp⟩

set_option maxHeartbeats 1000000 in
theorem ordered_calls (len : Int) (A : Option Addr) (js : List Int) (c : Nat) (A2 : Option Addr) (ed : List Ed) (c2 : Nat) (hour dir topic : Int) (w : World) (hl : LnOk w A js) (he : EdsOk w A2 ed) :
    Calls Tryz.prog 42 #[.agg #[.int .i64 len, .slice A js.length c], .slice A2 ed.length c2, .int .i64 hour, .int .i64 dir, .int .i64 topic] w fun e w' =>
      e = .returned (.int .i64 (orderedE len js ed hour dir topic)) ∧ Below w.heap.size w w' := by
  have HL := hid hl
  have HE := hid he
  have hln := hl.n
  clear hl he
  go_enter Tryz.func42, Tryz.ntmps42
  go_wp2_with fail
  refine (validLine_calls len A js c _ hln ((unhid HL).below (below_alloc _ _)).rd).mono ?_
  rintro e w1 ⟨rfl, hb1⟩
  have d0 := hb1.cell (p := ⟨w.heap.size, 0, none⟩) (by simp)
  have d1 := hb1.cell (p := ⟨w.heap.size, 1, none⟩) (by simp)
  simp [go_sem] at d0 d1
  have hbw1 : Below w.heap.size w w1 := (below_alloc w _).trans (hb1.mono (by simp))
  have hB1 : w.heap.size < w1.heap.size := Nat.lt_of_lt_of_le (by simp) hb1.size
  clear hb1
  cases h1 : lineB len js with
  | false =>
    have H1 := hid h1
    clear h1
    go_wp2_with fail
    refine (asked_calls len A js c none [] 0 hour dir topic _ ((unhid HL).below hbw1) (sgsNil _)).mono ?_
    rintro e w2 ⟨rfl, hb2⟩
    go_wp2_with fail
    go_ret
    exact ⟨reti (by rw [orderedE, if_neg (by rw [unhid H1]; simp)]), hbw1.trans (hb2.mono hbw1.size)⟩
  | true =>
    have H1 := hid h1
    clear h1
    go_wp2_with fail
    refine (validEdicts_calls len A js c A2 ed c2 _ ((unhid HL).below hbw1) ((unhid HE).below hbw1)).mono ?_
    rintro e w2 ⟨rfl, hb2⟩
    have f0 := (hb2.cell (p := ⟨w.heap.size, 0, none⟩) hB1).trans d0
    have f1 := (hb2.cell (p := ⟨w.heap.size, 1, none⟩) hB1).trans d1
    have hbw2 : Below w.heap.size w w2 := hbw1.trans (hb2.mono hbw1.size)
    clear hb2 d0 d1
    cases h2 : edsB len js ed with
    | false =>
      have H2 := hid h2
      clear h2
      go_wp2_with fail
      go_ret
      exact ⟨reti (by rw [orderedE, if_pos ⟨unhid H1, unhid H2⟩]), hbw2⟩
    | true =>
      have H2 := hid h2
      clear h2
      go_wp2_with fail
      refine (asked_calls len A js c none [] 0 hour dir topic _ ((unhid HL).below hbw2) (sgsNil _)).mono ?_
      rintro e w3 ⟨rfl, hb3⟩
      go_wp2_with fail
      go_ret
      exact ⟨reti (by rw [orderedE, if_neg (by rw [unhid H2]; simp)]), hbw2.trans (hb3.mono hbw2.size)⟩

theorem sgsB_nil (len : Int) (js : List Int) : sgsB len js [] = lineB len js := by simp [sgsB]
theorem orderedE_zero {len : Int} {js : List Int} {ed : List Ed} {hour dir topic : Int} (h : orderedE len js ed hour dir topic = 0) :
    lineB len js = true ∧ edsB len js ed = true ∧ (0 ≤ hour ∧ hour ≤ 10000000) ∧ dirB dir = true ∧ 1 ≤ topic ∧ topic ≤ 2 := by
  unfold orderedE at h
  split at h
  · omega
  · rename_i hn
    obtain ⟨h1, h2, h3, h4, h5⟩ := askedE_zero h
    refine ⟨h1, ?_, h3, h4, h5⟩
    cases he : edsB len js ed
    · exact absurd ⟨h1, he⟩ hn
    · rfl

/-- What Holds answers: the error first, then the metre. -/
noncomputable def holdsE (len : Int) (js : List Int) (l : List Sg) (hour dir topic m : Int) : Int :=
  if askedE len js l hour dir topic ≠ 0 then askedE len js l hour dir topic else if 0 ≤ m ∧ m ≤ len - 1 then 0 else 2
noncomputable def mustE (len : Int) (js : List Int) (ed : List Ed) (hour dir topic m : Int) : Int :=
  if orderedE len js ed hour dir topic ≠ 0 then orderedE len js ed hour dir topic else if 0 ≤ m ∧ m ≤ len - 1 then 0 else 2

def HoldsPost (len : Int) (js : List Int) (l : List Sg) (hour dir topic m : Int) (w : World) (e : Ending) (w' : World) : Prop :=
  ∃ v : Int, e = .returned (.tuple #[.int .i64 v, .int .i64 (holdsE len js l hour dir topic m)]) ∧
    (holdsE len js l hour dir topic m = 0 → ∃ R, IsRow len hour dir l R ∧ v = holdP len js R dir topic (metreI len dir m)) ∧ (holdsE len js l hour dir topic m ≠ 0 → v = 0) ∧ Below w.heap.size w w'

theorem metreI_lt2 {len dir k : Int} (h0 : 0 ≤ k) (h1 : k ≤ len - 1) : 0 ≤ metreI len dir k ∧ metreI len dir k < len := metreI_lt h0 (by omega)

set_option maxHeartbeats 4000000 in
set_option maxRecDepth 100000 in
theorem holds_calls (len : Int) (A : Option Addr) (js : List Int) (c : Nat) (A2 : Option Addr) (l : List Sg) (c2 : Nat) (hour dir topic m : Int) (w : World) (hl : LnOk w A js) (hs : SgsOk w A2 l) (hlen : I64 len) :
    Calls Tryz.prog 24 #[.agg #[.int .i64 len, .slice A js.length c], .slice A2 l.length c2, .int .i64 hour, .int .i64 dir, .int .i64 topic, .int .i64 m] w (HoldsPost len js l hour dir topic m w) := by
  have HL := hid hl
  have HS := hid hs
  clear hl hs
  go_enter Tryz.func24, Tryz.ntmps24
  go_wp2_with fail
  refine (asked_calls len A js c A2 l c2 hour dir topic _ ((unhid HL).below (below_alloc _ _)) ((unhid HS).below (below_alloc _ _))).mono ?_
  rintro e w1 ⟨rfl, hb1⟩
  have d0 := hb1.cell (p := ⟨w.heap.size, 0, none⟩) (by simp)
  have d1 := hb1.cell (p := ⟨w.heap.size, 1, none⟩) (by simp)
  simp [go_sem] at d0 d1
  have hbw1 : Below w.heap.size w w1 := (below_alloc w _).trans (hb1.mono (by simp))
  have hB1 : w.heap.size < w1.heap.size := Nat.lt_of_lt_of_le (by simp) hb1.size
  clear hb1
  have hee : holdsE len js l hour dir topic m = if askedE len js l hour dir topic ≠ 0 then askedE len js l hour dir topic else if 0 ≤ m ∧ m ≤ len - 1 then 0 else 2 := rfl
  generalize he : askedE len js l hour dir topic = er at *
  by_cases h0 : er = 0
  · subst h0
    have hv := askedE_zero he
    clear he
    have hlen2 := lineB_len hv.1
    have HJ := hid (lineB_mem hv.1)
    have HB := hid (sgsB_bounds hv.2.1)
    have HC := hid (sgsB_chain hv.2.1)
    have hl100 := sgsB_len hv.2.1
    clear hv
    simp only [ne_eq, not_true, if_false] at hee
    by_cases hm : 0 ≤ m ∧ m ≤ len - 1
    · rw [if_pos hm] at hee
      have HEE := hid hee
      have hmi := metreI_lt2 (dir := dir) hm.1 hm.2
      have hdm := decide_eq_true hm
      obtain ⟨hm1, hm2⟩ := hm
      clear hee
      have hrw : ∀ w, Calls Tryz.prog 50 #[.int .i64 0, .int .i64 m, .int .i64 (len - 1)] w fun e w' => e = .returned (.bool true) ∧ w = w' := fun w => (within_calls 0 m (len - 1) w).mono fun _ _ h => ⟨h.1.trans (by rw [hdm]), h.2⟩
      have HRW := hid hrw
      clear hrw hdm
      go_wp2_with (go_at_call 50; refine ((unhid HRW) _).mono ?_; rintro e w' ⟨rfl, rfl⟩)
      have HROK := hid (fun R (h : IsRow len hour dir l R) => rowOk_of h (unhid HB))
      have HRL := hid (fun R (h : IsRow len hour dir l R) => (show R.length ≤ 100 from by have := selP_len len hour dir l; have := h.perm.length_eq; omega))
      have HEL := hid (fun R (h : R.length ≤ 100) => (show (eventsP len js R dir topic).length ≤ 1000 from by
        have h1 := evRun_len len js R dir topic R.length
        have h2 := stopP_len (evRun len js R dir topic R.length).1 (evRun len js R dir topic R.length).2 len
        unfold eventsP
        omega))
      go_region_held3 (fun w' => w'.cell? ⟨w.heap.size, 0, none⟩ = some (.int .i64 len) ∧ w'.cell? ⟨w.heap.size, 1, none⟩ = some (.slice A js.length c) ∧ Below w1.heap.size w1 w') (first | (refine ⟨?_, ?_, ?_⟩ <;> assumption) | (exact ⟨by assumption, by assumption, Below.drew (Below.refl _ _)⟩) | go_keep)
        (first
          | (go_at_call 49; have hh := ‹_ ∧ _ ∧ Below w1.heap.size w1 _›; refine (rowOf_calls len A js.length c A2 l c2 hour dir _ ((unhid HS).below (hbw1.trans (hh.2.2.mono hbw1.size))) (by omega) hlen2.2 (unhid HC)).mono ?_; rintro e w2 ⟨A3, c3, R, rfl, hrow, hrd, hb2⟩; have hB2 := hh.2.2.trans (hb2.mono hh.2.2.size); have e0 := (hB2.cell (p := ⟨w.heap.size, 0, none⟩) hB1).trans d0; have e1 := (hB2.cell (p := ⟨w.heap.size, 1, none⟩) hB1).trans d1; clear hh)
          | (go_at_call 52; have hh := ‹_ ∧ _ ∧ Below w1.heap.size w1 _›; refine (events_calls len A js c A3 R c3 dir topic _ ((unhid HL).below (hbw1.trans (hh.2.2.mono hbw1.size))) (unhid HJ) hlen2.2 (by first | exact hrd | exact hrd.alloc _) (by have := unhid HRL R hrow; omega) (unhid HROK R hrow)).mono ?_; rintro e w3 ⟨A4, c4, rfl, hrd4, -, hb2⟩; have hB2 := hh.2.2.trans (hb2.mono hh.2.2.size); have e0 := (hB2.cell (p := ⟨w.heap.size, 0, none⟩) hB1).trans d0; have e1 := (hB2.cell (p := ⟨w.heap.size, 1, none⟩) hB1).trans d1; clear hh)
          | (go_at_call 53; have hh := ‹_ ∧ _ ∧ Below w1.heap.size w1 _›; refine (metre_calls len A js.length c dir m _ hm1 (by omega) hlen2.2).mono ?_; rintro e w5 ⟨rfl, rfl⟩; have e0 := (World.cell?_alloc_lt _ (.cells #[.int .i64 len, .slice A js.length c] 24) ⟨w.heap.size, 0, none⟩ (Nat.lt_of_lt_of_le hB1 hh.2.2.size)).trans hh.1; have e1 := (World.cell?_alloc_lt _ (.cells #[.int .i64 len, .slice A js.length c] 24) ⟨w.heap.size, 1, none⟩ (Nat.lt_of_lt_of_le hB1 hh.2.2.size)).trans hh.2.1; have hB2 := below_alloc' hh.2.2 (.cells #[.int .i64 len, .slice A js.length c] 24); clear hh)
          | (go_at_call 51; have hh := ‹_ ∧ _ ∧ Below w1.heap.size w1 _›; refine (at_calls A4 (eventsP len js R dir topic) c4 (metreI len dir m) _ (by first | exact hrd4 | exact hrd4.alloc _) (by have := unhid HEL R (unhid HRL R hrow); omega)).mono ?_; rintro e w6 ⟨rfl, hb2⟩; have hB2 := hh.2.2.trans (hb2.mono hh.2.2.size); have e0 := (hB2.cell (p := ⟨w.heap.size, 0, none⟩) hB1).trans d0; have e1 := (hB2.cell (p := ⟨w.heap.size, 1, none⟩) hB1).trans d1; clear hh))
      all_goals
        have hh := ‹_ ∧ _ ∧ Below w1.heap.size w1 _›
        have HFIN := hid (at_events (js := js) (dir := dir) (topic := topic) (unhid HROK R hrow) hmi.2)
        have HROW := hid hrow
        clear hrow
        go_wp2_with fail
        go_ret2
        exact ⟨_, by rw [unhid HEE, unhid HFIN]; rfl, fun _ => ⟨R, unhid HROW, rfl⟩, fun h => absurd (unhid HEE) h, hbw1.trans (hh.2.2.mono hbw1.size)⟩
    · rw [if_neg hm] at hee
      have HEE := hid hee
      have hdm := decide_eq_false hm
      clear hee hm
      have hrw : ∀ w, Calls Tryz.prog 50 #[.int .i64 0, .int .i64 m, .int .i64 (len - 1)] w fun e w' => e = .returned (.bool false) ∧ w = w' := fun w => (within_calls 0 m (len - 1) w).mono fun _ _ h => ⟨h.1.trans (by rw [hdm]), h.2⟩
      have HRW := hid hrw
      clear hrw hdm
      go_wp2_with (go_at_call 50; refine ((unhid HRW) _).mono ?_; rintro e w' ⟨rfl, rfl⟩)
      go_ret2
      exact ⟨0, by rw [unhid HEE]; rfl, fun h => absurd ((unhid HEE).symm.trans h) (by omega), fun _ => rfl, hbw1⟩
  · have h0' : (er != 0) = true := by simpa using h0
    rw [if_pos h0] at hee
    have HEE := hid hee
    have H0 := hid h0
    clear he hee h0
    go_wp2_with fail
    go_ret2
    exact ⟨0, by rw [unhid HEE]; rfl, fun h => absurd ((unhid HEE).symm.trans h) (unhid H0), fun _ => rfl, hbw1⟩

end Go.Proofs.YtmpngoejnmlmbaaGreat
