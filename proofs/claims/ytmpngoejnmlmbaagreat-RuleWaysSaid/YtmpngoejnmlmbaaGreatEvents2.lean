/-
  Package rule's events: the walk.
-/
import Derived.Test.YtmpngoejnmlmbaaGreatEvents
set_option linter.unusedSimpArgs false
set_option linter.unusedVariables false
namespace Go.Proofs.YtmpngoejnmlmbaaGreat
open Go.RowKit

set_option maxHeartbeats 4000000 in
set_option maxRecDepth 100000 in
theorem events_calls (len : Int) (A : Option Addr) (js : List Int) (c : Nat) (A2 : Option Addr) (R : List Mt) (c2 : Nat) (dir topic : Int) (w : World) (hl : LnOk w A js) (hj : ∀ j ∈ js, 0 ≤ j ∧ j ≤ len) (hlen : len ≤ 100000)
    (hr : Rd w A2 (mts R)) (hn : R.length ≤ 100000000000) (hok : RowOk len R) :
    Calls Tryz.prog 52 #[.agg #[.int .i64 len, .slice A js.length c], .slice A2 R.length c2, .int .i64 dir, .int .i64 topic] w fun e w' =>
      ∃ (A' : Option Addr) (c' : Nat), e = .returned (.slice A' (eventsP len js R dir topic).length c') ∧ Rd w' A' (evs (eventsP len js R dir topic)) ∧ (∀ a, A' = some a → w.heap.size ≤ a.block) ∧ Below w.heap.size w w' := by
  have HL := hid hl
  have HJ := hid hj
  have HOK := hid hok
  have HR := hid hr
  clear hl hj hok hr
  obtain ⟨i0, hi, hz0, hz1, hz2⟩ := info_parts info_event
  go_enter Tryz.func52, Tryz.ntmps52
  go_wp2_with fail
  go_loopw [19] (fun i wr => ∃ k : Nat, k ≤ R.length ∧ i = .int .i64 k ∧ EvSt wr w.heap.size #[.int .i64 len, .slice A js.length c] (evRun len js R dir topic k).1 (evRun len js R dir topic k).2 ∧ Below w.heap.size w wr) (fun i _ => R.length - (intOf i).toNat)
  case atStart =>
    refine ⟨0, Nat.zero_le _, rfl, ⟨?_, ?_, none, 0, ?_, World.ownsRow_nil _ _ _ _⟩, below_alloc' (below_alloc' (below_alloc _ _) _) _⟩
    · rw [Below.heap_alloc ((w.alloc (.cells #[.int .i64 len, .slice A js.length c] 24)).alloc (.cells #[.slice none 0 0] 100)) _ _ (by simp; omega), Below.heap_alloc (w.alloc (.cells #[.int .i64 len, .slice A js.length c] 24)) _ _ (by simp)]; exact heap_alloc_new w _
    · have h := heap_alloc_new ((w.alloc (.cells #[.int .i64 len, .slice A js.length c] 24)).alloc (.cells #[.slice none 0 0] 100)) (.cells #[.int .i64 (-1)] 3)
      simpa [evRun] using h
    · have h := heap_alloc_new (w.alloc (.cells #[.int .i64 len, .slice A js.length c] 24)) (.cells #[.slice none 0 0] 100)
      rw [Below.heap_alloc ((w.alloc (.cells #[.int .i64 len, .slice A js.length c] 24)).alloc (.cells #[.slice none 0 0] 100)) _ _ (by simp)]
      simpa [evRun] using h
  case round =>
    obtain ⟨k, hk, rfl, hst, hbel⟩ := hrel
    have hlt0 := hst.lt
    by_cases hlt : k < R.length
    · obtain ⟨b, off, hA2, hb, hc⟩ := (unhid HR) (mts_ne hlt)
      rw [hA2]
      have HA2 := hid hA2
      clear hA2
      obtain ⟨m0, m1, m2, m3, m4, m5, m6, m7, m8, m9⟩ := mts_cells (w := wr) (fun j u hu => (hbel.cell (p := ⟨b, off + j, none⟩) hb).trans (hc j u hu)) hlt
      clear hc
      have hmem := (unhid HOK) _ (List.getElem_mem hlt)
      have HSTEP := hid (show evRun len js R dir topic (k + 1) = match saysP R[k].s topic with
          | none => evRun len js R dir topic k
          | some v => ((stopP (evRun len js R dir topic k).1 (evRun len js R dir topic k).2 R[k].far).1 ++ [(R[k].far, v)], if v = 0 then -1 else reachP len js R k dir) by
        rw [evRun_succ, evStep, List.getElem?_eq_getElem hlt]; rfl)
      have hrl := evRun_len len js R dir topic k
      generalize hx : R[k] = x at *
      have HX := hid hx
      clear hx
      generalize hst0 : evRun len js R dir topic k = st at *
      obtain ⟨out, en⟩ := st
      dsimp only at hrl
      have HST0 := hid hst0
      clear hst0
      have HST := hid hst
      clear hst
      go_wp2_with fail
      refine (says_calls x.s topic _).mono ?_
      rintro e w1 ⟨rfl, hb1⟩
      have hst1 := ((unhid HST).below (below_alloc _ _)).below hb1
      have d9 := hb1.cell (p := ⟨wr.heap.size, 9, none⟩) (by simp)
      simp [go_sem] at d9
      have hbel1 : Below w.heap.size w w1 := (hbel.alloc (by omega) _).trans (hb1.mono (by simp; omega))
      have hsz1 := hb1.size
      simp at hsz1
      cases hs : saysP x.s topic with
      | none =>
        rw [hs] at HSTEP
        go_wp2_with fail
        go_roundw
        case rel => exact ⟨k + 1, by omega, by go_num, by rw [unhid HSTEP]; exact hst1, hbel1⟩
        case measure => simp [intOf]; omega
      | some v =>
        rw [hs] at HSTEP
        have HST1 := hid hst1
        clear hst1
        go_wp2_with fail
        refine (stop_calls x.far en out w.heap.size _ _ (unhid HST1) (by omega)).mono ?_
        rintro e w2 ⟨rfl, hst2, hb2, hf2⟩
        have d9' : w2.cell? ⟨wr.heap.size, 9, none⟩ = some (.int .i64 x.far) := by
          rw [← d9]
          refine World.cell?_of_block (w := w1) (hf2 wr.heap.size (by omega) (by omega) (by omega) (fun A' c' hb' => ?_))
          obtain ⟨A0, c0, h0, own0⟩ := (unhid HST).outc
          have h00 := (hb1.block (w.heap.size + 1) (by simp; omega)).trans ((Below.heap_alloc wr _ _ (by omega)).trans h0)
          rw [h00] at hb'
          injection hb' with hb'
          injection hb' with hb' _ _
          have hb'' := congrArg (fun a : Array Value => a[0]?) hb'
          simp at hb''
          obtain ⟨e1, e2⟩ := hb''
          subst e1 e2
          exact own_ne own0 (Or.inr (Nat.le_refl _))
        have hsz2 := hb2.size
        obtain ⟨A4, c4, h4, hown4⟩ := hst2.outc
        have g0 := cell_of_one h4
        have g1 := free_of_one h4
        have g2 := cell_of_one hst2.endc
        have g3 := free_of_one hst2.endc
        have hll := stopP_len out en x.far
        have HST2 := hid hst2
        have hbel2 : Below w.heap.size w w2 := hbel1.trans hb2
        clear hst2 hf2 hb2
        generalize hs2 : stopP out en x.far = st2 at *
        obtain ⟨out2, en2⟩ := st2
        simp only [] at hown4 g0 g2 HST2 h4 hll
        have HO4 := hid hown4
        clear hown4
        go_wp2_with (at_builtin; refine wpList_append_own _ rfl _ _ 100 rfl (w.heap.size + 3) 129 i0 (.agg #[.int .i64 0, .int .i64 0]) 2 16 Tryz.underlying100 hi hz0 hz1 hz2 rfl (by decide) _ _ _ rfl ((unhid HO4).alloc _) ⟨w2.heap.size, 0, none⟩ 1 1 [.int .i64 x.far, .int .i64 v] rfl rfl ?c1 ?c2 ?c3 ?c4 ?c5 ?_)
        case c1 =>
          intro j u hj
          match j, hj with
          | 0, hj => simp at hj; subst hj; simp [Addr.add, go_sem]
          | 1, hj => simp at hj; subst hj; simp [Addr.add, go_sem]
        case c2 => intro u hu; simp at hu; rcases hu with rfl | rfl <;> rfl
        case c3 => unfold maxLen; omega
        case c4 => omega
        case c5 => simp; omega
        intro v' w3 hown3 hg3 _
        obtain ⟨A3, c3, hv3, -⟩ := own_slice hown3
        subst hv3
        have bk := (unhid HST2).bk (unhid HO4) hg3
        have p1 : w3.heap[w.heap.size + 1]? = _ := (bk _ (by omega)).trans h4
        have p2 : w3.heap[w.heap.size + 2]? = _ := (bk _ (by omega)).trans (unhid HST2).endc
        have q0 := cell_of_one p1
        have q1 := free_of_one p1
        have q2 := cell_of_one p2
        have q3 := free_of_one p2
        have hpush := (unhid HST2).push h4 (unhid HO4) (f := x.far) (v := v) hown3 hg3
        have hend := hpush.1.endSet (-1)
        have hbel4 : Below w.heap.size w ((w3.setCell ⟨w.heap.size + 1, 0, none⟩ (.slice A3 (out2.length + 1) c3)).setCell ⟨w.heap.size + 2, 0, none⟩ (.int .i64 (-1))) := (hbel2.trans hpush.2).trans hend.2
        have HEND := hid hend.1
        have l0 := cell_of_row _ w.heap.size 0 _ _ _ hend.1.line
        have l1 := cell_of_row _ w.heap.size 1 _ _ _ hend.1.line
        clear bk p1 p2 hpush hend hown3 hg3 h4 g0 g1 g2 g3
        by_cases hv0 : v = 0
        · have hv0' : (v != 0) = false := by simpa using hv0
          have HV := hid hv0
          clear hv0
          go_wp2_with fail
          go_roundw
          case rel => exact ⟨k + 1, by omega, by go_num, by rw [unhid HSTEP]; simp only [if_pos (unhid HV)]; exact unhid HEND, hbel4⟩
          case measure => simp [intOf]; omega
        · have hv0' : (v != 0) = true := by simpa using hv0
          have HV := hid hv0
          clear hv0
          go_wp2_with fail
          refine (reach_calls len A js c (some ⟨b, off, none⟩) R c2 k dir _ hlt ((unhid HL).below hbel4) (unhid HJ) hlen (by rw [← unhid HA2]; exact (unhid HR).below hbel4) hn (unhid HOK)).mono ?_
          rintro e w5 ⟨rfl, hb5⟩
          have hst5 := (unhid HEND).below hb5
          have r0 := cell_of_one hst5.endc
          have r1 := free_of_one hst5.endc
          have hend5 := hst5.endSet (reachP len js R k dir)
          have hbel5 : Below w.heap.size w (w5.setCell ⟨w.heap.size + 2, 0, none⟩ (.int .i64 (reachP len js R k dir))) := (hbel4.trans (hb5.mono hbel4.size)).trans hend5.2
          have HEND5 := hid hend5.1
          clear hst5 hend5 hb5 q0 q1 q2 q3 l0 l1
          go_wp2_with fail
          go_roundw
          case rel => exact ⟨k + 1, by omega, by go_num, by rw [unhid HSTEP]; simp only [if_neg (unhid HV)]; exact unhid HEND5, hbel5⟩
          case measure => simp [intOf]; omega
    · have hkR : k = R.length := by omega
      subst hkR
      have hrl := evRun_len len js R dir topic R.length
      have HEV := hid (show eventsP len js R dir topic = (stopP (evRun len js R dir topic R.length).1 (evRun len js R dir topic R.length).2 len).1 from rfl)
      generalize hst0 : evRun len js R dir topic R.length = st at *
      obtain ⟨out, en⟩ := st
      dsimp only at hrl hst HEV
      clear hst0
      have l0 := cell_of_row _ w.heap.size 0 _ _ _ hst.line
      have HST := hid hst
      clear hst
      go_wp2_with fail
      refine (stop_calls len en out w.heap.size _ _ (unhid HST) (by omega)).mono ?_
      rintro e w2 ⟨rfl, hst2, hb2, -⟩
      obtain ⟨A4, c4, h4, hown4⟩ := hst2.outc
      have g0 := cell_of_one h4
      obtain ⟨A5, c5, hv5, hrd5, hfr5⟩ := own_slice hown4
      injection hv5 with e1 e2 e3
      subst e1 e3
      have HFR := hid hfr5
      clear hfr5
      have HRD := hid hrd5
      clear hst2 h4 hown4 hrd5
      rw [← unhid HEV] at g0 HRD
      go_wp2_with fail
      go_ret
      exact ⟨A4, c4, rfl, unhid HRD, fun a ha => by subst ha; have := unhid HFR a.block rfl; omega, hbel.trans hb2⟩

end Go.Proofs.YtmpngoejnmlmbaaGreat
