/-
  The law RuleRows.
-/
import Derived.Test.YtmpngoejnmlmbaaAsk8
import Derived.Test.YtmpngoejnmlmbaaKitB
set_option linter.unusedSimpArgs false
set_option linter.unusedVariables false
namespace Go.Proofs.Ytmpngoejnmlmbaa
open Go.RowKit

set_option maxHeartbeats 4000000 in
set_option maxRecDepth 100000 in
theorem rows_calls (len : Int) (A : Option Addr) (js : List Int) (c : Nat) (A2 : Option Addr) (l : List Sg) (c2 : Nat) (A3 : Option Addr) (ed : List Ed) (c3 : Nat) (hour dir topic metre : Int) (w : World) (hl : LnOk w A js) (hs : SgsOk w A2 l) (he : EdsOk w A3 ed) (_ : I64 len) (_ : I64 hour) (_ : I64 dir) (_ : I64 topic) (_ : I64 metre) :
    Calls Try.prog 3 #[.agg #[.int .i64 len, .slice A js.length c, .slice A2 l.length c2, .slice A3 ed.length c3, .int .i64 hour, .int .i64 dir, .int .i64 topic, .int .i64 metre]] w fun e w' => e = .returned (.bool true) ∧ Below w.heap.size w w' := by
  have HL := hid hl
  have HS := hid hs
  have HE := hid he
  have hln := hl.n
  have hsn := hs.n
  have hen := he.n
  clear hl hs he
  go_enter Try.func3, Try.ntmps3
  go_wp2_with fail
  refine (heavy_calls len A js c A2 l c2 A3 ed.length c3 hour dir topic metre _ ((unhid HL).below (below_alloc _ _)) ((unhid HS).below (below_alloc _ _)) (by omega)).mono ?_
  rintro e W ⟨rfl, hb1⟩
  have HA := (Ask8.new w (.int .i64 len) (.slice A js.length c) (.slice A2 l.length c2) (.slice A3 ed.length c3) (.int .i64 hour) (.int .i64 dir) (.int .i64 topic) (.int .i64 metre) 28).below hb1
  have hbw1 : Below w.heap.size w W := (below_alloc w _).trans (hb1.mono (by simp))
  have HL := hid ((unhid HL).below hbw1)
  have HS := hid ((unhid HS).below hbw1)
  have HE := hid ((unhid HE).below hbw1)
  clear hb1
  have HBW := hid hbw1
  cases hh : heavyB len js l ed.length with
  | true =>
    clear HA
    go_wp2_with fail
    refine (first_calls _).mono ?_
    rintro e w2 ⟨rfl, hb2⟩
    go_wp2_with fail
    go_ret
    exact ⟨rfl, hbw1.trans (hb2.mono hbw1.size)⟩
  | false =>
    clear hbw1
    have hlb : ¬ heavyB len js l ed.length = true := by rw [hh]; simp
    have HH := hid hlb
    clear hh hlb
    obtain ⟨e0, e1, e2, e3, e4, e5, e6, e7⟩ := HA.cells
    obtain ⟨i0, hi, hz0, hz1, hz2⟩ := info_parts info_int
    go_wp2_with fail
    clear e0 e1 e2 e3 e4 e5 e6 e7
    generalize hBB : w.heap.size = B at *
    go_loopw [3] (fun i wr => ∃ k : Nat, k ≤ l.length ∧ i = .int .i64 k ∧ Below W.heap.size W wr) (fun i _ => l.length - (intOf i).toNat)
    case atStart => exact ⟨0, Nat.zero_le _, rfl, Below.refl _ _⟩
    case round =>
      obtain ⟨k, hk, rfl, hbel⟩ := hrel
      obtain ⟨e0, e1, e2, e3, e4, e5, e6, e7⟩ := (HA.below hbel).cells
      have hB : B < wr.heap.size := (HA.below hbel).lt
      by_cases hlt : k < l.length
      · obtain ⟨b, off, rfl, hb, hc⟩ := ((unhid HS).below hbel).rd (signs_ne hlt)
        obtain ⟨p0, p1, p2, p3, p4, p5, p6, p7, p8⟩ := signs_after hb hc hlt
        clear hc
        have hsok := ((unhid HS).below hbel).all _ (List.getElem_mem hlt)
        generalize hx : l[k] = x at *
        have HX := hid hx
        clear hx
        have HSK := hid hsok
        clear hsok
        have hne : (spkB x hour != spkB x hour) = false := by simp
        generalize hsp : spkB x hour = sp at *
        have HSP := hid hsp
        clear hsp
        obtain ⟨q0, q1, q2, q3, q4, q5, q6, q7⟩ := (HA.below hbel).after
        have KS := hid (fun p : After wr => (speaks_calls x hour p.w ((unhid HSK).below p.below)).mono fun _ _ h => (⟨h.1.trans (by rw [unhid HSP]), h.2⟩ : _ ∧ _))
        have KR := hid (fun p : After wr => (rspeaks_calls x hour p.w ((unhid HSK).below p.below)).mono fun _ _ h => (⟨h.1.trans (by rw [unhid HSP]), h.2⟩ : _ ∧ _))
        go_wp2_with fail
        (refine wp_region_below (by kernel_rfl) (by kernel_rfl) ?_; (repeat (go_big_quiet_step (first | (go_at_call 12; exact Calls.after_of ((unhid KS) _)) | (go_at_call 13; exact Calls.after_of ((unhid KR) _))))); refine wpQuiet_nil ?_; intro wq hw'; obtain ⟨⟨wq2, hbq⟩, hw''⟩ := hw'; dsimp only at hw''; subst hw'')
        clear p0 p1 p2 p3 p4 p5 p6 p7 p8 q0 q1 q2 q3 q4 q5 q6 q7
        go_wp2_with fail
        first
          | exact ⟨⟨k + 1, by omega, by go_num, hbel.trans (hbq.mono hbel.size)⟩, by simp [intOf]; omega⟩
          | (go_roundw
             case rel => exact ⟨k + 1, by omega, by go_num, hbel.trans (hbq.mono hbel.size)⟩
             case measure => simp [intOf]; omega)
      · have HLr := hid ((unhid HL).below hbel)
        have HSr := hid ((unhid HS).below hbel)
        have HEr := hid ((unhid HE).below hbel)
        go_wp2_with fail
        refine (row_calls len A js c A2 l c2 hour dir _ (unhid HLr) (unhid HSr)).mono ?_
        rintro e w2 ⟨A', c', ns, rfl, hz, hnz, hrd, hnl, hb2⟩
        have hbel2 : Below W.heap.size W w2 := hbel.trans (hb2.mono hbel.size)
        have HZ := hid hz
        have HNZ := hid hnz
        have HRD := hid hrd
        clear hz hnz hrd e0 e1 e2 e3 e4 e5 e6 e7 hB
        have HA2 := HA.below hbel2
        obtain ⟨e0, e1, e2, e3, e4, e5, e6, e7⟩ := HA2.cells
        have hB := HA2.lt
        have HL2 := hid ((unhid HL).below hbel2)
        have HS2 := hid ((unhid HS).below hbel2)
        have HE2 := hid ((unhid HE).below hbel2)
        have HWA := hid (why_asked1 len js l ed hour dir)
        obtain ⟨q0, q1, q2, q3, q4, q5, q6, q7⟩ := HA2.after
        have KY := hid (fun (r : Bool) (p : After w2) => why_calls len A js c A2 l c2 A3 ed c3 hour dir topic metre true false r p.w ((unhid HL2).below p.below) ((unhid HS2).below p.below) ((unhid HE2).below p.below))
        have hmain : ∀ r : Bool, (decide (0 ≤ hour ∧ hour ≤ 10000000) && dirB dir) = r → (decide (0 ≤ hour ∧ hour ≤ 10000000) = true ∨ decide (0 ≤ hour ∧ hour ≤ 10000000) = false) := fun _ _ => by cases decide (0 ≤ hour ∧ hour ≤ 10000000) <;> simp
        generalize hg1 : decide (0 ≤ hour ∧ hour ≤ 10000000) = g1 at *
        generalize hg2 : dirB dir = g2 at *
        have G1 := hid hg1
        have G2 := hid hg2
        clear hg1 hg2 hmain
        generalize hea : askedE len js l hour dir 1 = ea at *
        have HEA := hid hea
        clear hea
        have KH := hid (fun (p : After w2) => (hour_calls hour p.w).mono fun _ _ h => (⟨h.1.trans (by rw [unhid G1]), h.2⟩ : _ ∧ _))
        have KW := hid (fun (p : After w2) => (way_calls dir p.w).mono fun _ _ h => (⟨h.1.trans (by rw [unhid G2]), h.2⟩ : _ ∧ _))
        have hr : ∃ r : Bool, (g1 && g2) = r ∧ ((g1 = true ∧ r = g2) ∨ (g1 = false ∧ r = false)) := ⟨_, rfl, by cases g1 <;> simp⟩
        obtain ⟨r, hr1, ⟨rfl, rfl⟩ | ⟨rfl, rfl⟩⟩ := hr
        all_goals
          rw [hr1] at HWA
          have KY := hid (fun p : After w2 => ((unhid KY) _ p).mono fun _ _ h => (⟨h.1.trans (by rw [unhid HWA]), h.2⟩ : _ ∧ _))
          clear hr1 HWA
          by_cases h0 : ea = 0
          · subst h0
            have hv := askedE_zero (unhid HEA)
            obtain ⟨R, hrow, hns⟩ := unhid HZ rfl
            have HROW := hid hrow
            have HNS := hid hns
            have hl100 := sgsB_len hv.2.1
            have hlen := (lineB_len hv.1).2
            have HCH := hid (sgsB_chain hv.2.1)
            have HND := hid (sgsB_nodup hv.2.1)
            clear hv hrow hns HZ HNZ
            go_wp2_with fail
            (refine wp_region_below (by kernel_rfl) (by kernel_rfl) ?_; (repeat (go_big_quiet_step (first | (go_at_call 16; exact Calls.after_same ((unhid KH) _)) | (go_at_call 17; exact Calls.after_same ((unhid KW) _)) | (go_at_call 15; exact Calls.after_of ((unhid KY) _))))); refine wpQuiet_nil ?_; intro wq hw'; obtain ⟨⟨wq2, hbq⟩, hw''⟩ := hw'; dsimp only at hw''; subst hw'')
            clear q0 q1 q2 q3 q4 q5 q6 q7 e0 e1 e2 e3 e4 e5 e6 e7
            have hbel3 : Below W.heap.size W wq := hbel2.trans (hbq.mono hbel2.size)
            obtain ⟨e0, e1, e2, e3, e4, e5, e6, e7⟩ := (HA.below hbel3).cells
            go_wp2_with fail
            refine (rrow_calls len A js.length c A2 l c2 hour dir _ ((unhid HS).below hbel3) (by omega) hlen (unhid HCH)).mono ?_
            rintro e w4 ⟨A4, c4, R4, rfl, hrow4, hrd4, hb4⟩
            have hnl4 : R4.length ≤ 100 := by rw [hrow4.perm.length_eq]; exact Nat.le_trans (selS_len _ _ _) hl100
            have HNE := hid ((unhid HNS).trans (row_nums (unhid HROW) hrow4 (unhid HND)))
            clear hrow4 HROW HNS e0 e1 e2 e3 e4 e5 e6 e7
            have hbel4 : Below W.heap.size W w4 := hbel3.trans (hb4.mono hbel3.size)
            have HRD := hid (((unhid HRD).below hbq).below hb4)
            go_wp2_with fail
            obtain ⟨wo, rfl⟩ : ∃ wo : World, wo = wr := ⟨_, rfl⟩
            go_loopw [9, 8] (fun i v wr => ∃ n : Nat, n ≤ R4.length ∧ i = .int .i64 n ∧ wr.ownsRow w4.heap.size 3 1 v n (ints ((R4.map Sg.num).take n)) ∧ Below w4.heap.size w4 wr) (fun i _ _ => R4.length - (intOf i).toNat)
            case atStart => exact ⟨0, Nat.zero_le _, rfl, World.ownsRow_nil _ _ _ _, Below.refl _ _⟩
            case round =>
              obtain ⟨n, hn, rfl, hown, hbelr⟩ := hrel
              by_cases hlt4 : n < R4.length
              · obtain ⟨b, off, rfl, hb, hc⟩ := hrd4.below hbelr (signs_ne hlt4)
                obtain ⟨m0, m1, m2, m3, m4, m5, m6, m7, m8⟩ := signs_cells hc hlt4
                clear hc
                generalize hx : R4[n] = x at *
                have HX := hid hx
                clear hx
                have hsz := hbelr.size
                go_wp2_with (at_builtin; refine wpList_append_own _ rfl _ _ 22 rfl w4.heap.size 3 i0 (.int .i64 0) 1 8 Try.underlying22 hi hz0 hz1 hz2 rfl (by decide) _ _ _ rfl (hown.alloc _) ⟨wr.heap.size, 0, none⟩ 1 1 [.int .i64 x.num] rfl rfl ?c1 ?c2 ?c3 ?c4 ?c5 ?_)
                case c1 =>
                  intro j u hj
                  match j, hj with
                  | 0, hj => simp at hj; subst hj; simp [Addr.add, go_sem]
                case c2 => intro u hu; simp at hu; subst hu; rfl
                case c3 => unfold maxLen; omega
                case c4 => omega
                case c5 => simp; omega
                intro v' w5 hown5 hg5 _
                have hb5 : Below w4.heap.size w4 w5 := by
                  refine Below.grown (hbelr.alloc hsz _) hg5 (by simp; omega) (fun i hi => ?_)
                  rcases Nat.lt_or_ge i w4.heap.size with h | h
                  · exact absurd hi (own_ne hown (Or.inl h))
                  · exact h
                have HO5 := hid hown5
                clear hown5 hown hg5
                go_wp2_with fail
                go_roundw
                case rel =>
                  refine ⟨n + 1, by omega, by go_num, ?_, hb5⟩
                  have := unhid HO5
                  rw [List.take_succ_eq_append_getElem (by simpa using hlt4), ints, List.map_append, List.getElem_map, unhid HX]
                  exact this
                case measure => simp [intOf]; omega
              · have hkR : n = R4.length := by omega
                subst hkR
                rw [List.take_of_length_le (by simp)] at hown
                obtain ⟨A5, c5, hv5, hrd5, -⟩ := own_slice hown
                subst hv5
                clear hown
                have hbel5 : Below W.heap.size W wr := hbel4.trans (hbelr.mono hbel4.size)
                have hsame := sameInts_calls A' ns c' A5 (R4.map Sg.num) c5 wr ((unhid HRD).below hbelr) hrd5 hnl (by simp; omega)
                rw [List.length_map, decide_eq_true (unhid HNE)] at hsame
                have HSAME := hid hsame
                clear hsame
                go_wp2_with fail
                refine (unhid HSAME).mono ?_
                rintro e w6 ⟨rfl, hb6⟩
                go_wp2_with fail
                refine (first_calls _).mono ?_
                rintro e w7 ⟨rfl, hb7⟩
                go_wp2_with fail
                go_ret
                exact ⟨rfl, by rw [hBB]; exact (((unhid HBW).trans (hbel5.mono (by have := (unhid HBW).size; omega))).trans (hb6.mono (by have := (unhid HBW).size; have := hbel5.size; omega))).trans (hb7.mono (by have := (unhid HBW).size; have := hbel5.size; have := hb6.size; omega))⟩
          · have h0' : (ea != 0) = true := by simpa using h0
            have hee : (ea == ea) = true := by simp
            have hns := unhid HNZ h0
            subst hns
            clear hnl HNZ HZ
            have HBL2 := hid hbel2
            go_wp2_with fail
            (refine wp_region_below (by kernel_rfl) (by kernel_rfl) ?_; (repeat (go_big_quiet_step (first | (go_at_call 16; exact Calls.after_same ((unhid KH) _)) | (go_at_call 17; exact Calls.after_same ((unhid KW) _)) | (go_at_call 15; exact Calls.after_of ((unhid KY) _))))); refine wpQuiet_nil ?_; intro wq hw'; obtain ⟨⟨wq2, hbq⟩, hw''⟩ := hw'; dsimp only at hw''; subst hw'')
            clear q0 q1 q2 q3 q4 q5 q6 q7 e0 e1 e2 e3 e4 e5 e6 e7
            go_wp2_with fail
            refine (first_calls _).mono ?_
            rintro e w7 ⟨rfl, hb7⟩
            go_wp2_with fail
            go_ret
            exact ⟨rfl, by rw [hBB]; exact (((unhid HBW).trans (hbel2.mono (by have := (unhid HBW).size; omega))).trans (hbq.mono (by have := (unhid HBW).size; have := hbel2.size; omega))).trans (hb7.mono (by have := (unhid HBW).size; have := hbel2.size; have := hbq.size; omega))⟩

end Go.Proofs.Ytmpngoejnmlmbaa
