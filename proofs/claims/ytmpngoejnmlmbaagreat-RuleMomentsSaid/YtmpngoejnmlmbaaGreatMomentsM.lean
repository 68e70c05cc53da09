/-
  Package rule's Moments and History. The law RuleMoments.
-/
import Derived.Test.YtmpngoejnmlmbaaGreatMomM
import Derived.Test.YtmpngoejnmlmbaaGreatEach
import Derived.Deep.DeepCutAuto
import Derived.Test.YtmpngoejnmlmbaaGreatRight
set_option linter.unusedSimpArgs false
set_option linter.unusedVariables false
namespace Go.Proofs.YtmpngoejnmlmbaaGreat
open Go.RowKit

section
def MomentsPost (len : Int) (js : List Int) (l : List Sg) (ed : List Ed) (w : World) (e : Ending) (w' : World) : Prop :=
  ∃ (A' : Option Addr) (c' : Nat) (L : List Int), e = .returned (.tuple #[.slice A' L.length c', .int .i64 (allE len js l ed 0)]) ∧ (allE len js l ed 0 = 0 → Mom (momH l ed) L) ∧ (allE len js l ed 0 ≠ 0 → L = []) ∧ Rd w' A' (ints L) ∧ L.length ≤ 3000 ∧ Below w.heap.size w w'
theorem allE_zeroM {len : Int} {js : List Int} {l : List Sg} {ed : List Ed} {hour : Int} (h : allE len js l ed hour = 0) : lineB len js = true ∧ sgsB len js l = true ∧ edsB len js ed = true := by
  unfold allE at h
  split at h
  · omega
  · rename_i h1
    split at h
    · omega
    · rename_i h2
      split at h
      · omega
      · rename_i h3
        exact ⟨by simpa using h1, by simpa using h2, by simpa using h3⟩
set_option maxHeartbeats 1000000 in
theorem rmomentsL_calls (len : Int) (A : Option Addr) (js : List Int) (c : Nat) (A2 : Option Addr) (l : List Sg) (c2 : Nat) (A3 : Option Addr) (ed : List Ed) (c3 : Nat) (w : World) (hl : LnOk w A js) (hs : SgsOk w A2 l) (he : EdsOk w A3 ed) :
    Calls Tryz.prog 32 #[.agg #[.int .i64 len, .slice A js.length c], .slice A2 l.length c2, .slice A3 ed.length c3] w (MomentsPost len js l ed w) := by
  have HL := hid hl
  have HS := hid hs
  have HE := hid he
  clear hl hs he
  go_enter Tryz.func32, Tryz.ntmps32
  go_wp2_with fail
  refine (all_calls len A js c A2 l c2 A3 ed c3 0 _ ((unhid HL).below (below_alloc _ _)) ((unhid HS).below (below_alloc _ _)) ((unhid HE).below (below_alloc _ _))).mono ?_
  rintro e w1 ⟨rfl, hb1⟩
  have hbw1 : Below w.heap.size w w1 := (below_alloc w _).trans (hb1.mono (by simp))
  clear hb1
  generalize hal : allE len js l ed 0 = al
  by_cases h0 : al = 0
  · subst h0
    have hv := allE_zeroM hal
    have HAL := hid hal
    clear hal
    go_wp2_with fail
    refine (moments_calls A2 l c2 A3 ed c3 _ ((unhid HS).below hbw1) ((unhid HE).below hbw1) (sgsB_len hv.2.1) (cov_bounds hv.2.1) (edsB_len hv.2.2) (mom_bounds hv.2.1 hv.2.2)).mono ?_
    rintro e w2 ⟨A6, c6, L, rfl, hM, hrd, hL, hb2⟩
    go_wp2_with fail
    go_ret2
    exact ⟨A6, c6, L, by rw [unhid HAL]; rfl, fun _ => hM, fun h => absurd (unhid HAL) h, hrd, hL, hbw1.trans (hb2.mono hbw1.size)⟩
  · have h0' : (al != 0) = true := by simpa using h0
    have HAL := hid hal
    have H0 := hid h0
    clear hal h0
    go_wp2_with fail
    go_ret2
    exact ⟨none, 0, [], by rw [unhid HAL]; rfl, fun h => absurd ((unhid HAL).symm.trans h) (unhid H0), fun _ => rfl, Rd.nil _ _, by simp, hbw1⟩

theorem edsB_nilH {len : Int} {js : List Int} (h : lineB len js = true) : edsB len js [] = true := by simp [edsB, h]
theorem EdsOk.nilH (w : World) : EdsOk w none [] := ⟨by simp, Rd.nil _ _, fun s h => by cases h⟩
def HistPost (len : Int) (js : List Int) (l : List Sg) (dir topic m : Int) (w : World) (e : Ending) (w' : World) : Prop :=
  ∃ (A' : Option Addr) (c' : Nat) (T : List Td), e = .returned (.tuple #[.slice A' T.length c', .int .i64 (holdsE len js l 0 dir topic m)]) ∧
    (holdsE len js l 0 dir topic m = 0 → ∃ hl, Mom (momH l [] ++ [0]) hl ∧ T = tdRun hl (tdV len js l dir topic m) hl.length) ∧ (holdsE len js l 0 dir topic m ≠ 0 → T = []) ∧ Rd w' A' (tds T) ∧ T.length ≤ 4000 ∧ Below w.heap.size w w'

set_option maxHeartbeats 4000000 in
set_option maxRecDepth 100000 in
theorem history_calls (len : Int) (A : Option Addr) (js : List Int) (c : Nat) (A2 : Option Addr) (l : List Sg) (c2 : Nat) (dir topic m : Int) (w : World) (hl : LnOk w A js) (hs : SgsOk w A2 l) (hlen : I64 len) :
    Calls Tryz.prog 33 #[.agg #[.int .i64 len, .slice A js.length c], .slice A2 l.length c2, .int .i64 dir, .int .i64 topic, .int .i64 m] w (HistPost len js l dir topic m w) := by
  have HL := hid hl
  have HS := hid hs
  clear hl hs
  obtain ⟨i0, hi, hz0, hz1, hz2⟩ := info_parts info_told
  go_enter Tryz.func33, Tryz.ntmps33
  go_wp2_with fail
  refine (asked_calls len A js c A2 l c2 0 dir topic _ ((unhid HL).below (below_alloc _ _)) ((unhid HS).below (below_alloc _ _))).mono ?_
  rintro e w1 ⟨rfl, hb1⟩
  have d0 := hb1.cell (p := ⟨w.heap.size, 0, none⟩) (by simp)
  have d1 := hb1.cell (p := ⟨w.heap.size, 1, none⟩) (by simp)
  simp [go_sem] at d0 d1
  have hbw1 : Below w.heap.size w w1 := (below_alloc w _).trans (hb1.mono (by simp))
  have hB1 : w.heap.size < w1.heap.size := Nat.lt_of_lt_of_le (by simp) hb1.size
  clear hb1
  have hee : holdsE len js l 0 dir topic m = if askedE len js l 0 dir topic ≠ 0 then askedE len js l 0 dir topic else if 0 ≤ m ∧ m ≤ len - 1 then 0 else 2 := rfl
  generalize he : askedE len js l 0 dir topic = er at *
  by_cases h0 : er = 0
  · subst h0
    have hv := askedE_zero he
    clear he
    have hlen2 := lineB_len hv.1
    obtain ⟨n, rfl⟩ := Int.eq_ofNat_of_zero_le (show 0 ≤ len by omega)
    have hn : (n : Int) ≤ 100000 := by omega
    have HJ := hid (lineB_mem hv.1)
    have HB := hid (sgsB_bounds hv.2.1)
    have HC := hid (sgsB_chain hv.2.1)
    have hl100 := sgsB_len hv.2.1
    have HND := hid (sgsB_nodup hv.2.1)
    have HCB := hid (cov_bounds hv.2.1)
    have HMB := hid (mom_bounds hv.2.1 (edsB_nilH hv.1))
    clear hv
    simp only [ne_eq, not_true, if_false] at hee
    by_cases hm : 0 ≤ m ∧ m ≤ (n : Int) - 1
    · rw [if_pos hm] at hee
      have HEE := hid hee
      have hmi := metreI_lt2 (dir := dir) hm.1 hm.2
      have hdm := decide_eq_true hm
      obtain ⟨hm1, hm2⟩ := hm
      clear hee
      have hrw : ∀ w, Calls Tryz.prog 50 #[.int .i64 0, .int .i64 m, .int .i64 (n - 1)] w fun e w' => e = .returned (.bool true) ∧ w = w' := fun w => (within_calls 0 m (n - 1) w).mono fun _ _ h => ⟨h.1.trans (by rw [hdm]), h.2⟩
      have HRW := hid hrw
      clear hrw hdm
      have HROK := hid (fun h R (hr : IsRow n h dir l R) => rowOk_of hr (unhid HB))
      have HRL := hid (fun h R (hr : IsRow n h dir l R) => (show R.length ≤ 100 from by have := selP_len n h dir l; have := hr.perm.length_eq; omega))
      have HEL := hid (fun R (h : R.length ≤ 100) => (show (eventsP n js R dir topic).length ≤ 1000 from by
        have h1 := evRun_len n js R dir topic R.length
        have h2 := stopP_len (evRun n js R dir topic R.length).1 (evRun n js R dir topic R.length).2 n
        unfold eventsP
        omega))
      have HVV := hid (fun h R (hr : IsRow n h dir l R) => (show atP (eventsP n js R dir topic) (metreI n dir m) = tdV n js l dir topic m h from by
        rw [at_events (unhid HROK h R hr) hmi.2, tdV, ← rowM_eq hr (unhid HND)]))
      generalize hV : tdV n js l dir topic m = V at HVV
      have HVE := hid hV
      clear hV
      go_wp2_with (first | (go_at_call 50; refine ((unhid HRW) _).mono ?_; rintro e w' ⟨rfl, rfl⟩) | (go_at_call 73; refine (moments_calls A2 l c2 none [] 0 _ ((unhid HS).below (hbw1.alloc hbw1.size _)) (EdsOk.nilH _) hl100 (unhid HCB) (by simp) (unhid HMB)).mono ?_; rintro e w2 ⟨A6, c6, L, rfl, hM, hrdL, hL3, hb2⟩; have hOL := own_below (own_new1 w1 (.int .i64 0) 3) hb2) | (at_builtin; refine wpList_app_hours rfl _ _ 22 rfl Tryz.underlying22 hOL rfl rfl hrdL hL3 (by have := hb2.size; simp at this; omega) ?_; intro g cap w3 hown3 hb3) | (go_at_call 74; refine (compactM_calls w1.heap.size g cap (0 :: L) w3 hown3 (by simp; omega)).mono ?_; rintro e w4 ⟨rfl, hrdH, hg4⟩))
      have hLge : ∀ x ∈ L, 0 ≤ x := fun x hx => ((unhid HMB) x ((hM.2 x).1 hx).1).1
      have hHM := compact_new hM hLge
      have hcl := compact_len (0 :: L)
      have h0in : (0 : Int) ∈ Lib.compact (0 :: L) := (hHM.2 0).2 ⟨by simp, by omega⟩
      obtain ⟨HQ, hHQ⟩ : ∃ z, z = Lib.compact (0 :: L) := ⟨_, rfl⟩
      rw [← hHQ] at hrdH hHM hcl h0in ⊢
      have hHl : HQ.length ≤ 3001 := by simp at hcl; omega
      have hHp : 0 < HQ.length := List.length_pos_of_mem h0in
      have hgb := (own_lt' hown3 (show (Value.slice (some ⟨g, 0, none⟩) (0 :: L).length cap).ownBlock = some g from rfl)).1
      have hb14 : Below w1.heap.size w1 w4 := Below.grown (((below_alloc w1 (.cells #[.int .i64 0] 3)).trans (hb2.mono (by simp))).trans hb3) hg4 (Nat.le_trans (by have := hb2.size; simp at this; omega) hb3.size) (fun j hj => by cases hj; exact hgb)
      have d0w := (hb14.cell (p := ⟨w.heap.size, 0, none⟩) hB1).trans d0
      have d1w := (hb14.cell (p := ⟨w.heap.size, 1, none⟩) hB1).trans d1
      have hB4 : w.heap.size < w4.heap.size := Nat.lt_of_lt_of_le hB1 hb14.size
      have hbw4 := hbw1.trans (hb14.mono hbw1.size)
      have HHM := hid hHM
      have HRH := hid hrdH
      have HW4 := hid hbw4
      have HHB := hid (show ∀ x ∈ HQ, 0 ≤ x ∧ x ≤ 10000000 from fun x hx => by
        obtain ⟨h1, h2⟩ := (hHM.2 x).1 hx
        rcases List.mem_append.1 h1 with h3 | h3
        · exact ⟨((unhid HMB) x h3).1, h2⟩
        · simp at h3; subst h3; omega)
      clear hLge hHM hcl h0in hHQ hM hrdL hL3 hb2 hown3 hb3 hrdH hg4 hgb hOL hb14 hbw4 d0 d1
      go_loopw [13, 38] (fun v i wr => ∃ (k : Nat) (A6 : Option Addr) (c6 : Nat) (o : List Td), k ≤ HQ.length ∧ i = .int .i64 k ∧ v = .slice A6 o.length c6 ∧ rtRun HQ V k = o ∧ wr.ownsRow w4.heap.size 76 3 (.slice A6 o.length c6) o.length (tds o) ∧ Below w4.heap.size w4 wr) (fun _ i _ => HQ.length - (intOf i).toNat)
      case atStart => exact ⟨0, none, 0, [], Nat.zero_le _, rfl, rfl, rfl, World.ownsRow_nil _ _ _ _, Below.refl _ _⟩
      case round =>
        obtain ⟨k, A6, c6, o, hk, rfl, rfl, ho, hown, hbel⟩ := hrel
        have HO := hid hown
        have HOE := hid ho
        have holen : o.length ≤ 3001 := by have := rtRun_len HQ V k; rw [ho] at this; omega
        clear hown ho
        by_cases hkt : k < HQ.length
        · have f0 := (hbel.cell (p := ⟨w.heap.size, 0, none⟩) hB4).trans d0w
          have f1 := (hbel.cell (p := ⟨w.heap.size, 1, none⟩) hB4).trans d1w
          have hBr := Nat.lt_of_lt_of_le hB4 hbel.size
          have HBW := hid ((unhid HW4).trans (hbel.mono (unhid HW4).size))
          obtain ⟨bh, oh, hA, hbh, hch⟩ := ((unhid HRH).below hbel) (ints_ne hkt)
          injection hA with hA
          injection hA with e1 e2
          subst e1 e2
          have c0 : wr.cell? ⟨g, k, none⟩ = some (.int .i64 HQ[k]) := by simpa using hch k _ (ints_at HQ k hkt)
          have hhb := (unhid HHB) _ (List.getElem_mem hkt)
          have HSC := hid (show rtRun HQ V (k + 1) = rtStep o HQ[k] (V HQ[k]) from by
            rw [rtRun_succ, unhid HOE, List.getD_eq_getElem?_getD, List.getElem?_eq_getElem hkt]; rfl)
          generalize HQ[k] = hrr at *
          clear hch
          go_wp2_with fail
          go_region_held3 (fun w' => w'.cell? ⟨w.heap.size, 0, none⟩ = some (.int .i64 n) ∧ w'.cell? ⟨w.heap.size, 1, none⟩ = some (.slice A js.length c) ∧ Below wr.heap.size wr w') (first | (refine ⟨?_, ?_, ?_⟩ <;> assumption) | (exact ⟨by assumption, by assumption, Below.drew (Below.refl _ _)⟩) | go_keep)
            (first
              | (go_at_call 49; have hh := ‹_ ∧ _ ∧ Below wr.heap.size wr _›; refine (rowOf_calls n A js.length c A2 l c2 hrr dir _ ((unhid HS).below ((unhid HBW).trans (hh.2.2.mono (unhid HBW).size))) (by omega) hn (unhid HC)).mono ?_; rintro e v2 ⟨A3, c3, R, rfl, hrow, hrd, hb2⟩; have hB2 := hh.2.2.trans (hb2.mono hh.2.2.size); have e0 := (hB2.cell (p := ⟨w.heap.size, 0, none⟩) hBr).trans f0; have e1 := (hB2.cell (p := ⟨w.heap.size, 1, none⟩) hBr).trans f1; clear hh)
              | (go_at_call 52; have hh := ‹_ ∧ _ ∧ Below wr.heap.size wr _›; refine (events_calls n A js c A3 R c3 dir topic _ ((unhid HL).below ((unhid HBW).trans (hh.2.2.mono (unhid HBW).size))) (unhid HJ) hn (by first | exact hrd | exact hrd.alloc _) (by have := unhid HRL hrr R hrow; omega) (unhid HROK hrr R hrow)).mono ?_; rintro e v3 ⟨A4, c4, rfl, hrd4, -, hb2⟩; have hB2 := hh.2.2.trans (hb2.mono hh.2.2.size); have e0 := (hB2.cell (p := ⟨w.heap.size, 0, none⟩) hBr).trans f0; have e1 := (hB2.cell (p := ⟨w.heap.size, 1, none⟩) hBr).trans f1; clear hh)
              | (go_at_call 53; have hh := ‹_ ∧ _ ∧ Below wr.heap.size wr _›; refine (metre_calls n A js.length c dir m _ hm1 (by omega) hn).mono ?_; rintro e v5 ⟨rfl, rfl⟩; have e0 := (World.cell?_alloc_lt _ (.cells #[.int .i64 n, .slice A js.length c] 24) ⟨w.heap.size, 0, none⟩ (Nat.lt_of_lt_of_le hBr hh.2.2.size)).trans hh.1; have e1 := (World.cell?_alloc_lt _ (.cells #[.int .i64 n, .slice A js.length c] 24) ⟨w.heap.size, 1, none⟩ (Nat.lt_of_lt_of_le hBr hh.2.2.size)).trans hh.2.1; have hB2 := below_alloc' hh.2.2 (.cells #[.int .i64 n, .slice A js.length c] 24); clear hh)
              | (go_at_call 51; have hh := ‹_ ∧ _ ∧ Below wr.heap.size wr _›; refine (at_calls A4 (eventsP n js R dir topic) c4 (metreI n dir m) _ (by first | exact hrd4 | exact hrd4.alloc _) (by have := unhid HEL R (unhid HRL hrr R hrow); omega)).mono ?_; rintro e v6 ⟨rfl, hb2⟩; have hB2 := hh.2.2.trans (hb2.mono hh.2.2.size); have e0 := (hB2.cell (p := ⟨w.heap.size, 0, none⟩) hBr).trans f0; have e1 := (hB2.cell (p := ⟨w.heap.size, 1, none⟩) hBr).trans f1; clear hh))
          have hh := ‹_ ∧ _ ∧ Below wr.heap.size wr _›
          rw [(unhid HVV) hrr R hrow]
          have HO := hid (own_below (unhid HO) hh.2.2)
          have HBX := hid (hbel.trans (hh.2.2.mono hbel.size))
          generalize V hrr = v at *
          clear hh hrow hrd hb2 hrd4 HBW f0 f1 c0 hBr e0 e1 hB2
          by_cases hol : 0 < o.length
          · have := decide_eq_true (show (0 : Int) < (o.length : Int) by omega)
            obtain ⟨g2, cg, hvv, hbg, hgs, hcells⟩ := own_some (unhid HO) hol
            injection hvv with hv1 hv2 hv3
            subst hv1 hv3
            obtain ⟨q, hq⟩ : ∃ q, o.length = q + 1 := ⟨o.length - 1, by omega⟩
            have hq1 : IntKind.i64.wrap ((o.length : Int) - 1) = (o.length : Int) - 1 := IntWalk.i64_in _ (by omega)
            have hq2 : (0 : Int) ≤ (o.length : Int) - 1 := by omega
            have hq3 : ((o.length : Int) - 1).toNat = q := by omega
            have hq4 : (o.length : Int) - 1 < (o.length : Int) := by omega
            have hq5 : q < o.length := by omega
            have HQ5 := hid hq
            clear hq
            obtain ⟨t0, t1, t2⟩ := tds_cells (b := g2) (off := 0) (l := o) (fun j u hu => by rw [Nat.zero_add]; exact hcells j u hu) hq5
            rw [Nat.zero_add] at t0 t1 t2
            have HLA := hid (last_of (unhid HQ5))
            have HST := hid (tds_set o q hrr hq5)
            have HY := hid (show o[q]'hq5 = o[q]'hq5 from rfl)
            clear HY hcells t0
            generalize o[q]'hq5 = y at *
            have tf := (unhid HO).frozenAt (q * 3 + 1)
            by_cases hyv : y.val = v
            · have hyv' : (y.val == v) = true := by simpa using hyv
              have HNX := hid (show rtRun HQ V (k + 1) = o from by rw [unhid HSC]; exact rt_same (q := q) (unhid HLA) hyv)
              clear hyv
              go_wp2_with fail
              go_roundw
              case rel => exact ⟨k + 1, _, c6, o, by omega, by go_num, rfl, unhid HNX, unhid HO, unhid HBX⟩
              case measure => simp [intOf]; omega
            · have hyv' : (y.val == v) = false := by simpa using hyv
              have HNX := hid (show rtRun HQ V (k + 1) = o.set q ⟨y.fr, hrr, y.val⟩ ++ [⟨hrr, 0, v⟩] from by rw [unhid HSC]; exact rt_diff (unhid HQ5) (unhid HLA) hyv)
              have h9 := (unhid HO).stored (q * 3 + 1) (.int .i64 hrr)
              have HO := hid (show (v6.setCell ⟨g2, q * 3 + 1, none⟩ (.int .i64 hrr)).ownsRow w4.heap.size 76 3 (.slice (some ⟨g2, 0, none⟩) o.length c6) o.length (tds (o.set q ⟨y.fr, hrr, y.val⟩)) from by rw [← unhid HST]; exact h9.1)
              have HBX := hid (show Below w4.heap.size w4 (v6.setCell ⟨g2, q * 3 + 1, none⟩ (.int .i64 hrr)) from Below.setCell (unhid HBX) hbg _)
              clear hyv h9
              have hnb : ((v6.setCell ⟨g2, q * 3 + 1, none⟩ (.int .i64 hrr)).alloc (.cells #[.int .i64 hrr, .int .i64 0, .int .i64 v] 76)).heap[v6.heap.size]? = some (.cells #[.int .i64 hrr, .int .i64 0, .int .i64 v] 76 (0, 0)) := by
                have h := heap_alloc_new (v6.setCell ⟨g2, q * 3 + 1, none⟩ (.int .i64 hrr)) (.cells #[.int .i64 hrr, .int .i64 0, .int .i64 v] 76)
                rwa [show (v6.setCell ⟨g2, q * 3 + 1, none⟩ (.int .i64 hrr)).heap.size = v6.heap.size from by simp] at h
              go_wp2_with (at_builtin; refine wpList_append_lies _ rfl _ _ 62 rfl w4.heap.size 76 i0 (.agg #[.int .i64 0, .int .i64 0, .int .i64 0]) 3 24 Tryz.underlying62 hi hz0 hz1 hz2 rfl (by decide) _ _ _ rfl ((unhid HO).alloc _) ⟨v6.heap.size, 0, none⟩ 1 1 [.int .i64 hrr, .int .i64 0, .int .i64 v] rfl rfl (World.news_of_block (cs := #[.int .i64 hrr, .int .i64 0, .int .i64 v]) (t := 76) (fr := (0, 0)) hnb) ?_ (by decide) ?_ ?_ ?_ (v6.heap.size + 1) (by simp) ?_)
              all_goals try (first | (unfold maxLen; omega) | omega | (have := (unhid HBX).size; simp; omega) | exact ⟨rfl, rfl, rfl⟩ | (intro u hu; simp at hu; rcases hu with rfl | rfl | rfl <;> rfl))
              intro g8 c8 w8 hown8 hg8 hat8 hlt8
              have hb8 : Below w4.heap.size w4 w8 := by
                have hbx := unhid HBX
                refine Below.grown (hbx.alloc hbx.size _) hg8 (by have := hbx.size; simp; omega) (fun i hi => ?_)
                exact (own_lt' (unhid HO) hi).1
              have HO8 := hid hown8
              clear hown8 hg8 hat8 hlt8
              go_wp2_with fail
              go_roundw
              case rel =>
                refine ⟨k + 1, some ⟨g8, 0, none⟩, c8, (o.set q ⟨y.fr, hrr, y.val⟩) ++ [⟨hrr, 0, v⟩], by omega, by go_num, by simp, unhid HNX, ?_, hb8⟩
                have h5 := unhid HO8
                rw [show ((o.set q ⟨y.fr, hrr, y.val⟩) ++ [(⟨hrr, 0, v⟩ : Td)]).length = (o.set q ⟨y.fr, hrr, y.val⟩).length + 1 from by simp, show tds ((o.set q ⟨y.fr, hrr, y.val⟩) ++ [(⟨hrr, 0, v⟩ : Td)]) = tds (o.set q ⟨y.fr, hrr, y.val⟩) ++ [.int .i64 hrr, .int .i64 0, .int .i64 v] from by simp [tds, tdC]]
                rw [List.length_set]
                exact h5
              case measure => simp [intOf]; omega
          · have := decide_eq_false (show ¬ ((0 : Int) < (o.length : Int)) by omega)
            have HNX := hid (show rtRun HQ V (k + 1) = o ++ [⟨hrr, 0, v⟩] from by rw [unhid HSC]; exact rt_nil (by omega))
            go_wp2_with (at_builtin; refine wpList_append_lies _ rfl _ _ 62 rfl w4.heap.size 76 i0 (.agg #[.int .i64 0, .int .i64 0, .int .i64 0]) 3 24 Tryz.underlying62 hi hz0 hz1 hz2 rfl (by decide) _ _ _ rfl ((unhid HO).alloc _) ⟨v6.heap.size, 0, none⟩ 1 1 [.int .i64 hrr, .int .i64 0, .int .i64 v] rfl rfl (World.news_of_block (cs := #[.int .i64 hrr, .int .i64 0, .int .i64 v]) (t := 76) (fr := (0, 0)) (heap_alloc_new v6 _)) ?_ (by decide) ?_ ?_ ?_ (v6.heap.size + 1) (by simp) ?_)
            all_goals try (first | (unfold maxLen; omega) | omega | (have := (unhid HBX).size; simp; omega) | exact ⟨rfl, rfl, rfl⟩ | (intro u hu; simp at hu; rcases hu with rfl | rfl | rfl <;> rfl))
            intro g8 c8 w8 hown8 hg8 hat8 hlt8
            have hb8 : Below w4.heap.size w4 w8 := by
              have hbx := unhid HBX
              refine Below.grown (hbx.alloc hbx.size _) hg8 (by have := hbx.size; simp; omega) (fun i hi => ?_)
              exact (own_lt' (unhid HO) hi).1
            have HO8 := hid hown8
            clear hown8 hg8 hat8 hlt8
            go_wp2_with fail
            go_roundw
            case rel =>
              refine ⟨k + 1, some ⟨g8, 0, none⟩, c8, o ++ [⟨hrr, 0, v⟩], by omega, by go_num, by simp, unhid HNX, ?_, hb8⟩
              have h5 := unhid HO8
              rw [show (o ++ [(⟨hrr, 0, v⟩ : Td)]).length = o.length + 1 from by simp, show tds (o ++ [(⟨hrr, 0, v⟩ : Td)]) = tds o ++ [.int .i64 hrr, .int .i64 0, .int .i64 v] from by simp [tds, tdC]]
              exact h5
            case measure => simp [intOf]; omega
        · obtain rfl : k = HQ.length := by omega
          have hrl : 0 < o.length := by
            rcases rt_td HQ V HQ.length (Nat.le_refl _) with ⟨-, -, h⟩ | ⟨I, t, h1, h2⟩
            · omega
            · rw [← unhid HOE, h1]; simp
          obtain ⟨g2, cg, hvv, hbg, hgs, hcells⟩ := own_some (unhid HO) hrl
          injection hvv with hv1 hv2 hv3
          subst hv1 hv3
          obtain ⟨q, hq⟩ : ∃ q, o.length = q + 1 := ⟨o.length - 1, by omega⟩
          have hq1 : IntKind.i64.wrap ((o.length : Int) - 1) = (o.length : Int) - 1 := IntWalk.i64_in _ (by omega)
          have hq2 : (0 : Int) ≤ (o.length : Int) - 1 := by omega
          have hq3 : ((o.length : Int) - 1).toNat = q := by omega
          have hq4 : (o.length : Int) - 1 < (o.length : Int) := by omega
          have hq5 : q < o.length := by omega
          have HQ5 := hid hq
          clear hq
          obtain ⟨t0, t1, t2⟩ := tds_cells (b := g2) (off := 0) (l := o) (fun j u hu => by rw [Nat.zero_add]; exact hcells j u hu) hq5
          rw [Nat.zero_add] at t0 t1 t2
          have HEND := hid (show o.set q ⟨(o[q]'hq5).fr, 10000001, (o[q]'hq5).val⟩ = tdRun HQ V HQ.length from by
            have h1 := rt_end (hs := HQ) (v := V) (q := q) (y := o[q]'hq5) hHp (by rw [unhid HOE]; exact unhid HQ5) (by rw [unhid HOE]; exact last_of (unhid HQ5))
            rwa [unhid HOE] at h1)
          have HST := hid (tds_set o q 10000001 hq5)
          have tf := (unhid HO).frozenAt (q * 3 + 1)
          clear hcells
          go_wp2_with fail
          go_ret2
          have h9 := (unhid HO).stored (q * 3 + 1) (.int .i64 10000001)
          have hlT : (tdRun HQ V HQ.length).length = o.length := by rw [← unhid HEND, List.length_set]
          obtain ⟨A9, c9, hv9, hrd9, -⟩ := own_slice h9.1
          injection hv9 with r1 r2 r3
          subst r1
          rw [unhid HST, unhid HEND] at hrd9
          exact ⟨some ⟨g2, 0, none⟩, c6, tdRun HQ V HQ.length, by rw [unhid HEE, hlT]; rfl, fun _ => ⟨HQ, unhid HHM, by rw [unhid HVE]⟩, fun h => absurd (unhid HEE) h, hrd9, by omega, (unhid HW4).trans ((Below.setCell hbel hbg _).mono (unhid HW4).size)⟩
    · rw [if_neg hm] at hee
      have HEE := hid hee
      have hdm := decide_eq_false hm
      clear hee hm
      have hrw : ∀ w, Calls Tryz.prog 50 #[.int .i64 0, .int .i64 m, .int .i64 (n - 1)] w fun e w' => e = .returned (.bool false) ∧ w = w' := fun w => (within_calls 0 m (n - 1) w).mono fun _ _ h => ⟨h.1.trans (by rw [hdm]), h.2⟩
      have HRW := hid hrw
      clear hrw hdm
      go_wp2_with (go_at_call 50; refine ((unhid HRW) _).mono ?_; rintro e w' ⟨rfl, rfl⟩)
      go_ret2
      exact ⟨none, 0, [], by rw [unhid HEE]; rfl, fun h => absurd ((unhid HEE).symm.trans h) (by omega), fun _ => rfl, Rd.nil _ _, by simp, hbw1⟩
  · have h0' : (er != 0) = true := by simpa using h0
    rw [if_pos h0] at hee
    have HEE := hid hee
    have H0 := hid h0
    clear he hee h0
    go_wp2_with fail
    go_ret2
    exact ⟨none, 0, [], by rw [unhid HEE]; rfl, fun h => absurd ((unhid HEE).symm.trans h) (unhid H0), fun _ => rfl, Rd.nil _ _, by simp, hbw1⟩
end

section
theorem wrap_modM (metre : Int) (n : Nat) (h1 : 1 ≤ n) (h2 : n ≤ 200) : ∃ m : Nat, m < n ∧ wrap64 ((IntKind.u64.wrap metre).tmod n) = m := by
  have h0 : 0 ≤ IntKind.u64.wrap metre := by
    simp [IntKind.wrap, IntKind.signed, IntKind.bits]
    exact Int.emod_nonneg _ (by omega)
  have h3 : (IntKind.u64.wrap metre).tmod n = IntKind.u64.wrap metre % n := Int.tmod_eq_emod_of_nonneg h0
  have h4 := Int.emod_nonneg (IntKind.u64.wrap metre) (show (n : Int) ≠ 0 by omega)
  have h5 := Int.emod_lt_of_pos (IntKind.u64.wrap metre) (show (0 : Int) < n by omega)
  refine ⟨(IntKind.u64.wrap metre % n).toNat, by omega, ?_⟩
  rw [h3, IntWalk.wrap64_in _ ⟨by omega, by omega⟩]
  omega
theorem holdsE_okM {len : Int} {js : List Int} {l : List Sg} {hour dir topic m : Int} (h1 : lineB len js = true) (h2 : sgsB len js l = true) (h3 : 0 ≤ hour ∧ hour ≤ 10000000) (h4 : dirB dir = true) (h5 : topic = 1 ∨ topic = 2) (h6 : 0 ≤ m ∧ m ≤ len - 1) : holdsE len js l hour dir topic m = 0 := by
  unfold holdsE
  rw [askedE_ok h1 h2 h3 h4 h5, if_neg (by simp), if_pos h6]
theorem mustE_okM {len : Int} {js : List Int} {ed : List Ed} {hour dir topic m : Int} (h1 : lineB len js = true) (h2 : edsB len js ed = true) (h3 : 0 ≤ hour ∧ hour ≤ 10000000) (h4 : dirB dir = true) (h5 : topic = 1 ∨ topic = 2) (h6 : 0 ≤ m ∧ m ≤ len - 1) : mustE len js ed hour dir topic m = 0 := by
  have h7 : orderedE len js ed hour dir topic = 0 := by
    unfold orderedE
    rw [if_neg (by rw [h2]; simp)]
    exact askedE_ok h1 (by rw [sgsB_nil]; exact h1) h3 h4 h5
  unfold mustE
  rw [h7, if_neg (by simp), if_pos h6]
theorem allE_okM {len : Int} {js : List Int} {l : List Sg} {ed : List Ed} (h1 : lineB len js = true) (h2 : sgsB len js l = true) (h4 : edsB len js ed = true) : allE len js l ed 0 = 0 := by
  unfold allE
  rw [h1, h2, h4]
  simp

set_option maxHeartbeats 4000000 in
set_option maxRecDepth 100000 in
theorem momentsL_calls (len : Int) (A : Option Addr) (js : List Int) (c : Nat) (A2 : Option Addr) (l : List Sg) (c2 : Nat) (A3 : Option Addr) (ed : List Ed) (c3 : Nat) (hour dir topic metre : Int) (part : Int) (w : World) (hl : LnOk w A js) (hs : SgsOk w A2 l) (he : EdsOk w A3 ed) (_ : I64 len) (_ : I64 hour) (_ : I64 dir) (_ : I64 topic) (im : I64 metre) (iw : (Lit.int .u32 part).wf = true) :
    Calls Tryz.prog 7 #[.agg #[.int .i64 len, .slice A js.length c, .slice A2 l.length c2, .slice A3 ed.length c3, .int .i64 hour, .int .i64 dir, .int .i64 topic, .int .i64 metre], .int .u32 part] w fun e w' => e = .returned (.bool true) ∧ Below w.heap.size w w' := by
  have hpa : 0 ≤ part ∧ part ≤ 4294967295 := by
    simp [Lit.wf, IntKind.min, IntKind.max, IntKind.signed, IntKind.bits] at iw
    exact iw
  clear iw
  have HL := hid hl
  have HS := hid hs
  have HE := hid he
  clear hl hs he
  go_enter Tryz.func7, Tryz.ntmps7
  go_wp2_with fail
  refine (right_calls len A js c A2 l c2 A3 ed c3 hour dir topic metre _ ((unhid HL).below (below_alloc _ _)) ((unhid HS).below (below_alloc _ _)) ((unhid HE).below (below_alloc _ _))).mono ?_
  rintro e w1 ⟨rfl, hb1⟩
  have HA1 := (Ask8.new w (.int .i64 len) (.slice A js.length c) (.slice A2 l.length c2) (.slice A3 ed.length c3) (.int .i64 hour) (.int .i64 dir) (.int .i64 topic) (.int .i64 metre) 28).below hb1
  have HB1 := hid ((below_alloc w _).trans (hb1.mono (by simp)))
  clear hb1
  obtain ⟨B, hBB⟩ : ∃ B, B = w.heap.size := ⟨_, rfl⟩
  rw [← hBB] at HA1 ⊢
  clear hBB
  obtain ⟨e0, e1, e2, e3, e4, e5, e6, e7⟩ := HA1.cells
  by_cases hrt : rightA len js l ed hour dir topic = true
  · have HOK := rightA_ok hrt
    rw [hrt]
    clear hrt
    have hlen1 := (lineB_len HOK.line).1
    have hlen2 := HOK.small
    obtain ⟨n, rfl⟩ := Int.eq_ofNat_of_zero_le (show 0 ≤ len by omega)
    obtain ⟨mm, hmm, hme⟩ := wrap_modM metre n (by omega) (by omega)
    have HME := hid hme
    have hho := HOK.hour
    have HOK := hid HOK
    clear hme
    go_wp2_with fail
    refine (rmomentsL_calls n A js c A2 l c2 A3 ed c3 _ ((unhid HL).below (unhid HB1)) ((unhid HS).below (unhid HB1)) ((unhid HE).below (unhid HB1))).mono ?_
    rintro e w2 ⟨A5, c5, L, rfl, hz, -, hrdL, hlL, hb2⟩
    have hal := allE_okM (unhid HOK).line (unhid HOK).signs (unhid HOK).eds
    have hM := hz hal
    rw [hal]
    have HM := hid hM
    have HLB := hid (show ∀ x ∈ L, 0 ≤ x ∧ x ≤ 10000000 from fun x hx => by
      obtain ⟨h1, h2⟩ := (hM.2 x).1 hx
      exact ⟨(mom_bounds (unhid HOK).signs (unhid HOK).eds x h1).1, h2⟩)
    have HAS := hid (show ∀ i j (hi : i < L.length) (hj : j < L.length), i < j → L[i] < L[j] from List.pairwise_iff_getElem.1 hM.1)
    have HRL := hid hrdL
    clear hz hal hM hrdL
    have HB2 := hid ((unhid HB1).trans (hb2.mono (unhid HB1).size))
    have HA2 := HA1.below hb2
    clear hb2 e0 e1 e2 e3 e4 e5 e6 e7 HA1
    obtain ⟨e0, e1, e2, e3, e4, e5, e6, e7⟩ := HA2.cells
    go_wp2_with fail
    go_loopw [7, 8, 9] (fun f t i wr => ∃ (k : Nat) (fr tu : Int), k ≤ L.length ∧ i = .int .i64 k ∧ f = .int .i64 fr ∧ t = .int .i64 tu ∧ (0 ≤ fr ∧ fr ≤ hour) ∧ (hour ≤ tu ∧ tu ≤ 10000000) ∧ (∀ j (h : j < L.length), j < k → (L[j] ≤ hour → L[j] ≤ fr) ∧ (hour < L[j] → tu < L[j])) ∧ ∃ nq, wr = w2.drewN nq) (fun _ _ i _ => L.length - (intOf i).toNat)
    case atStart => exact ⟨0, 0, 10000000, Nat.zero_le _, rfl, rfl, rfl, ⟨by omega, hho.1⟩, ⟨hho.2, by omega⟩, fun j _ h => absurd h (by omega), 0, rfl⟩
    case round =>
      obtain ⟨k, fr, tu, hk, rfl, rfl, rfl, hfr, htu, hall, nq, rfl⟩ := hrel
      have HALL := hid hall
      clear hall
      by_cases hkt : k < L.length
      · obtain ⟨b, off, rfl, hb, hc⟩ := (unhid HRL) (ints_ne hkt)
        have c0 := hc k _ (ints_at L k hkt)
        have hxb := (unhid HLB) _ (List.getElem_mem hkt)
        have HX1 := hid (show ∀ fr2 tu2 : Int, ((L[k] ≤ hour ∧ fr2 = L[k] ∧ tu2 = tu) ∨ (hour < L[k] ∧ fr2 = fr ∧ tu2 ≤ tu ∧ tu2 < L[k])) → ∀ j (h : j < L.length), j < k + 1 → (L[j] ≤ hour → L[j] ≤ fr2) ∧ (hour < L[j] → tu2 < L[j]) from fun fr2 tu2 hcase j hj hjk => by
          by_cases e : j = k
          · subst e
            rcases hcase with ⟨h1, rfl, rfl⟩ | ⟨h1, rfl, h3, h4⟩
            · exact ⟨fun _ => Int.le_refl _, fun h => absurd h (by omega)⟩
            · exact ⟨fun h => absurd h (by omega), fun _ => h4⟩
          · have h5 := (unhid HALL) j hj (by omega)
            have h6 := (unhid HAS) j k hj hkt (by omega)
            rcases hcase with ⟨h1, rfl, rfl⟩ | ⟨h1, rfl, h3, h4⟩
            · exact ⟨fun _ => by omega, h5.2⟩
            · exact ⟨h5.1, fun h => by have := h5.2 h; omega⟩)
        have hx1 := decide_eq_false (show ¬ L[k] < 0 by omega)
        have hx2 := decide_eq_false (show ¬ (10000000 : Int) < L[k] by omega)
        have hkk : (k : Int) < (L.length : Int) := by omega
        have HPV := hid (show ∀ h0 : 0 < k, ∃ z, (w2.cell? ⟨b, off + (k - 1), none⟩ = some (.int .i64 z)) ∧ z < L[k] from fun h0 => ⟨L[k - 1], hc (k - 1) _ (ints_at L (k - 1) (by omega)), (unhid HAS) (k - 1) k (by omega) hkt (by omega)⟩)
        generalize L[k] = x at *
        clear hc
        by_cases hk0 : 0 < k
        · obtain ⟨z, c1, hzx⟩ := (unhid HPV) hk0
          have hx3 := decide_eq_false (show ¬ x ≤ z by omega)
          have hq1 : IntKind.i64.wrap ((k : Int) - 1) = (k : Int) - 1 := IntWalk.i64_in _ (by omega)
          have hq2 : (0 : Int) ≤ (k : Int) - 1 := by omega
          have hq3 : ((k : Int) - 1).toNat = k - 1 := by omega
          have hq4 : (k : Int) - 1 < (L.length : Int) := by omega
          have := decide_eq_true (show 0 < k by omega)
          go_wp2_with fail
          go_quiet (fail)
          go_wp2_with fail
          by_cases hxh : x ≤ hour
          · have := decide_eq_true (show x ≤ hour by omega)
            go_quiet (fail)
            go_wp2_with fail
            go_roundw
            case rel => exact ⟨k + 1, x, tu, by omega, by go_num, rfl, rfl, ⟨by omega, by omega⟩, htu, (unhid HX1) x tu (Or.inl ⟨hxh, rfl, rfl⟩), _, rfl⟩
            case measure => simp [intOf]; omega
          · have := decide_eq_false (show ¬ (x ≤ hour) by omega)
            have hw1 : IntKind.i64.wrap (x - 1) = x - 1 := IntWalk.i64_in _ (by omega)
            go_quiet (fail)
            go_wp2_with fail
            go_roundw
            case rel => exact ⟨k + 1, fr, min tu (x - 1), by omega, by go_num, rfl, rfl, hfr, ⟨by omega, by omega⟩, (unhid HX1) fr (min tu (x - 1)) (Or.inr ⟨by omega, rfl, by omega, by omega⟩), _, rfl⟩
            case measure => simp [intOf]; omega
        · have := decide_eq_false (show ¬ (0 < k) by omega)
          go_wp2_with fail
          go_quiet (fail)
          go_wp2_with fail
          by_cases hxh : x ≤ hour
          · have := decide_eq_true (show x ≤ hour by omega)
            go_quiet (fail)
            go_wp2_with fail
            go_roundw
            case rel => exact ⟨k + 1, x, tu, by omega, by go_num, rfl, rfl, ⟨by omega, by omega⟩, htu, (unhid HX1) x tu (Or.inl ⟨hxh, rfl, rfl⟩), _, rfl⟩
            case measure => simp [intOf]; omega
          · have := decide_eq_false (show ¬ (x ≤ hour) by omega)
            have hw1 : IntKind.i64.wrap (x - 1) = x - 1 := IntWalk.i64_in _ (by omega)
            go_quiet (fail)
            go_wp2_with fail
            go_roundw
            case rel => exact ⟨k + 1, fr, min tu (x - 1), by omega, by go_num, rfl, rfl, hfr, ⟨by omega, by omega⟩, (unhid HX1) fr (min tu (x - 1)) (Or.inr ⟨by omega, rfl, by omega, by omega⟩), _, rfl⟩
            case measure => simp [intOf]; omega
      · obtain rfl : k = L.length := by omega
        have hd1 : IntKind.i64.wrap (tu - fr) = tu - fr := IntWalk.i64_in _ (by omega)
        have hd2 : IntKind.i64.wrap (tu - fr + 1) = tu - fr + 1 := IntWalk.i64_in _ (by omega)
        have hd3 : IntKind.i64.wrap part = part := IntWalk.i64_in _ (by omega)
        have ht0 : part.tmod (tu - fr + 1) = part % (tu - fr + 1) := Int.tmod_eq_emod_of_nonneg hpa.1
        have ht1 := Int.emod_nonneg part (show tu - fr + 1 ≠ 0 by omega)
        have ht2 := Int.emod_lt_of_pos part (show 0 < tu - fr + 1 by omega)
        obtain ⟨oth, hoth⟩ : ∃ oth, oth = fr + part % (tu - fr + 1) := ⟨_, rfl⟩
        have hoo : 0 ≤ oth ∧ oth ≤ 10000000 := by omega
        have ho1 : fr ≤ oth ∧ oth ≤ tu := by omega
        have HOTH := hid (show wrap64 (fr + part % (tu - fr + 1)) = oth from by rw [← hoth]; exact IntWalk.wrap64_in _ ⟨by omega, by omega⟩)
        have hd6 : ((tu - fr + 1) == 0) = false := by simp; omega
        have hd7 : ¬ (tu - fr + 1 = 0) := by omega
        clear hoth
        have HMV := hid (show ∀ x ∈ momH l ed, x ≤ 10000000 → (x ≤ hour ↔ x ≤ oth) from fun x hx hb => by
          obtain ⟨j, hj, rfl⟩ := List.mem_iff_getElem.1 (((unhid HM).2 x).2 ⟨hx, hb⟩)
          have h5 := (unhid HALL) j hj hj
          constructor
          · intro h; have := h5.1 h; omega
          · intro h
            rcases (show L[j] ≤ hour ∨ hour < L[j] by omega) with h6 | h6
            · exact h6
            · have := h5.2 h6; omega)
        clear ht0 ht1 ht2
        go_wp2_with fail
        rw [unhid HME, unhid HOTH]
        have HB3 := hid (below_drewN' (unhid HB2) nq)
        have HA3 := HA2.below (below_drewN' (Below.refl _ _) nq)
        generalize w2.drewN nq = w3 at HB3 HA3 ⊢
        clear e0 e1 e2 e3 e4 e5 e6 e7 hd1 hd2 hd3 hd6 hd7
        obtain ⟨e0, e1, e2, e3, e4, e5, e6, e7⟩ := HA3.cells
        have HO1 := hid (holdsE_okM (topic := topic) (m := mm) (unhid HOK).line (unhid HOK).signs hho (unhid HOK).dir (unhid HOK).topic (by omega))
        have HO2 := hid (holdsE_okM (topic := topic) (m := mm) (unhid HOK).line (unhid HOK).signs hoo (unhid HOK).dir (unhid HOK).topic (by omega))
        have MU1 := hid (mustE_okM (topic := topic) (m := mm) (unhid HOK).line (unhid HOK).eds hho (unhid HOK).dir (unhid HOK).topic (by omega))
        have MU2 := hid (mustE_okM (topic := topic) (m := mm) (unhid HOK).line (unhid HOK).eds hoo (unhid HOK).dir (unhid HOK).topic (by omega))
        have HND := hid (sgsB_nodup (unhid HOK).signs)
        refine (holds_calls n A js c A2 l c2 hour dir topic mm _ ((unhid HL).below (unhid HB3)) ((unhid HS).below (unhid HB3)) (by constructor <;> omega)).mono ?_
        rintro e w4 ⟨v1, rfl, hz1, -, hb4⟩
        rw [unhid HO1]
        obtain ⟨R1, hR1, hv1⟩ := hz1 (unhid HO1)
        have HV1 := hid hv1
        have HR1 := hid hR1
        clear hz1 hv1 hR1
        have HB4 := hid ((unhid HB3).trans (hb4.mono (unhid HB3).size))
        have HA4 := HA3.below hb4
        clear hb4 e0 e1 e2 e3 e4 e5 e6 e7 HA3
        obtain ⟨e0, e1, e2, e3, e4, e5, e6, e7⟩ := HA4.cells
        go_wp2_with fail
        refine (holds_calls n A js c A2 l c2 oth dir topic mm _ ((unhid HL).below (unhid HB4)) ((unhid HS).below (unhid HB4)) (by constructor <;> omega)).mono ?_
        rintro e w5 ⟨v2, rfl, hz2, -, hb5⟩
        rw [unhid HO2]
        obtain ⟨R2, hR2, hv2⟩ := hz2 (unhid HO2)
        have hvv : v2 = v1 := by
          have hr := rowM_same (unhid HR1) hR2 (unhid HND) hho.2 hoo.2 (fun x hx hb => (unhid HMV) x (List.mem_append.2 (Or.inl hx)) hb)
          rw [hv2, unhid HV1, hr]
        subst hvv
        clear hz2 hv2 hR2
        have HB5 := hid ((unhid HB4).trans (hb5.mono (unhid HB4).size))
        have HA5 := HA4.below hb5
        clear hb5 e0 e1 e2 e3 e4 e5 e6 e7 HA4
        obtain ⟨e0, e1, e2, e3, e4, e5, e6, e7⟩ := HA5.cells
        go_wp2_with fail
        refine (must_calls n A js c A3 ed c3 hour dir topic mm _ ((unhid HL).below (unhid HB5)) ((unhid HE).below (unhid HB5)) (by constructor <;> omega)).mono ?_
        rintro e w6 ⟨x1, rfl, hz1, -, hb6⟩
        rw [unhid MU1]
        have HX1' := hid (hz1 (unhid MU1))
        clear hz1
        have HB6 := hid ((unhid HB5).trans (hb6.mono (unhid HB5).size))
        have HA6 := HA5.below hb6
        clear hb6 e0 e1 e2 e3 e4 e5 e6 e7 HA5
        obtain ⟨e0, e1, e2, e3, e4, e5, e6, e7⟩ := HA6.cells
        go_wp2_with fail
        refine (must_calls n A js c A3 ed c3 oth dir topic mm _ ((unhid HL).below (unhid HB6)) ((unhid HE).below (unhid HB6)) (by constructor <;> omega)).mono ?_
        rintro e w7 ⟨x2, rfl, hz2, -, hb7⟩
        rw [unhid MU2]
        have hxx : x2 = x1 := by
          rw [hz2 (unhid MU2), unhid HX1']
          exact (mustP_same hho.2 hoo.2 (fun x hx hb => (unhid HMV) x (List.mem_append.2 (Or.inr hx)) hb)).symm
        subst hxx
        clear hz2
        have HB7 := hid ((unhid HB6).trans (hb7.mono (unhid HB6).size))
        have HA7 := HA6.below hb7
        clear hb7 e0 e1 e2 e3 e4 e5 e6 e7 HA6
        obtain ⟨e0, e1, e2, e3, e4, e5, e6, e7⟩ := HA7.cells
        have hxe : (x2 == x2) = true := by simp
        have hve : (v2 == v2) = true := by simp
        go_wp2_with fail
        refine (first_calls _).mono ?_
        rintro e w8 ⟨rfl, hb8⟩
        go_wp2_with fail
        go_ret
        exact ⟨rfl, (unhid HB7).trans (hb8.mono (unhid HB7).size)⟩
  · rw [Bool.not_eq_true] at hrt
    rw [hrt]
    go_wp2_with fail
    refine (first_calls _).mono ?_
    rintro e w2 ⟨rfl, hb2⟩
    go_wp2_with fail
    go_ret
    exact ⟨rfl, (unhid HB1).trans (hb2.mono (unhid HB1).size)⟩
end

end Go.Proofs.YtmpngoejnmlmbaaGreat
