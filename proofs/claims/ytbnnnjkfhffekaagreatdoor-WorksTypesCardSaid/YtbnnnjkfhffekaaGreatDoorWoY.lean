/-
  Invoices: the reference; equal lists.
-/
import Derived.Test.YtbnnnjkfhffekaaGreatDoorWoV
import Derived.Test.YtbnnnjkfhffekaaGreatDoorWoR
set_option linter.unusedSimpArgs false
set_option linter.unusedVariables false
namespace Go.Proofs.YtbnnnjkfhffekaaGreatDoor
open Go.RowKit Go.Deep

theorem inv_sum2 {p : Prc} {ts : List Ty} {ns : List Int} (h : prcB p = true) (h2 : ∀ j, j < ts.length → tyB (ts.getD j ⟨0, 0, 0, 0, []⟩) = true) : ∀ k, k ≤ ts.length → (∀ j, j < k → 1 ≤ ns.getD j 0 ∧ ns.getD j 0 ≤ 10000) → 0 ≤ sumL (invL p ts ns k) ∧ sumL (invL p ts ns k) ≤ 3600080000000000 * k
  | 0, _, _ => by simp [invL, sumL]
  | k + 1, hk, h4 => by
    have ih := inv_sum2 h h2 k (by omega) (fun j hj => h4 j (by omega))
    have hq := quo_bounds h (tyB_face (h2 k (by omega))) (h4 k (by omega))
    unfold invL
    rw [sumL_app]
    unfold facP at hq ⊢
    omega

set_option maxHeartbeats 2000000 in
set_option maxRecDepth 100000 in
theorem sameW_self (l : List Int) (A A2 : Option Addr) (c c2 : Nat) (w : World) (h1 : Rd w A (ints l)) (h2 : Rd w A2 (ints l)) (hn : l.length ≤ 100000) :
    Calls Tryz.prog 16 #[.slice A l.length c, .slice A2 l.length c2] w fun e w' => e = .returned (.bool true) ∧ Below w.heap.size w w' := by
  have H1 := hid h1
  have H2 := hid h2
  clear h1 h2
  have hlen' : ((l.length : Int) != (l.length : Int)) = false := by simp
  go_enter Tryz.func16, Tryz.ntmps16
  go_wp2_with fail
  go_loopw [5] (fun i wr => ∃ k : Nat, k ≤ l.length ∧ i = .int .i64 k ∧ Below w.heap.size w wr) (fun i _ => l.length - (intOf i).toNat)
  case atStart => exact ⟨0, Nat.zero_le _, rfl, Below.refl _ _⟩
  case round =>
    obtain ⟨k, hk, rfl, hbel⟩ := hrel
    have HBL := hid hbel
    by_cases hlt : k < l.length
    · obtain ⟨b, off, rfl, hb, hc⟩ := ((unhid H1).below hbel) (nums_ne hlt)
      obtain ⟨b2, off2, rfl, hb2, hc2⟩ := ((unhid H2).below hbel) (nums_ne hlt)
      have m0 := hc k _ (nums_at hlt)
      have m1 := hc2 k _ (nums_at hlt)
      clear hc hc2 hbel
      generalize l.getD k 0 = x at *
      have hx : (x != x) = false := by simp
      go_wp2_with fail
      go_quiet (fail)
      go_wp2_with fail
      go_roundw
      case rel => exact ⟨k + 1, by omega, by go_num, by first | exact below_drewN' (unhid HBL) _ | exact Below.drew (unhid HBL)⟩
      case measure => simp [intOf]; omega
    · clear hbel
      go_wp2_with fail
      go_ret
      exact ⟨rfl, unhid HBL⟩

set_option maxHeartbeats 4000000 in
set_option maxRecDepth 100000 in
theorem rinvoice_calls (p : Prc) (A : Option Addr) (c : Nat) (ts : List Ty) (A2 : Option Addr) (c2 : Nat) (ns : List Int) (A3 : Option Addr) (c3 : Nat) (w : World) (hst : StpsOk w A p.steps) (hts : TysOk w A2 ts) (hns : IntsOk w A3 ns) (htx : ∀ k, k < ts.length → (ts.getD k ⟨0, 0, 0, 0, []⟩).text.length ≤ 1000000) :
    Calls Tryz.prog 15 #[.agg #[.int .i64 p.dot, .int .i64 p.scr, .slice A p.steps.length c], .slice A2 ts.length c2, .slice A3 ns.length c3] w (invR p ts ns w) := by
  obtain ⟨i0, hi, hz0, hz1, hz2⟩ := info_partsd info_i64d
  have hb0 := below_alloc w (.cells #[.int .i64 p.dot, .int .i64 p.scr, .slice A p.steps.length c] 24)
  have HP := hid (PrAt.new w c hst)
  have HB := hid hb0
  have HTS := hid hts
  have HNS := hid hns
  have HTX := hid htx
  have htn := hts.n
  have hnn := hns.n
  clear hb0 hst hts hns htx
  go_enter Tryz.func15, Tryz.ntmps15
  go_upto_region 1 with (fail)
  change Code.wp _ _ _ _ (w.alloc (.cells #[.int .i64 p.dot, .int .i64 p.scr, .slice A p.steps.length c] 24))
  generalize w.alloc (.cells #[.int .i64 p.dot, .int .i64 p.scr, .slice A p.steps.length c] 24) = W at *
  obtain ⟨p0, p1, p2⟩ := (unhid HP).cells
  go_wp2_with fail
  refine (rvalidPrices_calls p A c W (unhid HP).ok).mono ?_
  rintro e w1 ⟨rfl, hb⟩
  have HP := hid ((unhid HP).below hb)
  have HB := hid ((unhid HB).trans (hb.mono (unhid HB).size))
  clear hb p0 p1 p2
  cases hpb : prcB p with
  | false =>
    have HX := hid (invE_1 (ts := ts) (ns := ns) hpb)
    clear hpb
    go_wp2_with fail
    go_ret3
    exact invR_no (unhid HX) (by decide) (unhid HB)
  | true =>
    have HPB := hid hpb
    clear hpb
    go_wp2_with fail
    go_loopw [9] (fun iv wr => ∃ k : Nat, k ≤ ts.length ∧ iv = .int .i64 k ∧ (∀ j, j < k → tyB (ts.getD j ⟨0, 0, 0, 0, []⟩) = true) ∧ PrAt wr w.heap.size p A c ∧ Below w.heap.size w wr) (fun iv _ => ts.length - (intOf iv).toNat)
    case atStart => exact ⟨0, Nat.zero_le _, rfl, fun j h => absurd h (by omega), unhid HP, unhid HB⟩
    case round =>
      obtain ⟨k, hk, rfl, hall, hp, hb⟩ := hrel
      have HALL := hid hall
      have HP := hid hp
      have HB := hid hb
      clear hall hp hb
      by_cases hlt : k < ts.length
      · obtain ⟨b, off, rfl, hb, hc⟩ := ((unhid HTS).below (unhid HB)).rd (tys_ne hlt)
        obtain ⟨m0, m1, m2, m3, m4⟩ := tys_cells hc hlt
        have hki : (k : Int) < (ts.length : Int) := by omega
        have HBAD := hid (fun h => invE_2 (ns := ns) (unhid HPB) hlt h)
        have HT1 := hid ((unhid HTX) k hlt)
        obtain ⟨ty, hty⟩ : ∃ x, x = ts.getD k ⟨0, 0, 0, 0, []⟩ := ⟨_, rfl⟩
        rw [← hty] at m0 m1 m2 m3 m4 HBAD HT1
        have HTY := hid hty
        clear hty hb hc
        go_wp2_with fail
        refine (rvalidType_calls ty wr (unhid HT1)).mono ?_
        rintro e w3 ⟨rfl, hb⟩
        have HP := hid ((unhid HP).below hb)
        have HB := hid ((unhid HB).trans (hb.mono (unhid HB).size))
        clear hb m0 m1 m2 m3 m4
        cases htb : tyB ty with
        | false =>
          have HX := hid ((unhid HBAD) htb)
          clear htb
          go_wp2_with fail
          go_ret3
          exact invR_no (unhid HX) (by decide) (unhid HB)
        | true =>
          have HTB := hid htb
          clear htb
          go_wp2_with fail
          go_roundw
          case rel => exact ⟨k + 1, by omega, by go_num, fun j hj => by
            rcases Nat.lt_succ_iff_lt_or_eq.1 hj with h | rfl
            · exact (unhid HALL) j h
            · rw [← unhid HTY]; exact unhid HTB, unhid HP, unhid HB⟩
          case measure => simp [intOf]; omega
      · obtain rfl : k = ts.length := by omega
        by_cases hln : ts.length = ns.length ∧ ts.length ≤ 100
        rotate_left
        · have HX := hid (invE_3 (unhid HPB) (unhid HALL) hln)
          by_cases hl1 : ts.length = ns.length
          · have d1 : ((ts.length : Int) != (ns.length : Int)) = false := by simp [hl1]
            have d2 : (100 : Int) < (ts.length : Int) := by omega
            have HL := hid hl1
            clear hln hl1
            go_wp2_with fail
            go_ret3
            exact invR_no (unhid HX) (by decide) (unhid HB)
          · have d1 : ((ts.length : Int) != (ns.length : Int)) = true := by simp; omega
            clear hln hl1
            go_wp2_with fail
            go_ret3
            exact invR_no (unhid HX) (by decide) (unhid HB)
        obtain ⟨hl1, hl2⟩ := hln
        have HLN := hid (⟨hl1, hl2⟩ : ts.length = ns.length ∧ ts.length ≤ 100)
        have d1 : ((ts.length : Int) != (ns.length : Int)) = false := by simp [hl1]
        have d2 : ¬ (100 : Int) < (ts.length : Int) := by omega
        clear hl1
        have HP0 := hid (unhid HP)
        have HB0 := hid (unhid HB)
        obtain ⟨base, hbase⟩ : ∃ x, x = wr.heap.size := ⟨_, rfl⟩
        have HPK := hid (fun W (h : Below base wr W) => (unhid HP0).below (by rw [← hbase]; exact h))
        have HBK := hid (fun W (h : Below base wr W) => (unhid HB0).trans (h.mono (by rw [hbase]; exact (unhid HB0).size)))
        have HSK := hid (fun W (h : Below base wr W) => (by rw [hbase]; exact h.size : base ≤ W.heap.size))
        clear hbase HP HB
        go_wp2_with fail
        clear d1 d2
        go_loopw [12, 10, 11] (fun iv ov sv wz => ∃ k : Nat, k ≤ ts.length ∧ iv = .int .i64 k ∧ sv = .int .i64 (sumL (invL p ts ns k)) ∧ (∀ j, j < k → 1 ≤ ns.getD j 0 ∧ ns.getD j 0 ≤ 10000) ∧ wz.ownsRow base 3 1 ov k (ints (invL p ts ns k)) ∧ Below base wr wz) (fun iv _ _ _ => ts.length - (intOf iv).toNat)
        case atStart => exact ⟨0, Nat.zero_le _, rfl, rfl, fun j h => absurd h (by omega), World.ownsRow_nil _ _ _ _, Below.refl _ _⟩
        case round =>
          obtain ⟨k, hk, rfl, rfl, hall2, hown, hbel⟩ := hrel
          have HALL2 := hid hall2
          have HROW := hid hown
          have HBEL := hid hbel
          have HBW := hid ((unhid HBK) _ hbel)
          have HP := hid ((unhid HPK) _ hbel)
          obtain ⟨A4, c4, rfl, hrd4, -⟩ := own_slice hown
          have HRD4 := hid hrd4
          clear hown hbel hrd4 hall2
          by_cases hlt : k < ts.length
          · have hltn : k < ns.length := by have := (unhid HLN).1; omega
            obtain ⟨tb, tof, rfl, htb, htc⟩ := (unhid HTS).rd (tys_ne hlt)
            obtain ⟨m0, m1, m2, m3, m4⟩ := tys_cells htc hlt
            obtain ⟨nb, no, rfl, hnb, hnc⟩ := (unhid HNS).rd (nums_ne hltn)
            have hncw := hnc k _ (nums_at hltn)
            have hki : (k : Int) < (ts.length : Int) := by omega
            have hkn : (k : Int) < (ns.length : Int) := by omega
            have HTB := hid ((unhid HALL) k hlt)
            have HT1 := hid ((unhid HTX) k hlt)
            have HBAD := hid (fun h => invE_4 (unhid HPB) (unhid HALL) (unhid HLN) hltn h)
            have HL1 := hid (show invL p ts ns (k + 1) = invL p ts ns k ++ [quoP p (facP (ts.getD k ⟨0, 0, 0, 0, []⟩)) (ns.getD k 0)] from rfl)
            obtain ⟨x0, x1⟩ := inv_sum2 (unhid HPB) (unhid HALL) k (by omega) (unhid HALL2)
            have HLEN := hid (invL_len p ts ns k)
            obtain ⟨ty, hty⟩ : ∃ x, x = ts.getD k ⟨0, 0, 0, 0, []⟩ := ⟨_, rfl⟩
            rw [← hty] at m0 m1 m2 m3 m4 HTB HL1 HT1
            obtain ⟨cnt, hcnt⟩ : ∃ x, x = ns.getD k 0 := ⟨_, rfl⟩
            rw [← hcnt] at hncw HBAD HL1
            have HCN := hid hcnt
            have HCW := hid (fun W (h : Below w.heap.size w W) => (⟨(World.cell?_of_block (a := ⟨tb, tof + k * 5, none⟩) (h.block tb htb)).trans m0, (World.cell?_of_block (a := ⟨tb, tof + k * 5 + 1, none⟩) (h.block tb htb)).trans m1, (World.cell?_of_block (a := ⟨tb, tof + k * 5 + 2, none⟩) (h.block tb htb)).trans m2, (World.cell?_of_block (a := ⟨tb, tof + k * 5 + 3, none⟩) (h.block tb htb)).trans m3, (World.cell?_of_block (a := ⟨tb, tof + k * 5 + 4, none⟩) (h.block tb htb)).trans m4, (World.cell?_of_block (a := ⟨nb, no + k, none⟩) (h.block nb hnb)).trans hncw⟩ : W.cell? ⟨tb, tof + k * 5, none⟩ = some (.int .i64 ty.code) ∧ W.cell? ⟨tb, tof + k * 5 + 1, none⟩ = some (.int .i64 ty.grade) ∧ W.cell? ⟨tb, tof + k * 5 + 2, none⟩ = some (.int .i64 ty.frm) ∧ W.cell? ⟨tb, tof + k * 5 + 3, none⟩ = some (.int .i64 ty.to) ∧ W.cell? ⟨tb, tof + k * 5 + 4, none⟩ = some (.string (SB ty.text)) ∧ W.cell? ⟨nb, no + k, none⟩ = some (.int .i64 cnt)))
            have HQ := hid (fun W h1 => rquote_calls p A c ty cnt W h1 (unhid HT1))
            clear hty hcnt htb htc hnb hnc hncw m0 m1 m2 m3 m4 HRD4
            have hdb : Below wr.heap.size wr wr.drew := Below.drew (Below.refl _ _)
            have HP := hid ((unhid HP).below hdb)
            have HROW := hid (own_below (unhid HROW) hdb)
            have HBEL := hid ((unhid HBEL).trans (hdb.mono ((unhid HSK) _ (unhid HBEL))))
            have HBW := hid ((unhid HBW).trans (hdb.mono (unhid HBW).size))
            have hSF : ∀ w' : World, PrAt w' w.heap.size p A c → Below w.heap.size w w' → (w'.cell? ⟨w.heap.size, 0, none⟩ = some (.int .i64 p.dot) ∧ w'.cell? ⟨w.heap.size, 1, none⟩ = some (.int .i64 p.scr) ∧ w'.cell? ⟨w.heap.size, 2, none⟩ = some (.slice A p.steps.length c) ∧ w'.cell? ⟨tb, tof + k * 5, none⟩ = some (.int .i64 ty.code) ∧ w'.cell? ⟨tb, tof + k * 5 + 1, none⟩ = some (.int .i64 ty.grade) ∧ w'.cell? ⟨tb, tof + k * 5 + 2, none⟩ = some (.int .i64 ty.frm) ∧ w'.cell? ⟨tb, tof + k * 5 + 3, none⟩ = some (.int .i64 ty.to) ∧ w'.cell? ⟨tb, tof + k * 5 + 4, none⟩ = some (.string (SB ty.text)) ∧ w'.cell? ⟨nb, no + k, none⟩ = some (.int .i64 cnt)) := fun w' h1 h3 => ⟨h1.cells.1, h1.cells.2.1, h1.cells.2.2, ((unhid HCW) w' h3).1, ((unhid HCW) w' h3).2.1, ((unhid HCW) w' h3).2.2.1, ((unhid HCW) w' h3).2.2.2.1, ((unhid HCW) w' h3).2.2.2.2.1, ((unhid HCW) w' h3).2.2.2.2.2⟩
            have HSF := hid hSF
            clear hdb hSF
            by_cases hcc : 1 ≤ cnt ∧ cnt ≤ 10000
            · have HCC := hid hcc
              rw [quoR_4 (unhid HPB) (unhid HTB) hcc] at HQ
              obtain ⟨y0, y1⟩ := quo_bounds (unhid HPB) (tyB_face (unhid HTB)) hcc
              obtain ⟨q, hq⟩ : ∃ x, x = quoP p (facP ty) cnt := ⟨_, rfl⟩
              rw [← hq] at HL1 HQ y0 y1
              have HS1 := hid (show sumL (invL p ts ns (k + 1)) = sumL (invL p ts ns k) + q by rw [unhid HL1]; exact sumL_app _ _)
              obtain ⟨L, hL⟩ : ∃ x, x = invL p ts ns k := ⟨_, rfl⟩
              rw [← hL] at HROW HL1 HS1 HLEN x0 x1 ⊢
              obtain ⟨sm, hsm⟩ : ∃ x, x = sumL L := ⟨_, rfl⟩
              rw [← hsm] at HS1 x0 x1 ⊢
              clear hcc hq hL hsm
              go_wp2_with fail
              refine wp_region_noPanic ?_
              refine wp_region_E (S := fun w' => w'.cell? ⟨w.heap.size, 0, none⟩ = some (.int .i64 p.dot) ∧ w'.cell? ⟨w.heap.size, 1, none⟩ = some (.int .i64 p.scr) ∧ w'.cell? ⟨w.heap.size, 2, none⟩ = some (.slice A p.steps.length c) ∧ w'.cell? ⟨tb, tof + k * 5, none⟩ = some (.int .i64 ty.code) ∧ w'.cell? ⟨tb, tof + k * 5 + 1, none⟩ = some (.int .i64 ty.grade) ∧ w'.cell? ⟨tb, tof + k * 5 + 2, none⟩ = some (.int .i64 ty.frm) ∧ w'.cell? ⟨tb, tof + k * 5 + 3, none⟩ = some (.int .i64 ty.to) ∧ w'.cell? ⟨tb, tof + k * 5 + 4, none⟩ = some (.string (SB ty.text)) ∧ w'.cell? ⟨nb, no + k, none⟩ = some (.int .i64 cnt)) 14 15 rfl (by kernel_rfl) (by kernel_rfl) ((unhid HSF) _ (unhid HP) (unhid HBW)) ?_
              intro hSE
              generalize wr.drew = Wd at *
              (refine WE_take (i := 0) (v := ?_) rfl (by kernel_rfl) (by decide) (by kernel_rfl) (by kernel_rfl) (fun _ _ _ h => h) (by rfl) hSE ?_ ?_; rotate_left; (focus (intro w hSw; (try dsimp only at hSw); go_simp; (try with_reducible rfl))); simp only [Act.put, List.setIfInBounds_toArray, List.set_cons_zero, List.set_cons_succ])
              (refine WE_take (i := 1) (v := ?_) rfl (by kernel_rfl) (by decide) (by kernel_rfl) (by kernel_rfl) (fun _ _ _ h => h) (by rfl) hSE ?_ ?_; rotate_left; (focus (intro w hSw; (try dsimp only at hSw); go_simp; (try with_reducible rfl))); simp only [Act.put, List.setIfInBounds_toArray, List.set_cons_zero, List.set_cons_succ])
              (refine WE_take (i := 2) (v := ?_) rfl (by kernel_rfl) (by decide) (by kernel_rfl) (by kernel_rfl) (fun _ _ _ h => h) (by rfl) hSE ?_ ?_; rotate_left; (focus (intro w hSw; (try dsimp only at hSw); go_simp; (try with_reducible rfl))); simp only [Act.put, List.setIfInBounds_toArray, List.set_cons_zero, List.set_cons_succ])
              (refine WE_take (i := 3) (v := ?_) rfl (by kernel_rfl) (by decide) (by kernel_rfl) (by kernel_rfl) (fun _ _ _ h => h) (by rfl) hSE ?_ ?_; rotate_left; (focus (intro w hSw; (try dsimp only at hSw); go_simp; (try with_reducible rfl))); simp only [Act.put, List.setIfInBounds_toArray, List.set_cons_zero, List.set_cons_succ])
              (refine WE_take (i := 4) (v := ?_) rfl (by kernel_rfl) (by decide) (by kernel_rfl) (by kernel_rfl) (fun _ _ _ h => h) (by rfl) hSE ?_ ?_; rotate_left; (focus (intro w hSw; (try dsimp only at hSw); go_simp; (try with_reducible rfl))); simp only [Act.put, List.setIfInBounds_toArray, List.set_cons_zero, List.set_cons_succ])
              (refine WE_take (i := 5) (v := ?_) rfl (by kernel_rfl) (by decide) (by kernel_rfl) (by kernel_rfl) (fun _ _ _ h => h) (by rfl) hSE ?_ ?_; rotate_left; (focus (intro w hSw; (try dsimp only at hSw); go_simp; (try with_reducible rfl))); simp only [Act.put, List.setIfInBounds_toArray, List.set_cons_zero, List.set_cons_succ])
              (refine WE_take (i := 6) (v := ?_) rfl (by kernel_rfl) (by decide) (by kernel_rfl) (by kernel_rfl) (fun _ _ _ h => h) (by rfl) hSE ?_ ?_; rotate_left; (focus (intro w hSw; (try dsimp only at hSw); go_simp; (try with_reducible rfl))); simp only [Act.put, List.setIfInBounds_toArray, List.set_cons_zero, List.set_cons_succ])
              (refine WE_take (i := 7) (v := ?_) rfl (by kernel_rfl) (by decide) (by kernel_rfl) (by kernel_rfl) (fun _ _ _ h => h) (by rfl) hSE ?_ ?_; rotate_left; (focus (intro w hSw; (try dsimp only at hSw); go_simp; (try with_reducible rfl))); simp only [Act.put, List.setIfInBounds_toArray, List.set_cons_zero, List.set_cons_succ])
              (refine WE_take (i := 8) (v := ?_) rfl (by kernel_rfl) (by decide) (by kernel_rfl) (by kernel_rfl) (fun _ _ _ h => h) (by rfl) hSE ?_ ?_; rotate_left; (focus (intro w hSw; (try dsimp only at hSw); go_simp; (try with_reducible rfl))); simp only [Act.put, List.setIfInBounds_toArray, List.set_cons_zero, List.set_cons_succ])
              (refine WE_one (i := 9) rfl (by decide) (by kernel_rfl) ?_; intro K hK)
              go_simp
              go_at_call 11
              refine ((unhid HQ) Wd (unhid HP).ok).mono ?_
              rintro e w4 ⟨rfl, hb4⟩
              have HP := hid ((unhid HP).below hb4)
              have HROW := hid (own_below (unhid HROW) hb4)
              have HBEL := hid ((unhid HBEL).trans (hb4.mono ((unhid HSK) _ (unhid HBEL))))
              have HBW := hid ((unhid HBW).trans (hb4.mono (unhid HBW).size))
              refine hK.out _ _ ((unhid HSF) _ (unhid HP) (unhid HBW)) ?_
              clear hSE hK K hb4
              intro hSE
              (try simp only [Act.put, List.setIfInBounds_toArray, List.set_cons_zero, List.set_cons_succ])
              (refine WE_take (i := 10) (v := ?_) rfl (by kernel_rfl) (by decide) (by kernel_rfl) (by kernel_rfl) (fun _ _ _ h => h) (by rfl) hSE ?_ ?_; rotate_left; (focus (intro w hSw; (try dsimp only at hSw); go_simp; (try with_reducible rfl))); simp only [Act.put, List.setIfInBounds_toArray, List.set_cons_zero, List.set_cons_succ])
              (refine WE_take (i := 11) (v := ?_) rfl (by kernel_rfl) (by decide) (by kernel_rfl) (by kernel_rfl) (fun _ _ _ h => h) (by rfl) hSE ?_ ?_; rotate_left; (focus (intro w hSw; (try dsimp only at hSw); go_simp; (try with_reducible rfl))); simp only [Act.put, List.setIfInBounds_toArray, List.set_cons_zero, List.set_cons_succ])
              (refine WE_take (i := 12) (v := ?_) rfl (by kernel_rfl) (by decide) (by kernel_rfl) (by kernel_rfl) (fun _ _ _ h => h) (by rfl) hSE ?_ ?_; rotate_left; (focus (intro w hSw; (try dsimp only at hSw); go_simp; (try with_reducible rfl))); simp only [Act.put, List.setIfInBounds_toArray, List.set_cons_zero, List.set_cons_succ])
              (refine WE_take (i := 13) (v := ?_) rfl (by kernel_rfl) (by decide) (by kernel_rfl) (by kernel_rfl) (fun _ _ _ h => h) (by rfl) hSE ?_ ?_; rotate_left; (focus (intro w hSw; (try dsimp only at hSw); go_simp; (try with_reducible rfl))); simp only [Act.put, List.setIfInBounds_toArray, List.set_cons_zero, List.set_cons_succ])
              (refine WE_last rfl (by kernel_rfl) (by kernel_rfl) (by kernel_rfl) ?_; intro K hK; go_simp; refine hK.out _ _ (NoPanic.normal ?_); clear hK K)
              clear hSE
              go_wp2_with (at_builtin; refine wpList_append_own _ rfl _ _ 34 rfl base 3 i0 (.int .i64 0) 1 8 Tryz.underlying34 hi hz0 hz1 hz2 rfl (by decide) _ _ _ rfl ((unhid HROW).alloc _) ⟨w4.heap.size, 0, none⟩ 1 1 [.int .i64 q] rfl rfl (by exact World.news_of_block (cs := #[.int .i64 q]) (t := 3) (fr := (0, 0)) (by simpa using heap_alloc_new w4 (.cells #[.int .i64 q] 3))) ?k2 ?k3 ?k4 ?k5 ?_)
              case k2 => first | rfl | (intro u hu; simp at hu; subst hu; rfl)
              case k3 => unfold maxLen; omega
              case k4 => omega
              case k5 => have := (unhid HSK) _ (unhid HBEL); simp; omega
              intro v' w5 hown hg5 _
              have hb5 := Below.grown ((unhid HBEL).alloc ((unhid HSK) _ (unhid HBEL)) _) hg5 (by have := (unhid HSK) _ (unhid HBEL); simp; omega) (fun q hq => by
                rcases Nat.lt_or_ge q base with h | h
                · exact absurd hq (own_ne (unhid HROW) (Or.inl h))
                · exact h)
              have HBL5 := hid hb5
              have HO5 := hid hown
              clear hb5 hown hg5
              go_wp2_with fail
              go_roundw
              case rel => exact ⟨k + 1, by omega, by go_num, by rw [unhid HS1], fun j hj => by
                rcases Nat.lt_succ_iff_lt_or_eq.1 hj with h | rfl
                · exact (unhid HALL2) j h
                · rw [← unhid HCN]; exact unhid HCC, by rw [unhid HL1]; simpa [ints] using unhid HO5, unhid HBL5⟩
              case measure => simp [intOf]; omega
            · have HX := hid ((unhid HBAD) hcc)
              rw [quoR_3 (unhid HPB) (unhid HTB) hcc] at HQ
              clear hcc
              go_wp2_with fail
              refine wp_region_noPanic ?_
              refine wp_region_E (S := fun w' => w'.cell? ⟨w.heap.size, 0, none⟩ = some (.int .i64 p.dot) ∧ w'.cell? ⟨w.heap.size, 1, none⟩ = some (.int .i64 p.scr) ∧ w'.cell? ⟨w.heap.size, 2, none⟩ = some (.slice A p.steps.length c) ∧ w'.cell? ⟨tb, tof + k * 5, none⟩ = some (.int .i64 ty.code) ∧ w'.cell? ⟨tb, tof + k * 5 + 1, none⟩ = some (.int .i64 ty.grade) ∧ w'.cell? ⟨tb, tof + k * 5 + 2, none⟩ = some (.int .i64 ty.frm) ∧ w'.cell? ⟨tb, tof + k * 5 + 3, none⟩ = some (.int .i64 ty.to) ∧ w'.cell? ⟨tb, tof + k * 5 + 4, none⟩ = some (.string (SB ty.text)) ∧ w'.cell? ⟨nb, no + k, none⟩ = some (.int .i64 cnt)) 14 15 rfl (by kernel_rfl) (by kernel_rfl) ((unhid HSF) _ (unhid HP) (unhid HBW)) ?_
              intro hSE
              generalize wr.drew = Wd at *
              (refine WE_take (i := 0) (v := ?_) rfl (by kernel_rfl) (by decide) (by kernel_rfl) (by kernel_rfl) (fun _ _ _ h => h) (by rfl) hSE ?_ ?_; rotate_left; (focus (intro w hSw; (try dsimp only at hSw); go_simp; (try with_reducible rfl))); simp only [Act.put, List.setIfInBounds_toArray, List.set_cons_zero, List.set_cons_succ])
              (refine WE_take (i := 1) (v := ?_) rfl (by kernel_rfl) (by decide) (by kernel_rfl) (by kernel_rfl) (fun _ _ _ h => h) (by rfl) hSE ?_ ?_; rotate_left; (focus (intro w hSw; (try dsimp only at hSw); go_simp; (try with_reducible rfl))); simp only [Act.put, List.setIfInBounds_toArray, List.set_cons_zero, List.set_cons_succ])
              (refine WE_take (i := 2) (v := ?_) rfl (by kernel_rfl) (by decide) (by kernel_rfl) (by kernel_rfl) (fun _ _ _ h => h) (by rfl) hSE ?_ ?_; rotate_left; (focus (intro w hSw; (try dsimp only at hSw); go_simp; (try with_reducible rfl))); simp only [Act.put, List.setIfInBounds_toArray, List.set_cons_zero, List.set_cons_succ])
              (refine WE_take (i := 3) (v := ?_) rfl (by kernel_rfl) (by decide) (by kernel_rfl) (by kernel_rfl) (fun _ _ _ h => h) (by rfl) hSE ?_ ?_; rotate_left; (focus (intro w hSw; (try dsimp only at hSw); go_simp; (try with_reducible rfl))); simp only [Act.put, List.setIfInBounds_toArray, List.set_cons_zero, List.set_cons_succ])
              (refine WE_take (i := 4) (v := ?_) rfl (by kernel_rfl) (by decide) (by kernel_rfl) (by kernel_rfl) (fun _ _ _ h => h) (by rfl) hSE ?_ ?_; rotate_left; (focus (intro w hSw; (try dsimp only at hSw); go_simp; (try with_reducible rfl))); simp only [Act.put, List.setIfInBounds_toArray, List.set_cons_zero, List.set_cons_succ])
              (refine WE_take (i := 5) (v := ?_) rfl (by kernel_rfl) (by decide) (by kernel_rfl) (by kernel_rfl) (fun _ _ _ h => h) (by rfl) hSE ?_ ?_; rotate_left; (focus (intro w hSw; (try dsimp only at hSw); go_simp; (try with_reducible rfl))); simp only [Act.put, List.setIfInBounds_toArray, List.set_cons_zero, List.set_cons_succ])
              (refine WE_take (i := 6) (v := ?_) rfl (by kernel_rfl) (by decide) (by kernel_rfl) (by kernel_rfl) (fun _ _ _ h => h) (by rfl) hSE ?_ ?_; rotate_left; (focus (intro w hSw; (try dsimp only at hSw); go_simp; (try with_reducible rfl))); simp only [Act.put, List.setIfInBounds_toArray, List.set_cons_zero, List.set_cons_succ])
              (refine WE_take (i := 7) (v := ?_) rfl (by kernel_rfl) (by decide) (by kernel_rfl) (by kernel_rfl) (fun _ _ _ h => h) (by rfl) hSE ?_ ?_; rotate_left; (focus (intro w hSw; (try dsimp only at hSw); go_simp; (try with_reducible rfl))); simp only [Act.put, List.setIfInBounds_toArray, List.set_cons_zero, List.set_cons_succ])
              (refine WE_take (i := 8) (v := ?_) rfl (by kernel_rfl) (by decide) (by kernel_rfl) (by kernel_rfl) (fun _ _ _ h => h) (by rfl) hSE ?_ ?_; rotate_left; (focus (intro w hSw; (try dsimp only at hSw); go_simp; (try with_reducible rfl))); simp only [Act.put, List.setIfInBounds_toArray, List.set_cons_zero, List.set_cons_succ])
              (refine WE_one (i := 9) rfl (by decide) (by kernel_rfl) ?_; intro K hK)
              go_simp
              go_at_call 11
              refine ((unhid HQ) Wd (unhid HP).ok).mono ?_
              rintro e w4 ⟨rfl, hb4⟩
              have HP := hid ((unhid HP).below hb4)
              have HROW := hid (own_below (unhid HROW) hb4)
              have HBEL := hid ((unhid HBEL).trans (hb4.mono ((unhid HSK) _ (unhid HBEL))))
              have HBW := hid ((unhid HBW).trans (hb4.mono (unhid HBW).size))
              refine hK.out _ _ ((unhid HSF) _ (unhid HP) (unhid HBW)) ?_
              clear hSE hK K hb4
              intro hSE
              (try simp only [Act.put, List.setIfInBounds_toArray, List.set_cons_zero, List.set_cons_succ])
              (refine WE_take (i := 10) (v := ?_) rfl (by kernel_rfl) (by decide) (by kernel_rfl) (by kernel_rfl) (fun _ _ _ h => h) (by rfl) hSE ?_ ?_; rotate_left; (focus (intro w hSw; (try dsimp only at hSw); go_simp; (try with_reducible rfl))); simp only [Act.put, List.setIfInBounds_toArray, List.set_cons_zero, List.set_cons_succ])
              (refine WE_take (i := 11) (v := ?_) rfl (by kernel_rfl) (by decide) (by kernel_rfl) (by kernel_rfl) (fun _ _ _ h => h) (by rfl) hSE ?_ ?_; rotate_left; (focus (intro w hSw; (try dsimp only at hSw); go_simp; (try with_reducible rfl))); simp only [Act.put, List.setIfInBounds_toArray, List.set_cons_zero, List.set_cons_succ])
              (refine WE_take (i := 12) (v := ?_) rfl (by kernel_rfl) (by decide) (by kernel_rfl) (by kernel_rfl) (fun _ _ _ h => h) (by rfl) hSE ?_ ?_; rotate_left; (focus (intro w hSw; (try dsimp only at hSw); go_simp; (try with_reducible rfl))); simp only [Act.put, List.setIfInBounds_toArray, List.set_cons_zero, List.set_cons_succ])
              (refine WE_take (i := 13) (v := ?_) rfl (by kernel_rfl) (by decide) (by kernel_rfl) (by kernel_rfl) (fun _ _ _ h => h) (by rfl) hSE ?_ ?_; rotate_left; (focus (intro w hSw; (try dsimp only at hSw); go_simp; (try with_reducible rfl))); simp only [Act.put, List.setIfInBounds_toArray, List.set_cons_zero, List.set_cons_succ])
              (refine WE_last rfl (by kernel_rfl) (by kernel_rfl) (by kernel_rfl) ?_; intro K hK; go_simp; refine hK.out _ _ (NoPanic.normal ?_); clear hK K)
              clear hSE
              go_wp2_with fail
              go_ret3
              exact invR_no (unhid HX) (by decide) (unhid HBW)
          · obtain rfl : k = ts.length := by omega
            have HRES := hid (unhid HRD4)
            have HX := hid (invE_5 (unhid HPB) (unhid HALL) (unhid HLN) (fun j hj => (unhid HALL2) j (by have := (unhid HLN).1; omega)))
            go_wp2_with fail
            go_ret3
            exact ⟨unhid HBW, fun e => absurd (unhid HX) e, fun _ => ⟨A4, c4, rfl, unhid HRES⟩⟩

end Go.Proofs.YtbnnnjkfhffekaaGreatDoor
