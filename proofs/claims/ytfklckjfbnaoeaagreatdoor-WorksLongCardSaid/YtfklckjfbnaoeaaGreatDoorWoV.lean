/-
  Invoices: package works.
-/
import Derived.Test.YtfklckjfbnaoeaaGreatDoorWoQ
import Derived.Deep.AppendLies
set_option linter.unusedSimpArgs false
set_option linter.unusedVariables false
namespace Go.Proofs.YtfklckjfbnaoeaaGreatDoor
open Go.RowKit Go.Deep

/-- What Invoice answers. -/
def invR (p : Prc) (ts : List Ty) (ns : List Int) (w : World) (e : Ending) (w' : World) : Prop :=
  Below w.heap.size w w' ∧ (invE p ts ns ≠ 0 → e = .returned (.tuple #[.slice none 0 0, .int .i64 0, .int .i64 (invE p ts ns)])) ∧
    (invE p ts ns = 0 → ∃ (B : Option Addr) (k : Nat), e = .returned (.tuple #[.slice B ts.length k, .int .i64 (sumL (invL p ts ns ts.length)), .int .i64 0]) ∧ Rd w' B (ints (invL p ts ns ts.length)))
theorem invR_no {p : Prc} {ts : List Ty} {ns : List Int} {n : Int} {w w' : World} (h : invE p ts ns = n) (hn : n ≠ 0) (hb : Below w.heap.size w w') : invR p ts ns w (.returned (.tuple #[.slice none 0 0, .int .i64 0, .int .i64 n])) w' :=
  ⟨hb, fun _ => by rw [h], fun e => absurd (h.symm.trans e) hn⟩
theorem invE_1 {p : Prc} {ts : List Ty} {ns : List Int} (h : prcB p = false) : invE p ts ns = 103 := if_neg (by simp [h])
theorem invE_2 {p : Prc} {ts : List Ty} {ns : List Int} (h : prcB p = true) {k : Nat} (hk : k < ts.length) (h2 : tyB (ts.getD k ⟨0, 0, 0, 0, []⟩) = false) : invE p ts ns = 101 := by
  have h3 : ¬ ts.all tyB = true := fun e => by
    have := List.all_eq_true.1 e _ (List.getElem_mem hk)
    rw [getD_at hk] at h2
    rw [h2] at this
    cases this
  exact (if_pos h).trans (if_neg h3)
theorem all_at {ts : List Ty} (h : ∀ j, j < ts.length → tyB (ts.getD j ⟨0, 0, 0, 0, []⟩) = true) : ts.all tyB = true := by
  rw [List.all_eq_true]
  intro t ht
  obtain ⟨j, hj, rfl⟩ := List.mem_iff_getElem.1 ht
  have := h j hj
  rwa [getD_at hj] at this
theorem invE_3 {p : Prc} {ts : List Ty} {ns : List Int} (h : prcB p = true) (h2 : ∀ j, j < ts.length → tyB (ts.getD j ⟨0, 0, 0, 0, []⟩) = true) (h3 : ¬ (ts.length = ns.length ∧ ts.length ≤ 100)) : invE p ts ns = 2 :=
  ((if_pos h).trans (if_pos (all_at h2))).trans (if_neg h3)
theorem invE_4 {p : Prc} {ts : List Ty} {ns : List Int} (h : prcB p = true) (h2 : ∀ j, j < ts.length → tyB (ts.getD j ⟨0, 0, 0, 0, []⟩) = true) (h3 : ts.length = ns.length ∧ ts.length ≤ 100) {k : Nat} (hk : k < ns.length) (h4 : ¬ (1 ≤ ns.getD k 0 ∧ ns.getD k 0 ≤ 10000)) : invE p ts ns = 2 := by
  have h5 : ¬ ns.all (fun n => decide (1 ≤ n ∧ n ≤ 10000)) = true := fun e => by
    have := List.all_eq_true.1 e _ (List.getElem_mem hk)
    rw [getD_at hk] at h4
    exact h4 (of_decide_eq_true this)
  exact (((if_pos h).trans (if_pos (all_at h2))).trans (if_pos h3)).trans (if_neg h5)
theorem invE_5 {p : Prc} {ts : List Ty} {ns : List Int} (h : prcB p = true) (h2 : ∀ j, j < ts.length → tyB (ts.getD j ⟨0, 0, 0, 0, []⟩) = true) (h3 : ts.length = ns.length ∧ ts.length ≤ 100) (h4 : ∀ j, j < ns.length → 1 ≤ ns.getD j 0 ∧ ns.getD j 0 ≤ 10000) : invE p ts ns = 0 := by
  have h5 : ns.all (fun n => decide (1 ≤ n ∧ n ≤ 10000)) = true := by
    rw [List.all_eq_true]
    intro n hn
    obtain ⟨j, hj, rfl⟩ := List.mem_iff_getElem.1 hn
    have := h4 j hj
    rw [getD_at hj] at this
    exact decide_eq_true this
  exact (((if_pos h).trans (if_pos (all_at h2))).trans (if_pos h3)).trans (if_pos h5)
theorem tyB_face {t : Ty} (h : tyB t = true) : fcB (facP t) = true := by
  unfold tyB at h
  rw [Bool.and_eq_true] at h
  exact (faceE_yes h.2).2.2
theorem inv_sum {p : Prc} {ts : List Ty} {ns : List Int} (h : prcB p = true) (h2 : ∀ j, j < ts.length → tyB (ts.getD j ⟨0, 0, 0, 0, []⟩) = true) (h4 : ∀ j, j < ts.length → 1 ≤ ns.getD j 0 ∧ ns.getD j 0 ≤ 10000) : ∀ k, k ≤ ts.length → 0 ≤ sumL (invL p ts ns k) ∧ sumL (invL p ts ns k) ≤ 3600080000000000 * k
  | 0, _ => by simp [invL, sumL]
  | k + 1, hk => by
    have ih := inv_sum h h2 h4 k (by omega)
    have hq := quo_bounds h (tyB_face (h2 k (by omega))) (h4 k (by omega))
    unfold invL
    rw [sumL_app]
    unfold facP at hq ⊢
    omega
theorem TysOk.txt_at {w : World} {A : Option Addr} {l : List Ty} (h : TysOk w A l) {k : Nat} (hk : k < l.length) : (l.getD k ⟨0, 0, 0, 0, []⟩).text.length ≤ 140737488355328 := by
  rw [getD_at hk]
  exact h.txt _ (List.getElem_mem hk)

set_option maxHeartbeats 4000000 in
set_option maxRecDepth 100000 in
theorem winvoice_calls (p : Prc) (A : Option Addr) (c : Nat) (ts : List Ty) (A2 : Option Addr) (c2 : Nat) (ns : List Int) (A3 : Option Addr) (c3 : Nat) (w : World) (hg : Gl w) (hst : StpsOk w A p.steps) (hts : TysOk w A2 ts) (hns : IntsOk w A3 ns) :
    Calls Tryz.prog 43 #[.agg #[.int .i64 p.dot, .int .i64 p.scr, .slice A p.steps.length c], .slice A2 ts.length c2, .slice A3 ns.length c3] w (invR p ts ns w) := by
  obtain ⟨i0, hi, hz0, hz1, hz2⟩ := info_partsd info_i64d
  have hb0 := below_alloc w (.cells #[.int .i64 p.dot, .int .i64 p.scr, .slice A p.steps.length c] 72)
  have HP := hid (PrAt.new w c hst)
  have HB := hid hb0
  have HG := hid hg
  have HTS := hid hts
  have HNS := hid hns
  have htn := hts.n
  have hnn := hns.n
  clear hb0 hg hst hts hns
  go_enter Tryz.func43, Tryz.ntmps43
  go_upto_region 1 with (fail)
  change Code.wp _ _ _ _ (w.alloc (.cells #[.int .i64 p.dot, .int .i64 p.scr, .slice A p.steps.length c] 72))
  generalize w.alloc (.cells #[.int .i64 p.dot, .int .i64 p.scr, .slice A p.steps.length c] 72) = W at *
  obtain ⟨p0, p1, p2⟩ := (unhid HP).cells
  go_wp2_with fail
  refine (validPrices_calls p A c W (unhid HP).ok).mono ?_
  rintro e w1 ⟨rfl, hb⟩
  have HP := hid ((unhid HP).below hb)
  have HB := hid ((unhid HB).trans (hb.mono (unhid HB).size))
  clear hb p0 p1 p2
  cases hpb : prcB p with
  | false =>
    have HX := hid (invE_1 (ts := ts) (ns := ns) hpb)
    clear hpb
    go_wp2_with fail
    go_ret3
    exact invR_no (unhid HX) (by decide) (unhid HB)
  | true =>
    have HPB := hid hpb
    clear hpb
    go_wp2_with fail
    go_loopw [22] (fun iv wr => ∃ k : Nat, k ≤ ts.length ∧ iv = .int .i64 k ∧ (∀ j, j < k → tyB (ts.getD j ⟨0, 0, 0, 0, []⟩) = true) ∧ PrAt wr w.heap.size p A c ∧ Below w.heap.size w wr) (fun iv _ => ts.length - (intOf iv).toNat)
    case atStart => exact ⟨0, Nat.zero_le _, rfl, fun j h => absurd h (by omega), unhid HP, unhid HB⟩
    case round =>
      obtain ⟨k, hk, rfl, hall, hp, hb⟩ := hrel
      have HALL := hid hall
      have HP := hid hp
      have HB := hid hb
      clear hall hp hb
      by_cases hlt : k < ts.length
      · obtain ⟨b, off, rfl, hb, hc⟩ := ((unhid HTS).below (unhid HB)).rd (tys_ne hlt)
        obtain ⟨m0, m1, m2, m3, m4⟩ := tys_cells hc hlt
        have hki : (k : Int) < (ts.length : Int) := by omega
        have HBAD := hid (fun h => invE_2 (ns := ns) (unhid HPB) hlt h)
        obtain ⟨ty, hty⟩ : ∃ x, x = ts.getD k ⟨0, 0, 0, 0, []⟩ := ⟨_, rfl⟩
        rw [← hty] at m0 m1 m2 m3 m4 HBAD
        have HTY := hid hty
        clear hty hb hc
        go_upto_region 6 with (fail)
        change Code.wp _ _ _ _ (wr.alloc (.cells #[.int .i64 ty.code, .int .i64 ty.grade, .int .i64 ty.frm, .int .i64 ty.to, .string (SB ty.text)] 67))
        have hb1 := below_alloc wr (.cells #[.int .i64 ty.code, .int .i64 ty.grade, .int .i64 ty.frm, .int .i64 ty.to, .string (SB ty.text)] 67)
        have HP := hid ((unhid HP).below hb1)
        have HB := hid ((unhid HB).trans (hb1.mono (unhid HB).size))
        have HT := hid (TyAt.new wr ty)
        generalize wr.alloc (.cells #[.int .i64 ty.code, .int .i64 ty.grade, .int .i64 ty.frm, .int .i64 ty.to, .string (SB ty.text)] 67) = w2 at *
        generalize wr.heap.size = IB at *
        obtain ⟨s0, s1, s2, s3, s4⟩ := (unhid HT).cells
        clear hb1 m0 m1 m2 m3 m4
        go_wp2_with fail
        refine (validType_calls ty w2 ((unhid HG).below (unhid HB))).mono ?_
        rintro e w3 ⟨rfl, hb⟩
        have HP := hid ((unhid HP).below hb)
        have HB := hid ((unhid HB).trans (hb.mono (unhid HB).size))
        clear hb s0 s1 s2 s3 s4
        cases htb : tyB ty with
        | false =>
          have HX := hid ((unhid HBAD) htb)
          clear htb
          go_wp2_with fail
          go_ret3
          exact invR_no (unhid HX) (by decide) (unhid HB)
        | true =>
          have HTB := hid htb
          clear htb
          go_wp2_with fail
          go_roundw
          case rel => exact ⟨k + 1, by omega, by go_num, fun j hj => by
            rcases Nat.lt_succ_iff_lt_or_eq.1 hj with h | rfl
            · exact (unhid HALL) j h
            · rw [← unhid HTY]; exact unhid HTB, unhid HP, unhid HB⟩
          case measure => simp [intOf]; omega
      · obtain rfl : k = ts.length := by omega
        by_cases hln : ts.length = ns.length ∧ ts.length ≤ 100
        rotate_left
        · have HX := hid (invE_3 (unhid HPB) (unhid HALL) hln)
          by_cases hl1 : ts.length = ns.length
          · have d1 : ((ts.length : Int) != (ns.length : Int)) = false := by simp [hl1]
            have d2 : (100 : Int) < (ts.length : Int) := by omega
            have HL := hid hl1
            clear hln hl1
            go_wp2_with fail
            go_ret3
            exact invR_no (unhid HX) (by decide) (unhid HB)
          · have d1 : ((ts.length : Int) != (ns.length : Int)) = true := by simp; omega
            clear hln hl1
            go_wp2_with fail
            go_ret3
            exact invR_no (unhid HX) (by decide) (unhid HB)
        obtain ⟨hl1, hl2⟩ := hln
        have HLN := hid (⟨hl1, hl2⟩ : ts.length = ns.length ∧ ts.length ≤ 100)
        have d1 : ((ts.length : Int) != (ns.length : Int)) = false := by simp [hl1]
        have d2 : ¬ (100 : Int) < (ts.length : Int) := by omega
        clear hl1
        go_wp2_with fail
        go_loopw [42] (fun iv wq => ∃ k : Nat, k ≤ ns.length ∧ iv = .int .i64 k ∧ (∀ j, j < k → 1 ≤ ns.getD j 0 ∧ ns.getD j 0 ≤ 10000) ∧ wq = wr) (fun iv _ => ns.length - (intOf iv).toNat)
        case atStart => exact ⟨0, Nat.zero_le _, rfl, fun j h => absurd h (by omega), rfl⟩
        case round =>
          obtain ⟨k, hk, rfl, hall2, rfl⟩ := hrel
          have HALL2 := hid hall2
          clear hall2
          by_cases hlt : k < ns.length
          · obtain ⟨b, off, rfl, hb, hc⟩ := ((unhid HNS).below (unhid HB)).rd (nums_ne hlt)
            have m0 := hc k _ (nums_at hlt)
            have hki : (k : Int) < (ns.length : Int) := by omega
            have HBAD := hid (fun h => invE_4 (unhid HPB) (unhid HALL) (unhid HLN) hlt h)
            obtain ⟨cnt, hcnt⟩ : ∃ x, x = ns.getD k 0 := ⟨_, rfl⟩
            rw [← hcnt] at m0 HBAD
            have HCN := hid hcnt
            clear hcnt hb hc
            by_cases hcc : 1 ≤ cnt ∧ cnt ≤ 10000
            rotate_left
            · have HX := hid ((unhid HBAD) hcc)
              have dd : decide (1 ≤ cnt ∧ cnt ≤ 10000) = false := decide_eq_false hcc
              clear hcc
              go_wp2_with (go_at_call 31; refine (wwithin_calls _ _ _ _).mono ?_; rintro e w' ⟨rfl, rfl⟩)
              go_ret3
              exact invR_no (unhid HX) (by decide) (unhid HB)
            · have dd : decide (1 ≤ cnt ∧ cnt ≤ 10000) = true := decide_eq_true hcc
              have HCC := hid hcc
              clear hcc
              go_wp2_with (go_at_call 31; refine (wwithin_calls _ _ _ _).mono ?_; rintro e w' ⟨rfl, rfl⟩)
              go_roundw
              case rel => exact ⟨k + 1, by omega, by go_num, fun j hj => by
                rcases Nat.lt_succ_iff_lt_or_eq.1 hj with h | rfl
                · exact (unhid HALL2) j h
                · rw [← unhid HCN]; exact unhid HCC, by first | rfl | trivial⟩
              case measure => simp [intOf]; omega
          · obtain rfl : k = ns.length := by omega
            have HX := hid (invE_5 (unhid HPB) (unhid HALL) (unhid HLN) (unhid HALL2))
            have HAL2 := hid (fun j (hj : j < ts.length) => (unhid HALL2) j (by have := (unhid HLN).1; omega))
            have HP0 := hid (unhid HP)
            have HB0 := hid (unhid HB)
            clear d1 d2 HP HB
            obtain ⟨base, hbase⟩ : ∃ x, x = wr.heap.size := ⟨_, rfl⟩
            have HPK := hid (fun W (h : Below base wr W) => (unhid HP0).below (by rw [← hbase]; exact h))
            have HBK := hid (fun W (h : Below base wr W) => (unhid HB0).trans (h.mono (by rw [hbase]; exact (unhid HB0).size)))
            have HSK := hid (fun W (h : Below base wr W) => (by rw [hbase]; exact h.size : base ≤ W.heap.size))
            clear hbase
            go_wp2_with fail
            go_loopw [52, 13, 14] (fun iv ov sv wz => ∃ k : Nat, k ≤ ts.length ∧ iv = .int .i64 k ∧ sv = .int .i64 (sumL (invL p ts ns k)) ∧ wz.ownsRow base 3 1 ov k (ints (invL p ts ns k)) ∧ Below base wr wz) (fun iv _ _ _ => ts.length - (intOf iv).toNat)
            case atStart => exact ⟨0, Nat.zero_le _, rfl, rfl, World.ownsRow_nil _ _ _ _, Below.refl _ _⟩
            case round =>
              obtain ⟨k, hk, rfl, rfl, hown, hbel⟩ := hrel
              have HROW := hid hown
              have HBEL := hid hbel
              have HBW := hid ((unhid HBK) _ hbel)
              have HP := hid ((unhid HPK) _ hbel)
              obtain ⟨A4, c4, rfl, hrd4, -⟩ := own_slice hown
              have HRD4 := hid hrd4
              clear hown hbel hrd4
              by_cases hlt : k < ts.length
              · have hltn : k < ns.length := by have := (unhid HLN).1; omega
                obtain ⟨b, off, rfl, hb, hc⟩ := ((unhid HTS).below (unhid HBW)).rd (tys_ne hlt)
                obtain ⟨m0, m1, m2, m3, m4⟩ := tys_cells hc hlt
                obtain ⟨nb, no, rfl, hnb, hnc⟩ := (unhid HNS).rd (nums_ne hltn)
                have hncw := hnc k _ (nums_at hltn)
                have HCW := hid (fun W (h : Below w.heap.size w W) => (World.cell?_of_block (a := ⟨nb, no + k, none⟩) (h.block nb hnb)).trans hncw)
                have hki : (k : Int) < (ts.length : Int) := by omega
                have hkn : (k : Int) < (ns.length : Int) := by omega
                have HTB := hid ((unhid HALL) k hlt)
                have HCC := hid ((unhid HAL2) k hlt)
                have HL1 := hid (show invL p ts ns (k + 1) = invL p ts ns k ++ [quoP p (facP (ts.getD k ⟨0, 0, 0, 0, []⟩)) (ns.getD k 0)] from rfl)
                obtain ⟨x0, x1⟩ := inv_sum (unhid HPB) (unhid HALL) (unhid HAL2) k (by omega)
                obtain ⟨y0, y1⟩ := quo_bounds (unhid HPB) (tyB_face (unhid HTB)) (unhid HCC)
                have HLEN := hid (invL_len p ts ns k)
                obtain ⟨ty, hty⟩ : ∃ x, x = ts.getD k ⟨0, 0, 0, 0, []⟩ := ⟨_, rfl⟩
                rw [← hty] at m0 m1 m2 m3 m4 HTB HL1 y0 y1
                obtain ⟨cnt, hcnt⟩ : ∃ x, x = ns.getD k 0 := ⟨_, rfl⟩
                rw [← hcnt] at HCW HCC HL1 y0 y1
                have HQ := hid (fun W h1 h2 => quote_calls p A c ty cnt W h1 h2 (unhid HPB) (unhid HTB) (unhid HCC))
                obtain ⟨q, hq⟩ : ∃ x, x = quoP p (facP ty) cnt := ⟨_, rfl⟩
                rw [← hq] at HL1 HQ y0 y1
                have HS1 := hid (show sumL (invL p ts ns (k + 1)) = sumL (invL p ts ns k) + q by rw [unhid HL1]; exact sumL_app _ _)
                obtain ⟨L, hL⟩ : ∃ x, x = invL p ts ns k := ⟨_, rfl⟩
                rw [← hL] at HROW HL1 HS1 HLEN x0 x1 ⊢
                obtain ⟨sm, hsm⟩ : ∃ x, x = sumL L := ⟨_, rfl⟩
                rw [← hsm] at HS1 x0 x1 ⊢
                clear hty hcnt hq hL hsm hb hc hnc hncw hnb HRD4
                go_upto_region 22 with (fail)
                change Code.wp _ _ _ _ (wr.alloc (.cells #[.int .i64 ty.code, .int .i64 ty.grade, .int .i64 ty.frm, .int .i64 ty.to, .string (SB ty.text)] 67))
                have hb1 := below_alloc wr (.cells #[.int .i64 ty.code, .int .i64 ty.grade, .int .i64 ty.frm, .int .i64 ty.to, .string (SB ty.text)] 67)
                have HROW0 := hid (unhid HROW)
                have HP := hid ((unhid HP).below hb1)
                have HROW := hid (own_below (unhid HROW) hb1)
                have HBEL := hid ((unhid HBEL).trans (hb1.mono ((unhid HSK) _ (unhid HBEL))))
                have HBW := hid ((unhid HBW).trans (hb1.mono (unhid HBW).size))
                have HT := hid (TyAt.new wr ty)
                have HIB := hid (own_ne (unhid HROW0) (Or.inr (Nat.le_refl wr.heap.size)))
                generalize wr.alloc (.cells #[.int .i64 ty.code, .int .i64 ty.grade, .int .i64 ty.frm, .int .i64 ty.to, .string (SB ty.text)] 67) = w2 at *
                generalize wr.heap.size = IB at *
                have hdb : Below w2.heap.size w2 w2.drew := Below.drew (Below.refl _ _)
                have HP := hid ((unhid HP).below hdb)
                have HT := hid ((unhid HT).below hdb)
                have HROW := hid (own_below (unhid HROW) hdb)
                have HBEL := hid ((unhid HBEL).trans (hdb.mono ((unhid HSK) _ (unhid HBEL))))
                have HBW := hid ((unhid HBW).trans (hdb.mono (unhid HBW).size))
                have hSF : ∀ w' : World, PrAt w' w.heap.size p A c → TyAt w' IB ty → Below w.heap.size w w' → (w'.cell? ⟨w.heap.size, 0, none⟩ = some (.int .i64 p.dot) ∧ w'.cell? ⟨w.heap.size, 1, none⟩ = some (.int .i64 p.scr) ∧ w'.cell? ⟨w.heap.size, 2, none⟩ = some (.slice A p.steps.length c) ∧ w'.cell? ⟨IB, 0, none⟩ = some (.int .i64 ty.code) ∧ w'.cell? ⟨IB, 1, none⟩ = some (.int .i64 ty.grade) ∧ w'.cell? ⟨IB, 2, none⟩ = some (.int .i64 ty.frm) ∧ w'.cell? ⟨IB, 3, none⟩ = some (.int .i64 ty.to) ∧ w'.cell? ⟨IB, 4, none⟩ = some (.string (SB ty.text)) ∧ w'.cell? ⟨nb, no + k, none⟩ = some (.int .i64 cnt)) := fun w' h1 h2 h3 => ⟨h1.cells.1, h1.cells.2.1, h1.cells.2.2, h2.cells.1, h2.cells.2.1, h2.cells.2.2.1, h2.cells.2.2.2.1, h2.cells.2.2.2.2, (unhid HCW) w' h3⟩
                have HSF := hid hSF
                clear hb1 hdb hSF m0 m1 m2 m3 m4
                go_wp2_with fail
                refine wp_region_noPanic ?_
                refine wp_region_E (S := fun w' => w'.cell? ⟨w.heap.size, 0, none⟩ = some (.int .i64 p.dot) ∧ w'.cell? ⟨w.heap.size, 1, none⟩ = some (.int .i64 p.scr) ∧ w'.cell? ⟨w.heap.size, 2, none⟩ = some (.slice A p.steps.length c) ∧ w'.cell? ⟨IB, 0, none⟩ = some (.int .i64 ty.code) ∧ w'.cell? ⟨IB, 1, none⟩ = some (.int .i64 ty.grade) ∧ w'.cell? ⟨IB, 2, none⟩ = some (.int .i64 ty.frm) ∧ w'.cell? ⟨IB, 3, none⟩ = some (.int .i64 ty.to) ∧ w'.cell? ⟨IB, 4, none⟩ = some (.string (SB ty.text)) ∧ w'.cell? ⟨nb, no + k, none⟩ = some (.int .i64 cnt)) 10 11 rfl (by kernel_rfl) (by kernel_rfl) ((unhid HSF) _ (unhid HP) (unhid HT) (unhid HBW)) ?_
                intro hSE
                generalize w2.drew = Wd at *
                (refine WE_take (i := 0) (v := ?_) rfl (by kernel_rfl) (by decide) (by kernel_rfl) (by kernel_rfl) (fun _ _ _ h => h) (by rfl) hSE ?_ ?_; rotate_left; (focus (intro w hSw; (try dsimp only at hSw); go_simp; (try with_reducible rfl))); simp only [Act.put, List.setIfInBounds_toArray, List.set_cons_zero, List.set_cons_succ])
                (refine WE_take (i := 1) (v := ?_) rfl (by kernel_rfl) (by decide) (by kernel_rfl) (by kernel_rfl) (fun _ _ _ h => h) (by rfl) hSE ?_ ?_; rotate_left; (focus (intro w hSw; (try dsimp only at hSw); go_simp; (try with_reducible rfl))); simp only [Act.put, List.setIfInBounds_toArray, List.set_cons_zero, List.set_cons_succ])
                (refine WE_take (i := 2) (v := ?_) rfl (by kernel_rfl) (by decide) (by kernel_rfl) (by kernel_rfl) (fun _ _ _ h => h) (by rfl) hSE ?_ ?_; rotate_left; (focus (intro w hSw; (try dsimp only at hSw); go_simp; (try with_reducible rfl))); simp only [Act.put, List.setIfInBounds_toArray, List.set_cons_zero, List.set_cons_succ])
                (refine WE_take (i := 3) (v := ?_) rfl (by kernel_rfl) (by decide) (by kernel_rfl) (by kernel_rfl) (fun _ _ _ h => h) (by rfl) hSE ?_ ?_; rotate_left; (focus (intro w hSw; (try dsimp only at hSw); go_simp; (try with_reducible rfl))); simp only [Act.put, List.setIfInBounds_toArray, List.set_cons_zero, List.set_cons_succ])
                (refine WE_take (i := 4) (v := ?_) rfl (by kernel_rfl) (by decide) (by kernel_rfl) (by kernel_rfl) (fun _ _ _ h => h) (by rfl) hSE ?_ ?_; rotate_left; (focus (intro w hSw; (try dsimp only at hSw); go_simp; (try with_reducible rfl))); simp only [Act.put, List.setIfInBounds_toArray, List.set_cons_zero, List.set_cons_succ])
                (refine WE_take (i := 5) (v := ?_) rfl (by kernel_rfl) (by decide) (by kernel_rfl) (by kernel_rfl) (fun _ _ _ h => h) (by rfl) hSE ?_ ?_; rotate_left; (focus (intro w hSw; (try dsimp only at hSw); go_simp; (try with_reducible rfl))); simp only [Act.put, List.setIfInBounds_toArray, List.set_cons_zero, List.set_cons_succ])
                (refine WE_take (i := 6) (v := ?_) rfl (by kernel_rfl) (by decide) (by kernel_rfl) (by kernel_rfl) (fun _ _ _ h => h) (by rfl) hSE ?_ ?_; rotate_left; (focus (intro w hSw; (try dsimp only at hSw); go_simp; (try with_reducible rfl))); simp only [Act.put, List.setIfInBounds_toArray, List.set_cons_zero, List.set_cons_succ])
                (refine WE_one (i := 7) rfl (by decide) (by kernel_rfl) ?_; intro K hK)
                go_simp
                go_at_call 83
                refine ((unhid HQ) Wd ((unhid HG).below (unhid HBW)) (unhid HP).ok).mono ?_
                rintro e w4 ⟨rfl, hb4⟩
                have HP := hid ((unhid HP).below hb4)
                have HT := hid ((unhid HT).below hb4)
                have HROW := hid (own_below (unhid HROW) hb4)
                have HBEL := hid ((unhid HBEL).trans (hb4.mono ((unhid HSK) _ (unhid HBEL))))
                have HBW := hid ((unhid HBW).trans (hb4.mono (unhid HBW).size))
                refine hK.out _ _ ((unhid HSF) _ (unhid HP) (unhid HT) (unhid HBW)) ?_
                clear hSE hK K hb4
                intro hSE
                (try simp only [Act.put, List.setIfInBounds_toArray, List.set_cons_zero, List.set_cons_succ])
                (refine WE_one (i := 8) rfl (by decide) (by kernel_rfl) ?_; intro K hK)
                go_simp
                have hb5 := below_alloc w4 (.cells #[.int .i64 q] 3)
                refine hK.out _ _ ((unhid HSF) _ ((unhid HP).below hb5) ((unhid HT).below hb5) ((unhid HBW).trans (hb5.mono (unhid HBW).size))) ?_
                clear hSE hK K hb5
                intro hSE
                (try simp only [Act.put, List.setIfInBounds_toArray, List.set_cons_zero, List.set_cons_succ])
                (refine WE_one (i := 9) rfl (by decide) (by kernel_rfl) ?_; intro K hK)
                refine step_append_lies _ (by rfl) _ _ _ (by rfl) base 3 i0 (.int .i64 0) 1 8 Tryz.underlying49 hi hz0 hz1 hz2 rfl (by omega) (.slice A4 k c4) k (ints L) (by rfl) ((unhid HROW).alloc (.cells #[.int .i64 q] 3)) ⟨w4.heap.size, 0, none⟩ 1 1 [.int .i64 q] (by rfl) (by rfl) (World.news_of_block (cs := #[.int .i64 q]) (t := 3) (fr := (0, 0)) (heap_alloc_new w4 _)) (by simp [Value.oneCell']) (by omega) (by unfold maxLen; omega) (by omega) (by have := (unhid HSK) _ (unhid HBEL); simp; omega) (w4.heap.size + 1) (by simp) ?_
                intro g3 cap3 w8 hown hg8 hat hlt3
                have hb8 := Below.grown ((unhid HBEL).alloc ((unhid HSK) _ (unhid HBEL)) _) hg8 (by have := (unhid HSK) _ (unhid HBEL); simp; omega) (fun q hq => by
                  rcases Nat.lt_or_ge q base with h | h
                  · exact absurd hq (own_ne (unhid HROW) (Or.inl h))
                  · exact h)
                have hT8 : TyAt w8 IB ty := ⟨(hg8.block IB (by have := (unhid HT).lt; simp; omega) (fun e => (unhid HIB) e.symm)).trans (((unhid HT).below (below_alloc w4 _)).heap)⟩
                have HBL8 := hid hb8
                have HO8 := hid hown
                obtain ⟨A5, c5, hv5, hrd5, -⟩ := own_slice hown
                cases hv5
                obtain ⟨g5, o5, he5, -, hc5⟩ := hrd5 (by simp)
                injection he5 with he5
                injection he5 with he5 he6
                subst he5 he6
                have cq : w8.cell? ⟨g3, k, none⟩ = some (.int .i64 q) := by
                  have := hc5 k (.int .i64 q) (by rw [List.getElem?_append_right (by simp [ints, unhid HLEN])]; simp [ints, unhid HLEN])
                  simpa using this
                refine hK.out _ _ ((unhid HSF) _ ((unhid HPK) _ hb8) hT8 ((unhid HBK) _ hb8)) ?_
                clear hSE hK K hb8 hT8 hown hg8 hat hlt3 hrd5 hc5
                intro hSE
                (try simp only [Act.put, List.setIfInBounds_toArray, List.set_cons_zero, List.set_cons_succ])
                (refine WE_last rfl (by kernel_rfl) (by kernel_rfl) (by kernel_rfl) ?_; intro K hK; go_simp; refine hK.out _ _ (NoPanic.normal ?_); clear hK K)
                clear hSE
                have hk1 : (k : Int) < ((k + 1 : Nat) : Int) := by omega
                go_wp2_with fail
                go_roundw
                case rel => exact ⟨k + 1, by omega, by go_num, by rw [unhid HS1], by rw [unhid HL1]; simpa [ints] using unhid HO8, unhid HBL8⟩
                case measure => simp [intOf]; omega
              · obtain rfl : k = ts.length := by omega
                have HRES := hid (unhid HRD4)
                go_wp2_with fail
                go_ret3
                exact ⟨unhid HBW, fun e => absurd (unhid HX) e, fun _ => ⟨A4, c4, rfl, unhid HRES⟩⟩

end Go.Proofs.YtfklckjfbnaoeaaGreatDoor
