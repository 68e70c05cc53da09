/-
  The closure of package rule's Compare.
-/
import Derived.Test.YtmpngoejnmlmbaaCmpK
import Derived.Test.YtmpngoejnmlmbaaAnyE
import Derived.Deep.DeepCutAuto
set_option linter.unusedSimpArgs false
set_option linter.unusedVariables false
namespace Go.Proofs.Ytmpngoejnmlmbaa
open Go.RowKit

theorem info_gap : (Try.prog.info? 104).map (fun i => (i.zero, i.size, i.bytes)) = some (some (.agg #[.int .i64 0, .int .i64 0, .int .i64 0, .int .i64 0, .int .i64 0, .int .i64 0]), 6, 48) := by kernel_rfl
theorem gps_ne {l : List Gp} {k : Nat} (h : k < l.length) : gps l ≠ [] := flat_ne (f := gpC) (K := 6) (fun _ => rfl) (by omega) h
theorem gps_at {l : List Gp} {k : Nat} (h : k < l.length) (j : Nat) (hj : j < 6) : (gps l)[k * 6 + j]? = (gpC l[k])[j]? := flat_at (f := gpC) (K := 6) (fun _ => rfl) l k j h hj
theorem lt_of_cell {w : World} {a : Addr} {v : Value} (h : w.cell? a = some v) : a.block < w.heap.size := by
  rcases Nat.lt_or_ge a.block w.heap.size with h1 | h1
  · exact h1
  · simp [World.cell?, Array.getElem?_eq_none h1] at h

set_option maxHeartbeats 8000000 in
set_option maxRecDepth 100000 in
theorem cmp_calls (n : Nat) (A : Option Addr) (js : List Int) (c : Nat) (A2 : Option Addr) (l : List Sg) (c2 : Nat) (A3 : Option Addr) (ed : List Ed) (c3 : Nat) (hour topic dir : Int) (bl bs be bh O : Nat) (w0 w : World) (out : List Gp) (Ao : Option Addr) (co : Nat)
    (hl : LnOk w0 A js) (hs : SgsOk w0 A2 l) (he : EdsOk w0 A3 ed) (hv : lineB n js = true) (hv2 : sgsB n js l = true) (hv3 : edsB n js ed = true)
    (st : CmpI w w0 bl bs be bh O #[.int .i64 n, .slice A js.length c] (.slice A2 l.length c2) (.slice A3 ed.length c3) (.int .i64 hour) out Ao co) (hol : out.length ≤ 1000000) :
    Calls Try.prog 67 #[.int .i64 topic, .int .i64 dir, .pointer (some ⟨bl, 0, none⟩), .pointer (some ⟨bs, 0, none⟩), .pointer (some ⟨bh, 0, none⟩), .pointer (some ⟨be, 0, none⟩), .pointer (some ⟨O, 0, none⟩)] w fun e w' =>
      e = .returned (.tuple #[]) ∧ ∃ (R : List Mt) (A' : Option Addr) (c' : Nat), IsRow n hour dir l R ∧
        CmpI w' w0 bl bs be bh O #[.int .i64 n, .slice A js.length c] (.slice A2 l.length c2) (.slice A3 ed.length c3) (.int .i64 hour) (gpRun topic dir out.length (holdS n js R dir topic) (mustS n ed hour dir topic) out n) A' c' := by
  have hlen2 := lineB_len hv
  have HJ := hid (lineB_mem hv)
  have HB := hid (sgsB_bounds hv2)
  have hl100 := sgsB_len hv2
  have HEB := hid (edsB_bounds hv3)
  have hl50 := edsB_len hv3
  have HEN := hid (edsB_nodup hv3)
  have HLw := hid (hl.below st.below)
  have HSw := hid (hs.below st.below)
  have HEw := hid (he.below st.below)
  clear hl hs he hv hv2 hv3
  obtain ⟨i0, hi, hz0, hz1, hz2⟩ := info_parts info_gap
  have l0 := cell_of_row _ bl 0 _ _ _ st.l
  have l1 := cell_of_row _ bl 1 _ _ _ st.l
  have s0 := cell_of_one st.s
  have e0 := cell_of_one st.e
  have h0 := cell_of_one st.h
  have o0 := cell_of_one st.o
  simp at l0 l1
  have b1 := st.ll
  have b2 := st.sl
  have b3 := st.el
  have b4 := st.hl
  have b5 := st.lt
  have ST := hid st
  clear st
  go_enter Try.func67, Try.ntmps67
  go_wp2_with fail
  go_region_held3 (fun w' => w'.cell? ⟨bl, 0, none⟩ = some (.int .i64 n) ∧ w'.cell? ⟨bl, 1, none⟩ = some (.slice A js.length c) ∧ w'.cell? ⟨bs, 0, none⟩ = some (.slice A2 l.length c2) ∧ w'.cell? ⟨be, 0, none⟩ = some (.slice A3 ed.length c3) ∧ w'.cell? ⟨bh, 0, none⟩ = some (.int .i64 hour) ∧ Below w.heap.size w w') (first | (refine ⟨?_, ?_, ?_, ?_, ?_, ?_⟩ <;> assumption) | (exact ⟨by assumption, by assumption, by assumption, by assumption, by assumption, Below.drew (Below.refl _ _)⟩) | go_keep)
    (first
      | (go_at_call 68; have hh := ‹_ ∧ _ ∧ _ ∧ _ ∧ _ ∧ Below w.heap.size w _›; refine (stripOf_calls n A js c A2 l c2 hour dir topic _ ((unhid HLw).below hh.2.2.2.2.2) (unhid HJ) hlen2.2 ((unhid HSw).below hh.2.2.2.2.2) (by omega) (unhid HB)).mono ?_; rintro e w2 ⟨A4, R, hrow, rfl, hrd4, hb2, hf4⟩; have hf4' : ∀ a, A4 = some a → w.heap.size ≤ a.block := (fun a ha => Nat.le_trans hh.2.2.2.2.2.size (hf4 a ha)); have hB2 := hh.2.2.2.2.2.trans (hb2.mono hh.2.2.2.2.2.size); have q0 := (hB2.cell (p := ⟨bl, 0, none⟩) (by dsimp only; omega)).trans l0; have q1 := (hB2.cell (p := ⟨bl, 1, none⟩) (by dsimp only; omega)).trans l1; have q2 := (hB2.cell (p := ⟨bs, 0, none⟩) (by dsimp only; omega)).trans s0; have q3 := (hB2.cell (p := ⟨be, 0, none⟩) (by dsimp only; omega)).trans e0; have q4 := (hB2.cell (p := ⟨bh, 0, none⟩) (by dsimp only; omega)).trans h0; clear hh)
      | (go_at_call 62; have hh := ‹_ ∧ _ ∧ _ ∧ _ ∧ _ ∧ Below w.heap.size w _›; refine (mustStrip_calls n A js.length c A3 ed c3 hour dir topic _ hlen2.2 ((unhid HEw).below hh.2.2.2.2.2).rd (by omega) (unhid HEB) (unhid HEN)).mono ?_; rintro e w3 ⟨A5, rfl, hrd5, hb2, hf5⟩; have hf5' : ∀ a, A5 = some a → w.heap.size ≤ a.block := (fun a ha => Nat.le_trans hh.2.2.2.2.2.size (hf5 a ha)); have hrd4 := hrd4.below hb2; have hB2 := hh.2.2.2.2.2.trans (hb2.mono hh.2.2.2.2.2.size); have q0 := (hB2.cell (p := ⟨bl, 0, none⟩) (by dsimp only; omega)).trans l0; have q1 := (hB2.cell (p := ⟨bl, 1, none⟩) (by dsimp only; omega)).trans l1; have q2 := (hB2.cell (p := ⟨bs, 0, none⟩) (by dsimp only; omega)).trans s0; have q3 := (hB2.cell (p := ⟨be, 0, none⟩) (by dsimp only; omega)).trans e0; have q4 := (hB2.cell (p := ⟨bh, 0, none⟩) (by dsimp only; omega)).trans h0; clear hh))
  have hh := ‹_ ∧ _ ∧ _ ∧ _ ∧ _ ∧ Below w.heap.size w _›
  have HST := hid ((unhid ST).kept hh.2.2.2.2.2)
  have hszS := hh.2.2.2.2.2.size
  clear hb2 hf4 hf5
  rw [strip_hold (rowOk_of hrow (unhid HB)) hrow.far] at hrd4
  have HROW := hid hrow
  clear hrow hh q0 q1 q2 q3 q4 l0 l1 s0 e0 h0 o0
  have HH4 := hid (show (holdS n js R dir topic).length = n from holdS_len _ _ _ _ _)
  have HH5 := hid (show (mustS n ed hour dir topic).length = n from mustS_len _ _ _ _ _)
  generalize hHS : holdS n js R dir topic = HS at *
  generalize hMS : mustS n ed hour dir topic = MS at *
  have HHS := hid hHS
  have HMS := hid hMS
  clear hHS hMS
  have HR4 := hid hrd4
  have HR5 := hid hrd5
  have hrl4 := unhid HH4
  have hrl5 := unhid HH5
  have F4 := hid hf4'
  have F5 := hid hf5'
  clear hrd4 hrd5 hf4' hf5' hB2 b5
  obtain ⟨wS, hwS⟩ : ∃ wS : World, wS = w3 := ⟨_, rfl⟩
  rw [← hwS]
  rw [← hwS] at HST HR4 HR5 hszS
  clear hwS
  have HO := hid (unhid HST).lt
  have HOw := hid (unhid ST).own
  have HLw2 := hid (unhid ST).lt
  have cO := cell_of_one (unhid HST).o
  obtain ⟨gS, hgS⟩ : ∃ gS, gS = (Value.slice Ao out.length co).ownBlock := ⟨_, rfl⟩
  have HGS := hid hgS
  have HF0 := hid (show GpFr wS wS O gS (.slice Ao out.length co) from ⟨Nat.le_refl _, fun _ _ _ _ => rfl, fun g hg => .inl (by rw [unhid HGS]; exact hg)⟩)
  clear hgS
  have N4 := hid (fun a (h : A4 = some a) => (show a.block ≠ O ∧ gS ≠ some a.block from by
    have h1 := unhid F4 a h
    have h2 := unhid HLw2
    refine ⟨by omega, fun e => ?_⟩
    rw [unhid HGS] at e
    have := (own_lt' (unhid HOw) e).2; omega))
  have N5 := hid (fun a (h : A5 = some a) => (show a.block ≠ O ∧ gS ≠ some a.block from by
    have h1 := unhid F5 a h
    have h2 := unhid HLw2
    refine ⟨by omega, fun e => ?_⟩
    rw [unhid HGS] at e
    have := (own_lt' (unhid HOw) e).2; omega))
  obtain ⟨out0, ho0⟩ : ∃ o, o = out := ⟨_, rfl⟩
  obtain ⟨F1, hF1⟩ : ∃ f, f = out.length := ⟨_, rfl⟩
  have HO0 := hid ho0
  have HF1 := hid hF1
  have hF1b : F1 ≤ 1000000 := by omega
  clear ho0 hF1 HLw HSw HEw
  go_wp2_with fail
  rw [← unhid HF1]
  clear cO
  go_loopw [30] (fun i wr => ∃ (k : Nat) (o : List Gp) (A6 : Option Addr) (c6 : Nat), k ≤ n ∧ i = .int .i64 k ∧ o = gpRun topic dir F1 HS MS out0 k ∧ CmpI wr w0 bl bs be bh O #[.int .i64 n, .slice A js.length c] (.slice A2 l.length c2) (.slice A3 ed.length c3) (.int .i64 hour) o A6 c6 ∧ GpFr wS wr O gS (.slice A6 o.length c6)) (fun i _ => n - (intOf i).toNat)
  case atStart => exact ⟨0, out, Ao, co, Nat.zero_le _, rfl, by rw [unhid HO0]; rfl, unhid HST, unhid HF0⟩
  case round =>
    obtain ⟨k, o, A6, c6, hk, rfl, ho, hI, hF⟩ := hrel
    have cO := cell_of_one hI.o
    have fo := free_of_one hI.o
    have holen := gpRun_len topic dir F1 HS MS out0 k
    rw [← ho] at holen
    have hol2 : out0.length = F1 := by rw [unhid HO0, unhid HF1]
    rw [hol2] at holen
    clear hol2
    have HI := hid hI
    have HF := hid hF
    have HOE := hid ho
    have hOl := hI.lt
    clear hI hF
    by_cases hlt : k < n
    · have HSC := hid (show gpRun topic dir F1 HS MS out0 (k + 1) = gpStep topic dir F1 o k (HS[k]'(by omega)) (MS[k]'(by omega)) from by rw [unhid HOE]; exact gpRun_succ topic dir F1 HS MS out0 k (by omega) (by omega))
      clear ho
      have hr4 : Rd wr A4 (ints HS) := (unhid HF).rd (unhid HR4) (fun a h => (unhid N4 a h).1) (fun a h => (unhid N4 a h).2)
      have hr5 : Rd wr A5 (ints MS) := (unhid HF).rd (unhid HR5) (fun a h => (unhid N5 a h).1) (fun a h => (unhid N5 a h).2)
      obtain ⟨b4, off4, rfl, hb4, hc4⟩ := hr4 (ints_ne (k := k) (by omega))
      obtain ⟨b5, off5, rfl, hb5, hc5⟩ := hr5 (ints_ne (k := k) (by omega))
      have c4 := hc4 k _ (ints_at HS k (by omega))
      have c5 := hc5 k _ (ints_at MS k (by omega))
      clear hc4 hc5
      generalize HS[k]'(by omega) = x at *
      generalize MS[k]'(by omega) = y at *
      by_cases hxy : x = y
      · have hxy' : (x == y) = true := by simpa using hxy
        have HNX := hid (show gpRun topic dir F1 HS MS out0 (k + 1) = o from by rw [unhid HSC, gpStep, if_pos hxy])
        have HXY := hid hxy
        clear hxy
        go_wp2_with fail
        go_quiet (fail)
        go_wp2_with fail
        go_roundw
        case rel => exact ⟨k + 1, o, A6, c6, by omega, by go_num, (unhid HNX).symm, (unhid HI).kept (below_drewN' (Below.refl _ _) nq), (unhid HF).drewN nq⟩
        case measure => simp [intOf]; omega
      · have hxy' : (x == y) = false := by simpa using hxy
        have HXY := hid hxy
        clear hxy
        go_wp2_with fail
        go_quiet (fail)
        have HI := hid ((unhid HI).kept (below_drewN' (Below.refl _ _) nq))
        have HF := hid ((unhid HF).drewN nq)
        have c4' : (wr.drewN nq).cell? ⟨b4, off4 + k, none⟩ = some (.int .i64 x) := c4
        have c5' : (wr.drewN nq).cell? ⟨b5, off5 + k, none⟩ = some (.int .i64 y) := c5
        have cO' : (wr.drewN nq).cell? ⟨O, 0, none⟩ = some (.slice A6 o.length c6) := cO
        have fo' : (wr.drewN nq).frozen? ⟨O, 0, none⟩ = false := fo
        clear c4 c5 cO fo hr4 hr5 hb4 hb5 hOl
        generalize wr.drewN nq = wx at *
        have c4 := c4'
        have c5 := c5'
        have cO := cO'
        have fo := fo'
        clear c4' c5' cO' fo'
        have hOl := (unhid HI).lt
        go_wp2_with fail
        go_cut [82] (fun s82 wz => ∃ tb : Bool, s82 = .bool tb ∧ (tb = true → ∃ q z, o.length = q + 1 ∧ o[q]? = some z ∧ z.to = (k : Int) ∧ gpRun topic dir F1 HS MS out0 (k + 1) = o.set q z.up) ∧ (tb = false → gpRun topic dir F1 HS MS out0 (k + 1) = o ++ [⟨topic, dir, k, k + 1, x, y⟩]) ∧ CmpI wz w0 bl bs be bh O #[.int .i64 n, .slice A js.length c] (.slice A2 l.length c2) (.slice A3 ed.length c3) (.int .i64 hour) o A6 c6 ∧ GpFr wS wz O gS (.slice A6 o.length c6) ∧ wz.cell? ⟨b4, off4 + k, none⟩ = some (.int .i64 x) ∧ wz.cell? ⟨b5, off5 + k, none⟩ = some (.int .i64 y) ∧ wz.cell? ⟨O, 0, none⟩ = some (.slice A6 o.length c6) ∧ wz.frozen? ⟨O, 0, none⟩ = false)
        case first =>
          by_cases hfl : F1 < o.length
          · have := decide_eq_true (show (F1 : Int) < (o.length : Int) by omega)
            obtain ⟨g, cg, hvv, hbg, hgs, hcells⟩ := own_some (unhid HI).own (by omega)
            injection hvv with hv1 hv2 hv3
            subst hv1 hv3
            obtain ⟨q, hq⟩ : ∃ q, o.length = q + 1 := ⟨o.length - 1, by omega⟩
            have HQ := hid hq
            have hq1 : IntKind.i64.wrap ((o.length : Int) - 1) = (o.length : Int) - 1 := IntWalk.i64_in _ (by omega)
            have hq2 : (0 : Int) ≤ (o.length : Int) - 1 := by omega
            have hq3 : ((o.length : Int) - 1).toNat = q := by omega
            have hq4 : (o.length : Int) - 1 < (o.length : Int) := by omega
            clear hq
            have t3 : wx.cell? ⟨g, q * 6 + 3, none⟩ = some (.int .i64 (o[q]'(by have := unhid HQ; omega)).to) := hcells _ _ (gps_at (by have := unhid HQ; omega) 3 (by omega))
            have t4 : wx.cell? ⟨g, q * 6 + 4, none⟩ = some (.int .i64 (o[q]'(by have := unhid HQ; omega)).has) := hcells _ _ (gps_at (by have := unhid HQ; omega) 4 (by omega))
            have t5 : wx.cell? ⟨g, q * 6 + 5, none⟩ = some (.int .i64 (o[q]'(by have := unhid HQ; omega)).should) := hcells _ _ (gps_at (by have := unhid HQ; omega) 5 (by omega))
            have tf := (unhid HI).own.frozenAt (q * 6 + 3)
            have HZE := hid (show o[q]? = some (o[q]'(by have := unhid HQ; omega)) from List.getElem?_eq_getElem _)
            have HLA := hid (show o.getLast? = some (o[q]'(by have := unhid HQ; omega)) by rw [List.getLast?_eq_getElem?, show o.length - 1 = q by have := unhid HQ; omega]; exact List.getElem?_eq_getElem _)
            clear hcells
            generalize hz : o[q]'(by have := unhid HQ; omega) = z at *
            have HZ := hid hz
            clear hz
            rcases (show (¬ z.to = k) ∨ (z.to = k ∧ ¬ z.has = x) ∨ (z.to = k ∧ z.has = x ∧ ¬ z.should = y) ∨ (z.to = k ∧ z.has = x ∧ z.should = y) by omega) with e | ⟨e, e2⟩ | ⟨e, e2, e3⟩ | ⟨e, e2, e3⟩
            · have a1 : (z.to == (k : Int)) = false := by simpa using e
              have HE := hid e
              clear e
              have HNX := (show gpRun topic dir F1 HS MS out0 (k + 1) = o ++ [⟨topic, dir, k, k + 1, x, y⟩] from by rw [unhid HSC]; exact gpStep_push (unhid HXY) (fun g hg => by rw [unhid HLA] at hg; injection hg with hg; subst hg; exact fun h => unhid HE h.2.1))
              go_wp2_with fail
              go_quiet (fail)
              go_wp2_with fail
              go_meet
              case rel => exact ⟨false, rfl, fun h => (Bool.noConfusion h), fun _ => HNX, (unhid HI).kept (below_drewN' (Below.refl _ _) nq), (unhid HF).drewN nq, c4, c5, cO, fo⟩
            · have a1 : (z.to == (k : Int)) = true := by simpa using e
              have a2 : (z.has == x) = false := by simpa using e2
              have HE := hid e2
              clear e e2
              have HNX := (show gpRun topic dir F1 HS MS out0 (k + 1) = o ++ [⟨topic, dir, k, k + 1, x, y⟩] from by rw [unhid HSC]; exact gpStep_push (unhid HXY) (fun g hg => by rw [unhid HLA] at hg; injection hg with hg; subst hg; exact fun h => unhid HE h.2.2.1))
              go_wp2_with fail
              go_quiet (fail)
              go_wp2_with fail
              go_meet
              case rel => exact ⟨false, rfl, fun h => (Bool.noConfusion h), fun _ => HNX, (unhid HI).kept (below_drewN' (Below.refl _ _) nq), (unhid HF).drewN nq, c4, c5, cO, fo⟩
            · have a1 : (z.to == (k : Int)) = true := by simpa using e
              have a2 : (z.has == x) = true := by simpa using e2
              have a3 : (z.should == y) = false := by simpa using e3
              have HE := hid e3
              clear e e2 e3
              have HNX := (show gpRun topic dir F1 HS MS out0 (k + 1) = o ++ [⟨topic, dir, k, k + 1, x, y⟩] from by rw [unhid HSC]; exact gpStep_push (unhid HXY) (fun g hg => by rw [unhid HLA] at hg; injection hg with hg; subst hg; exact fun h => unhid HE h.2.2.2))
              go_wp2_with fail
              go_quiet (fail)
              go_wp2_with fail
              go_meet
              case rel => exact ⟨false, rfl, fun h => (Bool.noConfusion h), fun _ => HNX, (unhid HI).kept (below_drewN' (Below.refl _ _) nq), (unhid HF).drewN nq, c4, c5, cO, fo⟩
            · have a1 : (z.to == (k : Int)) = true := by simpa using e
              have a2 : (z.has == x) = true := by simpa using e2
              have a3 : (z.should == y) = true := by simpa using e3
              have HNY := hid (show ∃ q z, o.length = q + 1 ∧ o[q]? = some z ∧ z.to = (k : Int) ∧ gpRun topic dir F1 HS MS out0 (k + 1) = o.set q z.up from ⟨q, z, unhid HQ, unhid HZE, e, by rw [unhid HSC]; exact gpStep_inc (unhid HXY) (unhid HQ) (unhid HZE) hfl e e2 e3⟩)
              clear e e2 e3
              have HNX := unhid HNY
              go_wp2_with fail
              go_quiet (fail)
              go_wp2_with fail
              go_meet
              case rel => exact ⟨true, rfl, fun _ => HNX, fun h => (Bool.noConfusion h), (unhid HI).kept (below_drewN' (Below.refl _ _) nq), (unhid HF).drewN nq, c4, c5, cO, fo⟩
          · have := decide_eq_false (show ¬ ((F1 : Int) < (o.length : Int)) by omega)
            have HNF := hid hfl
            have HNX := (show gpRun topic dir F1 HS MS out0 (k + 1) = o ++ [⟨topic, dir, k, k + 1, x, y⟩] from by rw [unhid HSC]; exact gpStep_push (unhid HXY) (fun g hg h => unhid HNF h.1))
            go_wp2_with fail
            go_quiet (fail)
            go_wp2_with fail
            go_meet
            case rel => exact ⟨false, rfl, fun h => (Bool.noConfusion h), fun _ => HNX, (unhid HI).kept (below_drewN' (Below.refl _ _) nq), (unhid HF).drewN nq, c4, c5, cO, fo⟩
        case rest =>
          obtain ⟨tb, rfl, hT, hN, hIz, hFz, r4, r5, ro, rf⟩ := hcut
          clear c4 c5 cO fo HI HF
          have hOz := hIz.lt
          have HI := hid hIz
          have HF := hid hFz
          clear hIz hFz hOl
          cases tb with
          | true =>
            obtain ⟨q1, z1, hq9, hz9, hto, HN9⟩ := hT rfl
            have HNX := hid HN9
            have HQ9 := hid hq9
            have HZ9 := hid hz9
            have hto' := hid hto
            clear HN9 hT hN hto hz9
            obtain ⟨g, cg, hvv, hbg, hgs, hcells⟩ := own_some (unhid HI).own (by omega)
            injection hvv with hv1 hv2 hv3
            subst hv1 hv3
            obtain ⟨q, hq⟩ : ∃ q, o.length = q + 1 := ⟨o.length - 1, by omega⟩
            have HQ := hid hq
            have hq1 : IntKind.i64.wrap ((o.length : Int) - 1) = (o.length : Int) - 1 := IntWalk.i64_in _ (by omega)
            have hq2 : (0 : Int) ≤ (o.length : Int) - 1 := by omega
            have hq3 : ((o.length : Int) - 1).toNat = q := by omega
            have hq4 : (o.length : Int) - 1 < (o.length : Int) := by omega
            clear hq
            have t3 : wc.cell? ⟨g, q * 6 + 3, none⟩ = some (.int .i64 (o[q]'(by have := unhid HQ; omega)).to) := hcells _ _ (gps_at (by have := unhid HQ; omega) 3 (by omega))
            have t4 : wc.cell? ⟨g, q * 6 + 4, none⟩ = some (.int .i64 (o[q]'(by have := unhid HQ; omega)).has) := hcells _ _ (gps_at (by have := unhid HQ; omega) 4 (by omega))
            have t5 : wc.cell? ⟨g, q * 6 + 5, none⟩ = some (.int .i64 (o[q]'(by have := unhid HQ; omega)).should) := hcells _ _ (gps_at (by have := unhid HQ; omega) 5 (by omega))
            have tf := (unhid HI).own.frozenAt (q * 6 + 3)
            have HZE := hid (show o[q]? = some (o[q]'(by have := unhid HQ; omega)) from List.getElem?_eq_getElem _)
            have HLA := hid (show o.getLast? = some (o[q]'(by have := unhid HQ; omega)) by rw [List.getLast?_eq_getElem?, show o.length - 1 = q by have := unhid HQ; omega]; exact List.getElem?_eq_getElem _)
            clear hcells
            generalize hz : o[q]'(by have := unhid HQ; omega) = z at *
            have HZ := hid hz
            clear hz
            obtain rfl : q1 = q := by have := unhid HQ; omega
            have e9 : z1 = z := by have := unhid HZE; rw [unhid HZ9] at this; injection this
            subst e9
            have hk2 : -9223372036854775808 ≤ z1.to + 1 ∧ z1.to + 1 ≤ 9223372036854775807 := by have := unhid hto'; omega
            go_wp2_with fail
            go_roundw
            case rel =>
              have h9 := (unhid HI).inc (unhid HF) (g := g) (q := q1) rfl (by have := unhid HQ; omega)
              rw [unhid HZ] at h9
              refine ⟨k + 1, o.set q1 z1.up, some ⟨g, 0, none⟩, c6, by omega, by go_num, (unhid HNX).symm, h9.1, by rw [List.length_set]; exact h9.2⟩
            case measure => simp [intOf]; omega
          | false =>
            have HNX := hid (hN rfl)
            clear hN hT
            have hk1 : IntKind.i64.wrap ((k : Int) + 1) = (k : Int) + 1 := IntWalk.i64_in _ (by omega)
            go_wp2_with fail
            have lb4 : b4 < wc.heap.size := lt_of_cell r4
            have lb5 : b5 < wc.heap.size := lt_of_cell r5
            have n4 : ¬ b4 = O := (unhid N4 _ rfl).1
            have n5 : ¬ b5 = O := (unhid N5 _ rfl).1
            have M4 := hid (show (Value.slice A6 o.length c6).ownBlock ≠ some b4 from fun e => by
              rcases (unhid HF).ob _ e with h | h
              · exact (unhid N4 _ rfl).2 h
              · obtain ⟨b', off', e', hb', -⟩ := (unhid HR4) (ints_ne (k := k) (by have := unhid HH4; omega))
                injection e' with e'; injection e' with e1 e2; omega)
            have M5 := hid (show (Value.slice A6 o.length c6).ownBlock ≠ some b5 from fun e => by
              rcases (unhid HF).ob _ e with h | h
              · exact (unhid N5 _ rfl).2 h
              · obtain ⟨b', off', e', hb', -⟩ := (unhid HR5) (ints_ne (k := k) (by have := unhid HH5; omega))
                injection e' with e'; injection e' with e1 e2; omega)
            refine wp_region_noPanic ?_
            refine wp_region_E (S := fun w' => w'.cell? ⟨O, 0, none⟩ = some (.slice A6 o.length c6) ∧ w'.cell? ⟨b4, off4 + k, none⟩ = some (.int .i64 x) ∧ w'.cell? ⟨b5, off5 + k, none⟩ = some (.int .i64 y)) 17 18 rfl (by kernel_rfl) (by kernel_rfl) ⟨ro, r4, r5⟩ ?_
            intro hSE
            (refine WE_take (i := 0) (v := ?_) rfl (by kernel_rfl) (by decide) (by kernel_rfl) (by kernel_rfl) (fun _ _ _ h => h) (by rfl) hSE ?_ ?_; rotate_left; (focus (intro w hSw; (try dsimp only at hSw); go_simp; (try with_reducible rfl))); simp only [Act.put, List.setIfInBounds_toArray, List.set_cons_zero, List.set_cons_succ])
            (refine WE_take (i := 1) (v := ?_) rfl (by kernel_rfl) (by decide) (by kernel_rfl) (by kernel_rfl) (fun _ _ _ h => h) (by rfl) hSE ?_ ?_; rotate_left; (focus (intro w hSw; (try dsimp only at hSw); go_simp; (try with_reducible rfl))); simp only [Act.put, List.setIfInBounds_toArray, List.set_cons_zero, List.set_cons_succ])
            (refine WE_take (i := 2) (v := ?_) rfl (by kernel_rfl) (by decide) (by kernel_rfl) (by kernel_rfl) (fun _ _ _ h => h) (by rfl) hSE ?_ ?_; rotate_left; (focus (intro w hSw; (try dsimp only at hSw); go_simp; (try with_reducible rfl))); simp only [Act.put, List.setIfInBounds_toArray, List.set_cons_zero, List.set_cons_succ])
            (refine WE_take (i := 3) (v := ?_) rfl (by kernel_rfl) (by decide) (by kernel_rfl) (by kernel_rfl) (fun _ _ _ h => h) (by rfl) hSE ?_ ?_; rotate_left; (focus (intro w hSw; (try dsimp only at hSw); go_simp; (try with_reducible rfl))); simp only [Act.put, List.setIfInBounds_toArray, List.set_cons_zero, List.set_cons_succ])
            (refine WE_take (i := 4) (v := ?_) rfl (by kernel_rfl) (by decide) (by kernel_rfl) (by kernel_rfl) (fun _ _ _ h => h) (by rfl) hSE ?_ ?_; rotate_left; (focus (intro w hSw; (try dsimp only at hSw); go_simp; (try with_reducible rfl))); simp only [Act.put, List.setIfInBounds_toArray, List.set_cons_zero, List.set_cons_succ])
            (refine WE_take (i := 5) (v := ?_) rfl (by kernel_rfl) (by decide) (by kernel_rfl) (by kernel_rfl) (fun _ _ _ h => h) (by rfl) hSE ?_ ?_; rotate_left; (focus (intro w hSw; (try dsimp only at hSw); go_simp; (try with_reducible rfl))); simp only [Act.put, List.setIfInBounds_toArray, List.set_cons_zero, List.set_cons_succ])
            (refine WE_take (i := 6) (v := ?_) rfl (by kernel_rfl) (by decide) (by kernel_rfl) (by kernel_rfl) (fun _ _ _ h => h) (by rfl) hSE ?_ ?_; rotate_left; (focus (intro w hSw; (try dsimp only at hSw); go_simp; (try with_reducible rfl))); simp only [Act.put, List.setIfInBounds_toArray, List.set_cons_zero, List.set_cons_succ])
            (refine WE_take (i := 7) (v := ?_) rfl (by kernel_rfl) (by decide) (by kernel_rfl) (by kernel_rfl) (fun _ _ _ h => h) (by rfl) hSE ?_ ?_; rotate_left; (focus (intro w hSw; (try dsimp only at hSw); go_simp; (try with_reducible rfl))); simp only [Act.put, List.setIfInBounds_toArray, List.set_cons_zero, List.set_cons_succ])
            (refine WE_take (i := 8) (v := ?_) rfl (by kernel_rfl) (by decide) (by kernel_rfl) (by kernel_rfl) (fun _ _ _ h => h) (by rfl) hSE ?_ ?_; rotate_left; (focus (intro w hSw; (try dsimp only at hSw); go_simp; (try with_reducible rfl))); simp only [Act.put, List.setIfInBounds_toArray, List.set_cons_zero, List.set_cons_succ])
            (refine WE_take (i := 9) (v := ?_) rfl (by kernel_rfl) (by decide) (by kernel_rfl) (by kernel_rfl) (fun _ _ _ h => h) (by rfl) hSE ?_ ?_; rotate_left; (focus (intro w hSw; (try dsimp only at hSw); go_simp; (try with_reducible rfl))); simp only [Act.put, List.setIfInBounds_toArray, List.set_cons_zero, List.set_cons_succ])
            (refine WE_take (i := 10) (v := ?_) rfl (by kernel_rfl) (by decide) (by kernel_rfl) (by kernel_rfl) (fun _ _ _ h => h) (by rfl) hSE ?_ ?_; rotate_left; (focus (intro w hSw; (try dsimp only at hSw); go_simp; (try with_reducible rfl))); simp only [Act.put, List.setIfInBounds_toArray, List.set_cons_zero, List.set_cons_succ])
            (refine WE_take (i := 11) (v := ?_) rfl (by kernel_rfl) (by decide) (by kernel_rfl) (by kernel_rfl) (fun _ _ _ h => h) (by rfl) hSE ?_ ?_; rotate_left; (focus (intro w hSw; (try dsimp only at hSw); go_simp; (try with_reducible rfl))); simp only [Act.put, List.setIfInBounds_toArray, List.set_cons_zero, List.set_cons_succ])
            (refine WE_take (i := 12) (v := ?_) rfl (by kernel_rfl) (by decide) (by kernel_rfl) (by kernel_rfl) (fun _ _ _ h => h) (by rfl) hSE ?_ ?_; rotate_left; (focus (intro w hSw; (try dsimp only at hSw); go_simp; (try with_reducible rfl))); simp only [Act.put, List.setIfInBounds_toArray, List.set_cons_zero, List.set_cons_succ])
            (refine WE_take (i := 13) (v := ?_) rfl (by kernel_rfl) (by decide) (by kernel_rfl) (by kernel_rfl) (fun _ _ _ h => h) (by rfl) hSE ?_ ?_; rotate_left; (focus (intro w hSw; (try dsimp only at hSw); go_simp; (try with_reducible rfl))); simp only [Act.put, List.setIfInBounds_toArray, List.set_cons_zero, List.set_cons_succ])
            (refine WE_take (i := 14) (v := ?_) rfl (by kernel_rfl) (by decide) (by kernel_rfl) (by kernel_rfl) (fun _ _ _ h => h) (by rfl) hSE ?_ ?_; rotate_left; (focus (intro w hSw; (try dsimp only at hSw); go_simp; (try with_reducible rfl))); simp only [Act.put, List.setIfInBounds_toArray, List.set_cons_zero, List.set_cons_succ])
            (refine WE_one (i := 15) rfl (by decide) (by kernel_rfl) ?_; intro K hK)
            go_simp
            refine hK.out _ _ ⟨(World.cell?_alloc_lt wc _ _ hOz).trans ro, (World.cell?_alloc_lt wc _ _ lb4).trans r4, (World.cell?_alloc_lt wc _ _ lb5).trans r5⟩ ?_
            clear hSE hK K
            intro hSE
            (try simp only [Act.put, List.setIfInBounds_toArray, List.set_cons_zero, List.set_cons_succ])
            (refine WE_one (i := 16) rfl (by decide) (by kernel_rfl) ?_; intro K hK)
            refine step_append_lies _ (by rfl) _ _ _ (by rfl) (O + 1) 104 i0 _ 6 48 Try.underlying54 hi hz0 hz1 hz2 rfl (by omega) (.slice A6 o.length c6) o.length (gps o) (by rfl) (((unhid HI).own.alloc (.cells #[.int .i64 topic, .int .i64 dir, .int .i64 k, .int .i64 (k + 1), .int .i64 x, .int .i64 y] 104)).drew) ⟨wc.heap.size, 0, none⟩ 1 1 [.int .i64 topic, .int .i64 dir, .int .i64 k, .int .i64 (k + 1), .int .i64 x, .int .i64 y] (by rfl) (by rfl) (World.news_of_block (cs := #[.int .i64 topic, .int .i64 dir, .int .i64 k, .int .i64 (k + 1), .int .i64 x, .int .i64 y]) (t := 104) (fr := (0, 0)) (heap_alloc_new wc _)) (by simp [Value.oneCell']) (by omega) (by unfold maxLen; omega) (by omega) (by simp; omega) (wc.heap.size + 1) (by simp) ?_; intro g3 cap3 w7 hown hg hat hlt3; have hO7 : w7.cell? ⟨O, 0, none⟩ = some (.slice A6 o.length c6) := (hg.cell_far ⟨O, 0, none⟩ (by simp; omega) (fun e => by have := own_lt' (unhid HI).own e.symm; dsimp only at this; omega)).trans ((World.cell?_alloc_lt wc _ _ hOz).trans ro); have hF7 : w7.frozen? ⟨O, 0, none⟩ = false := (hg.frozen_far ⟨O, 0, none⟩ (by simp; omega) (fun e => by have := own_lt' (unhid HI).own e.symm; dsimp only at this; omega)).trans ((World.frozen?_alloc_old wc _ ⟨O, 0, none⟩ (by dsimp only; omega)).trans rf); have q4 : w7.cell? ⟨b4, off4 + k, none⟩ = some (.int .i64 x) := (hg.cell_far ⟨b4, off4 + k, none⟩ (by simp; omega) (fun e => unhid M4 e.symm)).trans ((World.cell?_alloc_lt wc _ _ lb4).trans r4); have q5 : w7.cell? ⟨b5, off5 + k, none⟩ = some (.int .i64 y) := (hg.cell_far ⟨b5, off5 + k, none⟩ (by simp; omega) (fun e => unhid M5 e.symm)).trans ((World.cell?_alloc_lt wc _ _ lb5).trans r5)
            refine hK.out _ _ ⟨hO7, q4, q5⟩ ?_
            clear hSE hK K
            intro hSE
            (try simp only [Act.put, List.setIfInBounds_toArray, List.set_cons_zero, List.set_cons_succ])
            (refine WE_last rfl (by kernel_rfl) (by kernel_rfl) (by kernel_rfl) ?_; intro K hK; go_simp; refine hK.out _ _ (NoPanic.normal ?_); clear hK K)
            have HP := hid ((unhid HI).push (x := ⟨topic, dir, k, k + 1, x, y⟩) (unhid HF) hown (show (wc.alloc (.cells #[.int .i64 topic, .int .i64 dir, .int .i64 k, .int .i64 (k + 1), .int .i64 x, .int .i64 y] 104)).grownBy w7 _ from ⟨hg.os, hg.tape, hg.output, hg.size, hg.block⟩) (fun g hg' => by
              have e : g = g3 := by simpa [Value.ownBlock] using hg'.symm
              subst e
              rcases hat with h | h
              · exact .inl h
              · exact .inr (by omega)))
            clear hown hg hat ro rf
            go_wp2_with fail
            go_roundw
            case rel =>
              have h9 := unhid HP
              refine ⟨k + 1, o ++ [⟨topic, dir, k, k + 1, x, y⟩], some ⟨g3, 0, none⟩, cap3, by omega, by go_num, (unhid HNX).symm, h9.1, h9.2⟩
            case measure => simp [intOf]; omega
    · obtain rfl : k = n := by omega
      go_wp2_with fail
      go_end0
      refine ⟨rfl, R, A6, c6, unhid HROW, ?_⟩
      have h9 := unhid HI
      rw [unhid HOE, unhid HO0, unhid HF1, ← unhid HHS, ← unhid HMS] at h9
      exact h9

end Go.Proofs.Ytmpngoejnmlmbaa
