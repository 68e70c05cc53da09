/-
  The closure of package rule's Compare. Package rule's Compare. The reference's all and musts. The reference's stretches. The reference's Held and Wanted; package rule's Wanted; sameHeld.
-/
import Derived.Test.YtmpngoejnmlmbaaGreatCmpK
import Derived.Test.YtmpngoejnmlmbaaGreatMomM
import Derived.Deep.DeepCutAuto
import Derived.Test.YtmpngoejnmlmbaaGreatRowG
import Derived.Test.YtmpngoejnmlmbaaGreatStripP
import Derived.Test.YtmpngoejnmlmbaaGreatHolds2
import Derived.Deep.AppendLies
set_option linter.unusedSimpArgs false
set_option linter.unusedVariables false
namespace Go.Proofs.YtmpngoejnmlmbaaGreat
open Go.RowKit

section
theorem info_gap : (Tryz.prog.info? 74).map (fun i => (i.zero, i.size, i.bytes)) = some (some (.agg #[.int .i64 0, .int .i64 0, .int .i64 0, .int .i64 0, .int .i64 0, .int .i64 0]), 6, 48) := by kernel_rfl
theorem gps_ne {l : List Gp} {k : Nat} (h : k < l.length) : gps l ≠ [] := flat_ne (f := gpC) (K := 6) (fun _ => rfl) (by omega) h
theorem gps_at {l : List Gp} {k : Nat} (h : k < l.length) (j : Nat) (hj : j < 6) : (gps l)[k * 6 + j]? = (gpC l[k])[j]? := flat_at (f := gpC) (K := 6) (fun _ => rfl) l k j h hj
theorem lt_of_cell {w : World} {a : Addr} {v : Value} (h : w.cell? a = some v) : a.block < w.heap.size := by
  rcases Nat.lt_or_ge a.block w.heap.size with h1 | h1
  · exact h1
  · simp [World.cell?, Array.getElem?_eq_none h1] at h

set_option maxHeartbeats 8000000 in
set_option maxRecDepth 100000 in
theorem cmp_calls (n : Nat) (A : Option Addr) (js : List Int) (c : Nat) (A2 : Option Addr) (l : List Sg) (c2 : Nat) (A3 : Option Addr) (ed : List Ed) (c3 : Nat) (hour topic dir : Int) (bl bs be bh O : Nat) (w0 w : World) (out : List Gp) (Ao : Option Addr) (co : Nat)
    (hl : LnOk w0 A js) (hs : SgsOk w0 A2 l) (he : EdsOk w0 A3 ed) (hv : lineB n js = true) (hv2 : sgsB n js l = true) (hv3 : edsB n js ed = true)
    (st : CmpI w w0 bl bs be bh O #[.int .i64 n, .slice A js.length c] (.slice A2 l.length c2) (.slice A3 ed.length c3) (.int .i64 hour) out Ao co) (hol : out.length ≤ 1000000) :
    Calls Tryz.prog 68 #[.int .i64 topic, .int .i64 dir, .pointer (some ⟨bl, 0, none⟩), .pointer (some ⟨bs, 0, none⟩), .pointer (some ⟨bh, 0, none⟩), .pointer (some ⟨be, 0, none⟩), .pointer (some ⟨O, 0, none⟩)] w fun e w' =>
      e = .returned (.tuple #[]) ∧ ∃ (R : List Mt) (A' : Option Addr) (c' : Nat), IsRow n hour dir l R ∧
        CmpI w' w0 bl bs be bh O #[.int .i64 n, .slice A js.length c] (.slice A2 l.length c2) (.slice A3 ed.length c3) (.int .i64 hour) (gpRun topic dir out.length (holdS n js R dir topic) (mustS n ed hour dir topic) out n) A' c' := by
  have hlen2 := lineB_len hv
  have HJ := hid (lineB_mem hv)
  have HB := hid (sgsB_bounds hv2)
  have hl100 := sgsB_len hv2
  have HEB := hid (edsB_bounds hv3)
  have hl50 := edsB_len hv3
  have HEN := hid (edsB_nodup hv3)
  have HLw := hid (hl.below st.below)
  have HSw := hid (hs.below st.below)
  have HEw := hid (he.below st.below)
  clear hl hs he hv hv2 hv3
  obtain ⟨i0, hi, hz0, hz1, hz2⟩ := info_parts info_gap
  have l0 := cell_of_row _ bl 0 _ _ _ st.l
  have l1 := cell_of_row _ bl 1 _ _ _ st.l
  have s0 := cell_of_one st.s
  have e0 := cell_of_one st.e
  have h0 := cell_of_one st.h
  have o0 := cell_of_one st.o
  simp at l0 l1
  have b1 := st.ll
  have b2 := st.sl
  have b3 := st.el
  have b4 := st.hl
  have b5 := st.lt
  have ST := hid st
  clear st
  go_enter Tryz.func68, Tryz.ntmps68
  go_wp2_with fail
  go_region_held3 (fun w' => w'.cell? ⟨bl, 0, none⟩ = some (.int .i64 n) ∧ w'.cell? ⟨bl, 1, none⟩ = some (.slice A js.length c) ∧ w'.cell? ⟨bs, 0, none⟩ = some (.slice A2 l.length c2) ∧ w'.cell? ⟨be, 0, none⟩ = some (.slice A3 ed.length c3) ∧ w'.cell? ⟨bh, 0, none⟩ = some (.int .i64 hour) ∧ Below w.heap.size w w') (first | (refine ⟨?_, ?_, ?_, ?_, ?_, ?_⟩ <;> assumption) | (exact ⟨by assumption, by assumption, by assumption, by assumption, by assumption, Below.drew (Below.refl _ _)⟩) | go_keep)
    (first
      | (go_at_call 40; have hh := ‹_ ∧ _ ∧ _ ∧ _ ∧ _ ∧ Below w.heap.size w _›; refine (stripOf_calls n A js c A2 l c2 hour dir topic _ ((unhid HLw).below hh.2.2.2.2.2) (unhid HJ) hlen2.2 ((unhid HSw).below hh.2.2.2.2.2) (by omega) (unhid HB)).mono ?_; rintro e w2 ⟨A4, R, hrow, rfl, hrd4, hb2, hf4⟩; have hf4' : ∀ a, A4 = some a → w.heap.size ≤ a.block := (fun a ha => Nat.le_trans hh.2.2.2.2.2.size (hf4 a ha)); have hB2 := hh.2.2.2.2.2.trans (hb2.mono hh.2.2.2.2.2.size); have q0 := (hB2.cell (p := ⟨bl, 0, none⟩) (by dsimp only; omega)).trans l0; have q1 := (hB2.cell (p := ⟨bl, 1, none⟩) (by dsimp only; omega)).trans l1; have q2 := (hB2.cell (p := ⟨bs, 0, none⟩) (by dsimp only; omega)).trans s0; have q3 := (hB2.cell (p := ⟨be, 0, none⟩) (by dsimp only; omega)).trans e0; have q4 := (hB2.cell (p := ⟨bh, 0, none⟩) (by dsimp only; omega)).trans h0; clear hh)
      | (go_at_call 43; have hh := ‹_ ∧ _ ∧ _ ∧ _ ∧ _ ∧ Below w.heap.size w _›; refine (mustStrip_calls n A js.length c A3 ed c3 hour dir topic _ hlen2.2 ((unhid HEw).below hh.2.2.2.2.2).rd (by omega) (unhid HEB) (unhid HEN)).mono ?_; rintro e w3 ⟨A5, rfl, hrd5, hb2, hf5⟩; have hf5' : ∀ a, A5 = some a → w.heap.size ≤ a.block := (fun a ha => Nat.le_trans hh.2.2.2.2.2.size (hf5 a ha)); have hrd4 := hrd4.below hb2; have hB2 := hh.2.2.2.2.2.trans (hb2.mono hh.2.2.2.2.2.size); have q0 := (hB2.cell (p := ⟨bl, 0, none⟩) (by dsimp only; omega)).trans l0; have q1 := (hB2.cell (p := ⟨bl, 1, none⟩) (by dsimp only; omega)).trans l1; have q2 := (hB2.cell (p := ⟨bs, 0, none⟩) (by dsimp only; omega)).trans s0; have q3 := (hB2.cell (p := ⟨be, 0, none⟩) (by dsimp only; omega)).trans e0; have q4 := (hB2.cell (p := ⟨bh, 0, none⟩) (by dsimp only; omega)).trans h0; clear hh))
  have hh := ‹_ ∧ _ ∧ _ ∧ _ ∧ _ ∧ Below w.heap.size w _›
  have HST := hid ((unhid ST).kept hh.2.2.2.2.2)
  have hszS := hh.2.2.2.2.2.size
  clear hb2 hf4 hf5
  rw [strip_hold (rowOk_of hrow (unhid HB)) hrow.far] at hrd4
  have HROW := hid hrow
  clear hrow hh q0 q1 q2 q3 q4 l0 l1 s0 e0 h0 o0
  have HH4 := hid (show (holdS n js R dir topic).length = n from holdS_len _ _ _ _ _)
  have HH5 := hid (show (mustS n ed hour dir topic).length = n from mustS_len _ _ _ _ _)
  generalize hHS : holdS n js R dir topic = HS at *
  generalize hMS : mustS n ed hour dir topic = MS at *
  have HHS := hid hHS
  have HMS := hid hMS
  clear hHS hMS
  have HR4 := hid hrd4
  have HR5 := hid hrd5
  have hrl4 := unhid HH4
  have hrl5 := unhid HH5
  have F4 := hid hf4'
  have F5 := hid hf5'
  clear hrd4 hrd5 hf4' hf5' hB2 b5
  obtain ⟨wS, hwS⟩ : ∃ wS : World, wS = w3 := ⟨_, rfl⟩
  rw [← hwS]
  rw [← hwS] at HST HR4 HR5 hszS
  clear hwS
  have HO := hid (unhid HST).lt
  have HOw := hid (unhid ST).own
  have HLw2 := hid (unhid ST).lt
  have cO := cell_of_one (unhid HST).o
  obtain ⟨gS, hgS⟩ : ∃ gS, gS = (Value.slice Ao out.length co).ownBlock := ⟨_, rfl⟩
  have HGS := hid hgS
  have HF0 := hid (show GpFr wS wS O gS (.slice Ao out.length co) from ⟨Nat.le_refl _, fun _ _ _ _ => rfl, fun g hg => .inl (by rw [unhid HGS]; exact hg)⟩)
  clear hgS
  have N4 := hid (fun a (h : A4 = some a) => (show a.block ≠ O ∧ gS ≠ some a.block from by
    have h1 := unhid F4 a h
    have h2 := unhid HLw2
    refine ⟨by omega, fun e => ?_⟩
    rw [unhid HGS] at e
    have := (own_lt' (unhid HOw) e).2; omega))
  have N5 := hid (fun a (h : A5 = some a) => (show a.block ≠ O ∧ gS ≠ some a.block from by
    have h1 := unhid F5 a h
    have h2 := unhid HLw2
    refine ⟨by omega, fun e => ?_⟩
    rw [unhid HGS] at e
    have := (own_lt' (unhid HOw) e).2; omega))
  obtain ⟨out0, ho0⟩ : ∃ o, o = out := ⟨_, rfl⟩
  obtain ⟨F1, hF1⟩ : ∃ f, f = out.length := ⟨_, rfl⟩
  have HO0 := hid ho0
  have HF1 := hid hF1
  have hF1b : F1 ≤ 1000000 := by omega
  clear ho0 hF1 HLw HSw HEw
  go_wp2_with fail
  rw [← unhid HF1]
  clear cO
  go_loopw [30] (fun i wr => ∃ (k : Nat) (o : List Gp) (A6 : Option Addr) (c6 : Nat), k ≤ n ∧ i = .int .i64 k ∧ o = gpRun topic dir F1 HS MS out0 k ∧ CmpI wr w0 bl bs be bh O #[.int .i64 n, .slice A js.length c] (.slice A2 l.length c2) (.slice A3 ed.length c3) (.int .i64 hour) o A6 c6 ∧ GpFr wS wr O gS (.slice A6 o.length c6)) (fun i _ => n - (intOf i).toNat)
  case atStart => exact ⟨0, out, Ao, co, Nat.zero_le _, rfl, by rw [unhid HO0]; rfl, unhid HST, unhid HF0⟩
  case round =>
    obtain ⟨k, o, A6, c6, hk, rfl, ho, hI, hF⟩ := hrel
    have cO := cell_of_one hI.o
    have fo := free_of_one hI.o
    have holen := gpRun_len topic dir F1 HS MS out0 k
    rw [← ho] at holen
    have hol2 : out0.length = F1 := by rw [unhid HO0, unhid HF1]
    rw [hol2] at holen
    clear hol2
    have HI := hid hI
    have HF := hid hF
    have HOE := hid ho
    have hOl := hI.lt
    clear hI hF
    by_cases hlt : k < n
    · have HSC := hid (show gpRun topic dir F1 HS MS out0 (k + 1) = gpStep topic dir F1 o k (HS[k]'(by omega)) (MS[k]'(by omega)) from by rw [unhid HOE]; exact gpRun_succ topic dir F1 HS MS out0 k (by omega) (by omega))
      clear ho
      have hr4 : Rd wr A4 (ints HS) := (unhid HF).rd (unhid HR4) (fun a h => (unhid N4 a h).1) (fun a h => (unhid N4 a h).2)
      have hr5 : Rd wr A5 (ints MS) := (unhid HF).rd (unhid HR5) (fun a h => (unhid N5 a h).1) (fun a h => (unhid N5 a h).2)
      obtain ⟨b4, off4, rfl, hb4, hc4⟩ := hr4 (ints_ne (k := k) (by omega))
      obtain ⟨b5, off5, rfl, hb5, hc5⟩ := hr5 (ints_ne (k := k) (by omega))
      have c4 := hc4 k _ (ints_at HS k (by omega))
      have c5 := hc5 k _ (ints_at MS k (by omega))
      clear hc4 hc5
      generalize HS[k]'(by omega) = x at *
      generalize MS[k]'(by omega) = y at *
      by_cases hxy : x = y
      · have hxy' : (x == y) = true := by simpa using hxy
        have HNX := hid (show gpRun topic dir F1 HS MS out0 (k + 1) = o from by rw [unhid HSC, gpStep, if_pos hxy])
        have HXY := hid hxy
        clear hxy
        go_wp2_with fail
        go_quiet (fail)
        go_wp2_with fail
        go_roundw
        case rel => exact ⟨k + 1, o, A6, c6, by omega, by go_num, (unhid HNX).symm, (unhid HI).kept (below_drewN' (Below.refl _ _) nq), (unhid HF).drewN nq⟩
        case measure => simp [intOf]; omega
      · have hxy' : (x == y) = false := by simpa using hxy
        have HXY := hid hxy
        clear hxy
        go_wp2_with fail
        go_quiet (fail)
        have HI := hid ((unhid HI).kept (below_drewN' (Below.refl _ _) nq))
        have HF := hid ((unhid HF).drewN nq)
        have c4' : (wr.drewN nq).cell? ⟨b4, off4 + k, none⟩ = some (.int .i64 x) := c4
        have c5' : (wr.drewN nq).cell? ⟨b5, off5 + k, none⟩ = some (.int .i64 y) := c5
        have cO' : (wr.drewN nq).cell? ⟨O, 0, none⟩ = some (.slice A6 o.length c6) := cO
        have fo' : (wr.drewN nq).frozen? ⟨O, 0, none⟩ = false := fo
        clear c4 c5 cO fo hr4 hr5 hb4 hb5 hOl
        generalize wr.drewN nq = wx at *
        have c4 := c4'
        have c5 := c5'
        have cO := cO'
        have fo := fo'
        clear c4' c5' cO' fo'
        have hOl := (unhid HI).lt
        go_wp2_with fail
        go_cut [82] (fun s82 wz => ∃ tb : Bool, s82 = .bool tb ∧ (tb = true → ∃ q z, o.length = q + 1 ∧ o[q]? = some z ∧ z.to = (k : Int) ∧ gpRun topic dir F1 HS MS out0 (k + 1) = o.set q z.up) ∧ (tb = false → gpRun topic dir F1 HS MS out0 (k + 1) = o ++ [⟨topic, dir, k, k + 1, x, y⟩]) ∧ CmpI wz w0 bl bs be bh O #[.int .i64 n, .slice A js.length c] (.slice A2 l.length c2) (.slice A3 ed.length c3) (.int .i64 hour) o A6 c6 ∧ GpFr wS wz O gS (.slice A6 o.length c6) ∧ wz.cell? ⟨b4, off4 + k, none⟩ = some (.int .i64 x) ∧ wz.cell? ⟨b5, off5 + k, none⟩ = some (.int .i64 y) ∧ wz.cell? ⟨O, 0, none⟩ = some (.slice A6 o.length c6) ∧ wz.frozen? ⟨O, 0, none⟩ = false)
        case first =>
          by_cases hfl : F1 < o.length
          · have := decide_eq_true (show (F1 : Int) < (o.length : Int) by omega)
            obtain ⟨g, cg, hvv, hbg, hgs, hcells⟩ := own_some (unhid HI).own (by omega)
            injection hvv with hv1 hv2 hv3
            subst hv1 hv3
            obtain ⟨q, hq⟩ : ∃ q, o.length = q + 1 := ⟨o.length - 1, by omega⟩
            have HQ := hid hq
            have hq1 : IntKind.i64.wrap ((o.length : Int) - 1) = (o.length : Int) - 1 := IntWalk.i64_in _ (by omega)
            have hq2 : (0 : Int) ≤ (o.length : Int) - 1 := by omega
            have hq3 : ((o.length : Int) - 1).toNat = q := by omega
            have hq4 : (o.length : Int) - 1 < (o.length : Int) := by omega
            clear hq
            have t3 : wx.cell? ⟨g, q * 6 + 3, none⟩ = some (.int .i64 (o[q]'(by have := unhid HQ; omega)).to) := hcells _ _ (gps_at (by have := unhid HQ; omega) 3 (by omega))
            have t4 : wx.cell? ⟨g, q * 6 + 4, none⟩ = some (.int .i64 (o[q]'(by have := unhid HQ; omega)).has) := hcells _ _ (gps_at (by have := unhid HQ; omega) 4 (by omega))
            have t5 : wx.cell? ⟨g, q * 6 + 5, none⟩ = some (.int .i64 (o[q]'(by have := unhid HQ; omega)).should) := hcells _ _ (gps_at (by have := unhid HQ; omega) 5 (by omega))
            have tf := (unhid HI).own.frozenAt (q * 6 + 3)
            have HZE := hid (show o[q]? = some (o[q]'(by have := unhid HQ; omega)) from List.getElem?_eq_getElem _)
            have HLA := hid (show o.getLast? = some (o[q]'(by have := unhid HQ; omega)) by rw [List.getLast?_eq_getElem?, show o.length - 1 = q by have := unhid HQ; omega]; exact List.getElem?_eq_getElem _)
            clear hcells
            generalize hz : o[q]'(by have := unhid HQ; omega) = z at *
            have HZ := hid hz
            clear hz
            rcases (show (¬ z.to = k) ∨ (z.to = k ∧ ¬ z.has = x) ∨ (z.to = k ∧ z.has = x ∧ ¬ z.should = y) ∨ (z.to = k ∧ z.has = x ∧ z.should = y) by omega) with e | ⟨e, e2⟩ | ⟨e, e2, e3⟩ | ⟨e, e2, e3⟩
            · have a1 : (z.to == (k : Int)) = false := by simpa using e
              have HE := hid e
              clear e
              have HNX := (show gpRun topic dir F1 HS MS out0 (k + 1) = o ++ [⟨topic, dir, k, k + 1, x, y⟩] from by rw [unhid HSC]; exact gpStep_push (unhid HXY) (fun g hg => by rw [unhid HLA] at hg; injection hg with hg; subst hg; exact fun h => unhid HE h.2.1))
              go_wp2_with fail
              go_quiet (fail)
              go_wp2_with fail
              go_meet
              case rel => exact ⟨false, rfl, fun h => (Bool.noConfusion h), fun _ => HNX, (unhid HI).kept (below_drewN' (Below.refl _ _) nq), (unhid HF).drewN nq, c4, c5, cO, fo⟩
            · have a1 : (z.to == (k : Int)) = true := by simpa using e
              have a2 : (z.has == x) = false := by simpa using e2
              have HE := hid e2
              clear e e2
              have HNX := (show gpRun topic dir F1 HS MS out0 (k + 1) = o ++ [⟨topic, dir, k, k + 1, x, y⟩] from by rw [unhid HSC]; exact gpStep_push (unhid HXY) (fun g hg => by rw [unhid HLA] at hg; injection hg with hg; subst hg; exact fun h => unhid HE h.2.2.1))
              go_wp2_with fail
              go_quiet (fail)
              go_wp2_with fail
              go_meet
              case rel => exact ⟨false, rfl, fun h => (Bool.noConfusion h), fun _ => HNX, (unhid HI).kept (below_drewN' (Below.refl _ _) nq), (unhid HF).drewN nq, c4, c5, cO, fo⟩
            · have a1 : (z.to == (k : Int)) = true := by simpa using e
              have a2 : (z.has == x) = true := by simpa using e2
              have a3 : (z.should == y) = false := by simpa using e3
              have HE := hid e3
              clear e e2 e3
              have HNX := (show gpRun topic dir F1 HS MS out0 (k + 1) = o ++ [⟨topic, dir, k, k + 1, x, y⟩] from by rw [unhid HSC]; exact gpStep_push (unhid HXY) (fun g hg => by rw [unhid HLA] at hg; injection hg with hg; subst hg; exact fun h => unhid HE h.2.2.2))
              go_wp2_with fail
              go_quiet (fail)
              go_wp2_with fail
              go_meet
              case rel => exact ⟨false, rfl, fun h => (Bool.noConfusion h), fun _ => HNX, (unhid HI).kept (below_drewN' (Below.refl _ _) nq), (unhid HF).drewN nq, c4, c5, cO, fo⟩
            · have a1 : (z.to == (k : Int)) = true := by simpa using e
              have a2 : (z.has == x) = true := by simpa using e2
              have a3 : (z.should == y) = true := by simpa using e3
              have HNY := hid (show ∃ q z, o.length = q + 1 ∧ o[q]? = some z ∧ z.to = (k : Int) ∧ gpRun topic dir F1 HS MS out0 (k + 1) = o.set q z.up from ⟨q, z, unhid HQ, unhid HZE, e, by rw [unhid HSC]; exact gpStep_inc (unhid HXY) (unhid HQ) (unhid HZE) hfl e e2 e3⟩)
              clear e e2 e3
              have HNX := unhid HNY
              go_wp2_with fail
              go_quiet (fail)
              go_wp2_with fail
              go_meet
              case rel => exact ⟨true, rfl, fun _ => HNX, fun h => (Bool.noConfusion h), (unhid HI).kept (below_drewN' (Below.refl _ _) nq), (unhid HF).drewN nq, c4, c5, cO, fo⟩
          · have := decide_eq_false (show ¬ ((F1 : Int) < (o.length : Int)) by omega)
            have HNF := hid hfl
            have HNX := (show gpRun topic dir F1 HS MS out0 (k + 1) = o ++ [⟨topic, dir, k, k + 1, x, y⟩] from by rw [unhid HSC]; exact gpStep_push (unhid HXY) (fun g hg h => unhid HNF h.1))
            go_wp2_with fail
            go_quiet (fail)
            go_wp2_with fail
            go_meet
            case rel => exact ⟨false, rfl, fun h => (Bool.noConfusion h), fun _ => HNX, (unhid HI).kept (below_drewN' (Below.refl _ _) nq), (unhid HF).drewN nq, c4, c5, cO, fo⟩
        case rest =>
          obtain ⟨tb, rfl, hT, hN, hIz, hFz, r4, r5, ro, rf⟩ := hcut
          clear c4 c5 cO fo HI HF
          have hOz := hIz.lt
          have HI := hid hIz
          have HF := hid hFz
          clear hIz hFz hOl
          cases tb with
          | true =>
            obtain ⟨q1, z1, hq9, hz9, hto, HN9⟩ := hT rfl
            have HNX := hid HN9
            have HQ9 := hid hq9
            have HZ9 := hid hz9
            have hto' := hid hto
            clear HN9 hT hN hto hz9
            obtain ⟨g, cg, hvv, hbg, hgs, hcells⟩ := own_some (unhid HI).own (by omega)
            injection hvv with hv1 hv2 hv3
            subst hv1 hv3
            obtain ⟨q, hq⟩ : ∃ q, o.length = q + 1 := ⟨o.length - 1, by omega⟩
            have HQ := hid hq
            have hq1 : IntKind.i64.wrap ((o.length : Int) - 1) = (o.length : Int) - 1 := IntWalk.i64_in _ (by omega)
            have hq2 : (0 : Int) ≤ (o.length : Int) - 1 := by omega
            have hq3 : ((o.length : Int) - 1).toNat = q := by omega
            have hq4 : (o.length : Int) - 1 < (o.length : Int) := by omega
            clear hq
            have t3 : wc.cell? ⟨g, q * 6 + 3, none⟩ = some (.int .i64 (o[q]'(by have := unhid HQ; omega)).to) := hcells _ _ (gps_at (by have := unhid HQ; omega) 3 (by omega))
            have t4 : wc.cell? ⟨g, q * 6 + 4, none⟩ = some (.int .i64 (o[q]'(by have := unhid HQ; omega)).has) := hcells _ _ (gps_at (by have := unhid HQ; omega) 4 (by omega))
            have t5 : wc.cell? ⟨g, q * 6 + 5, none⟩ = some (.int .i64 (o[q]'(by have := unhid HQ; omega)).should) := hcells _ _ (gps_at (by have := unhid HQ; omega) 5 (by omega))
            have tf := (unhid HI).own.frozenAt (q * 6 + 3)
            have HZE := hid (show o[q]? = some (o[q]'(by have := unhid HQ; omega)) from List.getElem?_eq_getElem _)
            have HLA := hid (show o.getLast? = some (o[q]'(by have := unhid HQ; omega)) by rw [List.getLast?_eq_getElem?, show o.length - 1 = q by have := unhid HQ; omega]; exact List.getElem?_eq_getElem _)
            clear hcells
            generalize hz : o[q]'(by have := unhid HQ; omega) = z at *
            have HZ := hid hz
            clear hz
            obtain rfl : q1 = q := by have := unhid HQ; omega
            have e9 : z1 = z := by have := unhid HZE; rw [unhid HZ9] at this; injection this
            subst e9
            have hk2 : -9223372036854775808 ≤ z1.to + 1 ∧ z1.to + 1 ≤ 9223372036854775807 := by have := unhid hto'; omega
            go_wp2_with fail
            go_roundw
            case rel =>
              have h9 := (unhid HI).inc (unhid HF) (g := g) (q := q1) rfl (by have := unhid HQ; omega)
              rw [unhid HZ] at h9
              refine ⟨k + 1, o.set q1 z1.up, some ⟨g, 0, none⟩, c6, by omega, by go_num, (unhid HNX).symm, h9.1, by rw [List.length_set]; exact h9.2⟩
            case measure => simp [intOf]; omega
          | false =>
            have HNX := hid (hN rfl)
            clear hN hT
            have hk1 : IntKind.i64.wrap ((k : Int) + 1) = (k : Int) + 1 := IntWalk.i64_in _ (by omega)
            go_wp2_with fail
            have lb4 : b4 < wc.heap.size := lt_of_cell r4
            have lb5 : b5 < wc.heap.size := lt_of_cell r5
            have n4 : ¬ b4 = O := (unhid N4 _ rfl).1
            have n5 : ¬ b5 = O := (unhid N5 _ rfl).1
            have M4 := hid (show (Value.slice A6 o.length c6).ownBlock ≠ some b4 from fun e => by
              rcases (unhid HF).ob _ e with h | h
              · exact (unhid N4 _ rfl).2 h
              · obtain ⟨b', off', e', hb', -⟩ := (unhid HR4) (ints_ne (k := k) (by have := unhid HH4; omega))
                injection e' with e'; injection e' with e1 e2; omega)
            have M5 := hid (show (Value.slice A6 o.length c6).ownBlock ≠ some b5 from fun e => by
              rcases (unhid HF).ob _ e with h | h
              · exact (unhid N5 _ rfl).2 h
              · obtain ⟨b', off', e', hb', -⟩ := (unhid HR5) (ints_ne (k := k) (by have := unhid HH5; omega))
                injection e' with e'; injection e' with e1 e2; omega)
            refine wp_region_noPanic ?_
            refine wp_region_E (S := fun w' => w'.cell? ⟨O, 0, none⟩ = some (.slice A6 o.length c6) ∧ w'.cell? ⟨b4, off4 + k, none⟩ = some (.int .i64 x) ∧ w'.cell? ⟨b5, off5 + k, none⟩ = some (.int .i64 y)) 17 18 rfl (by kernel_rfl) (by kernel_rfl) ⟨ro, r4, r5⟩ ?_
            intro hSE
            (refine WE_take (i := 0) (v := ?_) rfl (by kernel_rfl) (by decide) (by kernel_rfl) (by kernel_rfl) (fun _ _ _ h => h) (by rfl) hSE ?_ ?_; rotate_left; (focus (intro w hSw; (try dsimp only at hSw); go_simp; (try with_reducible rfl))); simp only [Act.put, List.setIfInBounds_toArray, List.set_cons_zero, List.set_cons_succ])
            (refine WE_take (i := 1) (v := ?_) rfl (by kernel_rfl) (by decide) (by kernel_rfl) (by kernel_rfl) (fun _ _ _ h => h) (by rfl) hSE ?_ ?_; rotate_left; (focus (intro w hSw; (try dsimp only at hSw); go_simp; (try with_reducible rfl))); simp only [Act.put, List.setIfInBounds_toArray, List.set_cons_zero, List.set_cons_succ])
            (refine WE_take (i := 2) (v := ?_) rfl (by kernel_rfl) (by decide) (by kernel_rfl) (by kernel_rfl) (fun _ _ _ h => h) (by rfl) hSE ?_ ?_; rotate_left; (focus (intro w hSw; (try dsimp only at hSw); go_simp; (try with_reducible rfl))); simp only [Act.put, List.setIfInBounds_toArray, List.set_cons_zero, List.set_cons_succ])
            (refine WE_take (i := 3) (v := ?_) rfl (by kernel_rfl) (by decide) (by kernel_rfl) (by kernel_rfl) (fun _ _ _ h => h) (by rfl) hSE ?_ ?_; rotate_left; (focus (intro w hSw; (try dsimp only at hSw); go_simp; (try with_reducible rfl))); simp only [Act.put, List.setIfInBounds_toArray, List.set_cons_zero, List.set_cons_succ])
            (refine WE_take (i := 4) (v := ?_) rfl (by kernel_rfl) (by decide) (by kernel_rfl) (by kernel_rfl) (fun _ _ _ h => h) (by rfl) hSE ?_ ?_; rotate_left; (focus (intro w hSw; (try dsimp only at hSw); go_simp; (try with_reducible rfl))); simp only [Act.put, List.setIfInBounds_toArray, List.set_cons_zero, List.set_cons_succ])
            (refine WE_take (i := 5) (v := ?_) rfl (by kernel_rfl) (by decide) (by kernel_rfl) (by kernel_rfl) (fun _ _ _ h => h) (by rfl) hSE ?_ ?_; rotate_left; (focus (intro w hSw; (try dsimp only at hSw); go_simp; (try with_reducible rfl))); simp only [Act.put, List.setIfInBounds_toArray, List.set_cons_zero, List.set_cons_succ])
            (refine WE_take (i := 6) (v := ?_) rfl (by kernel_rfl) (by decide) (by kernel_rfl) (by kernel_rfl) (fun _ _ _ h => h) (by rfl) hSE ?_ ?_; rotate_left; (focus (intro w hSw; (try dsimp only at hSw); go_simp; (try with_reducible rfl))); simp only [Act.put, List.setIfInBounds_toArray, List.set_cons_zero, List.set_cons_succ])
            (refine WE_take (i := 7) (v := ?_) rfl (by kernel_rfl) (by decide) (by kernel_rfl) (by kernel_rfl) (fun _ _ _ h => h) (by rfl) hSE ?_ ?_; rotate_left; (focus (intro w hSw; (try dsimp only at hSw); go_simp; (try with_reducible rfl))); simp only [Act.put, List.setIfInBounds_toArray, List.set_cons_zero, List.set_cons_succ])
            (refine WE_take (i := 8) (v := ?_) rfl (by kernel_rfl) (by decide) (by kernel_rfl) (by kernel_rfl) (fun _ _ _ h => h) (by rfl) hSE ?_ ?_; rotate_left; (focus (intro w hSw; (try dsimp only at hSw); go_simp; (try with_reducible rfl))); simp only [Act.put, List.setIfInBounds_toArray, List.set_cons_zero, List.set_cons_succ])
            (refine WE_take (i := 9) (v := ?_) rfl (by kernel_rfl) (by decide) (by kernel_rfl) (by kernel_rfl) (fun _ _ _ h => h) (by rfl) hSE ?_ ?_; rotate_left; (focus (intro w hSw; (try dsimp only at hSw); go_simp; (try with_reducible rfl))); simp only [Act.put, List.setIfInBounds_toArray, List.set_cons_zero, List.set_cons_succ])
            (refine WE_take (i := 10) (v := ?_) rfl (by kernel_rfl) (by decide) (by kernel_rfl) (by kernel_rfl) (fun _ _ _ h => h) (by rfl) hSE ?_ ?_; rotate_left; (focus (intro w hSw; (try dsimp only at hSw); go_simp; (try with_reducible rfl))); simp only [Act.put, List.setIfInBounds_toArray, List.set_cons_zero, List.set_cons_succ])
            (refine WE_take (i := 11) (v := ?_) rfl (by kernel_rfl) (by decide) (by kernel_rfl) (by kernel_rfl) (fun _ _ _ h => h) (by rfl) hSE ?_ ?_; rotate_left; (focus (intro w hSw; (try dsimp only at hSw); go_simp; (try with_reducible rfl))); simp only [Act.put, List.setIfInBounds_toArray, List.set_cons_zero, List.set_cons_succ])
            (refine WE_take (i := 12) (v := ?_) rfl (by kernel_rfl) (by decide) (by kernel_rfl) (by kernel_rfl) (fun _ _ _ h => h) (by rfl) hSE ?_ ?_; rotate_left; (focus (intro w hSw; (try dsimp only at hSw); go_simp; (try with_reducible rfl))); simp only [Act.put, List.setIfInBounds_toArray, List.set_cons_zero, List.set_cons_succ])
            (refine WE_take (i := 13) (v := ?_) rfl (by kernel_rfl) (by decide) (by kernel_rfl) (by kernel_rfl) (fun _ _ _ h => h) (by rfl) hSE ?_ ?_; rotate_left; (focus (intro w hSw; (try dsimp only at hSw); go_simp; (try with_reducible rfl))); simp only [Act.put, List.setIfInBounds_toArray, List.set_cons_zero, List.set_cons_succ])
            (refine WE_take (i := 14) (v := ?_) rfl (by kernel_rfl) (by decide) (by kernel_rfl) (by kernel_rfl) (fun _ _ _ h => h) (by rfl) hSE ?_ ?_; rotate_left; (focus (intro w hSw; (try dsimp only at hSw); go_simp; (try with_reducible rfl))); simp only [Act.put, List.setIfInBounds_toArray, List.set_cons_zero, List.set_cons_succ])
            (refine WE_one (i := 15) rfl (by decide) (by kernel_rfl) ?_; intro K hK)
            go_simp
            refine hK.out _ _ ⟨(World.cell?_alloc_lt wc _ _ hOz).trans ro, (World.cell?_alloc_lt wc _ _ lb4).trans r4, (World.cell?_alloc_lt wc _ _ lb5).trans r5⟩ ?_
            clear hSE hK K
            intro hSE
            (try simp only [Act.put, List.setIfInBounds_toArray, List.set_cons_zero, List.set_cons_succ])
            (refine WE_one (i := 16) rfl (by decide) (by kernel_rfl) ?_; intro K hK)
            refine step_append_lies _ (by rfl) _ _ _ (by rfl) (O + 1) 74 i0 _ 6 48 Tryz.underlying57 hi hz0 hz1 hz2 rfl (by omega) (.slice A6 o.length c6) o.length (gps o) (by rfl) (((unhid HI).own.alloc (.cells #[.int .i64 topic, .int .i64 dir, .int .i64 k, .int .i64 (k + 1), .int .i64 x, .int .i64 y] 74)).drew) ⟨wc.heap.size, 0, none⟩ 1 1 [.int .i64 topic, .int .i64 dir, .int .i64 k, .int .i64 (k + 1), .int .i64 x, .int .i64 y] (by rfl) (by rfl) (World.news_of_block (cs := #[.int .i64 topic, .int .i64 dir, .int .i64 k, .int .i64 (k + 1), .int .i64 x, .int .i64 y]) (t := 74) (fr := (0, 0)) (heap_alloc_new wc _)) (by simp [Value.oneCell']) (by omega) (by unfold maxLen; omega) (by omega) (by simp; omega) (wc.heap.size + 1) (by simp) ?_; intro g3 cap3 w7 hown hg hat hlt3; have hO7 : w7.cell? ⟨O, 0, none⟩ = some (.slice A6 o.length c6) := (hg.cell_far ⟨O, 0, none⟩ (by simp; omega) (fun e => by have := own_lt' (unhid HI).own e.symm; dsimp only at this; omega)).trans ((World.cell?_alloc_lt wc _ _ hOz).trans ro); have hF7 : w7.frozen? ⟨O, 0, none⟩ = false := (hg.frozen_far ⟨O, 0, none⟩ (by simp; omega) (fun e => by have := own_lt' (unhid HI).own e.symm; dsimp only at this; omega)).trans ((World.frozen?_alloc_old wc _ ⟨O, 0, none⟩ (by dsimp only; omega)).trans rf); have q4 : w7.cell? ⟨b4, off4 + k, none⟩ = some (.int .i64 x) := (hg.cell_far ⟨b4, off4 + k, none⟩ (by simp; omega) (fun e => unhid M4 e.symm)).trans ((World.cell?_alloc_lt wc _ _ lb4).trans r4); have q5 : w7.cell? ⟨b5, off5 + k, none⟩ = some (.int .i64 y) := (hg.cell_far ⟨b5, off5 + k, none⟩ (by simp; omega) (fun e => unhid M5 e.symm)).trans ((World.cell?_alloc_lt wc _ _ lb5).trans r5)
            refine hK.out _ _ ⟨hO7, q4, q5⟩ ?_
            clear hSE hK K
            intro hSE
            (try simp only [Act.put, List.setIfInBounds_toArray, List.set_cons_zero, List.set_cons_succ])
            (refine WE_last rfl (by kernel_rfl) (by kernel_rfl) (by kernel_rfl) ?_; intro K hK; go_simp; refine hK.out _ _ (NoPanic.normal ?_); clear hK K)
            have HP := hid ((unhid HI).push (x := ⟨topic, dir, k, k + 1, x, y⟩) (unhid HF) hown (show (wc.alloc (.cells #[.int .i64 topic, .int .i64 dir, .int .i64 k, .int .i64 (k + 1), .int .i64 x, .int .i64 y] 74)).grownBy w7 _ from ⟨hg.os, hg.tape, hg.output, hg.size, hg.block⟩) (fun g hg' => by
              have e : g = g3 := by simpa [Value.ownBlock] using hg'.symm
              subst e
              rcases hat with h | h
              · exact .inl h
              · exact .inr (by omega)))
            clear hown hg hat ro rf
            go_wp2_with fail
            go_roundw
            case rel =>
              have h9 := unhid HP
              refine ⟨k + 1, o ++ [⟨topic, dir, k, k + 1, x, y⟩], some ⟨g3, 0, none⟩, cap3, by omega, by go_num, (unhid HNX).symm, h9.1, h9.2⟩
            case measure => simp [intOf]; omega
    · obtain rfl : k = n := by omega
      go_wp2_with fail
      go_end0
      refine ⟨rfl, R, A6, c6, unhid HROW, ?_⟩
      have h9 := unhid HI
      rw [unhid HOE, unhid HO0, unhid HF1, ← unhid HHS, ← unhid HMS] at h9
      exact h9
end

section
theorem box_blocks (w : World) (c1 c2 c3 c4 : Array Value) (t1 t2 t3 t4 : TypeId) :
    ((((w.alloc (.cells c1 t1)).alloc (.cells c2 t2)).alloc (.cells c3 t3)).alloc (.cells c4 t4)).heap[w.heap.size]? = some (.cells c1 t1 (0, 0)) ∧
    ((((w.alloc (.cells c1 t1)).alloc (.cells c2 t2)).alloc (.cells c3 t3)).alloc (.cells c4 t4)).heap[w.heap.size + 1]? = some (.cells c2 t2 (0, 0)) ∧
    ((((w.alloc (.cells c1 t1)).alloc (.cells c2 t2)).alloc (.cells c3 t3)).alloc (.cells c4 t4)).heap[w.heap.size + 2]? = some (.cells c3 t3 (0, 0)) ∧
    ((((w.alloc (.cells c1 t1)).alloc (.cells c2 t2)).alloc (.cells c3 t3)).alloc (.cells c4 t4)).heap[w.heap.size + 3]? = some (.cells c4 t4 (0, 0)) ∧
    Below w.heap.size w ((((w.alloc (.cells c1 t1)).alloc (.cells c2 t2)).alloc (.cells c3 t3)).alloc (.cells c4 t4)) ∧
    ((((w.alloc (.cells c1 t1)).alloc (.cells c2 t2)).alloc (.cells c3 t3)).alloc (.cells c4 t4)).heap.size = w.heap.size + 4 := by
  have s1 : (w.alloc (.cells c1 t1)).heap.size = w.heap.size + 1 := by simp
  have s2 : ((w.alloc (.cells c1 t1)).alloc (.cells c2 t2)).heap.size = w.heap.size + 2 := by simp
  have s3 : (((w.alloc (.cells c1 t1)).alloc (.cells c2 t2)).alloc (.cells c3 t3)).heap.size = w.heap.size + 3 := by simp
  refine ⟨?_, ?_, ?_, ?_, below_alloc' (below_alloc' (below_alloc' (below_alloc w _) _) _) _, by simp⟩
  · rw [Below.heap_alloc _ _ _ (by omega), Below.heap_alloc _ _ _ (by omega), Below.heap_alloc _ _ _ (by omega)]; exact heap_alloc_new w _
  · rw [Below.heap_alloc _ _ _ (by omega), Below.heap_alloc _ _ _ (by omega), ← s1]; exact heap_alloc_new _ _
  · rw [Below.heap_alloc _ _ _ (by omega), ← s2]; exact heap_alloc_new _ _
  · rw [← s3]; exact heap_alloc_new _ _

theorem allE_zero {len : Int} {js : List Int} {l : List Sg} {ed : List Ed} {hour : Int} (h : allE len js l ed hour = 0) : lineB len js = true ∧ sgsB len js l = true ∧ edsB len js ed = true ∧ 0 ≤ hour ∧ hour ≤ 10000000 := by
  unfold allE at h
  split at h
  · omega
  · rename_i h1
    split at h
    · omega
    · rename_i h2
      split at h
      · omega
      · rename_i h3
        split at h
        · rename_i h4
          exact ⟨by simpa using h1, by simpa using h2, by simpa using h3, h4.1, h4.2⟩
        · omega

set_option maxHeartbeats 4000000 in
set_option maxRecDepth 100000 in
theorem rcomp_calls (len : Int) (A : Option Addr) (js : List Int) (c : Nat) (A2 : Option Addr) (l : List Sg) (c2 : Nat) (A3 : Option Addr) (ed : List Ed) (c3 : Nat) (hour : Int) (w : World) (hl : LnOk w A js) (hs : SgsOk w A2 l) (he : EdsOk w A3 ed) :
    Calls Tryz.prog 30 #[.agg #[.int .i64 len, .slice A js.length c], .slice A2 l.length c2, .slice A3 ed.length c3, .int .i64 hour] w (CmpPost len js l ed hour w) := by
  have HL := hid hl
  have HS := hid hs
  have HE := hid he
  clear hl hs he
  go_enter Tryz.func30, Tryz.ntmps30
  go_wp2_with fail
  obtain ⟨d0, d1, d2, d3, hbw, hsz⟩ := box_blocks w #[.int .i64 len, .slice A js.length c] #[.slice A2 l.length c2] #[.slice A3 ed.length c3] #[.int .i64 hour] 24 25 26 3
  refine (all_calls len A js c A2 l c2 A3 ed c3 hour _ ((unhid HL).below hbw) ((unhid HS).below hbw) ((unhid HE).below hbw)).mono ?_
  rintro e w1 ⟨rfl, hb1⟩
  have g0 := (hb1.block w.heap.size (by omega)).trans d0
  have g1 := (hb1.block (w.heap.size + 1) (by omega)).trans d1
  have g2 := (hb1.block (w.heap.size + 2) (by omega)).trans d2
  have g3 := (hb1.block (w.heap.size + 3) (by omega)).trans d3
  have hbw1 : Below w.heap.size w w1 := hbw.trans (hb1.mono hbw.size)
  have hsz1 : w.heap.size + 4 ≤ w1.heap.size := by have := hb1.size; omega
  clear d0 d1 d2 d3 hb1 hbw hsz
  generalize hal : allE len js l ed hour = al
  by_cases h0 : al = 0
  · subst h0
    have hv := allE_zero hal
    have HAL := hid hal
    clear hal
    obtain ⟨n, rfl⟩ := Int.eq_ofNat_of_zero_le (show 0 ≤ len by have := (lineB_len hv.1).1; omega)
    have hn := (lineB_len hv.1).2
    have HV := hid hv
    clear hv
    have HG := hid (And.intro g0 (And.intro g1 (And.intro g2 g3)))
    clear g0 g1 g2 g3
    go_wp2_with fail
    have hI0 : CmpI (w1.alloc (.cells #[.slice none 0 0] 57)) w w.heap.size (w.heap.size + 1) (w.heap.size + 2) (w.heap.size + 3) w1.heap.size #[.int .i64 n, .slice A js.length c] (.slice A2 l.length c2) (.slice A3 ed.length c3) (.int .i64 hour) (gapsP n js l ed hour 0) none 0 := by
      obtain ⟨g0, g1, g2, g3⟩ := unhid HG
      refine ⟨?_, ?_, ?_, ?_, by omega, by omega, by omega, by omega, heap_alloc_new _ _, World.ownsRow_nil _ _ _ _, below_alloc' hbw1 _, by omega⟩
      · rw [Below.heap_alloc _ _ _ (by omega)]; exact g0
      · rw [Below.heap_alloc _ _ _ (by omega)]; exact g1
      · rw [Below.heap_alloc _ _ _ (by omega)]; exact g2
      · rw [Below.heap_alloc _ _ _ (by omega)]; exact g3
    refine (each_calls 68 _ (fun i w' => ∃ (A' : Option Addr) (c' : Nat), CmpI w' w w.heap.size (w.heap.size + 1) (w.heap.size + 2) (w.heap.size + 3) w1.heap.size #[.int .i64 n, .slice A js.length c] (.slice A2 l.length c2) (.slice A3 ed.length c3) (.int .i64 hour) (gapsP n js l ed hour i) A' c') (fun _ _ => by rfl) ?_ _ ⟨none, 0, hI0⟩).mono ?_
    · rintro i wi hi ⟨A5, c5, st⟩
      have hlen := gapsP_len n js l ed hour i
      have hlen2 : i * n ≤ 4 * 100000 := Nat.mul_le_mul (by omega) (by omega)
      refine (cmp_calls n A js c A2 l c2 A3 ed c3 hour (topI i) (dirI i) _ _ _ _ _ w wi _ A5 c5 (unhid HL) (unhid HS) (unhid HE) (unhid HV).1 (unhid HV).2.1 (unhid HV).2.2.1 st (by omega)).mono ?_
      rintro e w' ⟨rfl, R, A6, c6, hrow, h6⟩
      refine ⟨rfl, A6, c6, ?_⟩
      rw [gapsP_succ]
      have e := rowM_eq hrow (sgsB_nodup (unhid HV).2.1)
      subst e
      exact h6
    · rintro e w2 ⟨rfl, A5, c5, hI⟩
      have o2 := cell_of_one hI.o
      obtain ⟨A7, c7, hvv, hrd, -⟩ := own_slice hI.own
      injection hvv with hv1 hv2 hv3
      subst hv1 hv3
      have HRD := hid hrd
      have HBL := hid hI.below
      have hlen := gapsP_len n js l ed hour 4
      clear hI hrd hI0
      go_wp2_with fail
      go_ret2
      exact ⟨A5, c5, gapsP n js l ed hour 4, by rw [unhid HAL]; rfl, fun _ => rfl, fun h => absurd (unhid HAL) h, unhid HRD, by omega, unhid HBL⟩
  · have h0' : (al != 0) = true := by simpa using h0
    have HAL := hid hal
    have H0 := hid h0
    clear hal h0 g0 g1 g2 g3
    go_wp2_with fail
    go_ret2
    exact ⟨none, 0, [], by rw [unhid HAL]; rfl, fun h => absurd ((unhid HAL).symm.trans h) (unhid H0), fun _ => rfl, Rd.nil _ _, by simp, hbw1⟩
end

section
theorem ints_snoc (f : Nat → Int) (k : Nat) : ints ((List.range (k + 1)).map f) = ints ((List.range k).map f) ++ [.int .i64 (f k)] := by
  simp [List.range_succ, ints]

set_option maxHeartbeats 4000000 in
set_option maxRecDepth 100000 in
theorem rmusts_calls (n : Nat) (A : Option Addr) (q c : Nat) (A2 : Option Addr) (ed : List Ed) (c2 : Nat) (hour dir topic : Int) (w : World) (hn : n ≤ 100000) (hr : Rd w A2 (edicts ed)) (hl : ed.length ≤ 100000000) :
    Calls Tryz.prog 48 #[.agg #[.int .i64 n, .slice A q c], .slice A2 ed.length c2, .int .i64 hour, .int .i64 dir, .int .i64 topic] w fun e w' =>
      ∃ (A' : Option Addr) (c' : Nat), e = .returned (.slice A' n c') ∧ Rd w' A' (ints (mustS n ed hour dir topic)) ∧ Below w.heap.size w w' ∧ ∀ a, A' = some a → w.heap.size ≤ a.block := by
  have HR := hid hr
  clear hr
  obtain ⟨i0, hi, hz0, hz1, hz2⟩ := info_parts info_int
  go_enter Tryz.func48, Tryz.ntmps48
  go_wp2_with fail
  generalize hW : w.alloc _ = w1
  have hB1 : w.heap.size < w1.heap.size := by rw [← hW]; simp
  have d0 : w1.cell? ⟨w.heap.size, 0, none⟩ = some (.int .i64 n) := by rw [← hW]; simp [go_sem]
  have hbw1 : Below w.heap.size w w1 := by rw [← hW]; exact below_alloc _ _
  clear hW
  go_loopw [11, 12] (fun v i wr => ∃ k : Nat, k ≤ n ∧ i = .int .i64 k ∧ wr.ownsRow w1.heap.size 3 1 v k (ints ((List.range k).map fun m => mustP ed hour dir topic (m : Nat))) ∧ Below w1.heap.size w1 wr) (fun _ i _ => n - (intOf i).toNat)
  case atStart => exact ⟨0, Nat.zero_le _, rfl, World.ownsRow_nil _ _ _ _, Below.refl _ _⟩
  case round =>
    obtain ⟨k, hk, rfl, hown, hbel⟩ := hrel
    have f0 := (hbel.cell (p := ⟨w.heap.size, 0, none⟩) hB1).trans d0
    have HO := hid hown
    clear hown
    by_cases hlt : k < n
    · have KM := hid (rmust_calls A2 ed c2 hour dir topic k wr ((unhid HR).below (hbw1.trans (hbel.mono hbw1.size))) hl)
      generalize hx : mustP ed hour dir topic k = x at *
      have HX := hid hx
      clear hx
      go_wp2_with fail
      refine (unhid KM).mono ?_
      rintro e w2 ⟨rfl, hb2⟩
      have hbel2 : Below w1.heap.size w1 w2 := hbel.trans (hb2.mono hbel.size)
      have hsz := hbel2.size
      have hown2 := own_below (unhid HO) hb2
      clear hb2
      go_wp2_with (at_builtin; refine wpList_append_own _ rfl _ _ 22 rfl w1.heap.size 3 i0 (.int .i64 0) 1 8 Tryz.underlying22 hi hz0 hz1 hz2 rfl (by decide) _ _ _ rfl (hown2.alloc _) ⟨w2.heap.size, 0, none⟩ 1 1 [.int .i64 x] rfl rfl ?c1 ?c2 ?c3 ?c4 ?c5 ?_)
      case c1 =>
        intro j u hj
        match j, hj with
        | 0, hj => simp at hj; subst hj; simp [Addr.add, go_sem]
      case c2 => intro u hu; simp at hu; subst hu; rfl
      case c3 => unfold maxLen; omega
      case c4 => omega
      case c5 => simp; omega
      intro v' w3 hown3 hg3 _
      have hb3 : Below w1.heap.size w1 w3 := by
        refine Below.grown (hbel2.alloc hsz _) hg3 (by simp; omega) (fun i hi => ?_)
        rcases Nat.lt_or_ge i w1.heap.size with h | h
        · exact absurd hi (own_ne hown2 (Or.inl h))
        · exact h
      have HO3 := hid hown3
      clear hown3 hown2 hg3
      go_wp2_with fail
      go_roundw
      case rel =>
        refine ⟨k + 1, by omega, by go_num, ?_, hb3⟩
        have := unhid HO3
        rw [ints_snoc, unhid HX]
        exact this
      case measure => simp [intOf]; omega
    · obtain rfl : k = n := by omega
      obtain ⟨A3, c3, rfl, hrd3, hfr⟩ := own_slice (unhid HO)
      have HFR := hid (fun a (ha : A3 = some a) => (show w.heap.size ≤ a.block from by have := hfr _ (by rw [ha]; rfl); omega))
      clear hfr
      clear HO
      go_wp2_with fail
      go_ret
      exact ⟨A3, c3, rfl, hrd3, hbw1.trans (hbel.mono hbw1.size), unhid HFR⟩

set_option maxHeartbeats 4000000 in
set_option maxRecDepth 100000 in
theorem rall_calls (n : Nat) (A : Option Addr) (js : List Int) (c : Nat) (A2 : Option Addr) (l : List Sg) (c2 : Nat) (hour dir topic : Int) (w : World) (hl : LnOk w A js) (hs : SgsOk w A2 l) (hv : lineB n js = true) (hv2 : sgsB n js l = true) :
    Calls Tryz.prog 47 #[.agg #[.int .i64 n, .slice A js.length c], .slice A2 l.length c2, .int .i64 hour, .int .i64 dir, .int .i64 topic] w fun e w' =>
      ∃ (A' : Option Addr) (c' : Nat) (R : List Sg), InsRow n hour dir l R ∧ e = .returned (.slice A' n c') ∧ Rd w' A' (ints (holdS n js (mtl n dir R) dir topic)) ∧ Below w.heap.size w w' ∧ ∀ a, A' = some a → w.heap.size ≤ a.block := by
  have HL := hid hl
  have HS := hid hs
  clear hl hs
  have hlen2 := lineB_len hv
  have HJ := hid (lineB_mem hv)
  have HV2 := hid hv2
  have HC := hid (sgsB_chain hv2)
  have hl100 := sgsB_len hv2
  clear hv hv2
  obtain ⟨i0, hi, hz0, hz1, hz2⟩ := info_parts info_int
  go_enter Tryz.func47, Tryz.ntmps47
  go_wp2_with fail
  refine (rrow_calls n A js.length c A2 l c2 hour dir _ ((unhid HS).below (below_alloc _ _)) (by omega) hlen2.2 (unhid HC)).mono ?_
  rintro e w1 ⟨A3, c3, R, rfl, hrow, hrd, hb1⟩
  have d0 := hb1.cell (p := ⟨w.heap.size, 0, none⟩) (by simp)
  have d1 := hb1.cell (p := ⟨w.heap.size, 1, none⟩) (by simp)
  simp [go_sem] at d0 d1
  have hbw1 : Below w.heap.size w w1 := (below_alloc w _).trans (hb1.mono (by simp))
  have hB1 : w.heap.size < w1.heap.size := Nat.lt_of_lt_of_le (by simp) hb1.size
  clear hb1
  have hRL : R.length ≤ 100 := by have := selS_len hour dir l; have := hrow.perm.length_eq; omega
  have HROK := hid (rowSg_of hrow (unhid HV2))
  have HROW := hid hrow
  have HRD := hid hrd
  have HL1 := hid ((unhid HL).below hbw1)
  clear hrow hrd
  go_wp2_with fail
  go_loopw [12, 13] (fun v i wr => ∃ k : Nat, k ≤ n ∧ i = .int .i64 k ∧ wr.ownsRow w1.heap.size 3 1 v k (ints ((List.range k).map fun m => holdP n js (mtl n dir R) dir topic (metreI n dir (m : Nat)))) ∧ Below w1.heap.size w1 wr) (fun _ i _ => n - (intOf i).toNat)
  case atStart => exact ⟨0, Nat.zero_le _, rfl, World.ownsRow_nil _ _ _ _, Below.refl _ _⟩
  case round =>
    obtain ⟨k, hk, rfl, hown, hbel⟩ := hrel
    have f0 := (hbel.cell (p := ⟨w.heap.size, 0, none⟩) hB1).trans d0
    have f1 := (hbel.cell (p := ⟨w.heap.size, 1, none⟩) hB1).trans d1
    have HO := hid hown
    have hBr := Nat.lt_of_lt_of_le hB1 hbel.size
    clear hown
    by_cases hlt : k < n
    · have hmi := metreI_lt (len := n) (dir := dir) (k := k) (by omega) (by omega)
      have HLr := hid ((unhid HL1).below hbel)
      have HRr := hid ((unhid HRD).below hbel)
      generalize hx : holdP n js (mtl n dir R) dir topic (metreI n dir k) = x at *
      have HX := hid hx
      clear hx
      have KB := hid (fun W => beginning_calls n A js.length c dir k W (by omega) (by omega) hlen2.2)
      have KH := hid (fun (W : World) (hb : Below wr.heap.size wr W) => (holding_calls n A js c A3 R c3 dir topic (metreI n dir k) W ((unhid HLr).below hb) (unhid HJ) hlen2.2 ((unhid HRr).below hb) (by omega) (unhid HROK) hmi.1 hmi.2).mono fun _ _ h => (⟨h.1.trans (by rw [unhid HX]), h.2⟩ : _ ∧ _))
      generalize hmm : metreI n dir k = mm at *
      have HMM := hid hmm
      clear hmm
      go_wp2_with fail
      have ag : u12.ownBlock ≠ some w.heap.size := own_ne (unhid HO) (Or.inl hB1)
      go_region_held3 (fun w' => w'.cell? ⟨w.heap.size, 0, none⟩ = some (.int .i64 n) ∧ w'.cell? ⟨w.heap.size, 1, none⟩ = some (.slice A js.length c)) (first | (refine ⟨?_, ?_⟩ <;> assumption) | go_keep | (go_split_ands; refine ⟨?_, ?_⟩ <;> (rw [hgrow.cell_far _ (by simp; omega) (Ne.symm ag)]; first | assumption | go_keep)))
        (first
          | (refine step_append_lies _ (by rfl) _ _ _ (by rfl) w1.heap.size 3 i0 _ 1 8 Tryz.underlying22 hi hz0 hz1 hz2 rfl (by omega) u12 k _ (by rfl) ((unhid HO6).alloc (.cells #[.int .i64 x] 3)) ⟨w6.heap.size, 0, none⟩ 1 1 [.int .i64 x] (by rfl) (by rfl) (World.news_of_block (cs := #[.int .i64 x]) (t := 3) (fr := (0, 0)) (heap_alloc_new w6 _)) (by simp [Value.oneCell']) (by omega) (by unfold maxLen; omega) (by omega) (by simp; omega) (w6.heap.size + 1) (by simp) ?_; intro gg cap w7 hown7 hgrow hat hlt7)
          | (go_at_call 66; refine ((unhid KB) _).mono ?_; rintro e w5 ⟨rfl, rfl⟩)
          | (go_at_call 87; refine ((unhid KH) _ (below_alloc' (Below.drew (Below.refl _ _)) _)).mono ?_; rintro e w6 ⟨rfl, hb6⟩; have hbx : Below wr.heap.size wr w6 := (below_alloc' (Below.drew (Below.refl _ _)) _).trans (hb6.mono (by simp)); have e0 := (hbx.cell (p := ⟨w.heap.size, 0, none⟩) hBr).trans f0; have e1 := (hbx.cell (p := ⟨w.heap.size, 1, none⟩) hBr).trans f1; have HO6 := hid (own_below (unhid HO) hbx); have hsx := hbx.size; have hsr := hbel.size))
      have hb7 : Below w1.heap.size w1 w7 := by
        refine Below.grown ((hbel.trans (hbx.mono hbel.size)).alloc (by omega) _) hgrow (by simp; omega) (fun i hi => ?_)
        rcases Nat.lt_or_ge i w1.heap.size with h | h
        · exact absurd hi (own_ne (unhid HO) (Or.inl h))
        · exact h
      have HO7 := hid hown7
      clear hown7 hgrow hat hlt7 hb6 HO6
      go_wp2_with fail
      go_roundw
      case rel =>
        refine ⟨k + 1, by omega, by go_num, ?_, hb7⟩
        have := unhid HO7
        rw [ints_snoc, unhid HMM, unhid HX]
        exact this
      case measure => simp [intOf]; omega
    · obtain rfl : k = n := by omega
      obtain ⟨A4, c4, rfl, hrd4, hfr⟩ := own_slice (unhid HO)
      have HFR := hid (fun a (ha : A4 = some a) => (show w.heap.size ≤ a.block from by have := hfr _ (by rw [ha]; rfl); omega))
      clear hfr
      clear HO
      go_wp2_with fail
      go_ret
      exact ⟨A4, c4, R, unhid HROW, rfl, hrd4, hbw1.trans (hbel.mono hbw1.size), unhid HFR⟩

theorem own_drewN {w : World} {base e size n : Nat} {v : Value} {xs : List Value} (h : w.ownsRow base e size v n xs) (q : Nat) : (w.drewN q).ownsRow base e size v n xs := h
end

section
theorem info_held2 : (Tryz.prog.info? 81).map (fun i => (i.zero, i.size, i.bytes)) = some (some (.agg #[.int .i64 0, .int .i64 0, .int .i64 0]), 3, 24) := by kernel_rfl

set_option maxHeartbeats 4000000 in
set_option maxRecDepth 100000 in
theorem stretches_calls (A : Option Addr) (s : List Int) (c : Nat) (w : World) (hr : Rd w A (ints s)) (hn : s.length ≤ 100000) :
    Calls Tryz.prog 46 #[.slice A s.length c] w fun e w' =>
      ∃ (A' : Option Addr) (c' : Nat), e = .returned (.slice A' (heldP s).length c') ∧ Rd w' A' (hds (heldP s)) ∧ Below w.heap.size w w' := by
  obtain ⟨i0, hi, hz0, hz1, hz2⟩ := info_parts info_held2
  have HR := hid hr
  clear hr
  go_enter Tryz.func46, Tryz.ntmps46
  go_wp2_with fail
  go_loopw [3, 4] (fun v i wr => ∃ k : Nat, k ≤ s.length ∧ i = .int .i64 k ∧ wr.ownsRow w.heap.size 81 3 v (hdRun s k).length (hds (hdRun s k)) ∧ Below w.heap.size w wr) (fun _ i _ => s.length - (intOf i).toNat)
  case atStart => exact ⟨0, Nat.zero_le _, rfl, World.ownsRow_nil _ _ _ _, Below.refl _ _⟩
  case round =>
    obtain ⟨k, hk, rfl, hown, hbel⟩ := hrel
    have hlen := hdRun_len s k
    by_cases hlt : k < s.length
    · obtain ⟨b, off, rfl, hb, hc⟩ := (unhid HR) (ints_ne hlt)
      have hck : wr.cell? ⟨b, off + k, none⟩ = some (.int .i64 s[k]) := (hbel.cell (p := ⟨b, _, none⟩) hb).trans (hc k _ (ints_at s k hlt))
      have HSC := hid (hdRun_succ s k hlt)
      have HVAL := hid (hdRun_vals s k hk)
      clear hc
      have hbwr : b < wr.heap.size := Nat.lt_of_lt_of_le hb hbel.size
      generalize hx : s[k] = x at *
      clear hx
      generalize hout : hdRun s k = out at *
      clear hout
      by_cases hx0 : x = 0
      · subst hx0
        have HNX := hid (show hdRun s (k + 1) = out by rw [unhid HSC]; exact hdStep_zero (unhid HVAL))
        have HOWN := hid hown
        clear hown
        go_wp2_with fail
        go_roundw
        case rel => exact ⟨k + 1, by omega, by go_num, by rw [unhid HNX]; exact unhid HOWN, hbel⟩
        case measure => simp [intOf]; omega
      · have hx0' : (x == 0) = false := by simpa using hx0
        have HX0 := hid hx0
        clear hx0
        rcases Nat.eq_zero_or_pos out.length with h0 | h0
        · have HLAST := hid (show out.getLast? = none by rw [List.getLast?_eq_none_iff]; exact List.eq_nil_of_length_eq_zero h0)
          rw [h0] at hown
          obtain ⟨A0, c0, rfl, -⟩ := own_slice hown
          have HOWN := hid hown
          clear hown
          have HNX := hid (show hdRun s (k + 1) = out ++ [⟨k, k + 1, x⟩] by rw [unhid HSC]; simp [hdStep, unhid HLAST, unhid HX0])
          go_wp2_with fail
          go_quiet (fail)
          go_wp2_with (at_builtin; refine wpList_append_own _ rfl _ _ 31 rfl w.heap.size 81 i0 (.agg #[.int .i64 0, .int .i64 0, .int .i64 0]) 3 24 Tryz.underlying31 hi hz0 hz1 hz2 rfl (by decide) _ _ _ rfl ((own_drewN (unhid HOWN) _).alloc _) ⟨wr.heap.size, 0, none⟩ 1 1 [.int .i64 k, .int .i64 (k + 1), .int .i64 x] rfl rfl ?c1 ?c2 ?c3 ?c4 ?c5 ?_)
          case c1 => exact World.news_of_block (cs := #[.int .i64 k, .int .i64 (k + 1), .int .i64 x]) (t := 81) (fr := (0, 0)) (heap_alloc_new (wr.drewN nq) _)
          case c2 => intro u hu; simp at hu; rcases hu with rfl | rfl | rfl <;> rfl
          case c3 => unfold maxLen; omega
          case c4 => omega
          case c5 => have := hbel.size; simp; omega
          intro v' w3 hown3 hg3 _
          have hb3 : Below w.heap.size w w3 := by
            refine Below.grown ((below_drewN' hbel _).alloc hbel.size _) hg3 (by have := hbel.size; simp; omega) (fun i hi => ?_)
            rcases Nat.lt_or_ge i w.heap.size with h | h
            · exact absurd hi (own_ne (unhid HOWN) (Or.inl h))
            · exact h
          have HO3 := hid hown3
          clear hown3 hg3
          go_wp2_with fail
          go_roundw
          case rel =>
            refine ⟨k + 1, by omega, by go_num, ?_, hb3⟩
            have h5 := unhid HO3
            rw [unhid HNX, show (out ++ [(⟨k, k + 1, x⟩ : Hd)]).length = 0 + 1 from by simp [h0], show hds (out ++ [(⟨k, k + 1, x⟩ : Hd)]) = hds out ++ [.int .i64 k, .int .i64 (k + 1), .int .i64 x] from by simp [hds, hdC]]
            exact h5
          case measure => simp [intOf]; omega
        · obtain ⟨g, cg, rfl, hbg, hgs, hcells⟩ := own_some hown h0
          obtain ⟨q, hq⟩ : ∃ q, out.length = q + 1 := ⟨out.length - 1, by omega⟩
          have HQ := hid hq
          clear hq
          have c1 : wr.cell? ⟨g, q * 3 + 1, none⟩ = some (.int .i64 (out[q]'(by have := unhid HQ; omega)).to) := hcells _ _ (flat_at (f := hdC) (K := 3) (fun _ => rfl) out q 1 (by have := unhid HQ; omega) (by omega))
          have c2 : wr.cell? ⟨g, q * 3 + 2, none⟩ = some (.int .i64 (out[q]'(by have := unhid HQ; omega)).val) := hcells _ _ (flat_at (f := hdC) (K := 3) (fun _ => rfl) out q 2 (by have := unhid HQ; omega) (by omega))
          have f1 := hown.frozenAt (q * 3 + 1)
          have HLAST := hid (show out.getLast? = some (out[q]'(by have := unhid HQ; omega)) by rw [List.getLast?_eq_getElem?, List.getElem?_eq_getElem (by have := unhid HQ; omega)]; congr 1; simp [unhid HQ])
          have hq0 : (0 : Int) < (out.length : Int) := by omega
          have := decide_eq_true (show (0 : Int) < (out.length : Int) by omega)
          have hq1 : IntKind.i64.wrap ((out.length : Int) - 1) = (out.length : Int) - 1 := IntWalk.i64_in _ (by omega)
          have hq2 : (0 : Int) ≤ (out.length : Int) - 1 := by omega
          have hq3 : ((out.length : Int) - 1).toNat = q := by have := unhid HQ; omega
          have HOWN := hid hown
          clear hown hcells
          generalize hy : out[q] = y at *
          have HY := hid hy
          clear hy
          rcases (show (¬ y.to = k) ∨ (y.to = k ∧ ¬ y.val = x) ∨ (y.to = k ∧ y.val = x) by omega) with e | ⟨e, e2⟩ | ⟨e, e2⟩
          · have e' : (y.to == (k : Int)) = false := by simpa using e
            have HE := hid e
            clear e
            have HNX := hid (show hdRun s (k + 1) = out ++ [⟨k, k + 1, x⟩] by rw [unhid HSC]; simp [hdStep, unhid HLAST, unhid HE, unhid HX0])
            go_wp2_with fail
            go_quiet (fail)
            go_wp2_with (at_builtin; refine wpList_append_own _ rfl _ _ 31 rfl w.heap.size 81 i0 (.agg #[.int .i64 0, .int .i64 0, .int .i64 0]) 3 24 Tryz.underlying31 hi hz0 hz1 hz2 rfl (by decide) _ _ _ rfl ((own_drewN (unhid HOWN) _).alloc _) ⟨wr.heap.size, 0, none⟩ 1 1 [.int .i64 k, .int .i64 (k + 1), .int .i64 x] rfl rfl ?c1 ?c2 ?c3 ?c4 ?c5 ?_)
            case c1 => exact World.news_of_block (cs := #[.int .i64 k, .int .i64 (k + 1), .int .i64 x]) (t := 81) (fr := (0, 0)) (heap_alloc_new (wr.drewN nq) _)
            case c2 => intro u hu; simp at hu; rcases hu with rfl | rfl | rfl <;> rfl
            case c3 => unfold maxLen; omega
            case c4 => omega
            case c5 => have := hbel.size; simp; omega
            intro v' w3 hown3 hg3 _
            have hb3 : Below w.heap.size w w3 := by
              refine Below.grown ((below_drewN' hbel _).alloc hbel.size _) hg3 (by have := hbel.size; simp; omega) (fun i hi => ?_)
              rcases Nat.lt_or_ge i w.heap.size with h | h
              · exact absurd hi (own_ne (unhid HOWN) (Or.inl h))
              · exact h
            have HO3 := hid hown3
            clear hown3 hg3
            go_wp2_with fail
            go_roundw
            case rel =>
              refine ⟨k + 1, by omega, by go_num, ?_, hb3⟩
              have h5 := unhid HO3
              rw [unhid HNX, show (out ++ [(⟨k, k + 1, x⟩ : Hd)]).length = out.length + 1 from by simp, show hds (out ++ [(⟨k, k + 1, x⟩ : Hd)]) = hds out ++ [.int .i64 k, .int .i64 (k + 1), .int .i64 x] from by simp [hds, hdC]]
              exact h5
            case measure => simp [intOf]; omega
          · have e' : (y.to == (k : Int)) = true := by simpa using e
            have e2' : (y.val == x) = false := by simpa using e2
            have HE := hid e2
            clear e e2
            have HNX := hid (show hdRun s (k + 1) = out ++ [⟨k, k + 1, x⟩] by rw [unhid HSC]; simp [hdStep, unhid HLAST, unhid HE, unhid HX0])
            go_wp2_with fail
            go_quiet (fail)
            go_wp2_with (at_builtin; refine wpList_append_own _ rfl _ _ 31 rfl w.heap.size 81 i0 (.agg #[.int .i64 0, .int .i64 0, .int .i64 0]) 3 24 Tryz.underlying31 hi hz0 hz1 hz2 rfl (by decide) _ _ _ rfl ((own_drewN (unhid HOWN) _).alloc _) ⟨wr.heap.size, 0, none⟩ 1 1 [.int .i64 k, .int .i64 (k + 1), .int .i64 x] rfl rfl ?c1 ?c2 ?c3 ?c4 ?c5 ?_)
            case c1 => exact World.news_of_block (cs := #[.int .i64 k, .int .i64 (k + 1), .int .i64 x]) (t := 81) (fr := (0, 0)) (heap_alloc_new (wr.drewN nq) _)
            case c2 => intro u hu; simp at hu; rcases hu with rfl | rfl | rfl <;> rfl
            case c3 => unfold maxLen; omega
            case c4 => omega
            case c5 => have := hbel.size; simp; omega
            intro v' w3 hown3 hg3 _
            have hb3 : Below w.heap.size w w3 := by
              refine Below.grown ((below_drewN' hbel _).alloc hbel.size _) hg3 (by have := hbel.size; simp; omega) (fun i hi => ?_)
              rcases Nat.lt_or_ge i w.heap.size with h | h
              · exact absurd hi (own_ne (unhid HOWN) (Or.inl h))
              · exact h
            have HO3 := hid hown3
            clear hown3 hg3
            go_wp2_with fail
            go_roundw
            case rel =>
              refine ⟨k + 1, by omega, by go_num, ?_, hb3⟩
              have h5 := unhid HO3
              rw [unhid HNX, show (out ++ [(⟨k, k + 1, x⟩ : Hd)]).length = out.length + 1 from by simp, show hds (out ++ [(⟨k, k + 1, x⟩ : Hd)]) = hds out ++ [.int .i64 k, .int .i64 (k + 1), .int .i64 x] from by simp [hds, hdC]]
              exact h5
            case measure => simp [intOf]; omega
          · have e' : (y.to == (k : Int)) = true := by simpa using e
            have e2' : (y.val == x) = true := by simpa using e2
            have HNX := hid (show hdRun s (k + 1) = out.set q ⟨y.fr, y.to + 1, y.val⟩ by rw [unhid HSC]; simp [hdStep, unhid HLAST, e, e2, unhid HQ])
            have hk2 : -9223372036854775808 ≤ y.to + 1 ∧ y.to + 1 ≤ 9223372036854775807 := by omega
            clear e e2
            go_wp2_with fail
            go_quiet (fail)
            go_wp2_with fail
            go_roundw
            case rel =>
              have hs := (own_drewN (unhid HOWN) nq).stored (q * 3 + 1) (.int .i64 (y.to + 1))
              refine ⟨k + 1, by omega, by go_num, ?_, ?_⟩
              · rw [unhid HNX, List.length_set, ← unhid HY, ← hds_set out q _ (by have := unhid HQ; omega), unhid HY]
                exact hs.1
              · exact Below.setCell (below_drewN' hbel nq) hbg _
            case measure => simp [intOf]; omega
    · have hks : k = s.length := by omega
      subst hks
      obtain ⟨A3, c3, rfl, hrd3, -⟩ := own_slice hown
      have HO := hid hown
      clear hown
      go_wp2_with fail
      go_ret
      exact ⟨A3, c3, rfl, hrd3, hbel⟩
end

section
set_option maxHeartbeats 1000000 in
theorem rheld_calls (n : Nat) (A : Option Addr) (js : List Int) (c : Nat) (A2 : Option Addr) (l : List Sg) (c2 : Nat) (hour dir topic : Int) (w : World) (hl : LnOk w A js) (hs : SgsOk w A2 l) (hv : lineB n js = true) (hv2 : sgsB n js l = true) :
    Calls Tryz.prog 17 #[.agg #[.int .i64 n, .slice A js.length c], .slice A2 l.length c2, .int .i64 hour, .int .i64 dir, .int .i64 topic] w fun e w' =>
      ∃ (A' : Option Addr) (c' : Nat) (R : List Sg), InsRow n hour dir l R ∧ e = .returned (.slice A' (heldP (holdS n js (mtl n dir R) dir topic)).length c') ∧ Rd w' A' (hds (heldP (holdS n js (mtl n dir R) dir topic))) ∧ Below w.heap.size w w' := by
  have HL := hid hl
  have HS := hid hs
  have HV := hid hv
  have HV2 := hid hv2
  have hn := (lineB_len hv).2
  clear hl hs hv hv2
  go_enter Tryz.func17, Tryz.ntmps17
  go_wp2_with fail
  refine (rall_calls n A js c A2 l c2 hour dir topic _ ((unhid HL).below (below_alloc _ _)) ((unhid HS).below (below_alloc _ _)) (unhid HV) (unhid HV2)).mono ?_
  rintro e w1 ⟨A3, c3, R, hrow, rfl, hrd, hb1, -⟩
  have hbw1 : Below w.heap.size w w1 := (below_alloc w _).trans (hb1.mono (by simp))
  have hK := stretches_calls A3 (holdS n js (mtl n dir R) dir topic) c3 w1 hrd (by simp; omega)
  rw [holdS_len] at hK
  have HK := hid hK
  have HROW := hid hrow
  clear hb1 hK hrow hrd
  go_wp2_with fail
  refine (unhid HK).mono ?_
  rintro e w2 ⟨A4, c4, rfl, hrd4, hb2⟩
  go_wp2_with fail
  go_ret
  exact ⟨A4, c4, R, unhid HROW, rfl, hrd4, hbw1.trans (hb2.mono hbw1.size)⟩

set_option maxHeartbeats 1000000 in
theorem rwanted_calls (n : Nat) (A : Option Addr) (q c : Nat) (A2 : Option Addr) (ed : List Ed) (c2 : Nat) (hour dir topic : Int) (w : World) (hn : n ≤ 100000) (hr : Rd w A2 (edicts ed)) (hl : ed.length ≤ 100000000) :
    Calls Tryz.prog 18 #[.agg #[.int .i64 n, .slice A q c], .slice A2 ed.length c2, .int .i64 hour, .int .i64 dir, .int .i64 topic] w fun e w' =>
      ∃ (A' : Option Addr) (c' : Nat), e = .returned (.slice A' (heldP (mustS n ed hour dir topic)).length c') ∧ Rd w' A' (hds (heldP (mustS n ed hour dir topic))) ∧ Below w.heap.size w w' := by
  have HR := hid hr
  clear hr
  go_enter Tryz.func18, Tryz.ntmps18
  go_wp2_with fail
  refine (rmusts_calls n A q c A2 ed c2 hour dir topic _ hn ((unhid HR).below (below_alloc _ _)) hl).mono ?_
  rintro e w1 ⟨A3, c3, rfl, hrd, hb1, -⟩
  have hbw1 : Below w.heap.size w w1 := (below_alloc w _).trans (hb1.mono (by simp))
  have hK := stretches_calls A3 (mustS n ed hour dir topic) c3 w1 hrd (by simp; omega)
  rw [mustS_len] at hK
  have HK := hid hK
  clear hb1 hK hrd
  go_wp2_with fail
  refine (unhid HK).mono ?_
  rintro e w2 ⟨A4, c4, rfl, hrd4, hb2⟩
  go_wp2_with fail
  go_ret
  exact ⟨A4, c4, rfl, hrd4, hbw1.trans (hb2.mono hbw1.size)⟩

def WantedPost (len : Int) (js : List Int) (ed : List Ed) (hour dir topic : Int) (w : World) (e : Ending) (w' : World) : Prop :=
  ∃ (A' : Option Addr) (c' : Nat) (H : List Hd), e = .returned (.tuple #[.slice A' H.length c', .int .i64 (orderedE len js ed hour dir topic)]) ∧
    (orderedE len js ed hour dir topic = 0 → H = heldP (mustS len.toNat ed hour dir topic)) ∧ (orderedE len js ed hour dir topic ≠ 0 → H = []) ∧ Rd w' A' (hds H) ∧ H.length ≤ 100000 ∧ Below w.heap.size w w'

set_option maxHeartbeats 4000000 in
set_option maxRecDepth 100000 in
theorem wanted_calls (len : Int) (A : Option Addr) (js : List Int) (c : Nat) (A2 : Option Addr) (ed : List Ed) (c2 : Nat) (hour dir topic : Int) (w : World) (hl : LnOk w A js) (hs : EdsOk w A2 ed) :
    Calls Tryz.prog 12 #[.agg #[.int .i64 len, .slice A js.length c], .slice A2 ed.length c2, .int .i64 hour, .int .i64 dir, .int .i64 topic] w (WantedPost len js ed hour dir topic w) := by
  have HL := hid hl
  have HS := hid hs
  clear hl hs
  go_enter Tryz.func12, Tryz.ntmps12
  go_wp2_with fail
  refine (ordered_calls len A js c A2 ed c2 hour dir topic _ ((unhid HL).below (below_alloc _ _)) ((unhid HS).below (below_alloc _ _))).mono ?_
  rintro e w1 ⟨rfl, hb1⟩
  have d0 := hb1.cell (p := ⟨w.heap.size, 0, none⟩) (by simp)
  have d1 := hb1.cell (p := ⟨w.heap.size, 1, none⟩) (by simp)
  simp [go_sem] at d0 d1
  have hbw1 : Below w.heap.size w w1 := (below_alloc w _).trans (hb1.mono (by simp))
  clear hb1
  generalize he : orderedE len js ed hour dir topic = er
  by_cases h0 : er = 0
  · subst h0
    have hv := orderedE_zero he
    have HE := hid he
    clear he
    obtain ⟨n, rfl⟩ := Int.eq_ofNat_of_zero_le (show 0 ≤ len by have := (lineB_len hv.1).1; omega)
    have hn := (lineB_len hv.1).2
    have HB := hid (edsB_bounds hv.2.1)
    have hl50 := edsB_len hv.2.1
    have HN := hid (edsB_nodup hv.2.1)
    clear hv
    go_wp2_with fail
    refine (mustStrip_calls n A js.length c A2 ed c2 hour dir topic _ hn ((unhid HS).below hbw1).rd (by omega) (unhid HB) (unhid HN)).mono ?_
    rintro e w2 ⟨A', rfl, hrd, hb2, -⟩
    have hbw2 : Below w.heap.size w w2 := hbw1.trans (hb2.mono hbw1.size)
    have hK := held_calls A' (mustS n ed hour dir topic) n w2 hrd (by simp; omega)
    rw [mustS_len] at hK
    have HK := hid hK
    clear hK
    go_wp2_with fail
    refine (unhid HK).mono ?_
    rintro e w3 ⟨A3, c3, rfl, hrd3, hb3⟩
    go_wp2_with fail
    go_ret2
    exact ⟨A3, c3, heldP (mustS n ed hour dir topic), by rw [unhid HE]; rfl, fun _ => rfl, fun h => absurd (unhid HE) h, hrd3, by have := heldP_len (mustS n ed hour dir topic); simp at this; omega, hbw2.trans (hb3.mono hbw2.size)⟩
  · have h0' : (er != 0) = true := by simpa using h0
    have HE := hid he
    have H0 := hid h0
    clear he h0
    go_wp2_with fail
    go_ret2
    exact ⟨none, 0, [], by rw [unhid HE]; rfl, fun h => absurd ((unhid HE).symm.trans h) (unhid H0), fun _ => rfl, Rd.nil _ _, by simp, hbw1⟩

theorem hds_cells {w : World} {b off : Nat} {l : List Hd} (h : ∀ j u, (hds l)[j]? = some u → w.cell? ⟨b, off + j, none⟩ = some u) {k : Nat} (hk : k < l.length) :
    w.cell? ⟨b, off + k * 3, none⟩ = some (.int .i64 l[k].fr) ∧ w.cell? ⟨b, off + k * 3 + 1, none⟩ = some (.int .i64 l[k].to) ∧ w.cell? ⟨b, off + k * 3 + 2, none⟩ = some (.int .i64 l[k].val) :=
  ⟨h _ _ (flat_at (f := hdC) (K := 3) (fun _ => rfl) l k 0 hk (by omega)), h _ _ (flat_at (f := hdC) (K := 3) (fun _ => rfl) l k 1 hk (by omega)), h _ _ (flat_at (f := hdC) (K := 3) (fun _ => rfl) l k 2 hk (by omega))⟩
theorem hds_ne {l : List Hd} {k : Nat} (h : k < l.length) : hds l ≠ [] := flat_ne (f := hdC) (K := 3) (fun _ => rfl) (by omega) h

set_option maxHeartbeats 1000000 in
theorem sameHeld_calls (A : Option Addr) (l : List Hd) (c : Nat) (A2 : Option Addr) (c2 : Nat) (w : World) (h : Rd w A (hds l)) (h2 : Rd w A2 (hds l)) (hn : l.length ≤ 100000000000) :
    Calls Tryz.prog 19 #[.slice A l.length c, .slice A2 l.length c2] w fun e w' => e = .returned (.bool true) ∧ Below w.heap.size w w' := by
  have H1 := hid h
  have H2 := hid h2
  clear h h2
  have hlen' : ((l.length : Int) != (l.length : Int)) = false := by simp
  go_enter Tryz.func19, Tryz.ntmps19
  go_wp2_with fail
  go_loopw [5] (fun i wr => ∃ k : Nat, k ≤ l.length ∧ i = .int .i64 k ∧ ∃ n, wr = w.drewN n) (fun i _ => l.length - (intOf i).toNat)
  case atStart => exact ⟨0, Nat.zero_le _, rfl, 0, rfl⟩
  case round =>
    obtain ⟨k, hk, rfl, n, rfl⟩ := hrel
    by_cases hlt : k < l.length
    · obtain ⟨b, off, rfl, hb, hc⟩ := (unhid H1) (hds_ne hlt)
      obtain ⟨b2, off2, rfl, hb2, hc2⟩ := (unhid H2) (hds_ne hlt)
      obtain ⟨m0, m1, m2⟩ := hds_cells hc hlt
      obtain ⟨n0, n1, n2⟩ := hds_cells hc2 hlt
      clear hc hc2
      generalize hx : l[k] = x at *
      clear hx
      have b0 : (x.fr == x.fr) = true := by simp
      have b1 : (x.to == x.to) = true := by simp
      have b2 : (x.val == x.val) = true := by simp
      go_wp2_with fail
      go_quiet (fail)
      go_wp2_with fail
      go_roundw
      case rel => exact ⟨k + 1, by omega, by go_num, _, rfl⟩
      case measure => simp [intOf]; omega
    · go_wp2_with fail
      go_ret
      exact ⟨rfl, below_drewN' (Below.refl _ _) _⟩
end

end Go.Proofs.YtmpngoejnmlmbaaGreat
