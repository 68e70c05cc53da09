/-
  settle of the reference: the walk.
-/
import Derived.Test.YtegghimjmbgghaaGreatBkSp
import Derived.Deep.OwnRows
import Derived.Deep.DeepCutAuto
set_option linter.unusedSimpArgs false
set_option linter.unusedVariables false
namespace Go.Proofs.YtegghimjmbgghaaGreat
open Go.RowKit Go.Shelf

theorem info_bool : (Tryz.prog.info? 4).map (fun i => (i.zero, i.size, i.bytes)) = some (some (.bool false), 1, 1) := by kernel_rfl
def setW (w : World) (B n : Nat) : World := (((w.setCell ⟨B, 1, none⟩ (.slice (some ⟨w.heap.size, 0, none⟩) n n)).alloc (.cells (madeCells #[.bool false] n) 4)).alloc (.cells (a8 fun _ => 0) 80)).alloc (.cells (a8 fun _ => 0) 80)
theorem setI_start {w : World} {B : Nat} {L : List Rc} {A A2 : Option Addr} {c n2 c2 : Nat} (h : RB0 w B L A c A2 n2 c2) :
    SetI w B L A c w.heap.size (fun _ => 0) (fun _ => 0) (List.replicate L.length false) (setW w B L.length) := by
  unfold setW
  have hg := setCell_grown w h.b (i := 1) (.slice (some ⟨w.heap.size, 0, none⟩) L.length L.length)
  have hs := heap_setCell_same _ B 1 _ _ (.slice (some ⟨w.heap.size, 0, none⟩) L.length L.length) h.b
  have hr := rd_far h.b (two_slices _ _ _ _ _ _) h.l hg
  have hs1 : (w.setCell ⟨B, 1, none⟩ (.slice (some ⟨w.heap.size, 0, none⟩) L.length L.length)).heap.size = w.heap.size := by simp [World.setCell]
  generalize w.setCell ⟨B, 1, none⟩ (.slice (some ⟨w.heap.size, 0, none⟩) L.length L.length) = w1 at *
  have hb2 := below_alloc w1 (.cells (madeCells #[.bool false] L.length) 4)
  have hn2 := heap_alloc_new w1 (.cells (madeCells #[.bool false] L.length) 4)
  have hs2 : (w1.alloc (.cells (madeCells #[.bool false] L.length) 4)).heap.size = w.heap.size + 1 := by simp [hs1]
  generalize w1.alloc (.cells (madeCells #[.bool false] L.length) 4) = w2 at *
  have hb3 := below_alloc w2 (.cells (a8 fun _ => 0) 80)
  have hn3 := heap_alloc_new w2 (.cells (a8 fun _ => 0) 80)
  have hs3 : (w2.alloc (.cells (a8 fun _ => 0) 80)).heap.size = w.heap.size + 2 := by simp [hs2]
  generalize w2.alloc (.cells (a8 fun _ => 0) 80) = w3 at *
  have hb4 := below_alloc w3 (.cells (a8 fun _ => 0) 80)
  have hn4 := heap_alloc_new w3 (.cells (a8 fun _ => 0) 80)
  generalize w3.alloc (.cells (a8 fun _ => 0) 80) = w4 at *
  have hb34 := hb3.trans (hb4.mono hb3.size)
  have hbb := hb2.trans (hb34.mono hb2.size)
  rw [hs1] at hn2
  rw [hs2] at hn3
  rw [hs3] at hn4
  have hl := h.lt
  refine ⟨(hbb.block B (by omega)).trans (by simpa using hs), rfl, hl, fun hne => ?_, by simp, (hb34.block _ (by omega)).trans (by rw [hn2]; congr 2; apply Array.toList_inj.1; rw [toList_madeCells_one]; simp [boolsV]), (hb4.block _ (by omega)).trans hn3, hn4, gr_below hg hbb⟩
  obtain ⟨b, off, e1, hlt, -⟩ := h.l hne
  obtain ⟨b', off', e2, hlt2, hc⟩ := (hr.below hbb) hne
  rw [e1] at e2
  injection e2 with e2
  injection e2 with e3 e4
  subst e3 e4
  exact ⟨b, off, e1, hlt, hlt2, hc⟩
def SettlePost (w : World) (B : Nat) (L : List Rc) (A : Option Addr) (c : Nat) (e : Ending) (w' : World) : Prop :=
  e = .returned (.tuple #[]) ∧ w.grownBy w' (some B) ∧ ∃ A2 c2, RBk w' B L (L.map (cntB L)) A c A2 c2

set_option maxHeartbeats 8000000 in
set_option maxRecDepth 100000 in
theorem settle_calls {B : Nat} {L : List Rc} {A A2 : Option Addr} {c n2 c2 : Nat} (w : World) (h : RB0 w B L A c A2 n2 c2) (hA : Asc L) (hv : ∀ r ∈ L, rcB r = true) (hL : L.length ≤ 1000000) :
    Calls Tryz.prog 91 #[.pointer (some ⟨B, 0, none⟩)] w fun e w' => SettlePost w B L A c e w' := by
  have HI := hid (setI_start h)
  have HA := hid hA
  have HV := hid hv
  have HLL := hid hL
  have k0 := h.cell0
  have hB := h.lt
  have k1 : w.cell? ⟨B, 1, none⟩ = some (.slice A2 n2 c2) := cell_of_row _ B 1 _ _ _ h.b
  have fz0 : w.frozen? ⟨B, 1, none⟩ = false := frozen_of_row _ _ _ _ _ h.b
  have hmk : ∀ W : World, (Instr.makeSlice 34 (.int .i64 (L.length : Int)) (.int .i64 (L.length : Int))).run Tryz.prog W = .ok (.slice (some ⟨W.heap.size, 0, none⟩) L.length L.length) (W.alloc (.cells (madeCells #[.bool false] L.length) 4)) := fun W =>
    run_make_row' 34 4 (.bool false) 1 Tryz.underlying34 info_bool rfl .i64 .i64 L.length (by omega) (by omega) W
  clear h hA hv hL
  go_enter Tryz.func91, Tryz.ntmps91
  go_upto_region 3 with (fail)
  change Code.wp _ _ _ _ (setW w B L.length)
  rw [show w.heap.size + 1 + 1 = w.heap.size + 2 from rfl]
  obtain ⟨G, hG⟩ : ∃ G, G = w.heap.size := ⟨_, rfl⟩
  rw [← hG] at HI ⊢
  clear hmk k0 k1 fz0 hB hG
  generalize setW w B L.length = W at *
  go_loopw [4] (fun iv wr => ∃ k : Nat, k ≤ 8 ∧ iv = .int .i64 k ∧ SetI w B L A c G (fun t => if t < k then frk0 L t else 0) (fun _ => 0) (List.replicate L.length false) wr) (fun iv _ => 8 - (intOf iv).toNat)
  case atStart => exact ⟨0, by omega, rfl, (unhid HI).congrF (fun t _ => by simp)⟩
  case round =>
    obtain ⟨k, hk, rfl, hs⟩ := hrel
    have HS := hid hs
    clear hs
    by_cases hlt : k < 8
    · have hki : (k : Int) < 8 := by omega
      go_wp2_with fail
      refine (fork_calls k ((k : Int) + 1) rfl wr (unhid HS).rb (unhid HV) (unhid HA) (unhid HLL)).mono ?_
      rintro e w2 ⟨rfl, hb⟩
      have HS := hid ((unhid HS).below hb)
      have f0 := (unhid HS).cf hlt
      have fz := ((unhid HS).fz k).2.1
      have HN := hid (((unhid HS).setF hlt (frk0 L k)).congrF (fs' := fun t => if t < k + 1 then frk0 L t else 0) (fun t _ => by
        unfold updI
        by_cases e : t = k
        · subst e; simp
        · dsimp only
          by_cases e2 : t < k
          · rw [if_neg e, if_pos e2, if_pos (by omega)]
          · rw [if_neg e, if_neg e2, if_neg (by omega)]))
      clear hb
      go_wp2_with fail
      go_roundw
      case rel => exact ⟨k + 1, by omega, by go_num, unhid HN⟩
      case measure => simp [intOf]; omega
    · obtain rfl : k = 8 := by omega
      rw [show ((8 : Nat) : Int) = 8 from rfl]
      have HS := hid ((unhid HS).congrF (fs' := frk0 L) (fun t ht => by rw [if_pos ht]))
      go_upto_region 7 with (fail)
      go_loopw [5] (fun av wz => ∃ (b : Bool) (C : List Bool) (us : Nat → Int), av = .bool b ∧ SetI w B L A c G (frk0 L) us C wz ∧ Half L C ∧ (b = false → C = L.map (cntB L))) (fun av wz => bOne av * (falW wz G + 1))
      case atStart => exact ⟨true, _, _, rfl, unhid HS, half_zero L, fun e => by cases e⟩
      case round =>
        clear HS HI hk hlt
        obtain ⟨b, C, us, rfl, hs, hh, he⟩ := hrel
        have HS := hid hs
        have HH := hid hh
        have HE := hid he
        have HM0 := hid hs.fal
        clear hs hh he
        cases b with
        | false =>
          have HE := hid ((unhid HE) (by first | rfl | trivial))
          go_wp2_with fail
          go_end0
          have hrb := (unhid HS).rb
          rw [unhid HE] at hrb
          exact ⟨rfl, (unhid HS).g, _, _, hrb⟩
          all_goals trivial
        | true =>
          clear HE
          go_upto_region 10 with (fail)
          go_loopw [6] (fun iv wz => ∃ (k : Nat) (vs : Nat → Int), k ≤ 8 ∧ iv = .int .i64 k ∧ SetI w B L A c G (frk0 L) vs C wz ∧ (∀ t, t < k → vs t = pfxU L C t)) (fun iv _ => 8 - (intOf iv).toNat)
          case atStart => exact ⟨0, us, by omega, rfl, unhid HS, fun t h => by omega⟩
          case round =>
            obtain ⟨k, vs, hk, rfl, hs, hvs⟩ := hrel
            have HS := hid hs
            have HVS := hid hvs
            clear hs hvs
            by_cases hlt : k < 8
            · have hki : (k : Int) < 8 := by omega
              go_wp2_with fail
              refine (prefix_calls k ((k : Int) + 1) rfl _ (unhid HS).rb (unhid HS).len (unhid HV) (unhid HLL)).mono ?_
              rintro e w2 ⟨rfl, rfl⟩
              have f0 := (unhid HS).ch hlt
              have fz := ((unhid HS).fz k).2.2
              have HN := hid ((unhid HS).setH hlt (pfx L C k L.length))
              have HV2 := hid (show ∀ t, t < k + 1 → updI vs k (pfx L C k L.length) t = pfxU L C t from fun t ht => by
                unfold updI
                by_cases e : t = k
                · subst e; rw [if_pos rfl]; rfl
                · rw [if_neg e]; exact unhid HVS t (by omega))
              go_wp2_with fail
              go_roundw
              case rel => exact ⟨k + 1, _, by omega, by go_num, unhid HN, unhid HV2⟩
              case measure => simp [intOf]; omega
            · obtain rfl : k = 8 := by omega
              rw [show ((8 : Nat) : Int) = 8 from rfl]
              have HS := hid ((unhid HS).congrH (us' := pfxU L C) (fun t ht => unhid HVS t ht))
              clear HVS
              go_upto_region 14 with (fail)
              go_loopw [5, 7] (fun av iv wz => ∃ (i : Nat) (b : Bool) (C' : List Bool), i ≤ L.length ∧ iv = .int .i64 i ∧ av = .bool b ∧ SetI w B L A c G (frk0 L) (pfxU L C) C' wz ∧ PasR L C C' b i) (fun _ iv _ => L.length - (intOf iv).toNat)
              case atStart => exact ⟨0, false, C, Nat.zero_le _, rfl, rfl, unhid HS, PasR.start (unhid HH)⟩
              case round =>
                clear HS hk hlt
                obtain ⟨i, b, C', hi, rfl, rfl, hs, hp⟩ := hrel
                have HS := hid hs
                have HP := hid hp
                clear hs hp
                by_cases hlt : i < L.length
                · have hki : (i : Int) < (L.length : Int) := by omega
                  obtain ⟨b0, off, hAe, -, hbl, hc⟩ := (unhid HS).l (recs_ne hlt)
                  subst hAe
                  obtain ⟨x, hx⟩ : ∃ x, L[i]'hlt = x := ⟨_, rfl⟩
                  have HX := hid hx
                  have HXV := hid (unhid HV x (hx ▸ List.getElem_mem hlt))
                  obtain ⟨a0, a1, a2, a3, a4, a5, a6, a7, a8', a9, a10, a11, a12, a13⟩ := rec_at14 hc hlt hx
                  have c0 := (unhid HS).cell0
                  clear hc hx
                  go_upto_region 17 with (fail)
                  change Code.wp _ _ _ _ (wr.alloc (.cells (rcA x) 82))
                  have hb3 := below_alloc wr (.cells (rcA x) 82)
                  have HR := hid (RcAt.new wr x)
                  have HS := hid ((unhid HS).below hb3)
                  obtain ⟨X, hX⟩ : ∃ X, X = wr.heap.size := ⟨_, rfl⟩
                  rw [← hX] at HR ⊢
                  clear hb3 hX a0 a1 a2 a3 a4 a5 a6 a7 a8' a9 a10 a11 a12 a13 c0 hbl
                  generalize wr.alloc (.cells (rcA x) 82) = W3 at *
                  obtain ⟨T0, hT⟩ : ∃ T0 : Nat, (T0 : Int) = x.tab - 1 := ⟨x.tb, (rc_ok (unhid HXV)).tb.2⟩
                  have hT8 : T0 < 8 := by have := (rc_ok (unhid HXV)).tab; omega
                  have HT := hid (show x.tb = T0 from by have := (rc_ok (unhid HXV)).tb.2; omega)
                  have hTI : (T0 : Int) < 8 := by omega
                  have w0 : IntKind.i64.wrap (x.tab - 1) = (T0 : Int) := by rw [hT]; exact IntWalk.i64_in _ (by omega)
                  have HTE := hid hT
                  clear hT
                  obtain ⟨p, hp⟩ : ∃ p, frk0 L T0 = p := ⟨_, rfl⟩
                  have x0 := (unhid HR).cells.1
                  have x1 := (unhid HR).cells.2.1
                  have f0 := (unhid HS).cf hT8
                  have c1 := (unhid HS).cell1
                  obtain ⟨ci, hci⟩ : ∃ ci, C'[i]? = some ci := ⟨C'[i]'(by have := (unhid HS).len; omega), List.getElem?_eq_getElem _⟩
                  have cc := (unhid HS).cc hci
                  rw [hp] at f0
                  have HCI := hid hci
                  have HPE := hid hp
                  clear hci hp
                  obtain ⟨ok0, hok0⟩ : ∃ ok0, ok0 = (!ci && decide (x.num < frk L x.tb)) := ⟨_, rfl⟩
                  have HO := hid hok0
                  clear hok0
                  have HOQ := hid (show (p = 0 ∨ x.num < p) ↔ x.num < frk L x.tb from by
                    have := ok0_eq (unhid HV) (t := T0) (rc_ok (unhid HXV)).num.2
                    rw [unhid HPE] at this
                    rw [unhid HT]; exact this)
                  go_upto_region 18 with (fail)
                  go_cut [10] (fun s10 wz => s10 = .bool ok0 ∧ wz = W3)
                  case first =>
                    cases ci with
                    | true =>
                      have HO := hid (show ok0 = false from by rw [unhid HO]; rfl)
                      go_wp2_with fail
                      go_meet
                      case rel => exact ⟨by rw [unhid HO], rfl⟩
                    | false =>
                      by_cases e0 : p = 0
                      · have q0 : (p == 0) = true := by simp [e0]
                        have HO := hid (show ok0 = true from by rw [unhid HO, decide_eq_true ((unhid HOQ).1 (.inl e0))]; rfl)
                        clear e0
                        go_wp2_with fail
                        go_meet
                        case rel => exact ⟨by rw [unhid HO], rfl⟩
                      · have q0 : (p == 0) = false := by simp [e0]
                        by_cases e1 : x.num < p
                        · have q1 := decide_eq_true e1
                          have HO := hid (show ok0 = true from by rw [unhid HO, decide_eq_true ((unhid HOQ).1 (.inr e1))]; rfl)
                          clear e0
                          go_wp2_with fail
                          go_meet
                          case rel => exact ⟨by rw [unhid HO], rfl⟩
                        · have q1 := decide_eq_false e1
                          have HO := hid (show ok0 = false from by rw [unhid HO, decide_eq_false (fun h => ((unhid HOQ).2 h).elim e0 e1)]; rfl)
                          clear e0
                          go_wp2_with fail
                          go_meet
                          case rel => exact ⟨by rw [unhid HO], rfl⟩
                  case rest =>
                    obtain ⟨rfl, rfl⟩ := hcut
                    clear w0 x0 x1 f0 c1 cc
                    go_upto_region 20 with (fail)
                    go_loopw [10, 11] (fun ov tv wz => ∃ (k : Nat) (b1 : Bool), k ≤ 8 ∧ tv = .int .i64 k ∧ ov = .bool b1 ∧ b1 = (ok0 && okK L (pfxU L C) x k) ∧ wc = wz) (fun _ tv _ => 8 - (intOf tv).toNat)
                    case atStart => exact ⟨0, ok0, by omega, rfl, rfl, by simp [okK], rfl⟩
                    case round =>
                      obtain ⟨k, b1, hk, rfl, rfl, hb1, hw⟩ := hrel
                      subst hw
                      have HB1 := hid hb1
                      clear hb1
                      by_cases hlt8 : k < 8
                      · have hk8 : (k : Int) < 8 := by omega
                        have sk := (unhid HR).seen hlt8
                        have fk := (unhid HS).cf hlt8
                        have uk := (unhid HS).ch hlt8
                        obtain ⟨q, hq⟩ : ∃ q, frk0 L k = q := ⟨_, rfl⟩
                        obtain ⟨U, hU⟩ : ∃ U, pfxU L C k = U := ⟨_, rfl⟩
                        obtain ⟨M, hM⟩ : ∃ M, min (x.sn k) (frk L k - 1) = M := ⟨_, rfl⟩
                        have hq0 := (frk0_pos (unhid HV) k).1
                        have hq1 := (frk0_pos (unhid HV) k).2
                        have HAE := hid (ask_eq (unhid HV) (t := k) ((rc_ok (unhid HXV)).seen k hlt8).2)
                        obtain ⟨sv, hsv⟩ : ∃ sv, x.sn k = sv := ⟨_, rfl⟩
                        rw [hq] at fk hq0 hq1 HAE
                        rw [hU] at uk
                        rw [hM, hsv] at HAE
                        rw [hsv] at sk
                        have HUE := hid hU
                        have HME := hid hM
                        clear hq hU hM hsv
                        by_cases hf : 0 < q
                        · have hmin : (if q - 1 < sv then q - 1 else sv) = M := by
                            have := (unhid HAE).1 hf
                            rw [← this]
                            split <;> omega
                          clear HAE
                          cases b1 with
                          | false =>
                            have HN := hid (show (ok0 && okK L (pfxU L C) x (k + 1)) = false from by rw [okK_succ, ← Bool.and_assoc, ← unhid HB1]; rfl)
                            go_wp2_with fail
                            go_roundw
                            case rel => exact ⟨k + 1, false, by omega, by go_num, rfl, (unhid HN).symm, by first | rfl | trivial⟩
                            case measure => simp [intOf]; omega
                          | true =>
                            by_cases hge : M ≤ U
                            · have HN := hid (show (ok0 && okK L (pfxU L C) x (k + 1)) = true from by rw [okK_succ, ← Bool.and_assoc, ← unhid HB1, unhid HUE, unhid HME, decide_eq_true hge]; rfl)
                              go_wp2_with fail
                              go_roundw
                              case rel => exact ⟨k + 1, true, by omega, by go_num, by first | rfl | (simp; done) | (simp; omega), (unhid HN).symm, by first | rfl | trivial⟩
                              case measure => simp [intOf]; omega
                            · have HN := hid (show (ok0 && okK L (pfxU L C) x (k + 1)) = false from by rw [okK_succ, ← Bool.and_assoc, ← unhid HB1, unhid HUE, unhid HME, decide_eq_false hge]; rfl)
                              go_wp2_with fail
                              go_roundw
                              case rel => exact ⟨k + 1, false, by omega, by go_num, by first | rfl | (simp; done) | (simp; omega), (unhid HN).symm, by first | rfl | trivial⟩
                              case measure => simp [intOf]; omega
                        · have hsM := ((unhid HAE).2 hf).symm
                          subst hsM
                          clear HAE
                          cases b1 with
                          | false =>
                            have HN := hid (show (ok0 && okK L (pfxU L C) x (k + 1)) = false from by rw [okK_succ, ← Bool.and_assoc, ← unhid HB1]; rfl)
                            go_wp2_with fail
                            go_roundw
                            case rel => exact ⟨k + 1, false, by omega, by go_num, rfl, (unhid HN).symm, by first | rfl | trivial⟩
                            case measure => simp [intOf]; omega
                          | true =>
                            by_cases hge : M ≤ U
                            · have HN := hid (show (ok0 && okK L (pfxU L C) x (k + 1)) = true from by rw [okK_succ, ← Bool.and_assoc, ← unhid HB1, unhid HUE, unhid HME, decide_eq_true hge]; rfl)
                              go_wp2_with fail
                              go_roundw
                              case rel => exact ⟨k + 1, true, by omega, by go_num, by first | rfl | (simp; done) | (simp; omega), (unhid HN).symm, by first | rfl | trivial⟩
                              case measure => simp [intOf]; omega
                            · have HN := hid (show (ok0 && okK L (pfxU L C) x (k + 1)) = false from by rw [okK_succ, ← Bool.and_assoc, ← unhid HB1, unhid HUE, unhid HME, decide_eq_false hge]; rfl)
                              go_wp2_with fail
                              go_roundw
                              case rel => exact ⟨k + 1, false, by omega, by go_num, by first | rfl | (simp; done) | (simp; omega), (unhid HN).symm, by first | rfl | trivial⟩
                              case measure => simp [intOf]; omega
                      · obtain rfl : k = 8 := by omega
                        rw [show ((8 : Nat) : Int) = 8 from rfl]
                        have HOK := hid (show (!ci && okR L (pfxU L C) x) = b1 from by rw [unhid HB1, unhid HO, okR_eq, ← Bool.and_assoc])
                        have HW1 := hid (show wrap64 ((i : Int) + 1) = ((i + 1 : Nat) : Int) from by have h1 := unhid HLL; unfold wrap64; omega)
                        cases b1 with
                        | true =>
                          have c1 := (unhid HS).cell1
                          have cc := (unhid HS).cc (unhid HCI)
                          have fz := ((unhid HS).fz i).1
                          have HN := hid ((unhid HS).setC i)
                          have HPN := hid (PasR.hit (unhid HV) (unhid HH) (unhid HP) hlt (unhid HCI) (unhid HX) (unhid HOK))
                          go_wp2_with fail
                          go_roundw
                          case rel => exact ⟨i + 1, true, _, by omega, by rw [unhid HW1], rfl, unhid HN, unhid HPN⟩
                          case measure => rw [unhid HW1]; simp [intOf]; omega
                        | false =>
                          have HPN := hid (PasR.skip (unhid HP) hlt (unhid HCI) (unhid HX) (unhid HOK))
                          go_wp2_with fail
                          go_roundw
                          case rel => exact ⟨i + 1, b, _, by omega, by rw [unhid HW1], rfl, unhid HS, unhid HPN⟩
                          case measure => rw [unhid HW1]; simp [intOf]; omega
                · obtain rfl : i = L.length := by omega
                  have c0 := (unhid HS).cell0
                  have HF := hid (unhid HS).fal
                  go_wp2_with fail
                  go_roundw
                  case rel => exact ⟨b, C', _, rfl, unhid HS, (unhid HP).half, fun e => by subst e; exact (unhid HP).end (unhid HV) (unhid HA)⟩
                  case measure =>
                    rw [unhid HF, unhid HM0]
                    cases b with
                    | false => simp [bOne]
                    | true =>
                      have := (unhid HP).yes rfl
                      simp [bOne]
                      omega

end Go.Proofs.YtegghimjmbgghaaGreat
