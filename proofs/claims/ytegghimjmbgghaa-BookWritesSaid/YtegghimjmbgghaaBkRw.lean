/-
  The reference's Write.
-/
import Derived.Test.YtegghimjmbgghaaBkRg
import Derived.Test.YtegghimjmbgghaaBkW
set_option linter.unusedSimpArgs false
set_option linter.unusedVariables false
namespace Go.Proofs.Ytegghimjmbgghaa
open Go.RowKit Go.Shelf

/-! ### Plain -/
open Classical in
theorem pfx_up {L : List Rc} (hv : ∀ r ∈ L, rcB r = true) (hA : Asc L) {t : Nat} (ht : t < 8) : pfx L (L.map (cntB L)) t L.length = upT L t := by
  have hh : Half L (L.map (cntB L)) := ⟨by simp, fun i h hc => by
    rw [List.getElem_map] at hc
    exact of_decide_eq_true hc⟩
  have hu := hh.up
  refine up_is hv hu (fun s hs hn => ?_) ht
  obtain ⟨r, hr, e1, e2, hst, ha⟩ := hn
  have hc : Cnt L r := hu.cnt_next hr (by rw [e1, e2]; exact hst) ha
  obtain ⟨j, hj, rfl⟩ := List.getElem_of_mem hr
  exact pfx_next hv hA hh.len hj e1 e2 (by rw [List.getElem_map]; exact decide_eq_true hc)
/-- A record with what it has seen as a function. -/
def rcU (tab num hour sign fld val : Int) (u : Nat → Int) : Rc := ⟨tab, num, hour, sign, fld, val, u 0, u 1, u 2, u 3, u 4, u 5, u 6, u 7⟩
theorem rcU_set (tab num hour sign fld val : Int) (u : Nat → Int) {t : Nat} (ht : t < 8) (n : Int) : (rcA (rcU tab num hour sign fld val u)).setIfInBounds (6 + t) (.int .i64 n) = rcA (rcU tab num hour sign fld val (updI u t n)) := by
  rcases lt8 ht with rfl | rfl | rfl | rfl | rfl | rfl | rfl | rfl <;> rfl
theorem rcU_num (tab num hour sign fld val : Int) (u : Nat → Int) (n : Int) : (rcA (rcU tab num hour sign fld val u)).setIfInBounds 1 (.int .i64 n) = rcA (rcU tab n hour sign fld val u) := rfl
theorem rcU_sn (tab num hour sign fld val : Int) (u : Nat → Int) {t : Nat} (ht : t < 8) : (rcU tab num hour sign fld val u).sn t = u t := by
  rcases lt8 ht with rfl | rfl | rfl | rfl | rfl | rfl | rfl | rfl <;> rfl
theorem rcU_congr (tab num hour sign fld val : Int) {u v : Nat → Int} (h : ∀ t, t < 8 → u t = v t) : rcU tab num hour sign fld val u = rcU tab num hour sign fld val v := by
  unfold rcU
  rw [h 0 (by omega), h 1 (by omega), h 2 (by omega), h 3 (by omega), h 4 (by omega), h 5 (by omega), h 6 (by omega), h 7 (by omega)]
theorem numB_take {L : List Rc} {t : Nat} {n : Int} (h : ∀ j (hj : j < L.length), ¬ (L[j].tb = t ∧ L[j].num = n)) : numB L t n = false := numB_false.2 fun q hq e1 e2 => by
  obtain ⟨j, hj, rfl⟩ := List.getElem_of_mem hq
  exact h j hj ⟨e1, e2⟩
/-- What Write of the reference leaves. -/
def wrL (L : List Rc) (R : Rc × Int × List Rc) : List Rc := if R.2.1 = 0 then addR R.1 L else L

/-- Where Write stands: its result's cell, its record. -/
structure RwI (w : World) (R0 : Nat) (x : Rc) (W : World) : Prop where
  e : R0 = w.heap.size
  res : W.heap[R0]? = some (.cells (rcA rc0) 33 (0, 0))
  r : RcAt W (R0 + 1) x
  b : Below w.heap.size w W
theorem RwI.below {w W W' : World} {R0 : Nat} {x : Rc} (h : RwI w R0 x W) (hb : Below W.heap.size W W') : RwI w R0 x W' :=
  ⟨h.e, (hb.block _ (lt_of_heap h.res)).trans h.res, h.r.below hb h.r.lt, h.b.trans (hb.mono h.b.size)⟩
theorem RwI.set {w W : World} {R0 i : Nat} {x y : Rc} {v : Value} (h : RwI w R0 x W) (hs : (rcA x).setIfInBounds i v = rcA y) : RwI w R0 y (W.setCell ⟨R0 + 1, i, none⟩ v) := by
  have hg := setCell_grown W h.r (i := i) v
  refine ⟨h.e, (hg.block _ (lt_of_heap h.res) (fun e => by have := Option.some.inj e; omega)).trans h.res, ?_, Below.setCell h.b (by have := h.e; dsimp only; omega) v⟩
  have := heap_setCell_same _ (R0 + 1) i _ _ v h.r
  rw [hs] at this
  exact this
theorem RwI.fz {w W : World} {R0 : Nat} {x : Rc} (h : RwI w R0 x W) (i : Nat) : W.frozen? ⟨R0 + 1, i, none⟩ = false := frozen_of_row _ _ _ _ _ h.r
/-- What reads as valid records does not lie in a block of zeros. -/
theorem setRow_same (w : World) (g : Nat) (cs : Array Value) : w.grownBy (w.setRow g cs) (some g) :=
  ⟨rfl, rfl, rfl, by simp [World.setRow], fun k hk hne => by
    simp only [World.setRow, Array.getElem?_modify]
    rw [if_neg (fun e => hne (by rw [e]))]⟩
theorem rc0_cells : ∀ (k : Nat) (v : Value), (rcA rc0)[k]? = some v → v = .int .i64 0
  | 0, v, h => by simpa [rcA, rc0, eq_comm] using h
  | 1, v, h => by simpa [rcA, rc0, eq_comm] using h
  | 2, v, h => by simpa [rcA, rc0, eq_comm] using h
  | 3, v, h => by simpa [rcA, rc0, eq_comm] using h
  | 4, v, h => by simpa [rcA, rc0, eq_comm] using h
  | 5, v, h => by simpa [rcA, rc0, eq_comm] using h
  | 6, v, h => by simpa [rcA, rc0, eq_comm] using h
  | 7, v, h => by simpa [rcA, rc0, eq_comm] using h
  | 8, v, h => by simpa [rcA, rc0, eq_comm] using h
  | 9, v, h => by simpa [rcA, rc0, eq_comm] using h
  | 10, v, h => by simpa [rcA, rc0, eq_comm] using h
  | 11, v, h => by simpa [rcA, rc0, eq_comm] using h
  | 12, v, h => by simpa [rcA, rc0, eq_comm] using h
  | 13, v, h => by simpa [rcA, rc0, eq_comm] using h
  | k + 14, v, h => by simp [rcA] at h
theorem rd_zero {w w' : World} {g : Nat} {A : Option Addr} {L : List Rc} (h : Rd w A (recs L)) (hv : ∀ r ∈ L, rcB r = true) (hk : w.heap[g]? = some (.cells (rcA rc0) 33 (0, 0))) (hg : w.grownBy w' (some g)) : Rd w' A (recs L) := fun hne => by
  obtain ⟨b, off, rfl, hlt, hc⟩ := h hne
  have hbk : b ≠ g := by
    rintro rfl
    cases L with
    | nil => exact hne rfl
    | cons x L =>
      have h0 := hc 0 (.int .i64 x.tab) rfl
      rw [Nat.add_zero, cell_of_row _ b off _ _ _ hk] at h0
      have h1 := rc0_cells _ _ h0
      injection h1 with _ h1
      have := (rc_ok (hv x (by simp))).tab
      omega
  exact ⟨b, off, rfl, Nat.lt_of_lt_of_le hlt hg.size, fun j u hu => by
    rw [World.cell?_of_block (hg.block b hlt (fun e => hbk (Option.some.inj e)))]
    exact hc j u hu⟩
theorem rd_zeroB {w w' : World} {g : Nat} {A : Option Addr} {C : List Bool} (h : Rd w A (boolsV C)) (hk : w.heap[g]? = some (.cells (rcA rc0) 33 (0, 0))) (hg : w.grownBy w' (some g)) : Rd w' A (boolsV C) := fun hne => by
  obtain ⟨b, off, rfl, hlt, hc⟩ := h hne
  have hbk : b ≠ g := by
    rintro rfl
    cases C with
    | nil => exact hne rfl
    | cons x C =>
      have h0 := hc 0 (.bool x) rfl
      rw [Nat.add_zero, cell_of_row _ b off _ _ _ hk] at h0
      cases rc0_cells _ _ h0
  exact ⟨b, off, rfl, Nat.lt_of_lt_of_le hlt hg.size, fun j u hu => by
    rw [World.cell?_of_block (hg.block b hlt (fun e => hbk (Option.some.inj e)))]
    exact hc j u hu⟩
theorem RbAt.zero {w w' : World} {B g : Nat} {L : List Rc} (h : RbAt w B L) (hk : w.heap[g]? = some (.cells (rcA rc0) 33 (0, 0))) (hg : w.grownBy w' (some g)) (hne : B ≠ g) : RbAt w' B L := by
  obtain ⟨A, c, A2, c2, h1, h2⟩ := h.b
  exact ⟨h.asc, h.v, A, c, A2, c2, ⟨(hg.block B h1.lt (fun e => hne (Option.some.inj e))).trans h1.b, rd_zero h1.l h.v hk hg, rd_zeroB h1.n hk hg⟩, h2⟩
def RwPost (w : World) (B : Nat) (L : List Rc) (R : Rc × Int × List Rc) (e : Ending) (w' : World) : Prop :=
  e = .returned (.tuple #[rcV R.1, .int .i64 R.2.1]) ∧ RbAt w' B (wrL L R) ∧ w.grownBy w' (some B)
theorem RwI.bad {w W : World} {R0 B : Nat} {x : Rc} {L : List Rc} {R : Rc × Int × List Rc} {E : Int} (h : RwI w R0 x W) (hk : RbAt w B L) (hR : R = (rc0, E, L)) (hE : E ≠ 0) (cs : Array Value) : RwPost w B L R (.returned (.tuple #[.agg (rcA rc0), .int .i64 E])) (W.setRow R0 cs) := by
  subst hR
  have hb := below_setRow h.b (Nat.le_of_eq h.e.symm) cs
  refine ⟨rfl, ?_, grown_of_below hb _⟩
  unfold wrL
  rw [if_neg hE]
  exact hk.below hb

set_option maxHeartbeats 8000000 in
set_option maxRecDepth 100000 in
theorem rwrite_calls (tab hour sign fld val : Int) {B : Nat} {L : List Rc} (w : World) (h : RbAt w B L) (hL : L.length < 1000000) :
    Calls Try.prog 16 #[.pointer (some ⟨B, 0, none⟩), .int .i64 tab, .int .i64 hour, .int .i64 sign, .int .i64 fld, .int .i64 val] w fun e w' => RwPost w B L (writeR L tab hour sign fld val) e w' := by
  have hb0 := below_alloc w (.cells (rcA rc0) 33)
  have hn0 := heap_alloc_new w (.cells (rcA rc0) 33)
  have HK := hid h
  have HLL := hid hL
  have HB0 := hid hb0
  clear h hL
  go_enter Try.func16, Try.ntmps16
  go_upto_region 1 with (fail)
  change Code.wp _ _ _ _ (w.alloc (.cells (rcA rc0) 33))
  have hs0 : (w.alloc (.cells (rcA rc0) 33)).heap.size = w.heap.size + 1 := by simp
  generalize w.alloc (.cells (rcA rc0) 33) = W at *
  obtain ⟨R0, hR0⟩ : ∃ R0, R0 = w.heap.size := ⟨_, rfl⟩
  have HR0 := hid hR0
  rw [← hR0] at hn0 hs0 ⊢
  have HRES := hid hn0
  have HS0 := hid hs0
  clear hR0 hn0 hs0 hb0
  cases d0 : btw 1 tab 8 with
  | false =>
    have HW := hid (show writeR L tab hour sign fld val = (rc0, 2, L) by simp [writeR, d0])
    have KW := hid (fun w => by have h := rwithin_calls tab 1 8 w; rw [d0] at h; exact h)
    have hb1 := below_alloc W (.cells (rcA rc0) 33)
    have hres := unhid HRES
    go_wp2_with (first | (go_at_call 58; refine ((unhid KW) _).mono ?_; rintro e w' ⟨rfl, rfl⟩) | (refine wpList_store_row rfl 33 (.tmp 12) (.tmp 20) rfl R0 (rcA rc0) rfl rfl 33 _ hres (rc_size rc0) rfl (rc_one rc0) ?_))
    refine bodyPost_ret_by (v := .tuple #[.agg (rcA rc0), .int .i64 2]) (results_cell_row_tmp Try.results16 _ _ R0 33 (rcA rc0) (0, 0) _ _ rfl rfl (setRow_heap _ _ _ _ _ _ hres) Try.underlying33 rfl (rc_size rc0)) rfl ?_
    have hbb := below_setRow (unhid HB0) (Nat.le_of_eq (unhid HR0).symm) (rcA rc0)
    rw [unhid HW]
    refine ⟨rfl, ?_, grown_of_below hbb _⟩
    unfold wrL
    rw [if_neg (by simp)]
    exact (unhid HK).below hbb
  | true =>
    have htb := btw_iff.1 d0
    obtain ⟨T0, hT⟩ : ∃ T0 : Nat, (tab - 1).toNat = T0 := ⟨_, rfl⟩
    have hT8 : T0 < 8 := by omega
    have hTI : tab - 1 = (T0 : Int) := by omega
    have hTl : (T0 : Int) < 8 := by omega
    have w1 : IntKind.i64.wrap (tab - 1) = (T0 : Int) := by rw [hTI]; exact IntWalk.i64_in _ (by omega)
    have HT := hid (⟨hT, hT8, d0, show tab = (T0 : Int) + 1 from by omega⟩ : _ ∧ _ ∧ _ ∧ _)
    have KW := hid (fun w => by have h := rwithin_calls tab 1 8 w; rw [d0] at h; exact h)
    clear d0 htb hT hTI
    go_upto_region 5 with (go_at_call 58; refine ((unhid KW) _).mono ?_; rintro e w' ⟨rfl, rfl⟩)
    change Code.wp _ _ _ _ (W.alloc (.cells (rcA (rcU tab 0 hour sign fld val fun _ => 0)) 33))
    have hs0 := unhid HS0
    rw [show W.heap.size = R0 + 1 from hs0]
    have hb1 := below_alloc W (.cells (rcA (rcU tab 0 hour sign fld val fun _ => 0)) 33)
    have hn1 := RcAt.new W (rcU tab 0 hour sign fld val fun _ => 0)
    rw [show W.heap.size = R0 + 1 from hs0] at hn1
    have HI := hid (⟨unhid HR0, (hb1.block _ (by omega)).trans (unhid HRES), hn1, (unhid HB0).trans (hb1.mono (unhid HB0).size)⟩ : RwI w R0 (rcU tab 0 hour sign fld val fun _ => 0) (W.alloc (.cells (rcA (rcU tab 0 hour sign fld val fun _ => 0)) 33)))
    clear hb1 hn1 hs0 HRES HS0 HB0 KW
    generalize W.alloc (.cells (rcA (rcU tab 0 hour sign fld val fun _ => 0)) 33) = W1 at *
    go_loopw [15] (fun iv wr => ∃ (k : Nat) (u : Nat → Int), k ≤ 8 ∧ iv = .int .i64 k ∧ RwI w R0 (rcU tab 0 hour sign fld val u) wr ∧ ∀ t, t < k → u t = upT L t) (fun iv _ => 8 - (intOf iv).toNat)
    case atStart => exact ⟨0, _, by omega, rfl, unhid HI, fun t h => by omega⟩
    case round =>
      clear HI
      obtain ⟨k, u, hk, rfl, hi, hu⟩ := hrel
      have HI := hid hi
      have HU := hid hu
      clear hi hu
      obtain ⟨A, c, A2, c2, hrk, hcap⟩ := ((unhid HK).below (unhid HI).b).b
      have HRK := hid hrk
      clear hrk hcap
      by_cases hlt : k < 8
      · have hki : (k : Int) < 8 := by omega
        go_wp2_with fail
        refine (prefix_calls k ((k : Int) + 1) rfl _ (unhid HRK) (by simp) (unhid HK).v (Nat.le_of_lt (unhid HLL))).mono ?_
        rintro e w2 ⟨rfl, rfl⟩
        rw [pfx_up (unhid HK).v (unhid HK).asc hlt]
        have f0 := (unhid HI).r.seen hlt
        have fz := (unhid HI).fz (6 + k)
        have HN := hid ((unhid HI).set (rcU_set tab 0 hour sign fld val u hlt (upT L k)))
        have HU2 := hid (show ∀ t, t < k + 1 → updI u k (upT L k) t = upT L t from fun t ht => by
          unfold updI
          by_cases e : t = k
          · subst e; rw [if_pos rfl]
          · rw [if_neg e]; exact unhid HU t (by omega))
        go_wp2_with fail
        go_roundw
        case rel => exact ⟨k + 1, _, by omega, by go_num, unhid HN, unhid HU2⟩
        case measure => simp [intOf]; omega
      · obtain rfl : k = 8 := by omega
        rw [show ((8 : Nat) : Int) = 8 from rfl]
        have hi := unhid HI
        rw [rcU_congr tab 0 hour sign fld val (unhid HU)] at hi
        have HI := hid hi
        have f0 := hi.r.seen hT8
        rw [rcU_sn _ _ _ _ _ _ _ hT8] at f0
        have f1 := hi.r.cells.2.1
        have fz := hi.fz 1
        have hup0 := (upT_up L).pos T0
        have hup1 := (upT_up L).bound (unhid HK).v hT8
        have w2 : IntKind.i64.wrap (upT L T0 + 1) = upT L T0 + 1 := IntWalk.i64_in _ (by omega)
        have hr := hi.set (rcU_num tab 0 hour sign fld val (upT L) (upT L T0 + 1))
        have HRE := hid (show newR (upT L) tab hour sign fld val = rcU tab (upT L T0 + 1) hour sign fld val (upT L) from by unfold newR rcU; rw [(unhid HT).1])
        obtain ⟨r, hre⟩ : ∃ r, r = rcU tab (upT L T0 + 1) hour sign fld val (upT L) := ⟨_, rfl⟩
        rw [← hre] at hr HRE
        have HRN := hid (show r.num = upT L T0 + 1 ∧ r.tb = T0 from ⟨by rw [hre]; rfl, by rw [hre]; exact (unhid HT).1⟩)
        have HI2 := hid hr
        clear hi hr hre HRK HU
        go_upto_region 9 with (fail)
        clear f0 f1 fz HI w1 w2 hup0 hup1
        generalize wr.setCell ⟨R0 + 1, 1, none⟩ (.int .i64 (upT L T0 + 1)) = W2 at *
        obtain ⟨c0, c1, c2, c3, c4, c5⟩ := (unhid HI2).r.cells
        obtain ⟨e0, e1, e2, e3, e4, e5, e6, e7⟩ := (unhid HI2).r.seen8
        go_wp2_with fail
        refine (rvalid_calls r W2).mono ?_
        rintro e W3 ⟨rfl, hb3⟩
        have HI2 := hid ((unhid HI2).below hb3)
        clear hb3 c0 c1 c2 c3 c4 c5 e0 e1 e2 e3 e4 e5 e6 e7
        cases hv : rcB r with
        | false =>
          have HW := hid (show writeR L tab hour sign fld val = (rc0, 2, L) from by unfold writeR; rw [unhid HRE, (unhid HT).2.2.1, hv]; rfl)
          have hres := (unhid HI2).res
          go_wp2_with (refine wpList_store_row rfl 33 (.tmp 12) (.tmp 49) rfl R0 (rcA rc0) rfl rfl 33 _ hres (rc_size rc0) rfl (rc_one rc0) ?_)
          refine bodyPost_ret_by (v := .tuple #[.agg (rcA rc0), .int .i64 2]) (results_cell_row_tmp Try.results16 _ _ R0 33 (rcA rc0) (0, 0) _ _ rfl rfl (setRow_heap _ _ _ _ _ _ hres) Try.underlying33 rfl (rc_size rc0)) rfl ?_
          exact (unhid HI2).bad (unhid HK) (unhid HW) (by decide) (rcA rc0)
        | true =>
          have HVR := hid hv
          clear hv
          obtain ⟨A, c, A2, c2, hrk, hcap⟩ := ((unhid HK).below (unhid HI2).b).b
          have HRK := hid hrk
          clear hrk hcap
          go_wp2_with fail
          refine (fork_calls T0 tab (unhid HT).2.2.2 W3 (unhid HRK) (unhid HK).v (unhid HK).asc (Nat.le_of_lt (unhid HLL))).mono ?_
          rintro e W4 ⟨rfl, hb4⟩
          have HI2 := hid ((unhid HI2).below hb4)
          have HRK := hid ((unhid HRK).below hb4)
          have HFI := hid (show (frk L T0 ≤ 1000000 → 0 < frk0 L T0) ∧ (¬ frk L T0 ≤ 1000000 → ¬ 0 < frk0 L T0) from by
            have := frk_pos (unhid HK).v T0
            unfold frk0
            constructor
            · intro h; rw [if_pos h]; omega
            · intro h; rw [if_neg h]; omega)
          obtain ⟨q, hq⟩ : ∃ q, frk0 L T0 = q := ⟨_, rfl⟩
          rw [hq] at HFI ⊢
          clear hq hb4
          by_cases hf : frk L T0 ≤ 1000000
          · have hq0 := (unhid HFI).1 hf
            have HF := hid hf
            clear hf
            have HW := hid (show writeR L tab hour sign fld val = (rc0, 91, L) from by unfold writeR; rw [unhid HRE, (unhid HT).2.2.1, unhid HVR, (unhid HT).1, if_neg (by simp), if_neg (by simp), if_pos (unhid HF)])
            have hres := (unhid HI2).res
            go_wp2_with (refine wpList_store_row rfl 33 (.tmp 12) (.tmp 55) rfl R0 (rcA rc0) rfl rfl 33 _ hres (rc_size rc0) rfl (rc_one rc0) ?_)
            refine bodyPost_ret_by (v := .tuple #[.agg (rcA rc0), .int .i64 91]) (results_cell_row_tmp Try.results16 _ _ R0 33 (rcA rc0) (0, 0) _ _ rfl rfl (setRow_heap _ _ _ _ _ _ hres) Try.underlying33 rfl (rc_size rc0)) rfl ?_
            exact (unhid HI2).bad (unhid HK) (unhid HW) (by decide) (rcA rc0)
          · have hq0 := (unhid HFI).2 hf
            have HF := hid hf
            clear hf
            go_upto_region 14 with (fail)
            clear hq0 HFI
            go_loopw [16] (fun iv wr => ∃ k : Nat, k ≤ L.length ∧ iv = .int .i64 k ∧ (∀ j (hj : j < L.length), j < k → ¬ (L[j].tb = T0 ∧ L[j].num = r.num)) ∧ Below W4.heap.size W4 wr) (fun iv _ => L.length - (intOf iv).toNat)
            case atStart => exact ⟨0, Nat.zero_le _, rfl, fun j _ h => by omega, Below.refl _ _⟩
            case round =>
              obtain ⟨k, hk, rfl, hno, hb⟩ := hrel
              have HNO := hid hno
              have HB := hid hb
              have HRK := hid ((unhid HRK).below hb)
              have HI2 := hid ((unhid HI2).below hb)
              clear hno hb
              have k0 := (unhid HRK).cell0
              by_cases hlt : k < L.length
              · have hki : (k : Int) < (L.length : Int) := by omega
                obtain ⟨b, off, hAe, hbl, hc⟩ := (unhid HRK).l (recs_ne hlt)
                subst hAe
                obtain ⟨x, hx⟩ : ∃ x, L[k]'hlt = x := ⟨_, rfl⟩
                have HX := hid hx
                have hat := rec_at14 hc hlt hx
                have HXV := hid ((unhid HK).v x (hx ▸ List.getElem_mem hlt))
                have m0 := fun p : After wr => After.cell (by dsimp only; exact (unhid HRK).lt) k0 p
                have m1 := fun p : After wr => After.cell (by dsimp only; exact hbl) hat.1 p
                have m2 := fun p : After wr => After.cell (by dsimp only; exact hbl) hat.2.1 p
                have m3 := fun p : After wr => After.cell (by dsimp only; exact (unhid HI2).r.lt) (unhid HI2).r.cells.2.1 p
                have HW1 := hid (show wrap64 ((k : Int) + 1) = ((k + 1 : Nat) : Int) from by have h1 := unhid HLL; unfold wrap64; omega)
                clear hc hx hat hbl
                have HTX := hid (show x.tab = tab ↔ x.tb = T0 from by
                  have o := (rc_ok (unhid HXV)).tb
                  have := (unhid HT).2.2.2
                  constructor <;> intro h <;> omega)
                go_upto_region 16 with (fail)
                clear k0
                by_cases e1 : x.tab = tab
                · have q1 : (x.tab == tab) = true := by simp [e1]
                  by_cases e2 : x.num = r.num
                  · have q2 : (x.num == r.num) = true := by simp [e2]
                    have HNB := hid (show numB L T0 (upT L T0 + 1) = true from numB_true.2 ⟨x, (unhid HX) ▸ List.getElem_mem hlt, (unhid HTX).1 e1, by rw [e2, (unhid HRN).1]⟩)
                    clear e1 e2
                    (refine wp_region_below (by kernel_rfl) (by kernel_rfl) ?_; (repeat (go_big_quiet_step (first | fail))); refine wpQuiet_nil ?_; intro wq hw'; obtain ⟨⟨wq2, hbq⟩, hw''⟩ := hw'; dsimp only at hw''; subst hw'')
                    have HI2 := hid ((unhid HI2).below hbq)
                    clear hbq m0 m1 m2 m3
                    have HW := hid (show writeR L tab hour sign fld val = (rc0, 22, L) from by unfold writeR; rw [unhid HRE, (unhid HT).2.2.1, unhid HVR, (unhid HT).1, if_neg (by simp), if_neg (by simp), if_neg (by have := unhid HF; omega), if_pos (unhid HNB)])
                    have hres := (unhid HI2).res
                    go_wp2_with (refine wpList_store_row rfl 33 (.tmp 12) (.tmp 88) rfl R0 (rcA rc0) rfl rfl 33 _ hres (rc_size rc0) rfl (rc_one rc0) ?_)
                    refine bodyPost_ret_by (v := .tuple #[.agg (rcA rc0), .int .i64 22]) (results_cell_row_tmp Try.results16 _ _ R0 33 (rcA rc0) (0, 0) _ _ rfl rfl (setRow_heap _ _ _ _ _ _ hres) Try.underlying33 rfl (rc_size rc0)) rfl ?_
                    exact (unhid HI2).bad (unhid HK) (unhid HW) (by decide) (rcA rc0)
                  · have q2 : (x.num == r.num) = false := by simp [e2]
                    have HN2 := hid (show ∀ j (hj : j < L.length), j < k + 1 → ¬ (L[j].tb = T0 ∧ L[j].num = r.num) from fun j hj h ⟨h1, h2⟩ => by
                      by_cases e : j = k
                      · subst e; rw [unhid HX] at h2; exact e2 h2
                      · exact unhid HNO j hj (by omega) ⟨h1, h2⟩)
                    clear e1 e2
                    (refine wp_region_below (by kernel_rfl) (by kernel_rfl) ?_; (repeat (go_big_quiet_step (first | fail))); refine wpQuiet_nil ?_; intro wq hw'; obtain ⟨⟨wq2, hbq⟩, hw''⟩ := hw'; dsimp only at hw''; subst hw'')
                    have HB := hid ((unhid HB).trans (hbq.mono (unhid HB).size))
                    clear hbq m0 m1 m2 m3
                    go_wp2_with fail
                    go_roundw
                    case rel => exact ⟨k + 1, by omega, by rw [unhid HW1], unhid HN2, unhid HB⟩
                    case measure => rw [unhid HW1]; simp [intOf]; omega
                · have q1 : (x.tab == tab) = false := by simp [e1]
                  have HN2 := hid (show ∀ j (hj : j < L.length), j < k + 1 → ¬ (L[j].tb = T0 ∧ L[j].num = r.num) from fun j hj h ⟨h1, h2⟩ => by
                    by_cases e : j = k
                    · subst e; rw [unhid HX] at h1; exact e1 ((unhid HTX).2 h1)
                    · exact unhid HNO j hj (by omega) ⟨h1, h2⟩)
                  clear e1
                  (refine wp_region_below (by kernel_rfl) (by kernel_rfl) ?_; (repeat (go_big_quiet_step (first | fail))); refine wpQuiet_nil ?_; intro wq hw'; obtain ⟨⟨wq2, hbq⟩, hw''⟩ := hw'; dsimp only at hw''; subst hw'')
                  have HB := hid ((unhid HB).trans (hbq.mono (unhid HB).size))
                  clear hbq m0 m1 m2 m3
                  go_wp2_with fail
                  go_roundw
                  case rel => exact ⟨k + 1, by omega, by rw [unhid HW1], unhid HN2, unhid HB⟩
                  case measure => rw [unhid HW1]; simp [intOf]; omega
              · obtain rfl : k = L.length := by omega
                have HNB := hid (show numB L T0 (upT L T0 + 1) = false from numB_take (fun j hj h => unhid HNO j hj hj ⟨h.1, by rw [(unhid HRN).1]; exact h.2⟩))
                have HW := hid (show writeR L tab hour sign fld val = (r, 0, L ++ [r]) from by unfold writeR; rw [unhid HRE, (unhid HT).2.2.1, unhid HVR, (unhid HT).1, if_neg (by simp), if_neg (by simp), if_neg (by have := unhid HF; omega), if_neg (by rw [unhid HNB]; simp)])
                have HNM := hid (show r ∉ L from fun hm => numB_false.1 (unhid HNB) r hm (unhid HRN).2 (unhid HRN).1)
                go_upto_region 18 with (fail)
                have HSF := hid (show ∀ w', Below wr.heap.size wr w' → (w'.cell? ⟨R0 + 1, 0, none⟩ = some (.int .i64 r.tab) ∧ w'.cell? ⟨R0 + 1, 1, none⟩ = some (.int .i64 r.num) ∧ w'.cell? ⟨R0 + 1, 2, none⟩ = some (.int .i64 r.hour) ∧ w'.cell? ⟨R0 + 1, 3, none⟩ = some (.int .i64 r.sign) ∧ w'.cell? ⟨R0 + 1, 4, none⟩ = some (.int .i64 r.fld) ∧ w'.cell? ⟨R0 + 1, 5, none⟩ = some (.int .i64 r.val) ∧ w'.cell? ⟨R0 + 1, 6, none⟩ = some (.int .i64 r.s0) ∧ w'.cell? ⟨R0 + 1, 7, none⟩ = some (.int .i64 r.s1) ∧ w'.cell? ⟨R0 + 1, 8, none⟩ = some (.int .i64 r.s2) ∧ w'.cell? ⟨R0 + 1, 9, none⟩ = some (.int .i64 r.s3) ∧ w'.cell? ⟨R0 + 1, 10, none⟩ = some (.int .i64 r.s4) ∧ w'.cell? ⟨R0 + 1, 11, none⟩ = some (.int .i64 r.s5) ∧ w'.cell? ⟨R0 + 1, 12, none⟩ = some (.int .i64 r.s6) ∧ w'.cell? ⟨R0 + 1, 13, none⟩ = some (.int .i64 r.s7)) from fun w' hb => by
                  obtain ⟨a0, a1, a2, a3, a4, a5⟩ := ((unhid HI2).below hb).r.cells
                  obtain ⟨a6, a7, a8, a9, a10, a11, a12, a13⟩ := ((unhid HI2).below hb).r.seen8
                  exact ⟨a0, a1, a2, a3, a4, a5, a6, a7, a8, a9, a10, a11, a12, a13⟩)
                refine wp_region_noPanic ?_
                refine wp_region_E (S := fun w' => (w'.cell? ⟨R0 + 1, 0, none⟩ = some (.int .i64 r.tab) ∧ w'.cell? ⟨R0 + 1, 1, none⟩ = some (.int .i64 r.num) ∧ w'.cell? ⟨R0 + 1, 2, none⟩ = some (.int .i64 r.hour) ∧ w'.cell? ⟨R0 + 1, 3, none⟩ = some (.int .i64 r.sign) ∧ w'.cell? ⟨R0 + 1, 4, none⟩ = some (.int .i64 r.fld) ∧ w'.cell? ⟨R0 + 1, 5, none⟩ = some (.int .i64 r.val) ∧ w'.cell? ⟨R0 + 1, 6, none⟩ = some (.int .i64 r.s0) ∧ w'.cell? ⟨R0 + 1, 7, none⟩ = some (.int .i64 r.s1) ∧ w'.cell? ⟨R0 + 1, 8, none⟩ = some (.int .i64 r.s2) ∧ w'.cell? ⟨R0 + 1, 9, none⟩ = some (.int .i64 r.s3) ∧ w'.cell? ⟨R0 + 1, 10, none⟩ = some (.int .i64 r.s4) ∧ w'.cell? ⟨R0 + 1, 11, none⟩ = some (.int .i64 r.s5) ∧ w'.cell? ⟨R0 + 1, 12, none⟩ = some (.int .i64 r.s6) ∧ w'.cell? ⟨R0 + 1, 13, none⟩ = some (.int .i64 r.s7))) 5 6 rfl (by kernel_rfl) (by kernel_rfl) ((unhid HSF) _ (Below.drew (Below.refl _ _))) ?_
                intro hSE
                have HBe := hid (Below.drew (Below.refl wr.heap.size wr))
                have HI3 := hid ((unhid HI2).below (unhid HBe))
                generalize wr.drew = Wd at *
                (refine WE_take (i := 0) (v := ?_) rfl (by kernel_rfl) (by decide) (by kernel_rfl) (by kernel_rfl) (fun _ _ _ h => h) (by rfl) hSE ?_ ?_; rotate_left; (focus (intro w hSw; (try dsimp only at hSw); go_simp; (try with_reducible rfl))); simp only [Act.put, List.setIfInBounds_toArray, List.set_cons_zero, List.set_cons_succ])
                (refine WE_take (i := 1) (v := ?_) rfl (by kernel_rfl) (by decide) (by kernel_rfl) (by kernel_rfl) (fun _ _ _ h => h) (by rfl) hSE ?_ ?_; rotate_left; (focus (intro w hSw; (try dsimp only at hSw); go_simp; (try with_reducible rfl))); simp only [Act.put, List.setIfInBounds_toArray, List.set_cons_zero, List.set_cons_succ])
                (refine WE_take (i := 2) (v := ?_) rfl (by kernel_rfl) (by decide) (by kernel_rfl) (by kernel_rfl) (fun _ _ _ h => h) (by rfl) hSE ?_ ?_; rotate_left; (focus (intro w hSw; (try dsimp only at hSw); go_simp; (try with_reducible rfl))); simp only [Act.put, List.setIfInBounds_toArray, List.set_cons_zero, List.set_cons_succ])
                (refine WE_one (i := 3) rfl (by decide) (by kernel_rfl) ?_; intro K hK)
                go_simp
                go_at_call 54
                refine (radd_calls r Wd ((unhid HK).below (unhid HI3).b) (unhid HLL)).mono ?_
                rintro e w5 ⟨rfl, hr5, hg5⟩
                have hBR : B < R0 := by rw [(unhid HI3).e]; exact (unhid HK).lt
                have hI5 : RwI w R0 r w5 → True := fun _ => trivial
                have hres5 := (hg5.block R0 (lt_of_heap (unhid HI3).res) (fun e => by have := Option.some.inj e; omega)).trans (unhid HI3).res
                have hr14 := (hg5.block (R0 + 1) (unhid HI3).r.lt (fun e => by have := Option.some.inj e; omega)).trans (unhid HI3).r
                have HG5 := hid (grown_then (unhid HI3).b hg5)
                have HR5 := hid hr5
                have HX5 := hid (show RcAt w5 (R0 + 1) r from hr14)
                rw [show addE L r = 0 from by unfold addE; rw [if_neg (by rw [unhid HVR]; simp), if_neg (unhid HNM)]]
                refine hK.out _ _ (by
                  obtain ⟨a0, a1, a2, a3, a4, a5⟩ := (unhid HX5).cells
                  obtain ⟨a6, a7, a8, a9, a10, a11, a12, a13⟩ := (unhid HX5).seen8
                  exact ⟨a0, a1, a2, a3, a4, a5, a6, a7, a8, a9, a10, a11, a12, a13⟩) ?_
                clear hSE hK K hr5 hg5 hI5 hr14
                intro hSE
                (try simp only [Act.put, List.setIfInBounds_toArray, List.set_cons_zero, List.set_cons_succ])
                (refine WE_one (i := 4) rfl (by decide) (by kernel_rfl) ?_; intro K hK)
                rw [if_pos (by rfl)]
                refine wp_store_row 33 (.tmp 12) (.tmp 89) rfl R0 (rcA r) rfl rfl 33 _ hres5 (rc_size r) rfl (rc_one r) ?_
                have hres6 : (w5.setRow R0 (rcA r)).heap[R0]? = some (.cells (rcA r) 33 (0, 0)) := setRow_heap _ _ _ _ _ _ hres5
                have hx6 : RcAt (w5.setRow R0 (rcA r)) (R0 + 1) r := by
                  have e : (w5.setRow R0 (rcA r)).heap[R0 + 1]? = w5.heap[R0 + 1]? := by simp only [World.setRow, Array.getElem?_modify]; rw [if_neg (by omega)]
                  exact e.trans (unhid HX5)
                refine hK.out _ _ (by
                  obtain ⟨a0, a1, a2, a3, a4, a5⟩ := hx6.cells
                  obtain ⟨a6, a7, a8, a9, a10, a11, a12, a13⟩ := hx6.seen8
                  exact ⟨a0, a1, a2, a3, a4, a5, a6, a7, a8, a9, a10, a11, a12, a13⟩) ?_
                clear hSE hK K hx6
                intro hSE
                (try simp only [Act.put, List.setIfInBounds_toArray, List.set_cons_zero, List.set_cons_succ])
                have HP := hid (show RwPost w B L (writeR L tab hour sign fld val) (.returned (.tuple #[.agg (rcA r), .int .i64 0])) (w5.setRow R0 (rcA r)) from by
                  rw [unhid HW]
                  refine ⟨rfl, ?_, below_grownBy' (unhid HG5) (Nat.le_of_eq (unhid HI3).e.symm) _⟩
                  have h1 := (unhid HR5).zero hres5 (setRow_same w5 R0 (rcA r)) (by omega)
                  unfold raddL at h1
                  rw [if_pos (unhid HVR)] at h1
                  unfold wrL
                  rw [if_pos rfl]
                  exact h1)
                have HRS := hid hres6
                (refine WE_last rfl (by kernel_rfl) (by kernel_rfl) (by kernel_rfl) ?_; intro K hK; go_simp; refine hK.out _ _ (NoPanic.normal ?_); clear hK K)
                clear hSE HSF hres5 hres6
                generalize w5.setRow R0 (rcA r) = w6 at *
                go_wp2_with fail
                refine bodyPost_ret_by (v := .tuple #[.agg (rcA r), .int .i64 0]) (results_cell_row_tmp Try.results16 _ _ R0 33 (rcA r) (0, 0) _ _ rfl rfl (unhid HRS) Try.underlying33 rfl (rc_size r)) rfl ?_
                exact unhid HP

end Go.Proofs.Ytegghimjmbgghaa
