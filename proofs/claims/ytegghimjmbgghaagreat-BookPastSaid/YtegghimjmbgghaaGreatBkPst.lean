/-
  Lists of records filtered: the reference's Counting. Two lists of disputes compared. Two lists of numbers compared. The book as of an hour. No program in sight. AsOf, of both packages. The law BookPast.
-/
import Derived.Test.YtegghimjmbgghaaGreatBkWt
import Derived.Test.YtegghimjmbgghaaGreatBkFs
import Derived.Test.YtegghimjmbgghaaGreatBkDc
import Derived.Test.YtegghimjmbgghaaGreatBkSg
import Derived.Test.YtegghimjmbgghaaGreatBkMd
import Derived.Test.YtegghimjmbgghaaGreatBkSr
import Derived.Test.YtegghimjmbgghaaGreatBkOs
import Derived.Test.YtegghimjmbgghaaGreatBkX
import Derived.Test.YtegghimjmbgghaaGreatBkN
set_option linter.unusedSimpArgs false
set_option linter.unusedVariables false
namespace Go.Proofs.YtegghimjmbgghaaGreat
open Go.RowKit

section
open Go.RowKit Go.Shelf

set_option maxHeartbeats 4000000 in
set_option maxRecDepth 100000 in
theorem rcounting_calls {B : Nat} {L : List Rc} (w : World) (h : RbAt w B L) (hL : L.length ≤ 1000000) :
    Calls Tryz.prog 59 #[.pointer (some ⟨B, 0, none⟩)] w fun e w' => OwnPost w (cntL L) e w' := by
  obtain ⟨i0, hi, hz0, hz1, hz2⟩ := info_parts info_rec
  obtain ⟨A, c, A2, c2, hk, hcap⟩ := h.b
  have HK := hid hk
  have HLL := hid hL
  clear h hL hk hcap
  obtain ⟨pv, hpv⟩ : ∃ pv : Rc → Bool, pv = (cntB L) := ⟨_, rfl⟩
  have HPV := hid hpv
  clear hpv
  go_enter Tryz.func59, Tryz.ntmps59
  go_upto_region 3 with (fail)
  go_loopw [4, 3] (fun iv v wr => ∃ k : Nat, k ≤ L.length ∧ iv = .int .i64 k ∧ FilI w L pv k v wr) (fun iv _ _ => L.length - (intOf iv).toNat)
  case atStart => exact ⟨0, Nat.zero_le _, rfl, World.ownsRow_nil _ _ _ _, Below.refl _ _⟩
  case round =>
    obtain ⟨k, hk, rfl, hsp⟩ := hrel
    have HSP := hid hsp
    have HKR := hid ((unhid HK).below hsp.b)
    clear hsp
    have c0 := (unhid HKR).cell0
    have c1 := (unhid HKR).cell1
    by_cases hlt : k < L.length
    · have hki : (k : Int) < (L.length : Int) := by omega
      have hcl : (L.map (cntB L)).length = L.length := by simp
      obtain ⟨b, off, hAe, hbl, hc⟩ := (unhid HKR).l (recs_ne hlt)
      obtain ⟨b', off', hAe', hbl', hc'⟩ := (unhid HKR).n (fun e => by
        have h1 := congrArg List.length e
        simp [boolsV] at h1
        subst h1
        simp at hlt)
      subst hAe hAe'
      obtain ⟨x, hx⟩ : ∃ x, L[k]'hlt = x := ⟨_, rfl⟩
      have HX := hid hx
      have d0 := hc' k (.bool (cntB L x)) (by
        simp only [boolsV, List.map_map, List.getElem?_map, List.getElem?_eq_getElem hlt, hx, Option.map_some]
        rfl)
      obtain ⟨a0, a1, a2, a3, a4, a5, a6, a7, a8', a9, a10, a11, a12, a13⟩ := rec_at14 hc hlt hx
      have HW1 := hid (show wrap64 ((k : Int) + 1) = ((k + 1 : Nat) : Int) from by have h1 := unhid HLL; unfold wrap64; omega)
      rw [hcl] at c1
      clear hc hc' hx hcl
      cases hcb : cntB L x with
      | true =>
        have HCB := hid (show cntB L x = true from hcb)
        rw [hcb] at d0
        clear hcb
        have HP := hid (show (pv x) = true from by rw [unhid HPV]; exact unhid HCB)
        have hy := (unhid HSP).own
        have hlc : ((L.take k).filter pv).length ≤ 1000000 := Nat.le_trans (List.length_filter_le _ _) (by rw [List.length_take]; have := unhid HLL; omega)
        have hsz := (unhid HSP).b.size
        go_wp2_with (at_builtin; refine wpList_append_own_at _ rfl _ _ 22 rfl w.heap.size 82 i0 (.agg (rcA rc0)) 14 112 Tryz.underlying22 hi hz0 hz1 hz2 rfl (by decide) _ _ _ rfl (hy.alloc _) ⟨wr.heap.size, 0, none⟩ 1 1 (rcC x) rfl rfl (rc_news wr x) (rcC_one1 x) (by unfold maxLen; omega) (by omega) (by simp; omega) ?_; intro v' w6 hown' hgrow hnil hat)
        have HN := hid (filI_yes (unhid HSP) hlt (unhid HX) (unhid HP) hown' hgrow)
        clear hy hlc hsz hown' hgrow hnil hat a0 a1 a2 a3 a4 a5 a6 a7 a8' a9 a10 a11 a12 a13 c0 c1 d0
        go_wp2_with fail
        go_roundw
        case rel => exact ⟨k + 1, by omega, by rw [unhid HW1], unhid HN⟩
        case measure => rw [unhid HW1]; simp [intOf]; omega
      | false =>
        have HCB := hid (show cntB L x = false from hcb)
        rw [hcb] at d0
        clear hcb
        have HP := hid (show (pv x) = false from by rw [unhid HPV]; exact unhid HCB)
        have HN := hid (filI_no (unhid HSP) hlt (unhid HX) (unhid HP))
        go_wp2_with fail
        go_roundw
        case rel => exact ⟨k + 1, by omega, by rw [unhid HW1], unhid HN⟩
        case measure => rw [unhid HW1]; simp [intOf]; omega
    · obtain rfl : k = L.length := by omega
      have HEND := hid (filI_end (unhid HSP))
      rw [unhid HPV] at HEND
      go_wp2_with fail
      go_ret
      exact ⟨_, rfl, (unhid HEND).1, (unhid HEND).2⟩
end

section
open Go.RowKit Go.Shelf

theorem neq_pairC (x y : Int × Int) (w : World) : (binOp .neq 116 (.agg #[.int .i64 x.1, .int .i64 x.2]) (.agg #[.int .i64 y.1, .int .i64 y.2])).run Tryz.prog w = .ok (.bool (!decide (x = y))) w := by
  obtain ⟨x1, x2⟩ := x
  obtain ⟨y1, y2⟩ := y
  go_simp
  by_cases h1 : x1 = y1 <;> by_cases h2 : x2 = y2 <;> simp [h1, h2]

set_option maxHeartbeats 4000000 in
set_option maxRecDepth 100000 in
theorem sameCases_calls (l m : List (Int × Int)) (A A2 : Option Addr) (c c2 : Nat) (w : World) (h1 : Rd w A (fks l)) (h2 : Rd w A2 (fks m)) (hl : l.length ≤ 1000000) :
    Calls Tryz.prog 16 #[.slice A l.length c, .slice A2 m.length c2] w fun e w' => e = .returned (.bool (decide (l = m))) ∧ Below w.heap.size w w' := by
  have HR1 := hid h1
  have HR2 := hid h2
  have HLL := hid hl
  clear h1 h2 hl
  go_enter Tryz.func16, Tryz.ntmps16
  by_cases hlen : l.length = m.length
  · rw [hlen]
    go_upto_region 4 with (fail)
    go_loopw [5] (fun iv wr => ∃ k : Nat, k ≤ m.length ∧ iv = .int .i64 k ∧ l.take k = m.take k ∧ Below w.heap.size w wr) (fun iv _ => m.length - (intOf iv).toNat)
    case atStart => exact ⟨0, Nat.zero_le _, rfl, by simp, Below.refl _ _⟩
    case round =>
      obtain ⟨k, hk, rfl, ht, hb⟩ := hrel
      have HT := hid ht
      have HB := hid hb
      clear ht hb
      by_cases hlt : k < m.length
      · have hki : (k : Int) < (m.length : Int) := by omega
        have hlt1 : k < l.length := by omega
        obtain ⟨b1, o1, hA1, hbl1, hc1⟩ := ((unhid HR1).below (unhid HB)) (fks_ne hlt1)
        obtain ⟨b2, o2, hA2, hbl2, hc2⟩ := ((unhid HR2).below (unhid HB)) (fks_ne hlt)
        subst hA1 hA2
        obtain ⟨x, hx⟩ : ∃ x, l[k]'hlt1 = x := ⟨_, rfl⟩
        obtain ⟨y, hy⟩ : ∃ y, m[k]'hlt = y := ⟨_, rfl⟩
        have HXY := hid (⟨hx, hy⟩ : l[k]'hlt1 = x ∧ m[k]'hlt = y)
        have HC1 := hid (fks_cells hc1 hlt1 hx)
        have HC2 := hid (fks_cells hc2 hlt hy)
        clear hx hy hc1 hc2
        have r0 := fun p : After wr => After.cell (by dsimp only; exact hbl1) (unhid HC1).1 p
        have r1 := fun p : After wr => After.cell (by dsimp only; exact hbl1) (unhid HC1).2 p
        have q0 := fun p : After wr => After.cell (by dsimp only; exact hbl2) (unhid HC2).1 p
        have q1 := fun p : After wr => After.cell (by dsimp only; exact hbl2) (unhid HC2).2 p
        have hne := neq_pairC x y
        go_upto_region 6 with (fail)
        (refine wp_region_below (by kernel_rfl) (by kernel_rfl) ?_; (repeat (go_big_quiet_step (first | fail))); refine wpQuiet_nil ?_; intro wq hw'; obtain ⟨⟨wq2, hbq⟩, hw''⟩ := hw'; dsimp only at hw''; subst hw'')
        clear r0 r1 q0 q1
        have HB := hid ((unhid HB).trans (hbq.mono (unhid HB).size))
        clear hbq
        try clear hne
        by_cases hxy : x = y
        · have HTS := hid (take_sameP hlt1 hlt (unhid HT) (by rw [(unhid HXY).1, (unhid HXY).2, hxy]))
          have HW1 := hid (show wrap64 ((k : Int) + 1) = ((k + 1 : Nat) : Int) from by have h1 := unhid HLL; rw [hlen] at h1; unfold wrap64; omega)
          have hd : (!decide (x = y)) = false := by simp [hxy]
          (try rw [hd])
          clear hd
          (try simp only [hxy])
          clear hxy
          go_wp2_with fail
          go_roundw
          case rel => exact ⟨k + 1, by omega, by rw [unhid HW1], unhid HTS, unhid HB⟩
          case measure => rw [unhid HW1]; simp [intOf]; omega
        · have HNE := hid (show decide (l = m) = false from by
            rw [decide_eq_false_iff_not]
            intro e
            subst e
            exact hxy ((unhid HXY).1.symm.trans (unhid HXY).2))
          have hd : (!decide (x = y)) = true := by simp [hxy]
          (try rw [hd])
          go_wp2_with fail
          go_ret
          exact ⟨by rw [unhid HNE]; rfl, unhid HB⟩
      · obtain rfl : k = m.length := by omega
        have HEQ := hid (show decide (l = m) = true from by
          have h := unhid HT
          rw [← hlen, List.take_length, hlen, List.take_length] at h
          simp [h])
        go_wp2_with fail
        go_ret
        exact ⟨by rw [unhid HEQ]; rfl, unhid HB⟩
  · have hne : ¬ (l.length : Int) = (m.length : Int) := by omega
    have HNE := hid (show decide (l = m) = false from by
      rw [decide_eq_false_iff_not]
      intro e
      exact hlen (by rw [e]))
    go_wp2_with fail
    go_ret
    exact ⟨by rw [unhid HNE]; rfl, Below.refl _ _⟩
end

section
open Go.RowKit Go.Shelf

set_option maxHeartbeats 4000000 in
set_option maxRecDepth 100000 in
theorem sameInts_calls (l m : List Int) (A A2 : Option Addr) (c c2 : Nat) (w : World) (h1 : Rd w A (ints l)) (h2 : Rd w A2 (ints m)) (hl : l.length ≤ 1000000) :
    Calls Tryz.prog 18 #[.slice A l.length c, .slice A2 m.length c2] w fun e w' => e = .returned (.bool (decide (l = m))) ∧ Below w.heap.size w w' := by
  have HR1 := hid h1
  have HR2 := hid h2
  have HLL := hid hl
  clear h1 h2 hl
  go_enter Tryz.func18, Tryz.ntmps18
  by_cases hlen : l.length = m.length
  · rw [hlen]
    go_upto_region 4 with (fail)
    go_loopw [5] (fun iv wr => ∃ k : Nat, k ≤ m.length ∧ iv = .int .i64 k ∧ l.take k = m.take k ∧ Below w.heap.size w wr) (fun iv _ => m.length - (intOf iv).toNat)
    case atStart => exact ⟨0, Nat.zero_le _, rfl, by simp, Below.refl _ _⟩
    case round =>
      obtain ⟨k, hk, rfl, ht, hb⟩ := hrel
      have HT := hid ht
      have HB := hid hb
      clear ht hb
      by_cases hlt : k < m.length
      · have hki : (k : Int) < (m.length : Int) := by omega
        have hlt1 : k < l.length := by omega
        obtain ⟨b1, o1, hA1, hbl1, hc1⟩ := ((unhid HR1).below (unhid HB)) (ints_ne hlt1)
        obtain ⟨b2, o2, hA2, hbl2, hc2⟩ := ((unhid HR2).below (unhid HB)) (ints_ne hlt)
        subst hA1 hA2
        obtain ⟨x, hx⟩ : ∃ x, l[k]'hlt1 = x := ⟨_, rfl⟩
        obtain ⟨y, hy⟩ : ∃ y, m[k]'hlt = y := ⟨_, rfl⟩
        have HXY := hid (⟨hx, hy⟩ : l[k]'hlt1 = x ∧ m[k]'hlt = y)
        have e1 : wr.cell? ⟨b1, o1 + k, none⟩ = some (.int .i64 x) := by rw [← hx]; exact hc1 k _ (ints_at _ k hlt1)
        have e2 : wr.cell? ⟨b2, o2 + k, none⟩ = some (.int .i64 y) := by rw [← hy]; exact hc2 k _ (ints_at _ k hlt)
        clear hx hy hc1 hc2
        have r0 := fun p : After wr => After.cell (by dsimp only; exact hbl1) e1 p
        have q0 := fun p : After wr => After.cell (by dsimp only; exact hbl2) e2 p
        have hne : (x != y) = !decide (x = y) := by by_cases h : x = y <;> simp [h]
        go_upto_region 6 with (fail)
        (refine wp_region_below (by kernel_rfl) (by kernel_rfl) ?_; (repeat (go_big_quiet_step (first | fail))); refine wpQuiet_nil ?_; intro wq hw'; obtain ⟨⟨wq2, hbq⟩, hw''⟩ := hw'; dsimp only at hw''; subst hw'')
        clear r0 q0
        have HB := hid ((unhid HB).trans (hbq.mono (unhid HB).size))
        clear hbq
        try clear hne
        by_cases hxy : x = y
        · have HTS := hid (take_sameP hlt1 hlt (unhid HT) (by rw [(unhid HXY).1, (unhid HXY).2, hxy]))
          have HW1 := hid (show wrap64 ((k : Int) + 1) = ((k + 1 : Nat) : Int) from by have h1 := unhid HLL; rw [hlen] at h1; unfold wrap64; omega)
          have hd : (!decide (x = y)) = false := by simp [hxy]
          (try rw [hd])
          clear hd
          (try simp only [hxy])
          clear hxy
          go_wp2_with fail
          go_roundw
          case rel => exact ⟨k + 1, by omega, by rw [unhid HW1], unhid HTS, unhid HB⟩
          case measure => rw [unhid HW1]; simp [intOf]; omega
        · have HNE := hid (show decide (l = m) = false from by
            rw [decide_eq_false_iff_not]
            intro e
            subst e
            exact hxy ((unhid HXY).1.symm.trans (unhid HXY).2))
          have hd : (!decide (x = y)) = true := by simp [hxy]
          (try rw [hd])
          go_wp2_with fail
          go_ret
          exact ⟨by rw [unhid HNE]; rfl, unhid HB⟩
      · obtain rfl : k = m.length := by omega
        have HEQ := hid (show decide (l = m) = true from by
          have h := unhid HT
          rw [← hlen, List.take_length, hlen, List.take_length] at h
          simp [h])
        go_wp2_with fail
        go_ret
        exact ⟨by rw [unhid HEQ]; rfl, unhid HB⟩
  · have hne : ¬ (l.length : Int) = (m.length : Int) := by omega
    have HNE := hid (show decide (l = m) = false from by
      rw [decide_eq_false_iff_not]
      intro e
      exact hlen (by rw [e]))
    go_wp2_with fail
    go_ret
    exact ⟨by rw [unhid HNE]; rfl, Below.refl _ _⟩
end

section
/-- The records that count and are not later than an hour. -/
noncomputable def asofL (L : List Rc) (h : Int) : List Rc := (cntL L).filter fun r => decide (r.hour ≤ h)
theorem mem_asofL {L : List Rc} {h : Int} {r : Rc} : r ∈ asofL L h ↔ r ∈ cntL L ∧ r.hour ≤ h := by
  unfold asofL
  rw [List.mem_filter, decide_eq_true_eq]
theorem asofL_mem {L : List Rc} {h : Int} {r : Rc} (hr : r ∈ asofL L h) : r ∈ L := (List.mem_filter.1 (mem_asofL.1 hr).1).1
theorem asofL_len (L : List Rc) (h : Int) : (asofL L h).length ≤ L.length := Nat.le_trans (List.length_filter_le _ _) (List.length_filter_le _ _)
theorem asofL_asc {L : List Rc} (hA : Asc L) (h : Int) : Asc (asofL L h) := List.Pairwise.filter _ (List.Pairwise.filter _ hA)
theorem asof_max {L : List Rc} (hv : ∀ r ∈ L, rcB r = true) : asofL L 10000000 = cntL L := by
  unfold asofL
  refine List.filter_eq_self.2 fun r hr => decide_eq_true ?_
  exact (rc_ok (hv r (List.mem_filter.1 hr).1)).hour.2
theorem cntL_congr {S T : List Rc} (h : ∀ r, r ∈ S ↔ r ∈ T) (r : Rc) : r ∈ cntL S ↔ r ∈ cntL T := by
  unfold cntL
  rw [List.mem_filter, List.mem_filter, cntB_perm h r, h r]
theorem asofL_congr {S T : List Rc} (h : ∀ r, r ∈ S ↔ r ∈ T) (z : Int) (r : Rc) : r ∈ asofL S z ↔ r ∈ asofL T z := by
  rw [mem_asofL, mem_asofL, cntL_congr h r]
theorem cntB_iff {L : List Rc} {r : Rc} : cntB L r = true ↔ Cnt L r := by
  exact @decide_eq_true_iff (Cnt L r) (Classical.propDecidable _)
theorem mem_cntL {L : List Rc} {r : Rc} : r ∈ cntL L ↔ r ∈ L ∧ Cnt L r := by
  unfold cntL
  rw [List.mem_filter, cntB_iff]
/-- Where nothing is forked, what counts counts among itself. -/
theorem unforked_good {L : List Rc} (hv : ∀ r ∈ L, rcB r = true) (hf : ∀ t, ¬ frk L t ≤ 1000000) : Good (cntL L) := by
  have hst : ∀ t n, n ≤ 1000000 → Straight L t n := fun t n hn => ((frk_is hv t).straight hv hn).2 (by have := hf t; omega)
  have key : ∀ r, Cnt L r → Cnt (cntL L) r := by
    intro r hc
    induction hc with
    | mk r hr hs ha hc ih =>
      have o := rc_ok (hv r hr)
      refine .mk r (mem_cntL.2 ⟨hr, .mk r hr hs ha hc⟩) (fun a ha b hb => hs a (mem_cntL.1 ha).1 b (mem_cntL.1 hb).1) (fun s h8 n h1 h2 _ => ?_) (fun q hq h8 h1 h2 _ => ?_)
      · have hss := hst s n (by have := o.seen s h8; omega)
        obtain ⟨q, hq, e1, e2⟩ := ha s h8 n h1 h2 hss
        exact ⟨q, mem_cntL.2 ⟨hq, hc q hq (by omega) (by omega) (by rw [e1, e2]; exact h2) (by rw [e1, e2]; exact hss)⟩, e1, e2⟩
      · have hqL := (mem_cntL.1 hq).1
        exact ih q hqL h8 h1 h2 (hst _ _ (rc_ok (hv q hqL)).num.2)
  exact fun r hr => key r (mem_cntL.1 hr).2
theorem Good.cntL {S : List Rc} (hG : Good S) : cntL S = S := List.filter_eq_self.2 fun r hr => hG.cntB hr
theorem past_values {L : List Rc} (hG : Good (cntL L)) (s f : Int) : valuesP (cntL L) s f = valuesP L s f := by
  unfold valuesP
  rw [hG.cntL]
theorem past_signs {L : List Rc} (hG : Good (cntL L)) : signsP (cntL L) = signsP L := by
  unfold signsP
  rw [hG.cntL]
theorem past_disp {L : List Rc} (hG : Good (cntL L)) {D : List (Int × Int)} (h : DispIs (cntL L) D) : DispIs L D := ⟨h.1, fun c => by rw [h.2 c, past_values hG]⟩
theorem forksP_nil {L : List Rc} (hv : ∀ r ∈ L, rcB r = true) (h : forksP L = []) (t : Nat) : ¬ frk L t ≤ 1000000 := by
  intro hle
  have h8 : t < 8 := by
    obtain ⟨r, hr, -, -, e, -⟩ := (frk_is hv t).is hle
    rw [← e]
    exact (rc_ok (hv r hr)).tb.1
  have : ((t : Int) + 1, frk L t) ∈ forksP L := List.mem_map.2 ⟨t, List.mem_filter.2 ⟨List.mem_range.2 h8, decide_eq_true hle⟩, rfl⟩
  rw [h] at this
  cases this
end

section
open Go.RowKit Go.Shelf

/-- What AsOf leaves. -/
def AsPost (w : World) (S : List Rc) (z : Int) (e : Ending) (w' : World) : Prop :=
  ∃ B m T, e = .returned (.tuple #[.pointer (some ⟨B, 0, none⟩), .int .i64 0]) ∧ BkAt w' B m T ∧ (∀ r, r ∈ T ↔ r ∈ asofL S z) ∧ T.length ≤ S.length ∧ w.heap.size ≤ m ∧ Below w.heap.size w w'
/-- How far it has come. -/
structure AsI (w0 : World) (C : List Rc) (z : Int) (B m : Nat) (A : Option Addr) (k : Nat) (w : World) : Prop where
  bk : BkAt w B m ((C.take k).filter fun r => decide (r.hour ≤ z))
  rd : Rd w A (recs C)
  fr : w0.heap.size ≤ m
  b : Below w0.heap.size w0 w
theorem AsI.below {w0 w w' : World} {C : List Rc} {z : Int} {B m k : Nat} {A : Option Addr} (h : AsI w0 C z B m A k w) (hb : Below w.heap.size w w') : AsI w0 C z B m A k w' :=
  ⟨h.bk.below' hb, h.rd.below hb, h.fr, h.b.trans (hb.mono h.b.size)⟩
theorem AsI.yes {w0 w w' : World} {C : List Rc} {z : Int} {B m k : Nat} {A : Option Addr} {x : Rc} (h : AsI w0 C z B m A k w) (hk : k < C.length) (hx : C[k] = x) (hz : x.hour ≤ z) (hv : rcB x = true) (hn : C.Nodup)
    (hm : GMap recK w' m (putE (setE ((C.take k).filter fun r => decide (r.hour ≤ z))) x (.bool true))) (hg : w.grownBy w' (some m)) : AsI w0 C z B m A (k + 1) w' := by
  have hni : x ∉ (C.take k).filter fun r => decide (r.hour ≤ z) := fun hm => by
    obtain ⟨j, hj, e⟩ := List.getElem_of_mem (List.mem_filter.1 hm).1
    rw [List.length_take] at hj
    rw [List.getElem_take, ← hx] at e
    have := (List.getElem_inj hn).1 e
    omega
  refine ⟨?_, rd_noNum h.rd (recs_nums C) h.bk.noNum hg, h.fr, h.b.grown hg h.b.size (fun j e => by cases e; exact h.fr)⟩
  rw [filter_take_yes (p := fun r : Rc => decide (r.hour ≤ z)) hk hx (decide_eq_true hz)]
  exact h.bk.added hm hg hv hni
theorem AsI.no {w0 w : World} {C : List Rc} {z : Int} {B m k : Nat} {A : Option Addr} {x : Rc} (h : AsI w0 C z B m A k w) (hk : k < C.length) (hx : C[k] = x) (hz : ¬ x.hour ≤ z) : AsI w0 C z B m A (k + 1) w :=
  ⟨by rw [filter_take_no (p := fun r : Rc => decide (r.hour ≤ z)) hk hx (decide_eq_false hz)]; exact h.bk, h.rd, h.fr, h.b⟩

set_option maxHeartbeats 4000000 in
set_option maxRecDepth 100000 in
theorem asofNo_calls (z : Int) (hz : btw 0 z 10000000 = false) {B m : Nat} {S : List Rc} (w : World) (h : BkAt w B m S) :
    Calls Tryz.prog 9 #[.pointer (some ⟨B, 0, none⟩), .int .i64 z] w fun e w' => e = .returned (.tuple #[.pointer none, .int .i64 2]) ∧ w = w' := by
  have HK := hid h
  clear h
  go_enter Tryz.func9, Tryz.ntmps9
  go_wp2_with (first | (go_at_call 56; refine (none_calls _ (unhid HK)).mono ?_; rintro e w' ⟨rfl, rfl⟩) | (go_at_call 57; refine (within_calls _ _ _ _).mono ?_; rintro e w' ⟨rfl, rfl⟩))
  go_ret2
  exact ⟨rfl, rfl⟩

set_option maxHeartbeats 4000000 in
set_option maxRecDepth 100000 in
theorem asof_calls (z : Int) (hz : btw 0 z 10000000 = true) {B m : Nat} {S : List Rc} (w : World) (h : BkAt w B m S) (hS : S.length ≤ 1000000) :
    Calls Tryz.prog 9 #[.pointer (some ⟨B, 0, none⟩), .int .i64 z] w fun e w' => AsPost w S z e w' := by
  have HK := hid h
  have HSL := hid hS
  have HV := hid h.v
  clear h hS
  go_enter Tryz.func9, Tryz.ntmps9
  go_upto_region 3 with (first | (go_at_call 56; refine (none_calls _ (unhid HK)).mono ?_; rintro e w' ⟨rfl, rfl⟩) | (go_at_call 57; refine (within_calls _ _ _ _).mono ?_; rintro e w' ⟨rfl, rfl⟩))
  clear hz
  go_wp2_with fail
  refine (bookNew_calls w).mono ?_
  rintro e w1 ⟨rfl, hk1, hb1⟩
  have HK := hid ((unhid HK).below' hb1)
  obtain ⟨B1, hB1⟩ : ∃ B1, B1 = w.heap.size + 1 := ⟨_, rfl⟩
  obtain ⟨m1, hm1⟩ : ∃ m1, m1 = w.heap.size := ⟨_, rfl⟩
  rw [← hB1] at hk1 ⊢
  rw [← hm1] at hk1
  have HK1 := hid hk1
  have HB := hid hb1
  have HFR := hid (show w.heap.size ≤ m1 from Nat.le_of_eq hm1.symm)
  clear hk1 hb1 hB1 hm1
  go_wp2_with fail
  refine (split_calls w1 (unhid HK) (unhid HSL)).mono ?_
  rintro e w2 ⟨v, u, L, rfl, hp, hA, hv, -, -, hb2⟩
  obtain ⟨A, c, rfl, hrd, -⟩ := own_slice hv
  have HI0 := hid (⟨by simpa using (unhid HK1).below' hb2, hrd, unhid HFR, (unhid HB).trans (hb2.mono (unhid HB).size)⟩ : AsI w (cntL L) z B1 m1 A 0 w2)
  have HCV := hid (show ∀ r ∈ cntL L, rcB r = true from fun r hr => unhid HV r (hp.mem_iff.1 (List.mem_filter.1 hr).1))
  have HCN := hid (show (cntL L).Nodup from hA.nodup.filter _)
  have HMM := hid (show ∀ r, (r ∈ (cntL L).filter fun r => decide (r.hour ≤ z)) ↔ r ∈ asofL S z from fun r => asofL_congr (fun r => hp.mem_iff) z r)
  have HCL := hid (show (cntL L).length ≤ S.length from Nat.le_trans (List.length_filter_le _ _) (Nat.le_of_eq hp.length_eq))
  clear hp hA hv hrd hb2 HK1 HB HFR HK
  generalize cntL L = C at *
  have hCn : C.length ≤ 1000000 := Nat.le_trans (unhid HCL) (unhid HSL)
  go_upto_region 6 with (fail)
  go_loopw [26] (fun iv wr => ∃ k : Nat, k ≤ C.length ∧ iv = .int .i64 k ∧ AsI w C z B1 m1 A k wr) (fun iv _ => C.length - (intOf iv).toNat)
  case atStart => exact ⟨0, Nat.zero_le _, rfl, unhid HI0⟩
  case round =>
    clear HI0
    obtain ⟨k, hk, rfl, hi⟩ := hrel
    have HI := hid hi
    clear hi
    by_cases hlt : k < C.length
    · have hki : (k : Int) < (C.length : Int) := by omega
      obtain ⟨b, off, rfl, hbl, hc⟩ := (unhid HI).rd (recs_ne hlt)
      obtain ⟨x, hx⟩ : ∃ x, C[k] = x := ⟨_, rfl⟩
      obtain ⟨m0, m1', m2, m3, m4, m5, m6, m7, m8, m9, m10, m11, m12, m13⟩ := recs_cells hc hlt hx
      have HX := hid hx
      have HXV := hid ((unhid HCV) x (hx ▸ List.getElem_mem hlt))
      clear hx hc
      go_upto_region 8 with (fail)
      change Code.wp _ _ _ _ (wr.alloc (.cells (rcA x) 82))
      have hb0 := below_alloc wr (.cells (rcA x) 82)
      have HXA := hid (RcAt.new wr x)
      have HI := hid ((unhid HI).below hb0)
      clear m0 m1' m2 m3 m4 m5 m6 m7 m8 m9 m10 m11 m12 m13 hb0 hbl
      obtain ⟨X, hX⟩ : ∃ X, X = wr.heap.size := ⟨_, rfl⟩
      rw [← hX] at HXA ⊢
      clear hX
      generalize wr.alloc (.cells (rcA x) 82) = W1 at *
      obtain ⟨c0, c1, c2, c3, c4, c5⟩ := (unhid HXA).cells
      by_cases hz : x.hour ≤ z
      · have HZ := hid hz
        go_wp2_with fail
        obtain ⟨e0, e1, e2, e3, e4, e5, e6, e7⟩ := (unhid HXA).seen8
        have cb := (unhid HI).bk.cell
        refine wp_region_still_tail 5 (by kernel_rfl) (by kernel_rfl) ?_
        simp only [List.take_succ_cons, List.take_zero, List.drop_succ_cons, List.drop_zero]
        iterate 5 still_step
        refine wpStill_nil ?_
        change wpList _ _ _ _ _ W1.drew
        have HI := hid ((unhid HI).below (Below.drew (Below.refl W1.heap.size W1)))
        clear c0 c1 c2 c3 c4 c5 e0 e1 e2 e3 e4 e5 e6 e7 cb HXA
        generalize W1.drew = w3 at *
        go_wp2_with (at_mapUpdate; refine wpList_gput rfl _ _ _ 83 rfl 4 Tryz.underlying83 rfl (unhid HI).bk.m (by have h1 := List.length_filter_le (fun r : Rc => decide (r.hour ≤ z)) (C.take k); rw [List.length_take] at h1; simp only [setE, List.length_map, maxLen]; omega) x (rcW_of (unhid HXV)) rfl (.bool true) rfl ?_; intro w4 hm4 hg4; go_frame)
        have HN := hid ((unhid HI).yes hlt (unhid HX) (unhid HZ) (unhid HXV) (unhid HCN) hm4 hg4)
        clear hm4 hg4 hz
        go_wp2_with fail
        go_roundw
        case rel => exact ⟨k + 1, by omega, by go_num, unhid HN⟩
        case measure => simp [intOf]; omega
      · have HN := hid ((unhid HI).no hlt (unhid HX) hz)
        go_wp2_with fail
        go_roundw
        case rel => exact ⟨k + 1, by omega, by go_num, unhid HN⟩
        case measure => simp [intOf]; omega
    · obtain rfl : k = C.length := by omega
      have hbk := (unhid HI).bk
      rw [List.take_length] at hbk
      have HP := hid (show AsPost w S z (.returned (.tuple #[.pointer (some ⟨B1, 0, none⟩), .int .i64 0])) wr from ⟨B1, m1, _, rfl, hbk, unhid HMM, Nat.le_trans (List.length_filter_le _ _) (unhid HCL), (unhid HI).fr, (unhid HI).b⟩)
      clear hbk
      go_wp2_with fail
      go_ret2
      exact unhid HP

/-- What AsOf of the reference leaves. -/
def RAsPost (w : World) (L : List Rc) (z : Int) (e : Ending) (w' : World) : Prop := MadePost w (asofL L z) e w'
set_option maxHeartbeats 4000000 in
set_option maxRecDepth 100000 in
theorem rasof_calls (z : Int) {B : Nat} {L : List Rc} (w : World) (h : RbAt w B L) (hL : L.length ≤ 1000000) :
    Calls Tryz.prog 10 #[.pointer (some ⟨B, 0, none⟩), .int .i64 z] w fun e w' => RAsPost w L z e w' := by
  obtain ⟨i0, hi, hz0, hz1, hz2⟩ := info_parts info_rec
  have HC := hid (rcounting_calls w h hL)
  have HV := hid (show ∀ r ∈ asofL L z, rcB r = true from fun r hr => h.v r (asofL_mem hr))
  have HAS := hid (show setR (asofL L z) = asofL L z from asc_eq (asc_setR _) (asofL_asc h.asc z) (fun r => mem_setR))
  have HLL := hid (show (cntL L).length ≤ 1000000 from Nat.le_trans (List.length_filter_le _ _) hL)
  have HAL := hid (show (cntL L).filter (fun r => decide (r.hour ≤ z)) = asofL L z from rfl)
  clear h hL
  go_enter Tryz.func10, Tryz.ntmps10
  go_wp2_with fail
  refine (unhid HC).mono ?_
  rintro e w2 ⟨v, rfl, hrow, hb2⟩
  obtain ⟨A, c, rfl, hrd, -⟩ := own_slice hrow
  have HRD := hid hrd
  have HB2 := hid hb2
  clear hrow hrd hb2 HC
  generalize cntL L = C at *
  have hCn : C.length ≤ 1000000 := unhid HLL
  obtain ⟨pv, hpv⟩ : ∃ pv : Rc → Bool, pv = fun r => decide (r.hour ≤ z) := ⟨_, rfl⟩
  have HPV := hid hpv
  clear hpv
  go_upto_region 4 with (fail)
  go_loopw [7, 6] (fun iv v wr => ∃ k : Nat, k ≤ C.length ∧ iv = .int .i64 k ∧ FilI w2 C pv k v wr) (fun iv _ _ => C.length - (intOf iv).toNat)
  case atStart => exact ⟨0, Nat.zero_le _, rfl, World.ownsRow_nil _ _ _ _, Below.refl _ _⟩
  case round =>
    obtain ⟨k, hk, rfl, hsp⟩ := hrel
    have HSP := hid hsp
    clear hsp
    by_cases hlt : k < C.length
    · have hki : (k : Int) < (C.length : Int) := by omega
      obtain ⟨b, off, hAe, hbl, hc⟩ := ((unhid HRD).below (unhid HSP).b) (recs_ne hlt)
      subst hAe
      obtain ⟨x, hx⟩ : ∃ x, C[k]'hlt = x := ⟨_, rfl⟩
      have HX := hid hx
      obtain ⟨a0, a1, a2, a3, a4, a5, a6, a7, a8', a9, a10, a11, a12, a13⟩ := rec_at14 hc hlt hx
      clear hc hx
      by_cases hz : x.hour ≤ z
      · have HP := hid (show pv x = true from by rw [unhid HPV]; exact decide_eq_true hz)
        have hy := (unhid HSP).own
        have hlc : ((C.take k).filter pv).length ≤ 1000000 := Nat.le_trans (List.length_filter_le _ _) (by rw [List.length_take]; have := unhid HLL; omega)
        have hsz := (unhid HSP).b.size
        go_wp2_with (at_builtin; refine wpList_append_own_at _ rfl _ _ 22 rfl w2.heap.size 82 i0 (.agg (rcA rc0)) 14 112 Tryz.underlying22 hi hz0 hz1 hz2 rfl (by decide) _ _ _ rfl (hy.alloc _) ⟨wr.heap.size, 0, none⟩ 1 1 (rcC x) rfl rfl (rc_news wr x) (rcC_one1 x) (by unfold maxLen; omega) (by omega) (by simp; omega) ?_; intro v' w6 hown' hgrow hnil hat)
        have HN := hid (filI_yes (unhid HSP) hlt (unhid HX) (unhid HP) hown' hgrow)
        clear hy hlc hsz hown' hgrow hnil hat a0 a1 a2 a3 a4 a5 a6 a7 a8' a9 a10 a11 a12 a13 hz
        go_wp2_with fail
        go_roundw
        case rel => exact ⟨k + 1, by omega, by go_num, unhid HN⟩
        case measure => simp [intOf]; omega
      · have HP := hid (show pv x = false from by rw [unhid HPV]; exact decide_eq_false hz)
        have HN := hid (filI_no (unhid HSP) hlt (unhid HX) (unhid HP))
        go_wp2_with fail
        go_roundw
        case rel => exact ⟨k + 1, by omega, by go_num, unhid HN⟩
        case measure => simp [intOf]; omega
    · obtain rfl : k = C.length := by omega
      obtain ⟨hrow, hb⟩ := filI_end (unhid HSP)
      rw [unhid HPV, unhid HAL] at hrow
      obtain ⟨A3, c3, rfl, hrd3, -⟩ := own_slice hrow
      have HR3 := hid hrd3
      have HB3 := hid ((unhid HB2).trans (hb.mono (unhid HB2).size))
      have HLA := hid (show (asofL L z).length ≤ 1000000 from by rw [← unhid HAL]; exact Nat.le_trans (List.length_filter_le _ _) (unhid HLL))
      clear hrow hb hrd3
      go_wp2_with fail
      refine (rmade_calls (asofL L z) A3 c3 wr (unhid HR3) (unhid HV) (unhid HLA)).mono ?_
      rintro e w5 ⟨B5, rfl, hf5, hr5, hb5⟩
      rw [unhid HAS] at hr5
      have HP := hid (show RAsPost w L z (.returned (.pointer (some ⟨B5, 0, none⟩))) w5 from ⟨B5, rfl, Nat.le_trans (unhid HB3).size hf5, hr5, (unhid HB3).trans (hb5.mono (unhid HB3).size)⟩)
      clear hf5 hr5 hb5
      go_wp2_with fail
      go_ret
      exact unhid HP
end

section
open Go.RowKit Go.Shelf

theorem bk_as {w : World} {B m : Nat} {S T : List Rc} (h : BkAt w B m S) (hA : Asc T) (hm : ∀ r, r ∈ S ↔ r ∈ T) : BkAt w B m T :=
  h.perm ((List.perm_ext_iff_of_nodup (RSet.nodup h.m) hA.nodup).2 hm)
/-- A book, and the book of what counts in it; the signs. -/
structure PastI (w0 : World) (L : List Rc) (B m B5 m5 : Nat) (A : Option Addr) (w : World) : Prop where
  bk : BkAt w B m L
  al : BkAt w B5 m5 (cntL L)
  sg : Rd w A (ints (signsP L))
  b : Below w0.heap.size w0 w
theorem PastI.below {w0 w w' : World} {L : List Rc} {B m B5 m5 : Nat} {A : Option Addr} (h : PastI w0 L B m B5 m5 A w) (hb : Below w.heap.size w w') : PastI w0 L B m B5 m5 A w' :=
  ⟨h.bk.below' hb, h.al.below' hb, h.sg.below hb, h.b.trans (hb.mono h.b.size)⟩
theorem signsP_ok {L : List Rc} (hv : ∀ r ∈ L, rcB r = true) {s : Int} (hs : s ∈ signsP L) : btw 1 s 1000000000 = true := by
  unfold signsP at hs
  rw [mem_setI, List.mem_map] at hs
  obtain ⟨r, hr, rfl⟩ := hs
  exact btw_iff.2 (rc_ok (hv r (List.mem_filter.1 hr).1)).sign

set_option maxHeartbeats 8000000 in
set_option maxRecDepth 100000 in
theorem lpast_calls (l : List Rc) (A : Option Addr) (c : Nat) (z : Int) (w : World) (h : RecsIn w A l c) (hz : I64 z) :
    Calls Tryz.prog 3 #[.slice A l.length c, .int .i64 z] w fun e w' => e = .returned (.bool true) ∧ Below w.heap.size w w' := by
  have HRD := hid h.rd
  clear h
  go_enter Tryz.func3, Tryz.ntmps3
  by_cases hn : 20 < l.length
  · have hni : (20 : Int) < (l.length : Int) := by omega
    go_wp2_with fail
    refine (first_calls w).mono ?_
    rintro e w2 ⟨rfl, hb2⟩
    have HB := hid hb2
    clear hb2
    go_wp2_with fail
    go_ret
    exact ⟨rfl, unhid HB⟩
  · have hni : ¬ (20 : Int) < (l.length : Int) := by omega
    have HLL := hid (show l.length ≤ 1000 from by omega)
    go_wp2_with fail
    refine (made_calls l A c w (unhid HRD) (unhid HLL)).mono ?_
    rintro e W ⟨B, m, B2, S, L, rfl, ht⟩
    have HK := hid (bk_as ht.bk ht.rb.asc ht.same)
    have HR := hid ht.rb
    have HB0 := hid ht.b
    have HLE := hid (show L.length ≤ 1000 from by have := ht.lL; have := unhid HLL; omega)
    clear ht hn hni
    cases hzb : btw 0 z 10000000 with
    | false =>
      have hz2 : z < 0 ∨ 10000000 < z := by
        have h1 : ¬ (0 ≤ z ∧ z ≤ 10000000) := fun h => by
          rw [btw_iff.2 h] at hzb
          cases hzb
        omega
      have HZ := hid hzb
      clear hzb
      go_wp2_with fail
      refine (asofNo_calls z (unhid HZ) W (unhid HK)).mono ?_
      rintro e w1 ⟨rfl, rfl⟩
      rcases hz2 with hz2 | hz2
      · go_wp2_with fail
        refine (first_calls _).mono ?_
        rintro e w2 ⟨rfl, hb2⟩
        have HB := hid ((unhid HB0).trans (hb2.mono (unhid HB0).size))
        clear hb2
        go_wp2_with fail
        go_ret
        exact ⟨rfl, unhid HB⟩
      · have hz3 : ¬ z < 0 := by omega
        go_wp2_with fail
        refine (first_calls _).mono ?_
        rintro e w2 ⟨rfl, hb2⟩
        have HB := hid ((unhid HB0).trans (hb2.mono (unhid HB0).size))
        clear hb2
        go_wp2_with fail
        go_ret
        exact ⟨rfl, unhid HB⟩
    | true =>
      have hz3 : ¬ z < 0 := by have := btw_iff.1 hzb; omega
      have hz4 : ¬ 10000000 < z := by have := btw_iff.1 hzb; omega
      have HZ := hid hzb
      clear hzb
      go_wp2_with fail
      refine (asof_calls z (unhid HZ) W (unhid HK) (by have := unhid HLE; omega)).mono ?_
      rintro e W1 ⟨B3, m3, T3, rfl, hk3, hm3, -, -, hb3⟩
      have HK3 := hid (bk_as hk3 (asofL_asc (unhid HR).asc z) hm3)
      have HK := hid ((unhid HK).below' hb3)
      have HR := hid ((unhid HR).below hb3)
      have HB0 := hid ((unhid HB0).trans (hb3.mono (unhid HB0).size))
      clear hk3 hm3 hb3
      go_wp2_with fail
      refine (rasof_calls z W1 (unhid HR) (by have := unhid HLE; omega)).mono ?_
      rintro e W2 ⟨B4, rfl, hf4, hr4, hb4⟩
      have HR4 := hid hr4
      have HK3 := hid ((unhid HK3).below' hb4)
      have HK := hid ((unhid HK).below' hb4)
      have HR := hid ((unhid HR).below hb4)
      have HB0 := hid ((unhid HB0).trans (hb4.mono (unhid HB0).size))
      have HLA := hid (show (asofL L z).length ≤ 1000 from Nat.le_trans (asofL_len L z) (unhid HLE))
      obtain ⟨A1, c1, A2, c2, hrk, hcap⟩ := hr4.b
      have HRK := hid hrk
      clear hf4 hr4 hb4 hrk hcap
      go_upto_region 10 with (fail)
      have HSF := hid (show ∀ w', Below W2.heap.size W2 w' → w'.cell? ⟨B4, 0, none⟩ = some (.slice A1 (asofL L z).length c1) from fun w' hb => ((unhid HRK).below hb).cell0)
      refine wp_region_noPanic ?_
      refine wp_region_E (S := fun w' => w'.cell? ⟨B4, 0, none⟩ = some (.slice A1 (asofL L z).length c1)) 19 20 rfl (by kernel_rfl) (by kernel_rfl) ((unhid HSF) _ (Below.drew (Below.refl _ _))) ?_
      intro hSE
      have HBe := hid (Below.drew (Below.refl W2.heap.size W2))
      generalize W2.drew = Wd at *
      (refine WE_take (i := 0) (v := ?_) rfl (by kernel_rfl) (by decide) (by kernel_rfl) (by kernel_rfl) (fun _ _ _ h => h) (by rfl) hSE ?_ ?_; rotate_left; (focus (intro w hSw; (try dsimp only at hSw); go_simp; (try with_reducible rfl))); simp only [Act.put, List.setIfInBounds_toArray, List.set_cons_zero, List.set_cons_succ])
      (refine WE_take (i := 1) (v := ?_) rfl (by kernel_rfl) (by decide) (by kernel_rfl) (by kernel_rfl) (fun _ _ _ h => h) (by rfl) hSE ?_ ?_; rotate_left; (focus (intro w hSw; (try dsimp only at hSw); go_simp; (try with_reducible rfl))); simp only [Act.put, List.setIfInBounds_toArray, List.set_cons_zero, List.set_cons_succ])
      (refine WE_take (i := 2) (v := ?_) rfl (by kernel_rfl) (by decide) (by kernel_rfl) (by kernel_rfl) (fun _ _ _ h => h) (by rfl) hSE ?_ ?_; rotate_left; (focus (intro w hSw; (try dsimp only at hSw); go_simp; (try with_reducible rfl))); simp only [Act.put, List.setIfInBounds_toArray, List.set_cons_zero, List.set_cons_succ])
      (refine WE_take (i := 3) (v := ?_) rfl (by kernel_rfl) (by decide) (by kernel_rfl) (by kernel_rfl) (fun _ _ _ h => h) (by rfl) hSE ?_ ?_; rotate_left; (focus (intro w hSw; (try dsimp only at hSw); go_simp; (try with_reducible rfl))); simp only [Act.put, List.setIfInBounds_toArray, List.set_cons_zero, List.set_cons_succ])
      (refine WE_take (i := 5) (v := ?_) rfl (by kernel_rfl) (by decide) (by kernel_rfl) (by kernel_rfl) (fun _ _ _ h => h) (by rfl) hSE ?_ ?_; rotate_left; (focus (intro w hSw; (try dsimp only at hSw); go_simp; (try with_reducible rfl))); simp only [Act.put, List.setIfInBounds_toArray, List.set_cons_zero, List.set_cons_succ])
      (refine WE_take (i := 6) (v := ?_) rfl (by kernel_rfl) (by decide) (by kernel_rfl) (by kernel_rfl) (fun _ _ _ h => h) (by rfl) hSE ?_ ?_; rotate_left; (focus (intro w hSw; (try dsimp only at hSw); go_simp; (try with_reducible rfl))); simp only [Act.put, List.setIfInBounds_toArray, List.set_cons_zero, List.set_cons_succ])
      (refine WE_take (i := 7) (v := ?_) rfl (by kernel_rfl) (by decide) (by kernel_rfl) (by kernel_rfl) (fun _ _ _ h => h) (by rfl) hSE ?_ ?_; rotate_left; (focus (intro w hSw; (try dsimp only at hSw); go_simp; (try with_reducible rfl))); simp only [Act.put, List.setIfInBounds_toArray, List.set_cons_zero, List.set_cons_succ])
      (refine WE_take (i := 8) (v := ?_) rfl (by kernel_rfl) (by decide) (by kernel_rfl) (by kernel_rfl) (fun _ _ _ h => h) (by rfl) hSE ?_ ?_; rotate_left; (focus (intro w hSw; (try dsimp only at hSw); go_simp; (try with_reducible rfl))); simp only [Act.put, List.setIfInBounds_toArray, List.set_cons_zero, List.set_cons_succ])
      (refine WE_one (i := 4) rfl (by decide) (by kernel_rfl) ?_; intro K hK)
      go_simp
      go_at_call 12
      refine (records_calls Wd ((unhid HK3).below' (unhid HBe)) (by have := unhid HLA; omega)).mono ?_
      rintro e w1 ⟨v, L2, rfl, hp, hA2, hrow, hb⟩
      obtain rfl : L2 = asofL L z := asc_eq hA2 (unhid HR4).asc (fun r => hp.mem_iff)
      obtain ⟨Av, cv, rfl, hrd, -⟩ := own_slice hrow
      have HR1 := hid hrd
      have HBe := hid ((unhid HBe).trans (hb.mono (unhid HBe).size))
      clear hp hA2 hrow hb hrd
      (refine hK.out _ _ ((unhid HSF) _ (unhid HBe)) ?_); clear hSE hK K; intro hSE; (try simp only [Act.put, List.setIfInBounds_toArray, List.set_cons_zero, List.set_cons_succ])
      have HR2 := hid ((unhid HRK).below (unhid HBe)).l
      (refine WE_one (i := 9) rfl (by decide) (by kernel_rfl) ?_; intro K hK)
      go_simp
      go_at_call 11
      refine (sameRecords_calls (asofL L z) (asofL L z) Av A1 cv c1 w1 (unhid HR1) (unhid HR2) (by have := unhid HLA; omega)).mono ?_
      rintro e w2 ⟨rfl, hb⟩
      rw [decide_eq_true (rfl : asofL L z = asofL L z)]
      have HBe := hid ((unhid HBe).trans (hb.mono (unhid HBe).size))
      clear hb HR1 HR2
      (refine hK.out _ _ ((unhid HSF) _ (unhid HBe)) ?_); clear hSE hK K; intro hSE; (try simp only [Act.put, List.setIfInBounds_toArray, List.set_cons_zero, List.set_cons_succ])
      (refine WE_take (i := 10) (v := ?_) rfl (by kernel_rfl) (by decide) (by kernel_rfl) (by kernel_rfl) (fun _ _ _ h => h) (by rfl) hSE ?_ ?_; rotate_left; (focus (intro w hSw; (try dsimp only at hSw); go_simp; (try with_reducible rfl))); simp only [Act.put, List.setIfInBounds_toArray, List.set_cons_zero, List.set_cons_succ])
      (refine WE_take (i := 11) (v := ?_) rfl (by kernel_rfl) (by decide) (by kernel_rfl) (by kernel_rfl) (fun _ _ _ h => h) (by rfl) hSE ?_ ?_; rotate_left; (focus (intro w hSw; (try dsimp only at hSw); go_simp; (try with_reducible rfl))); simp only [Act.put, List.setIfInBounds_toArray, List.set_cons_zero, List.set_cons_succ])
      (refine WE_take (i := 12) (v := ?_) rfl (by kernel_rfl) (by decide) (by kernel_rfl) (by kernel_rfl) (fun _ _ _ h => h) (by rfl) hSE ?_ ?_; rotate_left; (focus (intro w hSw; (try dsimp only at hSw); go_simp; (try with_reducible rfl))); simp only [Act.put, List.setIfInBounds_toArray, List.set_cons_zero, List.set_cons_succ])
      (refine WE_take (i := 13) (v := ?_) rfl (by kernel_rfl) (by decide) (by kernel_rfl) (by kernel_rfl) (fun _ _ _ h => h) (by rfl) hSE ?_ ?_; rotate_left; (focus (intro w hSw; (try dsimp only at hSw); go_simp; (try with_reducible rfl))); simp only [Act.put, List.setIfInBounds_toArray, List.set_cons_zero, List.set_cons_succ])
      (refine WE_take (i := 15) (v := ?_) rfl (by kernel_rfl) (by decide) (by kernel_rfl) (by kernel_rfl) (fun _ _ _ h => h) (by rfl) hSE ?_ ?_; rotate_left; (focus (intro w hSw; (try dsimp only at hSw); go_simp; (try with_reducible rfl))); simp only [Act.put, List.setIfInBounds_toArray, List.set_cons_zero, List.set_cons_succ])
      (refine WE_one (i := 14) rfl (by decide) (by kernel_rfl) ?_; intro K hK)
      go_simp
      go_at_call 13
      refine (pwaiting_calls w2 ((unhid HK3).below' (unhid HBe)) (by have := unhid HLA; omega) (unhid HR4).asc (fun _ => Iff.rfl)).mono ?_
      rintro e w3 ⟨v, rfl, hrow, hb⟩
      obtain ⟨Aw, cw, rfl, hrd, -⟩ := own_slice hrow
      have HR1 := hid hrd
      have HBe := hid ((unhid HBe).trans (hb.mono (unhid HBe).size))
      clear hrow hb hrd
      (refine hK.out _ _ ((unhid HSF) _ (unhid HBe)) ?_); clear hSE hK K; intro hSE; (try simp only [Act.put, List.setIfInBounds_toArray, List.set_cons_zero, List.set_cons_succ])
      (refine WE_one (i := 16) rfl (by decide) (by kernel_rfl) ?_; intro K hK)
      go_simp
      go_at_call 14
      refine (rwaiting_calls w3 ((unhid HR4).below (unhid HBe)) (by have := unhid HLA; omega)).mono ?_
      rintro e w4 ⟨v, rfl, hrow, hb⟩
      obtain ⟨Ax, cx, rfl, hrd, -⟩ := own_slice hrow
      have HR2 := hid hrd
      have HR1 := hid ((unhid HR1).below hb)
      have HBe := hid ((unhid HBe).trans (hb.mono (unhid HBe).size))
      clear hrow hb hrd
      (refine hK.out _ _ ((unhid HSF) _ (unhid HBe)) ?_); clear hSE hK K; intro hSE; (try simp only [Act.put, List.setIfInBounds_toArray, List.set_cons_zero, List.set_cons_succ])
      (refine WE_one (i := 17) rfl (by decide) (by kernel_rfl) ?_; intro K hK)
      go_simp
      go_at_call 11
      refine (sameRecords_calls (waitL (asofL L z)) (waitL (asofL L z)) Aw Ax cw cx w4 (unhid HR1) (unhid HR2) (Nat.le_trans (List.length_filter_le _ _) (by have := unhid HLA; omega))).mono ?_
      rintro e w5 ⟨rfl, hb⟩
      rw [decide_eq_true (rfl : waitL (asofL L z) = waitL (asofL L z))]
      have HBe := hid ((unhid HBe).trans (hb.mono (unhid HBe).size))
      clear hb HR1 HR2
      (refine hK.out _ _ ((unhid HSF) _ (unhid HBe)) ?_); clear hSE hK K; intro hSE; (try simp only [Act.put, List.setIfInBounds_toArray, List.set_cons_zero, List.set_cons_succ])
      (refine WE_take (i := 18) (v := ?_) rfl (by kernel_rfl) (by decide) (by kernel_rfl) (by kernel_rfl) (fun _ _ _ h => h) (by rfl) hSE ?_ ?_; rotate_left; (focus (intro w hSw; (try dsimp only at hSw); go_simp; (try with_reducible rfl))); simp only [Act.put, List.setIfInBounds_toArray, List.set_cons_zero, List.set_cons_succ])
      (refine WE_last rfl (by kernel_rfl) (by kernel_rfl) (by kernel_rfl) ?_; intro K hK; go_simp; refine hK.out _ _ (NoPanic.normal ?_); clear hK K)
      have HK := hid ((unhid HK).below' (unhid HBe))
      have HR := hid ((unhid HR).below (unhid HBe))
      have HB0 := hid ((unhid HB0).trans ((unhid HBe).mono (unhid HB0).size))
      clear hSE HSF HBe HRK HR4 HK3 hz3 hz4
      have HRF := hid (rforks_calls w5 (unhid HR) (by have := unhid HLE; omega))
      go_wp2_with fail
      refine (unhid HRF).mono ?_
      rintro e w6 ⟨v, rfl, hrow, hb⟩
      obtain ⟨Af, cf, rfl, -, -⟩ := own_slice hrow
      have HK := hid ((unhid HK).below' hb)
      have HB0 := hid ((unhid HB0).trans (hb.mono (unhid HB0).size))
      clear hrow hb HRF
      by_cases hf : (forksP L).length = 0
      · have hf0 : ¬ (((forksP L).length : Nat) : Int) > 0 := by omega
        have HG := hid (unforked_good (unhid HK).v (forksP_nil (unhid HK).v (List.eq_nil_of_length_eq_zero hf)))
        have HCA := hid (show Asc (cntL L) from List.Pairwise.filter _ (unhid HR).asc)
        have HLC := hid (show (cntL L).length ≤ 1000 from Nat.le_trans (List.length_filter_le _ _) (unhid HLE))
        clear hf
        go_wp2_with fail
        clear hf0
        refine (asof_calls 10000000 (by decide) w6 (unhid HK) (by have := unhid HLE; omega)).mono ?_
        rintro e w7 ⟨B5, m5, T5, rfl, hk5, hm5, -, -, hb5⟩
        have HK5 := hid (bk_as hk5 (unhid HCA) (fun r => by rw [hm5 r, asof_max (unhid HK).v]))
        have HK := hid ((unhid HK).below' hb5)
        have HB0 := hid ((unhid HB0).trans (hb5.mono (unhid HB0).size))
        clear hk5 hm5 hb5
        go_wp2_with fail
        refine (pwaiting_calls w7 (unhid HK5) (by have := unhid HLC; omega) (unhid HCA) (fun _ => Iff.rfl)).mono ?_
        rintro e w8 ⟨v, rfl, hrow, hb⟩
        rw [(unhid HG).wait] at hrow
        obtain ⟨Aw, cw, rfl, -, -⟩ := own_slice hrow
        have HK := hid ((unhid HK).below' hb)
        have HK5 := hid ((unhid HK5).below' hb)
        have HB0 := hid ((unhid HB0).trans (hb.mono (unhid HB0).size))
        clear hrow hb
        go_wp2_with fail
        refine (disputes_calls w8 (unhid HK5) (by have := unhid HLC; omega) (unhid HCA) (fun _ => Iff.rfl)).mono ?_
        rintro e w9 ⟨v, D1, rfl, hD1, hl1, hrow, hb⟩
        obtain ⟨Ad, cd, rfl, hrd, -⟩ := own_slice hrow
        have HRD1 := hid hrd
        have HD1 := hid (past_disp (unhid HG) hD1)
        have HDL := hid (show D1.length ≤ 1000000 from by have := unhid HLC; omega)
        have HK := hid ((unhid HK).below' hb)
        have HK5 := hid ((unhid HK5).below' hb)
        have HB0 := hid ((unhid HB0).trans (hb.mono (unhid HB0).size))
        clear hrow hb hrd hD1 hl1
        go_wp2_with fail
        refine (disputes_calls w9 (unhid HK) (by have := unhid HLE; omega) (unhid HR).asc (fun _ => Iff.rfl)).mono ?_
        rintro e w10 ⟨v, D2, rfl, hD2, hl2, hrow, hb⟩
        obtain rfl : D1 = D2 := dispIs_eq (unhid HD1) hD2
        obtain ⟨Ae, ce, rfl, hrd, -⟩ := own_slice hrow
        have HRD2 := hid hrd
        have HRD1 := hid ((unhid HRD1).below hb)
        have HK := hid ((unhid HK).below' hb)
        have HK5 := hid ((unhid HK5).below' hb)
        have HB0 := hid ((unhid HB0).trans (hb.mono (unhid HB0).size))
        clear hrow hb hrd hD2 hl2
        go_wp2_with fail
        refine (sameCases_calls D1 D1 Ad Ae cd ce w10 (unhid HRD1) (unhid HRD2) (unhid HDL)).mono ?_
        rintro e w11 ⟨rfl, hb⟩
        rw [decide_eq_true (rfl : D1 = D1)]
        have HK := hid ((unhid HK).below' hb)
        have HK5 := hid ((unhid HK5).below' hb)
        have HB0 := hid ((unhid HB0).trans (hb.mono (unhid HB0).size))
        clear hb HRD1 HRD2
        go_wp2_with fail
        refine (signs_calls w11 (unhid HK5) (by have := unhid HLC; omega) (unhid HCA) (fun _ => Iff.rfl)).mono ?_
        rintro e w12 ⟨v, rfl, hl1, hrow, hb⟩
        rw [past_signs (unhid HG)] at hl1 hrow
        obtain ⟨As, cs, rfl, hrd, -⟩ := own_slice hrow
        have HRS1 := hid hrd
        have HSL := hid (show (signsP L).length ≤ 1000000 from by have := unhid HLC; omega)
        have HK := hid ((unhid HK).below' hb)
        have HK5 := hid ((unhid HK5).below' hb)
        have HB0 := hid ((unhid HB0).trans (hb.mono (unhid HB0).size))
        clear hrow hb hrd hl1
        go_wp2_with fail
        refine (signs_calls w12 (unhid HK) (by have := unhid HLE; omega) (unhid HR).asc (fun _ => Iff.rfl)).mono ?_
        rintro e w13 ⟨v, rfl, -, hrow, hb⟩
        obtain ⟨At, ct, rfl, hrd, -⟩ := own_slice hrow
        have HRS2 := hid hrd
        have HRS1 := hid ((unhid HRS1).below hb)
        have HK := hid ((unhid HK).below' hb)
        have HK5 := hid ((unhid HK5).below' hb)
        have HB0 := hid ((unhid HB0).trans (hb.mono (unhid HB0).size))
        clear hrow hb hrd
        go_wp2_with fail
        refine (sameInts_calls (signsP L) (signsP L) As At cs ct w13 (unhid HRS1) (unhid HRS2) (unhid HSL)).mono ?_
        rintro e w14 ⟨rfl, hb⟩
        rw [decide_eq_true (rfl : signsP L = signsP L)]
        have HK := hid ((unhid HK).below' hb)
        have HK5 := hid ((unhid HK5).below' hb)
        have HB0 := hid ((unhid HB0).trans (hb.mono (unhid HB0).size))
        clear hb HRS1 HRS2
        go_wp2_with fail
        refine (signs_calls w14 (unhid HK) (by have := unhid HLE; omega) (unhid HR).asc (fun _ => Iff.rfl)).mono ?_
        rintro e w15 ⟨v, rfl, -, hrow, hb⟩
        obtain ⟨Au, cu, rfl, hrd, -⟩ := own_slice hrow
        have HI0 := hid (⟨(unhid HK).below' hb, (unhid HK5).below' hb, hrd, (unhid HB0).trans (hb.mono (unhid HB0).size)⟩ : PastI w L B m B5 m5 Au w15)
        have HSV := hid (fun s (hs : s ∈ signsP L) => signsP_ok (unhid HK).v hs)
        have HVAL := hid (fun s f => past_values (unhid HG) s f)
        clear hrow hb hrd HK HK5 HB0 HG
        obtain ⟨sg, hsg⟩ : ∃ sg, sg = signsP L := ⟨_, rfl⟩
        have HSG := hid hsg
        rw [← hsg] at HSL HSV ⊢
        clear hsg
        go_upto_region 19 with (fail)
        go_loopw [13] (fun iv wr => ∃ k : Nat, k ≤ sg.length ∧ iv = .int .i64 k ∧ PastI w L B m B5 m5 Au wr) (fun iv _ => sg.length - (intOf iv).toNat)
        case atStart => exact ⟨0, Nat.zero_le _, rfl, unhid HI0⟩
        case round =>
          clear HI0
          obtain ⟨k, hk, rfl, hi⟩ := hrel
          have HI := hid hi
          clear hi
          by_cases hlt : k < sg.length
          · have hki : (k : Int) < (sg.length : Int) := by omega
            by_cases h5 : k < 5
            · have h5i : (k : Int) < 5 := by omega
              obtain ⟨s, hs⟩ : ∃ s, sg[k] = s := ⟨_, rfl⟩
              have HSB := hid ((unhid HSV) s (hs ▸ List.getElem_mem hlt))
              have HCK := hid (show ints (signsP L) ≠ [] ∧ (ints (signsP L))[k]? = some (.int .i64 s) from by
                rw [← unhid HSG]
                refine ⟨fun e => ?_, by simp [ints, List.getElem?_eq_getElem hlt, hs]⟩
                have := congrArg List.length e
                simp [ints] at this
                subst this
                simp at hlt)
              clear hs
              go_upto_region 22 with (fail)
              go_loopw [14] (fun iv wr => ∃ f : Nat, 1 ≤ f ∧ f ≤ 7 ∧ iv = .int .i64 f ∧ PastI w L B m B5 m5 Au wr) (fun iv _ => 7 - (intOf iv).toNat)
              case atStart => exact ⟨1, Nat.le_refl _, by omega, rfl, unhid HI⟩
              case round =>
                clear HI
                obtain ⟨f, hf1, hf2, rfl, hi⟩ := hrel
                have HI := hid hi
                clear hi
                by_cases hf7 : f < 7
                · have hfi : (f : Int) ≤ 6 := by omega
                  obtain ⟨b, off, rfl, hbl, hc⟩ := (unhid HI).sg (unhid HCK).1
                  have hck := hc k _ (unhid HCK).2
                  have HBV := hid (show (btw 1 s 1000000000 && btw 1 (f : Int) 6) = true from by rw [unhid HSB, btw_iff.2 (by omega)]; rfl)
                  have HBL := hid hbl
                  have HKC := hid hc
                  clear hc hbl
                  go_wp2_with fail
                  refine (pvalues_calls s (f : Int) wr (unhid HI).bk (unhid HR).asc (by have := unhid HLE; omega)).mono ?_
                  rintro e w3 ⟨v, rfl, hrow, hb⟩
                  simp only [unhid HBV, if_true] at hrow ⊢
                  obtain ⟨Ax, cx, rfl, hrd, -⟩ := own_slice hrow
                  have HRX := hid hrd
                  have HI := hid ((unhid HI).below hb)
                  clear hrow hb hrd hck
                  have hck := (unhid HI).sg
                  obtain ⟨b', off', hAe, hbl, hc⟩ := hck (unhid HCK).1
                  cases hAe
                  have hck := hc k _ (unhid HCK).2
                  clear hc hbl
                  go_wp2_with fail
                  refine (pvalues_calls s (f : Int) w3 (unhid HI).al (unhid HCA) (by have := unhid HLC; omega)).mono ?_
                  rintro e w4 ⟨v, rfl, hrow, hb⟩
                  simp only [unhid HBV, if_true, unhid HVAL] at hrow ⊢
                  obtain ⟨Ay, cy, rfl, hrd, -⟩ := own_slice hrow
                  have HRY := hid hrd
                  have HRX := hid ((unhid HRX).below hb)
                  have HI := hid ((unhid HI).below hb)
                  have HVL := hid (show (valuesP L s f).length ≤ 1000000 from by
                    unfold valuesP valsP
                    refine Nat.le_trans (setI_len _) ?_
                    rw [List.length_map]
                    refine Nat.le_trans (List.length_filter_le _ _) (Nat.le_trans (List.length_filter_le _ _) ?_)
                    have := unhid HLC
                    omega)
                  clear hrow hb hrd hck
                  generalize valuesP L s f = vs at *
                  go_wp2_with fail
                  refine (sameInts_calls vs vs Ax Ay cx cy w4 (unhid HRX) (unhid HRY) (unhid HVL)).mono ?_
                  rintro e w5 ⟨rfl, hb⟩
                  rw [decide_eq_true (rfl : vs = vs)]
                  have HI := hid ((unhid HI).below hb)
                  clear hb
                  go_wp2_with fail
                  go_roundw
                  case rel => exact ⟨f + 1, by omega, by omega, by go_num, unhid HI⟩
                  case measure => simp [intOf]; omega
                · have hfi : ¬ (f : Int) ≤ 6 := by omega
                  go_wp2_with fail
                  go_roundw
                  case rel => exact ⟨k + 1, by omega, by go_num, unhid HI⟩
                  case measure => simp [intOf]; omega
            · have h5i : ¬ (k : Int) < 5 := by omega
              go_wp2_with fail
              refine (first_calls _).mono ?_
              rintro e w9 ⟨rfl, hb⟩
              have HB := hid ((unhid HI).b.trans (hb.mono (unhid HI).b.size))
              clear hb
              go_wp2_with fail
              go_ret
              exact ⟨rfl, unhid HB⟩
          · obtain rfl : k = sg.length := by omega
            go_wp2_with fail
            refine (first_calls _).mono ?_
            rintro e w9 ⟨rfl, hb⟩
            have HB := hid ((unhid HI).b.trans (hb.mono (unhid HI).b.size))
            clear hb
            go_wp2_with fail
            go_ret
            exact ⟨rfl, unhid HB⟩
      · have hf0 : (((forksP L).length : Nat) : Int) > 0 := by omega
        clear hf
        go_wp2_with fail
        refine (first_calls _).mono ?_
        rintro e w9 ⟨rfl, hb⟩
        have HB := hid ((unhid HB0).trans (hb.mono (unhid HB0).size))
        clear hb
        go_wp2_with fail
        go_ret
        exact ⟨rfl, unhid HB⟩
end

end Go.Proofs.YtegghimjmbgghaaGreat
