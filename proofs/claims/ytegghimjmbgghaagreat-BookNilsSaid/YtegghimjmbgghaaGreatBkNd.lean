/-
  Disputes and Signs where the cases are known by their contract alone; of no book.
-/
import Derived.Test.YtegghimjmbgghaaGreatBkNi
set_option linter.unusedSimpArgs false
set_option linter.unusedVariables false
namespace Go.Proofs.YtegghimjmbgghaaGreat
open Go.RowKit Go.Shelf

set_option maxHeartbeats 8000000 in
set_option maxRecDepth 100000 in
theorem disputes_of (p : Option Addr) {S L : List Rc} (w : World) (hcs : Calls Tryz.prog 64 #[.pointer p] w fun e w' => CasesPost w S e w') (hv : ∀ r ∈ S, rcB r = true) (hS : S.length ≤ 100000) (hA : Asc L) (hm : ∀ r, r ∈ S ↔ r ∈ L) :
    Calls Tryz.prog 17 #[.pointer p] w fun e w' => DispPost w L e w' := by
  obtain ⟨i0, hi, hz0, hz1, hz2⟩ := info_parts info_case
  have HC := hid hcs
  have HSL := hid hS
  have HA := hid hA
  have HM := hid hm
  have HV := hid (show ∀ r ∈ L, rcB r = true from fun r hr => hv r ((hm r).2 hr))
  clear hcs hv hS hA hm
  go_enter Tryz.func17, Tryz.ntmps17
  go_wp2_with fail
  refine (unhid HC).mono ?_
  rintro e w2 ⟨mm, E, L2, rfl, hE1, hE2, hp, hA2, hmm, hb2⟩
  obtain rfl : L2 = L := asc_eq hA2 (unhid HA) (fun r => by rw [hp.mem_iff, unhid HM r])
  have HE1 := hid hE1
  have HE2 := hid hE2
  have HB2 := hid hb2
  have HLN := hid (show E.length ≤ L2.length ∧ L2.length ≤ 100000 from ⟨Nat.le_trans hE2.len (List.length_filter_le _ _), by rw [hp.length_eq]; exact unhid HSL⟩)
  have HCV := hid (show ∀ r ∈ cntL L2, rcB r = true from fun r hr => unhid HV r (List.mem_filter.1 hr).1)
  clear hE1 hE2 hp hA2 hmm hb2 HC
  go_wp2_with (first | (at_range; refine wpList_grange rfl _ 117 rfl 22 Tryz.underlying117 rfl (unhid HE1) ?_; intro w0 hr0 hg0 hs0) | go_in)
  go_frame
  obtain ⟨N, hN⟩ : ∃ N, N = w2.heap.size := ⟨_, rfl⟩
  rw [← hN] at hr0 ⊢
  have HI0 := hid (⟨hr0, World.ownsRow_nil _ _ _ _, List.nodup_nil, fun c => ⟨fun h => by simp at h, fun h => absurd h.1 h.2.1⟩, by simp, (below_of_grown hg0).mono (Nat.le_of_eq hN), hN, by have := (unhid HE1).lt; omega, by omega⟩ : DpI w2 mm N E (cntL L2) E (.slice none 0 0) [] w0)
  clear hr0 hg0 hs0 hN
  go_loopw [3] (fun ov wr => ∃ (todo : List ((Int × Int) × Value)) (D : List (Int × Int)), DpI w2 mm N E (cntL L2) todo ov D wr) (fun _ wr => wr.rangeLeft mm N)
  case atStart => exact ⟨_, _, unhid HI0⟩
  case round =>
    clear HI0
    obtain ⟨todo, D, hi1⟩ := hrel
    have HI := hid hi1
    clear hi1
    go_wp2_with (first | (at_next; refine wpList_gnext rfl _ rfl rfl (unhid HI).rng ?_ ?_) | go_in)
    · intro hnil
      subst hnil
      have HDM := hid (show ∀ c, c ∈ D ↔ 1 < (valuesP L2 c.1 c.2).length from fun c => by
        rw [(unhid HI).mem c]
        constructor
        · exact fun h => h.2.2
        · intro h
          refine ⟨?_, by simp [keysE], h⟩
          have hne : (cntL L2).filter (csB c.1 c.2) ≠ [] := fun e => by
            unfold valuesP at h
            rw [e] at h
            simp [valsP, setI] at h
          obtain ⟨r, hr⟩ := List.exists_mem_of_ne_nil _ hne
          obtain ⟨h1, h2⟩ := List.mem_filter.1 hr
          simp only [csB, Bool.and_eq_true, decide_eq_true_eq] at h2
          have := (unhid HE2).all r h1
          rwa [show (r.sign, r.fld) = c from Prod.ext h2.1 h2.2] at this)
      have HDB := hid (show ∀ c ∈ D, CbP c from fun c hc => by
        obtain ⟨v, hv⟩ := mem_keysE.1 ((unhid HI).mem c |>.1 hc).1
        obtain ⟨r, hr, e1, e2⟩ := (unhid HE2).is _ hv
        have o := rc_ok (unhid HCV r hr)
        have := o.sign
        have := o.fld
        unfold CbP
        dsimp only at e1 e2
        omega)
      have HDL := hid (show D.length ≤ L2.length from by have := (unhid HI).len; have := unhid HLN; omega)
      go_wp2_with fail
      refine (sortCase_calls D (unhid HDB) (unhid HI).nd _ (N + 1) wr (unhid HI).own (by have := unhid HDL; have := unhid HLN; omega)).mono ?_
      rintro e w5 ⟨rfl, M, hp, hA, hown, hg⟩
      have HP := hid (show DispPost w L2 (.returned u3) w5 from ⟨u3, M, rfl, ⟨hA, fun c => by rw [hp.mem_iff]; exact unhid HDM c⟩, by rw [hp.length_eq]; exact unhid HDL, own_base hown (by have h1 := (unhid HB2).size; have h2 := (unhid HI).e; omega),
        (unhid HB2).trans (((unhid HI).b.grown hg (by have := (unhid HI).lo; omega) (fun j hj => by have := own_block_lt (unhid HI).own hj; omega)).mono (by have h1 := (unhid HB2).size; have h2 := (unhid HI).e; omega))⟩)
      clear hp hA hown hg
      go_wp2_with fail
      go_ret
      exact unhid HP
    · intro x1 x2 xv w1 hx hrg1 hlt1 hg1 hs1 hen
      change (Instr.entry (.pointer (some ⟨N, 0, none⟩))).run Tryz.prog w1 = .ok (.tuple #[.agg #[.int .i64 x1, .int .i64 x2], xv]) w1 at hen
      have hxE := (unhid HI).rng.left.2 _ hx
      have hnx := (unhid HI).next hx hrg1 hg1
      have HMD := hid (mem_dp (unhid HI).mem hx hxE)
      have HJ := hid (⟨hrg1, hnx.1, hnx.2.1, (unhid HI).e, (unhid HI).lo.1, by have := (unhid HI).lo; omega⟩ : DpJ w2 mm N E (delE todo (x1, x2)) u3 D w1)
      have HLT := hid hlt1
      have HLEN := hid hnx.2.2
      have HND := hid (unhid HI).nd
      have hE2 := (unhid HE2).below (by rw [← (unhid HI).e]; exact hnx.2.1)
      have hrow := hE2.own _ hxE
      obtain ⟨Av, cv, hxv, hrd, -⟩ := own_slice hrow
      dsimp only at hxv hrd
      subst hxv
      have HRD := hid hrd
      have HFL := hid (show ((cntL L2).filter (csB x1 x2)).length ≤ 1000000 from Nat.le_trans (List.length_filter_le _ _) (Nat.le_trans (List.length_filter_le _ _) (by have := unhid HLN; omega)))
      have HFV := hid (show ∀ r ∈ (cntL L2).filter (csB x1 x2), rcB r = true from fun r hr => unhid HCV r (List.mem_filter.1 hr).1)
      clear hx hrg1 hlt1 hg1 hs1 hxE hnx hE2 hrow hrd HI
      go_upto_region 5 with (fail)
      change Code.wp _ _ _ _ (w1.alloc (.cells #[.int .i64 x1, .int .i64 x2] 116))
      have hb1 := below_alloc w1 (.cells #[.int .i64 x1, .int .i64 x2] 116)
      have hn1 := heap_alloc_new w1 (.cells #[.int .i64 x1, .int .i64 x2] 116)
      have hj := (unhid HJ).below hb1
      have HLT := hid (show (w1.alloc (.cells #[.int .i64 x1, .int .i64 x2] 116)).rangeLeft mm N < wr.rangeLeft mm N from by rw [hj.2]; exact unhid HLT)
      have HJ := hid hj.1
      have HRD := hid ((unhid HRD).below hb1)
      obtain ⟨X, hX⟩ : ∃ X, X = w1.heap.size := ⟨_, rfl⟩
      rw [← hX] at hn1 ⊢
      have HX := hid hn1
      clear hb1 hn1 hj hX hen
      generalize w1.alloc (.cells #[.int .i64 x1, .int .i64 x2] 116) = W1 at *
      go_wp2_with fail
      refine (values_calls ((cntL L2).filter (csB x1 x2)) (unhid HFV) Av cv W1 (unhid HRD) (unhid HFL)).mono ?_
      rintro e w3 ⟨v3, rfl, hown3, hb3⟩
      obtain ⟨A3, c3, rfl, -, -⟩ := own_slice hown3
      have hj := (unhid HJ).below hb3
      have HLT := hid (show w3.rangeLeft mm N < wr.rangeLeft mm N from by rw [hj.2]; exact unhid HLT)
      have HJ := hid hj.1
      have hx3 := (hb3.block X (lt_of_heap (unhid HX))).trans (unhid HX)
      have HX := hid hx3
      clear hown3 hb3 hj hx3 HRD
      obtain ⟨q, hq⟩ : ∃ q, (valsP ((cntL L2).filter (csB x1 x2))).length = q := ⟨_, rfl⟩
      have HQ := hid hq
      rw [hq]
      clear hq
      by_cases h1 : 1 < q
      · have hqi : (1 : Int) < (q : Int) := by omega
        have hmd := (unhid HMD).1 (by rw [unhid HQ]; exact h1)
        have a0 := cell_of_row w3 X 0 _ _ _ (unhid HX)
        have a1 := cell_of_row w3 X 1 _ _ _ (unhid HX)
        simp only [List.getElem?_toArray, List.getElem?_cons_zero, List.getElem?_cons_succ] at a0 a1
        have hy := (unhid HJ).own
        have hlc : D.length ≤ 100000 := by have := unhid HLEN; have := unhid HLN; omega
        have hsz : N + 1 ≤ w3.heap.size := (unhid HJ).lo.2
        have HMD1 := hid hmd
        clear hmd
        go_wp2_with (at_builtin; refine wpList_append_own_at _ rfl _ _ 40 rfl (N + 1) 116 i0 (.agg #[.int .i64 0, .int .i64 0]) 2 16 Tryz.underlying40 hi hz0 hz1 hz2 rfl (by decide) _ _ _ rfl (hy.alloc _) ⟨w3.heap.size, 0, none⟩ 1 1 (fkC (x1, x2)) rfl rfl (cs_news w3 (x1, x2)) (fkC_one _) (by unfold maxLen; omega) (by omega) (by simp; omega) ?_; intro v' w6 hown' hgrow hnil hat)
        have hj := (unhid HJ).push hown' hgrow
        have HLT := hid (show w6.rangeLeft mm N < wr.rangeLeft mm N from by rw [hj.2]; exact unhid HLT)
        have HI := hid (hj.1.i (List.nodup_append.2 ⟨unhid HND, by simp, fun a ha b hb => by
          rw [List.mem_singleton] at hb
          subst hb
          exact fun e => (unhid HMD1).1 (e ▸ ha)⟩) (unhid HMD1).2 (by have := unhid HLEN; rw [List.length_append, List.length_singleton]; omega))
        clear hy hlc hsz hown' hgrow hnil hat hj a0 a1
        go_wp2_with fail
        go_roundw
        case rel => exact ⟨_, _, unhid HI⟩
        case measure => exact unhid HLT
      · have hqi : ¬ (1 : Int) < (q : Int) := by omega
        have hmd := (unhid HMD).2 (by rw [unhid HQ]; exact h1)
        have HI := hid ((unhid HJ).i (unhid HND) hmd (by have := unhid HLEN; omega))
        clear hmd
        go_wp2_with fail
        go_roundw
        case rel => exact ⟨_, _, unhid HI⟩
        case measure => exact unhid HLT


set_option maxHeartbeats 8000000 in
set_option maxRecDepth 100000 in
theorem signs_of (p : Option Addr) {S L : List Rc} (w : World) (hcs : Calls Tryz.prog 64 #[.pointer p] w fun e w' => CasesPost w S e w') (hS : S.length ≤ 100000) (hA : Asc L) (hm : ∀ r, r ∈ S ↔ r ∈ L) :
    Calls Tryz.prog 19 #[.pointer p] w fun e w' => SgPost w L e w' := by
  obtain ⟨i0, hi, hz0, hz1, hz2⟩ := info_parts info_int
  have HC := hid hcs
  have HSL := hid hS
  have HA := hid hA
  have HM := hid hm
  clear hcs hS hA hm
  go_enter Tryz.func19, Tryz.ntmps19
  go_wp2_with fail
  refine (unhid HC).mono ?_
  rintro e w2 ⟨mm, E, L2, rfl, hE1, hE2, hp, hA2, hmm, hb2⟩
  obtain rfl : L2 = L := asc_eq hA2 (unhid HA) (fun r => by rw [hp.mem_iff, unhid HM r])
  have HE1 := hid hE1
  have HE2 := hid hE2
  have HB2 := hid hb2
  have HLN := hid (show E.length ≤ L2.length ∧ L2.length ≤ 100000 from ⟨Nat.le_trans hE2.len (List.length_filter_le _ _), by rw [hp.length_eq]; exact unhid HSL⟩)
  clear hE1 hE2 hp hA2 hmm hb2 HC
  go_wp2_with (first | (at_range; refine wpList_grange rfl _ 117 rfl 22 Tryz.underlying117 rfl (unhid HE1) ?_; intro w0 hr0 hg0 hs0) | go_in)
  go_frame
  obtain ⟨N, hN⟩ : ∃ N, N = w2.heap.size := ⟨_, rfl⟩
  rw [← hN] at hr0 ⊢
  have HI0 := hid (⟨hr0, World.ownsRow_nil _ _ _ _, fun z => ⟨fun h => by simp at h, fun ⟨f, h1, h2⟩ => absurd h1 h2⟩, by simp, (below_of_grown hg0).mono (Nat.le_of_eq hN), hN, by have := (unhid HE1).lt; omega, by omega⟩ : SgI w2 mm N E E (.slice none 0 0) [] w0)
  clear hr0 hg0 hs0 hN
  go_loopw [3] (fun ov wr => ∃ (todo : List ((Int × Int) × Value)) (zs : List Int), SgI w2 mm N E todo ov zs wr) (fun _ wr => wr.rangeLeft mm N)
  case atStart => exact ⟨_, _, unhid HI0⟩
  case round =>
    clear HI0
    obtain ⟨todo, zs, hi1⟩ := hrel
    have HI := hid hi1
    clear hi1
    go_wp2_with (first | (at_next; refine wpList_gnext rfl _ rfl rfl (unhid HI).rng ?_ ?_) | go_in)
    · intro hnil
      subst hnil
      have HDL := hid (show zs.length ≤ 1000000 from by have := (unhid HI).len; have := unhid HLN; simp at *; omega)
      have HVP := hid (show setI zs = signsP L2 from by
        unfold signsP
        refine ascI_eq (setI_asc _) (setI_asc _) (fun z => ?_)
        rw [mem_setI, mem_setI, (unhid HI).mem z, List.mem_map]
        constructor
        · rintro ⟨f, h1, -⟩
          obtain ⟨v, hv⟩ := mem_keysE.1 h1
          obtain ⟨r, hr, e1, e2⟩ := (unhid HE2).is _ hv
          exact ⟨r, hr, e1⟩
        · rintro ⟨r, hr, rfl⟩
          exact ⟨r.fld, (unhid HE2).all r hr, by simp [keysE]⟩)
      have hown := (unhid HI).own
      have HB := hid (unhid HI).b
      have HNN := hid (unhid HI).e
      have HNL := hid (unhid HI).lo
      have HS := hid (sortInts_calls zs _ (N + 1) wr hown (unhid HDL))
      have HO := hid (fun j hj => (own_block_lt hown (g := j) hj).1)
      clear hown HI
      go_wp2_with fail
      refine (unhid HS).mono ?_
      rintro e w5 ⟨rfl, hown, hg⟩
      have HB := hid ((unhid HB).grown hg (by have := unhid HNL; omega) (fun j hj => by have := unhid HO j hj; omega))
      have HSZ := hid hg.size
      have hln : zs.length = (zs.mergeSort fun x y => decide (x ≤ y)).length := (List.length_mergeSort _).symm
      rw [hln] at hown
      have HC := hid (compactInts_calls (zs.mergeSort fun x y => decide (x ≤ y)) _ (N + 1) w5 hown (by rw [← hln]; exact unhid HDL))
      rw [compact_set, unhid HVP] at HC
      clear hown hg hln HS
      go_wp2_with fail
      refine (unhid HC).mono ?_
      rintro e w6 ⟨u, rfl, hown, hg⟩
      have HB := hid ((unhid HB).grown hg (by have := unhid HNL; have := unhid HSZ; omega) (fun j hj => by have := unhid HO j hj; omega))
      have HP := hid (show SgPost w L2 (.returned u) w6 from ⟨u, rfl, signsP_len _, own_base hown (by have h1 := (unhid HB2).size; have h2 := unhid HNN; omega), (unhid HB2).trans ((unhid HB).mono (by have h1 := (unhid HB2).size; have h2 := unhid HNN; omega))⟩)
      clear hg hown
      go_wp2_with fail
      go_ret
      exact unhid HP
    · intro x1 x2 xv w1 hx hrg1 hlt1 hg1 hs1 hen
      change (Instr.entry (.pointer (some ⟨N, 0, none⟩))).run Tryz.prog w1 = .ok (.tuple #[.agg #[.int .i64 x1, .int .i64 x2], xv]) w1 at hen
      have hxE := (unhid HI).rng.left.2 _ hx
      have hnx := (unhid HI).next hx hrg1 hg1
      have HMD := hid (mem_sg (unhid HI).mem hx hxE)
      have HJ := hid (⟨hrg1, hnx.1, hnx.2.1, (unhid HI).e, (unhid HI).lo.1, by have := (unhid HI).lo; omega⟩ : SgJ w2 mm N E (delE todo (x1, x2)) u3 zs w1)
      have HLT := hid hlt1
      have HLEN := hid hnx.2.2
      clear hx hrg1 hlt1 hg1 hs1 hxE hnx HI
      go_upto_region 5 with (fail)
      change Code.wp _ _ _ _ (w1.alloc (.cells #[.int .i64 x1, .int .i64 x2] 116))
      have hb1 := below_alloc w1 (.cells #[.int .i64 x1, .int .i64 x2] 116)
      have hn1 := heap_alloc_new w1 (.cells #[.int .i64 x1, .int .i64 x2] 116)
      have hj := (unhid HJ).below hb1
      have HLT := hid (show (w1.alloc (.cells #[.int .i64 x1, .int .i64 x2] 116)).rangeLeft mm N < wr.rangeLeft mm N from by rw [hj.2]; exact unhid HLT)
      have HJ := hid hj.1
      obtain ⟨X, hX⟩ : ∃ X, X = w1.heap.size := ⟨_, rfl⟩
      rw [← hX] at hn1 ⊢
      have HX := hid hn1
      clear hb1 hn1 hj hX hen
      generalize w1.alloc (.cells #[.int .i64 x1, .int .i64 x2] 116) = W1 at *
      have a0 := cell_of_row W1 X 0 _ _ _ (unhid HX)
      simp only [List.getElem?_toArray, List.getElem?_cons_zero] at a0
      have hy := (unhid HJ).own
      have hlc : zs.length ≤ 100000 := by have := unhid HLEN; have := unhid HLN; omega
      have hsz : N + 1 ≤ W1.heap.size := (unhid HJ).lo.2
      go_wp2_with (at_builtin; refine wpList_append_own _ rfl _ _ 43 rfl (N + 1) 3 i0 (.int .i64 0) 1 8 Tryz.underlying43 hi hz0 hz1 hz2 rfl (by decide) _ _ _ rfl (hy.alloc _) ⟨W1.heap.size, 0, none⟩ 1 1 [.int .i64 x1] rfl rfl (int_news W1 x1) (by simp [Value.oneCell']) (by unfold maxLen; omega) (by omega) (by simp; omega) ?_; intro v' w6 hown' hgrow hnil)
      have hj := (unhid HJ).push hown' hgrow
      have HLT := hid (show w6.rangeLeft mm N < wr.rangeLeft mm N from by rw [hj.2]; exact unhid HLT)
      have HI := hid (hj.1.i (unhid HMD) (by have := unhid HLEN; rw [List.length_append, List.length_singleton]; omega))
      clear hy hlc hsz hown' hgrow hnil hj a0
      go_wp2_with fail
      go_roundw
      case rel => exact ⟨_, _, unhid HI⟩
      case measure => exact unhid HLT


theorem ndisputes_calls (p : Option Addr) (w : World) (h : NoBk w p) : Calls Tryz.prog 17 #[.pointer p] w fun e w' => ∃ A c, e = .returned (.slice A 0 c) ∧ Below w.heap.size w w' :=
  (disputes_of p (S := []) (L := []) w (ncases_calls p w h) (fun r hr => by simp at hr) (by simp) List.Pairwise.nil (fun r => Iff.rfl)).mono fun e w' ⟨v, D, he, hD, hl, hown, hb⟩ => by
    have h0 : D.length = 0 := by simpa using hl
    obtain ⟨A, c, rfl, -, -⟩ := own_slice hown
    rw [h0] at he
    exact ⟨A, c, he, hb⟩
theorem nsigns_calls (p : Option Addr) (w : World) (h : NoBk w p) : Calls Tryz.prog 19 #[.pointer p] w fun e w' => ∃ A c, e = .returned (.slice A 0 c) ∧ Below w.heap.size w w' :=
  (signs_of p (S := []) (L := []) w (ncases_calls p w h) (by simp) List.Pairwise.nil (fun r => Iff.rfl)).mono fun e w' ⟨v, he, hl, hown, hb⟩ => by
    have h0 : (signsP []).length = 0 := by simpa using hl
    obtain ⟨A, c, rfl, -, -⟩ := own_slice hown
    rw [h0] at he
    exact ⟨A, c, he, hb⟩

end Go.Proofs.YtegghimjmbgghaaGreat
