/-
  The law BookWrites.
-/
import Derived.Test.YtegghimjmbgghaaBkAdL
import Derived.Test.YtegghimjmbgghaaBkRw
import Derived.Test.YtegghimjmbgghaaBkNt
set_option linter.unusedSimpArgs false
set_option linter.unusedVariables false
namespace Go.Proofs.Ytegghimjmbgghaa
open Go.RowKit Go.Shelf

theorem numB_same {S L : List Rc} (h : ∀ r, r ∈ S ↔ r ∈ L) (t : Nat) (n : Int) : numB S t n = numB L t n := by
  rw [Bool.eq_iff_iff, numB_true, numB_true]
  exact ⟨fun ⟨q, h1, h2⟩ => ⟨q, (h q).1 h1, h2⟩, fun ⟨q, h1, h2⟩ => ⟨q, (h q).2 h1, h2⟩⟩
theorem writeR_same {S L : List Rc} (hv : ∀ r ∈ S, rcB r = true) (h : ∀ r, r ∈ S ↔ r ∈ L) (tab hour sign fld val : Int) :
    (writeR S tab hour sign fld val).1 = (writeR L tab hour sign fld val).1 ∧ (writeR S tab hour sign fld val).2.1 = (writeR L tab hour sign fld val).2.1 ∧
      ∀ x, x ∈ (writeR S tab hour sign fld val).2.2 ↔ x ∈ wrL L (writeR L tab hour sign fld val) := by
  have e1 : upT S = upT L := funext fun t => upT_perm h t
  have e2 := frk_perm hv h (tab - 1).toNat
  unfold writeR
  rw [e1, e2, numB_same h]
  split
  · exact ⟨rfl, rfl, h⟩
  · split
    · exact ⟨rfl, rfl, h⟩
    · split
      · exact ⟨rfl, rfl, h⟩
      · split
        · exact ⟨rfl, rfl, h⟩
        · refine ⟨rfl, rfl, fun x => ?_⟩
          simp only [wrL, if_true]
          rw [List.mem_append, List.mem_singleton, mem_addR, h x]
          exact ⟨fun h => h.symm, fun h => h.symm⟩
theorem len_writeR (S : List Rc) (tab hour sign fld val : Int) : (writeR S tab hour sign fld val).2.2.length ≤ S.length + 1 := by
  unfold writeR
  split
  · simp
  · split
    · simp
    · split
      · simp
      · split <;> simp
theorem len_wrL (L : List Rc) (R : Rc × Int × List Rc) : (wrL L R).length ≤ L.length + 1 := by
  unfold wrL
  split
  · exact len_addR _ _
  · omega
/-- Write to both. -/
theorem Two.write {w0 w w1 w2 w3 : World} {B m B2 n : Nat} {S L : List Rc} {tab hour sign fld val : Int} (h : Two w0 B m B2 S L n w) (hk : BkAt w1 B m (writeR S tab hour sign fld val).2.2) (hg : w.grownBy w1 (some m)) (hb : Below w1.heap.size w1 w2)
    (hr : RbAt w3 B2 (wrL L (writeR L tab hour sign fld val))) (hg2 : w2.grownBy w3 (some B2)) : Two w0 B m B2 (writeR S tab hour sign fld val).2.2 (wrL L (writeR L tab hour sign fld val)) (n + 1) w3 := by
  obtain ⟨h1, h2⟩ := bk_rb h.bk h.rb
  refine ⟨(hk.below' hb).grown hg2 (fun e => h1 (Option.some.inj e)) (fun e => h2 (Option.some.inj e)), hr, (writeR_same h.bk.v h.same tab hour sign fld val).2.2, ?_, ?_, h.fr, ?_⟩
  · have := len_writeR S tab hour sign fld val; have := h.lS; omega
  · have := len_wrL L (writeR L tab hour sign fld val); have := h.lL; omega
  · have hb1 := h.b.grown hg h.b.size (fun j e => by cases e; exact h.fr.2.1)
    have hb2 := hb1.trans (hb.mono hb1.size)
    exact hb2.grown hg2 hb2.size (fun j e => by cases e; exact h.fr.2.2)

set_option maxRecDepth 100000 in
theorem neq_same (r : Rc) (w : World) : (binOp .neq 33 (.agg #[.int .i64 r.tab, .int .i64 r.num, .int .i64 r.hour, .int .i64 r.sign, .int .i64 r.fld, .int .i64 r.val, .int .i64 r.s0, .int .i64 r.s1, .int .i64 r.s2, .int .i64 r.s3, .int .i64 r.s4, .int .i64 r.s5, .int .i64 r.s6, .int .i64 r.s7]) (.agg #[.int .i64 r.tab, .int .i64 r.num, .int .i64 r.hour, .int .i64 r.sign, .int .i64 r.fld, .int .i64 r.val, .int .i64 r.s0, .int .i64 r.s1, .int .i64 r.s2, .int .i64 r.s3, .int .i64 r.s4, .int .i64 r.s5, .int .i64 r.s6, .int .i64 r.s7])).run Try.prog w = .ok (.bool false) w := by
  rw [neq_rc r r w]; simp

set_option maxHeartbeats 8000000 in
set_option maxRecDepth 100000 in
theorem lwrites_calls (l : List Rc) (A : Option Addr) (c : Nat) (ns : List Nt) (An : Option Addr) (cn : Nat) (w : World) (h : RecsIn w A l c) (hn : NtsIn w An ns cn) :
    Calls Try.prog 3 #[.slice A l.length c, .slice An ns.length cn] w fun e w' => e = .returned (.bool true) ∧ Below w.heap.size w w' := by
  have HRD := hid h.rd
  have HND := hid hn.rd
  have HNO := hid hn.ok
  clear h hn
  go_enter Try.func3, Try.ntmps3
  by_cases h1 : 16 < l.length
  · have hni : (16 : Int) < (l.length : Int) := by omega
    go_wp2_with fail
    refine (first_calls w).mono ?_
    rintro e w2 ⟨rfl, hb2⟩
    have HB := hid hb2
    clear hb2
    go_wp2_with fail
    go_ret
    exact ⟨rfl, unhid HB⟩
  · have hni : ¬ (16 : Int) < (l.length : Int) := by omega
    by_cases h2 : 12 < ns.length
    · have hnj : (12 : Int) < (ns.length : Int) := by omega
      go_wp2_with fail
      refine (first_calls w).mono ?_
      rintro e w2 ⟨rfl, hb2⟩
      have HB := hid hb2
      clear hb2
      go_wp2_with fail
      go_ret
      exact ⟨rfl, unhid HB⟩
    · have hnj : ¬ (12 : Int) < (ns.length : Int) := by omega
      have HLL := hid (show l.length ≤ 1000 ∧ ns.length ≤ 12 from by omega)
      go_wp2_with fail
      refine (made_calls l A c w (unhid HRD) (unhid HLL).1).mono ?_
      rintro e W ⟨B, m, B2, S, L, rfl, ht⟩
      have HT0 := hid ht
      clear ht h1 h2 hni hnj
      go_upto_region 7 with (fail)
      go_loopw [8] (fun iv wr => ∃ (k : Nat) (S L : List Rc), k ≤ ns.length ∧ iv = .int .i64 k ∧ Two w B m B2 S L (l.length + k) wr) (fun iv _ => ns.length - (intOf iv).toNat)
      case atStart => exact ⟨0, S, L, Nat.zero_le _, rfl, unhid HT0⟩
      case round =>
        clear HT0 S L
        obtain ⟨k, S, L, hk, rfl, ht⟩ := hrel
        have HT := hid ht
        clear ht
        by_cases hlt : k < ns.length
        · have hki : (k : Int) < (ns.length : Int) := by omega
          obtain ⟨b, off, hAe, hbl, hc⟩ := ((unhid HND).below (unhid HT).b) (nts_ne hlt)
          subst hAe
          obtain ⟨x, hx⟩ : ∃ x, ns[k]'hlt = x := ⟨_, rfl⟩
          have HXO := hid (unhid HNO x (hx ▸ List.getElem_mem hlt))
          obtain ⟨a0, a1, a2, a3, a4⟩ := nts_cells hc hlt hx
          clear hc hx
          go_upto_region 10 with (fail)
          have hb1 := below_alloc wr (.cells #[.int .i64 x.tab, .int .i64 x.hour, .int .i64 x.sign, .int .i64 x.fld, .int .i64 x.val] 30)
          have hx1 := heap_alloc_new wr (.cells #[.int .i64 x.tab, .int .i64 x.hour, .int .i64 x.sign, .int .i64 x.fld, .int .i64 x.val] 30)
          have HT := hid ((unhid HT).below hb1)
          obtain ⟨N, hN⟩ : ∃ N, N = wr.heap.size := ⟨_, rfl⟩
          rw [← hN] at hx1 ⊢
          have HX := hid hx1
          clear hb1 hx1 hN a0 a1 a2 a3 a4 hbl
          generalize wr.alloc (.cells #[.int .i64 x.tab, .int .i64 x.hour, .int .i64 x.sign, .int .i64 x.fld, .int .i64 x.val] 30) = W1 at *
          have a0 := cell_of_row W1 N 0 _ _ _ (unhid HX)
          have a1 := cell_of_row W1 N 1 _ _ _ (unhid HX)
          have a2 := cell_of_row W1 N 2 _ _ _ (unhid HX)
          have a3 := cell_of_row W1 N 3 _ _ _ (unhid HX)
          have a4 := cell_of_row W1 N 4 _ _ _ (unhid HX)
          simp only [List.getElem?_toArray, List.getElem?_cons_zero, List.getElem?_cons_succ] at a0 a1 a2 a3 a4
          go_wp2_with fail
          refine (write_calls x.tab x.hour x.sign x.fld x.val W1 (unhid HT).bk (by have := (unhid HT).lS; have := unhid HLL; omega) (unhid HXO).1).mono ?_
          rintro e W2 ⟨rfl, hk2, hg2⟩
          clear a0 a1 a2 a3 a4
          have HSM := hid (writeR_same (unhid HT).bk.v (unhid HT).same x.tab x.hour x.sign x.fld x.val)
          obtain ⟨r, hr⟩ : ∃ r, r = (writeR L x.tab x.hour x.sign x.fld x.val).1 := ⟨_, rfl⟩
          obtain ⟨E, hE⟩ : ∃ E, E = (writeR L x.tab x.hour x.sign x.fld x.val).2.1 := ⟨_, rfl⟩
          rw [(unhid HSM).1, (unhid HSM).2.1, ← hr, ← hE]
          have HRE := hid (⟨hr.symm, hE.symm⟩ : _ ∧ _)
          have HK2 := hid hk2
          have HG2 := hid hg2
          have HR2 := hid ((unhid HT).rb1 hk2 hg2)
          have hNm : N ≠ m := fun e => by
            obtain ⟨es, cc, hm⟩ := GMap.isMap (unhid HT).bk.m
            have h2 := unhid HX
            rw [e, hm] at h2
            cases h2
          have hx2 := (hg2.block N (lt_of_heap (unhid HX)) (fun e => hNm (Option.some.inj e))).trans (unhid HX)
          have HX := hid hx2
          clear hr hE hk2 hg2 hNm hx2
          simp only [rcV, rcA]
          go_upto_region 11 with (fail)
          change Code.wp _ _ _ _ (W2.alloc (.cells (rcA r) 33))
          have hb3 := below_alloc W2 (.cells (rcA r) 33)
          have HY := hid (RcAt.new W2 r)
          have HB3 := hid hb3
          have HR3 := hid ((unhid HR2).below hb3)
          have hx3 := (hb3.block N (lt_of_heap (unhid HX))).trans (unhid HX)
          have HX := hid hx3
          obtain ⟨Y, hY⟩ : ∃ Y, Y = W2.heap.size := ⟨_, rfl⟩
          rw [← hY] at HY ⊢
          clear hb3 hx3 HR2 hY
          generalize W2.alloc (.cells (rcA r) 33) = W3 at *
          have a0 := cell_of_row W3 N 0 _ _ _ (unhid HX)
          have a1 := cell_of_row W3 N 1 _ _ _ (unhid HX)
          have a2 := cell_of_row W3 N 2 _ _ _ (unhid HX)
          have a3 := cell_of_row W3 N 3 _ _ _ (unhid HX)
          have a4 := cell_of_row W3 N 4 _ _ _ (unhid HX)
          simp only [List.getElem?_toArray, List.getElem?_cons_zero, List.getElem?_cons_succ] at a0 a1 a2 a3 a4
          go_wp2_with fail
          refine (rwrite_calls x.tab x.hour x.sign x.fld x.val W3 (unhid HR3) (by have := (unhid HT).lL; have := unhid HLL; omega)).mono ?_
          rintro e W4 ⟨rfl, hk4, hg4⟩
          rw [(unhid HRE).1, (unhid HRE).2]
          have HT4 := hid ((unhid HT).write (unhid HK2) (unhid HG2) (unhid HB3) hk4 hg4)
          have hYB : Y ≠ B2 := fun e => by
            obtain ⟨A9, c9, A8, c8, h9, -⟩ := (unhid HR3).b
            have h2 := unhid HY
            unfold RcAt at h2
            rw [e, h9.b] at h2
            simp [rcA] at h2
          have HY := hid (show RcAt W4 Y r from (hg4.block Y (unhid HY).lt (fun e => hYB (Option.some.inj e))).trans (unhid HY))
          clear a0 a1 a2 a3 a4 hk4 hg4 hYB HX HB3 HR3 HG2 HK2
          simp only [rcV, rcA]
          go_upto_region 12 with (fail)
          change Code.wp _ _ _ _ (W4.alloc (.cells (rcA r) 33))
          have hb5 := below_alloc W4 (.cells (rcA r) 33)
          have HZ := hid (RcAt.new W4 r)
          have HY := hid ((unhid HY).below hb5 (unhid HY).lt)
          have HT5 := hid ((unhid HT4).below hb5)
          obtain ⟨Z, hZ⟩ : ∃ Z, Z = W4.heap.size := ⟨_, rfl⟩
          rw [← hZ] at HZ ⊢
          clear hb5 hZ HT4
          generalize W4.alloc (.cells (rcA r) 33) = W5 at *
          obtain ⟨c0, c1, c2, c3, c4, c5⟩ := (unhid HY).cells
          obtain ⟨e0, e1, e2, e3, e4, e5, e6, e7⟩ := (unhid HY).seen8
          obtain ⟨d0, d1, d2, d3, d4, d5⟩ := (unhid HZ).cells
          obtain ⟨g0, g1, g2, g3, g4, g5, g6, g7⟩ := (unhid HZ).seen8
          have hne := neq_same r
          have hnn : (E != E) = false := by simp
          have HW1 := hid (show wrap64 ((k : Int) + 1) = ((k + 1 : Nat) : Int) from by have h1 := unhid HLL; unfold wrap64; omega)
          go_wp2_with fail
          go_roundw
          case rel => exact ⟨k + 1, _, _, by omega, by first | rw [unhid HW1] | go_num, unhid HT5⟩
          case measure => first | (rw [unhid HW1]; simp [intOf]; omega) | (simp [intOf]; omega)
        · obtain rfl : k = ns.length := by omega
          have HLE := hid (show L.length ≤ 1000000 ∧ S.length ≤ 1000000 from by have := (unhid HT).lL; have := (unhid HT).lS; have := unhid HLL; omega)
          obtain ⟨A1, c1, A2, c2, hrk, hcap⟩ := (unhid HT).rb.b
          have HRK := hid hrk
          clear hrk hcap
          go_upto_region 14 with (fail)
          have HSF := hid (show ∀ w', Below wr.heap.size wr w' → w'.cell? ⟨B2, 0, none⟩ = some (.slice A1 L.length c1) from fun w' hb => ((unhid HRK).below hb).cell0)
          refine wp_region_noPanic ?_
          refine wp_region_E (S := fun w' => w'.cell? ⟨B2, 0, none⟩ = some (.slice A1 L.length c1)) 17 18 rfl (by kernel_rfl) (by kernel_rfl) ((unhid HSF) _ (Below.drew (Below.refl _ _))) ?_
          intro hSE
          have HBe := hid (Below.drew (Below.refl wr.heap.size wr))
          generalize wr.drew = Wd at *
          (refine WE_take (i := 0) (v := ?_) rfl (by kernel_rfl) (by decide) (by kernel_rfl) (by kernel_rfl) (fun _ _ _ h => h) (by rfl) hSE ?_ ?_; rotate_left; (focus (intro w hSw; (try dsimp only at hSw); go_simp; (try with_reducible rfl))); simp only [Act.put, List.setIfInBounds_toArray, List.set_cons_zero, List.set_cons_succ])
          (refine WE_take (i := 2) (v := ?_) rfl (by kernel_rfl) (by decide) (by kernel_rfl) (by kernel_rfl) (fun _ _ _ h => h) (by rfl) hSE ?_ ?_; rotate_left; (focus (intro w hSw; (try dsimp only at hSw); go_simp; (try with_reducible rfl))); simp only [Act.put, List.setIfInBounds_toArray, List.set_cons_zero, List.set_cons_succ])
          (refine WE_take (i := 3) (v := ?_) rfl (by kernel_rfl) (by decide) (by kernel_rfl) (by kernel_rfl) (fun _ _ _ h => h) (by rfl) hSE ?_ ?_; rotate_left; (focus (intro w hSw; (try dsimp only at hSw); go_simp; (try with_reducible rfl))); simp only [Act.put, List.setIfInBounds_toArray, List.set_cons_zero, List.set_cons_succ])
          (refine WE_take (i := 4) (v := ?_) rfl (by kernel_rfl) (by decide) (by kernel_rfl) (by kernel_rfl) (fun _ _ _ h => h) (by rfl) hSE ?_ ?_; rotate_left; (focus (intro w hSw; (try dsimp only at hSw); go_simp; (try with_reducible rfl))); simp only [Act.put, List.setIfInBounds_toArray, List.set_cons_zero, List.set_cons_succ])
          (refine WE_take (i := 5) (v := ?_) rfl (by kernel_rfl) (by decide) (by kernel_rfl) (by kernel_rfl) (fun _ _ _ h => h) (by rfl) hSE ?_ ?_; rotate_left; (focus (intro w hSw; (try dsimp only at hSw); go_simp; (try with_reducible rfl))); simp only [Act.put, List.setIfInBounds_toArray, List.set_cons_zero, List.set_cons_succ])
          (refine WE_one (i := 1) rfl (by decide) (by kernel_rfl) ?_; intro K hK)
          go_simp
          go_at_call 18
          refine (records_calls Wd ((unhid HT).below (unhid HBe)).bk (unhid HLE).2).mono ?_
          rintro e w1 ⟨v, L2, rfl, hp, hA2, hrow, hb⟩
          obtain rfl : L2 = L := recs_sorted hp hA2 (unhid HT).rb.asc (unhid HT).same
          obtain ⟨Av, cv, rfl, hrd, -⟩ := own_slice hrow
          have HR1 := hid hrd
          have HBe := hid ((unhid HBe).trans (hb.mono (unhid HBe).size))
          clear hp hA2 hrow hb hrd
          (refine hK.out _ _ ((unhid HSF) _ (unhid HBe)) ?_); clear hSE hK K; intro hSE; (try simp only [Act.put, List.setIfInBounds_toArray, List.set_cons_zero, List.set_cons_succ])
          have HR2 := hid ((unhid HRK).below (unhid HBe)).l
          (refine WE_one (i := 6) rfl (by decide) (by kernel_rfl) ?_; intro K hK)
          go_simp
          go_at_call 17
          refine (sameRecords_calls L2 L2 Av A1 cv c1 w1 (unhid HR1) (unhid HR2) (unhid HLE).1).mono ?_
          rintro e w2 ⟨rfl, hb⟩
          rw [decide_eq_true (rfl : L2 = L2)]
          have HBe := hid ((unhid HBe).trans (hb.mono (unhid HBe).size))
          clear hb HR1 HR2
          (refine hK.out _ _ ((unhid HSF) _ (unhid HBe)) ?_); clear hSE hK K; intro hSE; (try simp only [Act.put, List.setIfInBounds_toArray, List.set_cons_zero, List.set_cons_succ])
          (refine WE_take (i := 7) (v := ?_) rfl (by kernel_rfl) (by decide) (by kernel_rfl) (by kernel_rfl) (fun _ _ _ h => h) (by rfl) hSE ?_ ?_; rotate_left; (focus (intro w hSw; (try dsimp only at hSw); go_simp; (try with_reducible rfl))); simp only [Act.put, List.setIfInBounds_toArray, List.set_cons_zero, List.set_cons_succ])
          (refine WE_take (i := 8) (v := ?_) rfl (by kernel_rfl) (by decide) (by kernel_rfl) (by kernel_rfl) (fun _ _ _ h => h) (by rfl) hSE ?_ ?_; rotate_left; (focus (intro w hSw; (try dsimp only at hSw); go_simp; (try with_reducible rfl))); simp only [Act.put, List.setIfInBounds_toArray, List.set_cons_zero, List.set_cons_succ])
          (refine WE_take (i := 10) (v := ?_) rfl (by kernel_rfl) (by decide) (by kernel_rfl) (by kernel_rfl) (fun _ _ _ h => h) (by rfl) hSE ?_ ?_; rotate_left; (focus (intro w hSw; (try dsimp only at hSw); go_simp; (try with_reducible rfl))); simp only [Act.put, List.setIfInBounds_toArray, List.set_cons_zero, List.set_cons_succ])
          (refine WE_one (i := 9) rfl (by decide) (by kernel_rfl) ?_; intro K hK)
          go_simp
          go_at_call 19
          refine (pwaiting_calls w2 ((unhid HT).below (unhid HBe)).bk (unhid HLE).2 (unhid HT).rb.asc (unhid HT).same).mono ?_
          rintro e w3 ⟨v, rfl, hrow, hb⟩
          obtain ⟨Aw, cw, rfl, hrd, -⟩ := own_slice hrow
          have HR1 := hid hrd
          have HBe := hid ((unhid HBe).trans (hb.mono (unhid HBe).size))
          clear hrow hb hrd
          (refine hK.out _ _ ((unhid HSF) _ (unhid HBe)) ?_); clear hSE hK K; intro hSE; (try simp only [Act.put, List.setIfInBounds_toArray, List.set_cons_zero, List.set_cons_succ])
          (refine WE_one (i := 11) rfl (by decide) (by kernel_rfl) ?_; intro K hK)
          go_simp
          go_at_call 20
          refine (rwaiting_calls w3 ((unhid HT).below (unhid HBe)).rb (unhid HLE).1).mono ?_
          rintro e w4 ⟨v, rfl, hrow, hb⟩
          obtain ⟨Ax, cx, rfl, hrd, -⟩ := own_slice hrow
          have HR2 := hid hrd
          have HR1 := hid ((unhid HR1).below hb)
          have HBe := hid ((unhid HBe).trans (hb.mono (unhid HBe).size))
          clear hrow hb hrd
          (refine hK.out _ _ ((unhid HSF) _ (unhid HBe)) ?_); clear hSE hK K; intro hSE; (try simp only [Act.put, List.setIfInBounds_toArray, List.set_cons_zero, List.set_cons_succ])
          (refine WE_one (i := 12) rfl (by decide) (by kernel_rfl) ?_; intro K hK)
          go_simp
          go_at_call 17
          refine (sameRecords_calls (waitL L2) (waitL L2) Aw Ax cw cx w4 (unhid HR1) (unhid HR2) (Nat.le_trans (List.length_filter_le _ _) (unhid HLE).1)).mono ?_
          rintro e w5 ⟨rfl, hb⟩
          rw [decide_eq_true (rfl : waitL L2 = waitL L2)]
          have HBe := hid ((unhid HBe).trans (hb.mono (unhid HBe).size))
          clear hb HR1 HR2
          (refine hK.out _ _ ((unhid HSF) _ (unhid HBe)) ?_); clear hSE hK K; intro hSE; (try simp only [Act.put, List.setIfInBounds_toArray, List.set_cons_zero, List.set_cons_succ])
          (refine WE_take (i := 13) (v := ?_) rfl (by kernel_rfl) (by decide) (by kernel_rfl) (by kernel_rfl) (fun _ _ _ h => h) (by rfl) hSE ?_ ?_; rotate_left; (focus (intro w hSw; (try dsimp only at hSw); go_simp; (try with_reducible rfl))); simp only [Act.put, List.setIfInBounds_toArray, List.set_cons_zero, List.set_cons_succ])
          (refine WE_take (i := 14) (v := ?_) rfl (by kernel_rfl) (by decide) (by kernel_rfl) (by kernel_rfl) (fun _ _ _ h => h) (by rfl) hSE ?_ ?_; rotate_left; (focus (intro w hSw; (try dsimp only at hSw); go_simp; (try with_reducible rfl))); simp only [Act.put, List.setIfInBounds_toArray, List.set_cons_zero, List.set_cons_succ])
          (refine WE_one (i := 15) rfl (by decide) (by kernel_rfl) ?_; intro K hK)
          go_simp
          go_at_call 13
          refine (first_calls w5).mono ?_
          rintro e w9 ⟨rfl, hb⟩
          have HBe := hid ((unhid HBe).trans (hb.mono (unhid HBe).size))
          clear hb
          (refine hK.out _ _ ((unhid HSF) _ (unhid HBe)) ?_); clear hSE hK K; intro hSE; (try simp only [Act.put, List.setIfInBounds_toArray, List.set_cons_zero, List.set_cons_succ])
          (refine WE_take (i := 16) (v := ?_) rfl (by kernel_rfl) (by decide) (by kernel_rfl) (by kernel_rfl) (fun _ _ _ h => h) (by rfl) hSE ?_ ?_; rotate_left; (focus (intro w hSw; (try dsimp only at hSw); go_simp; (try with_reducible rfl))); simp only [Act.put, List.setIfInBounds_toArray, List.set_cons_zero, List.set_cons_succ])
          (refine WE_last rfl (by kernel_rfl) (by kernel_rfl) (by kernel_rfl) ?_; intro K hK; go_simp; refine hK.out _ _ (NoPanic.normal ?_); clear hK K)
          have HB := hid ((unhid HT).b.trans ((unhid HBe).mono (unhid HT).b.size))
          clear hSE HSF
          go_wp2_with fail
          go_ret
          exact ⟨rfl, unhid HB⟩

end Go.Proofs.Ytegghimjmbgghaa
