/-
  The law's first(): two tablets write, their books are joined, both values are there.
-/
import Derived.Test.YtegghimjmbgghaaGreatBkW
set_option linter.unusedSimpArgs false
set_option linter.unusedVariables false
namespace Go.Proofs.YtegghimjmbgghaaGreat
open Go.RowKit Go.Shelf

/-! ### Plain -/
theorem cnt_nil {r : Rc} : ¬ Cnt [] r := fun h => by have := h.mem; simp at this
theorem upN_nil (t : Nat) : ∀ n, upN [] t n = 0
  | 0 => rfl
  | n + 1 => by
    unfold upN
    rw [upN_nil t n]
    split
    · rename_i h
      obtain ⟨_, r, hr, _⟩ := h
      exact absurd hr cnt_nil
    · rfl
theorem upT_nil (t : Nat) : upT [] t = 0 := by unfold upT; rw [upN_nil]; rfl
theorem frk_nil (t : Nat) : frk [] t = 1000001 := by simp [frk, frkL]
def r1 : Rc := ⟨1, 1, 0, 7, 2, 5, 0, 0, 0, 0, 0, 0, 0, 0⟩
def r2 : Rc := ⟨2, 1, 0, 7, 2, 6, 0, 0, 0, 0, 0, 0, 0, 0⟩
theorem newR_nil (tab hour sign fld val : Int) : newR (upT []) tab hour sign fld val = ⟨tab, 1, hour, sign, fld, val, 0, 0, 0, 0, 0, 0, 0, 0⟩ := by simp [newR, upT_nil]
theorem write_first1 : writeR [] 1 0 7 2 5 = (r1, 0, [r1]) := by
  unfold writeR
  rw [newR_nil, frk_nil]
  rfl
theorem write_first2 : writeR [] 2 0 7 2 6 = (r2, 0, [r2]) := by
  unfold writeR
  rw [newR_nil, frk_nil]
  rfl
theorem r12_valid : ∀ r ∈ [r1, r2], rcB r = true := by
  intro r hr
  simp only [List.mem_cons, List.not_mem_nil, or_false] at hr
  rcases hr with rfl | rfl <;> decide
theorem r12_asc : Asc [r1, r2] := by
  unfold Asc
  simp only [List.pairwise_cons, List.mem_cons, List.not_mem_nil, or_false, forall_eq, false_implies, implies_true, List.Pairwise.nil, and_true]
  decide
theorem r12_cnt : ∀ r ∈ [r1, r2], cntB [r1, r2] r = true := by
  intro r hr
  have hst : ∀ t n, Straight [r1, r2] t n := by
    intro t n a ha b hb e1 e2 e3 _
    simp only [List.mem_cons, List.not_mem_nil, or_false] at ha hb
    rcases ha with rfl | rfl <;> rcases hb with rfl | rfl
    · rfl
    · rw [← e2] at e1; exact absurd e1 (by decide)
    · rw [← e2] at e1; exact absurd e1 (by decide)
    · rfl
  have hc : Cnt [r1, r2] r := (up_zero _).cnt_next hr (hst _ _) (fun s hs n h1 h2 _ => by
    have hz : r.sn s = 0 := by
      simp only [List.mem_cons, List.not_mem_nil, or_false] at hr
      rcases hr with rfl | rfl <;> rcases lt8 hs with rfl | rfl | rfl | rfl | rfl | rfl | rfl | rfl <;> rfl
    omega)
  rw [cntB_up r12_valid hr]
  exact decide_eq_true (cnt_le r12_valid (upT_up _) (upT_shut r12_valid) hc)
theorem r12_values : valuesP [r1, r2] 7 2 = [5, 6] := by
  unfold valuesP
  have : cntL [r1, r2] = [r1, r2] := List.filter_eq_self.2 r12_cnt
  rw [this]
  rfl
theorem r12_list {T : List Rc} (hn : T.Nodup) (h : ∀ x, x ∈ T ↔ x ∈ [r1] ∨ x ∈ [r2]) : T.Perm [r1, r2] :=
  (List.perm_ext_iff_of_nodup hn (by decide)).2 fun x => by rw [h x]; simp

set_option maxHeartbeats 4000000 in
set_option maxRecDepth 100000 in
theorem first_calls (w : World) : Calls Tryz.prog 7 #[] w fun e w' => e = .returned (.bool true) ∧ Below w.heap.size w w' := by
  go_enter Tryz.func7, Tryz.ntmps7
  go_wp2_with fail
  refine (bookNew_calls w).mono ?_
  rintro e W1 ⟨rfl, hk1, hb1⟩
  have HK1 := hid hk1
  have HB := hid hb1
  clear hk1 hb1
  go_wp2_with fail
  refine (write_calls 1 0 7 2 5 W1 (unhid HK1) (by simp) (by unfold I64; omega)).mono ?_
  rintro e W2 ⟨rfl, hk2, hg2⟩
  rw [write_first1] at hk2 ⊢
  simp only [rcV, rcA, r1]
  have HK1 := hid hk2
  have HB := hid ((unhid HB).grown hg2 (unhid HB).size (fun j e => by cases e; exact Nat.le_refl _))
  clear hk2 hg2
  go_upto_region 3 with (fail)
  change Code.wp _ _ _ _ (W2.alloc (.cells (rcA r1) 82))
  have hb3 := below_alloc W2 (.cells (rcA r1) 82)
  have HK1 := hid ((unhid HK1).below' hb3)
  have HB := hid ((unhid HB).trans (hb3.mono (unhid HB).size))
  clear hb3
  generalize W2.alloc (.cells (rcA r1) 82) = W3 at *
  have HS3 := hid (show w.heap.size + 1 < W3.heap.size from by
    exact (unhid HK1).lt.1)
  go_wp2_with fail
  refine (bookNew_calls W3).mono ?_
  rintro e W4 ⟨rfl, hk4, hb4⟩
  have HK2 := hid hk4
  have HK1 := hid ((unhid HK1).below' hb4)
  have HB := hid ((unhid HB).trans (hb4.mono (unhid HB).size))
  have HL := hid ((unhid HB).size)
  obtain ⟨B2, hB2⟩ : ∃ B2, B2 = W3.heap.size := ⟨_, rfl⟩
  have HE2 := hid (show w.heap.size ≤ B2 ∧ w.heap.size ≠ B2 ∧ w.heap.size + 1 ≠ B2 from by
    have := unhid HS3
    have := unhid HL
    omega)
  clear HL
  rw [← hB2] at HK2 ⊢
  clear hk4 hb4 hB2
  go_wp2_with fail
  refine (write_calls 2 0 7 2 6 W4 (unhid HK2) (by simp) (by unfold I64; omega)).mono ?_
  rintro e W5 ⟨rfl, hk5, hg5⟩
  rw [write_first2] at hk5 ⊢
  simp only [rcV, rcA, r2]
  have HK2 := hid hk5
  have HK1 := hid ((unhid HK1).grown hg5 (fun e => (unhid HE2).2.2 (Option.some.inj e)) (fun e => (unhid HE2).2.1 (Option.some.inj e)))
  have HB := hid ((unhid HB).grown hg5 (unhid HB).size (fun j e => by cases e; exact (unhid HE2).1))
  clear hk5 hg5
  go_upto_region 5 with (fail)
  change Code.wp _ _ _ _ (W5.alloc (.cells (rcA r2) 82))
  have hb6 := below_alloc W5 (.cells (rcA r2) 82)
  have HK1 := hid ((unhid HK1).below' hb6)
  have HK2 := hid ((unhid HK2).below' hb6)
  have HB := hid ((unhid HB).trans (hb6.mono (unhid HB).size))
  clear hb6
  generalize W5.alloc (.cells (rcA r2) 82) = W6 at *
  go_wp2_with fail
  refine (join_calls W6 (unhid HK1) (unhid HK2) (unhid HE2).2.1 (by simp)).mono ?_
  rintro e W7 ⟨T, rfl, hk7, hmem, -, hg7⟩
  have hp := r12_list (RSet.nodup hk7.m) hmem
  have hTl : T.length = 2 := hp.length_eq
  have HK1 := hid (hk7.perm hp)
  have HB := hid ((unhid HB).grown hg7 (unhid HB).size (fun j e => by cases e; exact Nat.le_refl _))
  rw [hTl]
  clear hk7 hmem hg7 hp hTl
  go_wp2_with fail
  refine (pvalues_calls 7 2 W7 (unhid HK1) r12_asc (by simp)).mono ?_
  rintro e W8 ⟨v, rfl, hown, hb8⟩
  have hif : (btw 1 7 1000000000 && btw 1 2 6) = true := by decide
  simp only [hif, if_true, r12_values] at hown ⊢
  obtain ⟨A, c, rfl, hrd, -⟩ := own_slice hown
  obtain ⟨b, off, rfl, -, hc⟩ := hrd (by simp [ints])
  have i0 : W8.cell? ⟨b, off, none⟩ = some (.int .i64 5) := hc 0 _ rfl
  have i1 : W8.cell? ⟨b, off + 1, none⟩ = some (.int .i64 6) := hc 1 _ rfl
  have HB := hid ((unhid HB).trans (hb8.mono (unhid HB).size))
  clear hown hrd hc hb8
  go_wp2_with fail
  go_ret
  exact ⟨by simp, unhid HB⟩

end Go.Proofs.YtegghimjmbgghaaGreat
