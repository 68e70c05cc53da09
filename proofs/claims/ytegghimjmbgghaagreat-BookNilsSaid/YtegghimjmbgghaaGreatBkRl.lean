/-
  The reference's order of records.
-/
import Derived.Test.YtegghimjmbgghaaGreatBkFd
import Derived.Test.YtegghimjmbgghaaGreatBkEq
set_option linter.unusedSimpArgs false
set_option linter.unusedVariables false
namespace Go.Proofs.YtegghimjmbgghaaGreat
open Go.RowKit Go.Shelf

theorem ltL_at : ∀ {l m : List Int} {k : Nat} (hl : k < l.length) (hm : k < m.length), l.take k = m.take k → l[k] ≠ m[k] → ltL l m = decide (l[k] < m[k])
  | a :: l, b :: m, 0, _, _, _, hne => by
    have hne : a ≠ b := hne
    simp [ltL, hne]
  | a :: l, b :: m, k + 1, hl, hm, ht, hne => by
    simp only [List.take_succ_cons, List.cons.injEq] at ht
    have h := ltL_at (l := l) (m := m) (k := k) (by simpa using hl) (by simpa using hm) ht.2 (by simpa using hne)
    simp [ltL, ht.1, h]
theorem take_sameI {l m : List Int} {k : Nat} (hl : k < l.length) (hm : k < m.length) (h : l.take k = m.take k) (e : l[k] = m[k]) : l.take (k + 1) = m.take (k + 1) := by
  rw [List.take_succ_eq_append_getElem hl, List.take_succ_eq_append_getElem hm, h, e]
theorem flds_len (r : Rc) : r.flds.length = 14 := rfl

set_option maxHeartbeats 4000000 in
set_option maxRecDepth 100000 in
theorem less_calls (r q : Rc) (w : World) : Calls Tryz.prog 142 #[rcV r, rcV q] w fun e w' => e = .returned (.bool (rls r q)) ∧ Below w.heap.size w w' := by
  obtain ⟨hr, hq, hb⟩ := two_boxes w r q
  have HR := hid hr
  have HQ := hid hq
  have HB := hid hb
  clear hr hq hb
  show Calls Tryz.prog 142 #[.agg #[.int .i64 r.tab, .int .i64 r.num, .int .i64 r.hour, .int .i64 r.sign, .int .i64 r.fld, .int .i64 r.val, .int .i64 r.s0, .int .i64 r.s1, .int .i64 r.s2, .int .i64 r.s3, .int .i64 r.s4, .int .i64 r.s5, .int .i64 r.s6, .int .i64 r.s7], .agg #[.int .i64 q.tab, .int .i64 q.num, .int .i64 q.hour, .int .i64 q.sign, .int .i64 q.fld, .int .i64 q.val, .int .i64 q.s0, .int .i64 q.s1, .int .i64 q.s2, .int .i64 q.s3, .int .i64 q.s4, .int .i64 q.s5, .int .i64 q.s6, .int .i64 q.s7]] w _
  go_enter Tryz.func142, Tryz.ntmps142
  go_upto_region 1 with (fail)
  change Code.wp _ _ _ _ ((w.alloc (.cells (rcA r) 82)).alloc (.cells (rcA q) 82))
  generalize (w.alloc (.cells (rcA r) 82)).alloc (.cells (rcA q) 82) = W at *
  obtain ⟨X, hX⟩ : ∃ X, X = w.heap.size := ⟨_, rfl⟩
  rw [← hX] at HR HQ ⊢
  have HXE := hid hX
  clear hX
  have HSF := hid (show ∀ w', Below W.heap.size W w' → ((w'.cell? ⟨X, 0, none⟩ = some (.int .i64 r.tab) ∧ w'.cell? ⟨X, 1, none⟩ = some (.int .i64 r.num) ∧ w'.cell? ⟨X, 2, none⟩ = some (.int .i64 r.hour) ∧ w'.cell? ⟨X, 3, none⟩ = some (.int .i64 r.sign) ∧ w'.cell? ⟨X, 4, none⟩ = some (.int .i64 r.fld) ∧ w'.cell? ⟨X, 5, none⟩ = some (.int .i64 r.val) ∧ w'.cell? ⟨X, 6, none⟩ = some (.int .i64 r.s0) ∧ w'.cell? ⟨X, 7, none⟩ = some (.int .i64 r.s1) ∧ w'.cell? ⟨X, 8, none⟩ = some (.int .i64 r.s2) ∧ w'.cell? ⟨X, 9, none⟩ = some (.int .i64 r.s3) ∧ w'.cell? ⟨X, 10, none⟩ = some (.int .i64 r.s4) ∧ w'.cell? ⟨X, 11, none⟩ = some (.int .i64 r.s5) ∧ w'.cell? ⟨X, 12, none⟩ = some (.int .i64 r.s6) ∧ w'.cell? ⟨X, 13, none⟩ = some (.int .i64 r.s7)) ∧ (w'.cell? ⟨X + 1, 0, none⟩ = some (.int .i64 q.tab) ∧ w'.cell? ⟨X + 1, 1, none⟩ = some (.int .i64 q.num) ∧ w'.cell? ⟨X + 1, 2, none⟩ = some (.int .i64 q.hour) ∧ w'.cell? ⟨X + 1, 3, none⟩ = some (.int .i64 q.sign) ∧ w'.cell? ⟨X + 1, 4, none⟩ = some (.int .i64 q.fld) ∧ w'.cell? ⟨X + 1, 5, none⟩ = some (.int .i64 q.val) ∧ w'.cell? ⟨X + 1, 6, none⟩ = some (.int .i64 q.s0) ∧ w'.cell? ⟨X + 1, 7, none⟩ = some (.int .i64 q.s1) ∧ w'.cell? ⟨X + 1, 8, none⟩ = some (.int .i64 q.s2) ∧ w'.cell? ⟨X + 1, 9, none⟩ = some (.int .i64 q.s3) ∧ w'.cell? ⟨X + 1, 10, none⟩ = some (.int .i64 q.s4) ∧ w'.cell? ⟨X + 1, 11, none⟩ = some (.int .i64 q.s5) ∧ w'.cell? ⟨X + 1, 12, none⟩ = some (.int .i64 q.s6) ∧ w'.cell? ⟨X + 1, 13, none⟩ = some (.int .i64 q.s7))) from fun w' hb => by
    obtain ⟨a0, a1, a2, a3, a4, a5⟩ := ((unhid HR).below hb (unhid HR).lt).cells
    obtain ⟨a6, a7, a8, a9, a10, a11, a12, a13⟩ := ((unhid HR).below hb (unhid HR).lt).seen8
    obtain ⟨b0, b1, b2, b3, b4, b5⟩ := ((unhid HQ).below hb (unhid HQ).lt).cells
    obtain ⟨b6, b7, b8, b9, b10, b11, b12, b13⟩ := ((unhid HQ).below hb (unhid HQ).lt).seen8
    exact ⟨⟨a0, a1, a2, a3, a4, a5, a6, a7, a8, a9, a10, a11, a12, a13⟩, ⟨b0, b1, b2, b3, b4, b5, b6, b7, b8, b9, b10, b11, b12, b13⟩⟩)
  refine wp_region_noPanic ?_
  refine wp_region_E (S := fun w' => ((w'.cell? ⟨X, 0, none⟩ = some (.int .i64 r.tab) ∧ w'.cell? ⟨X, 1, none⟩ = some (.int .i64 r.num) ∧ w'.cell? ⟨X, 2, none⟩ = some (.int .i64 r.hour) ∧ w'.cell? ⟨X, 3, none⟩ = some (.int .i64 r.sign) ∧ w'.cell? ⟨X, 4, none⟩ = some (.int .i64 r.fld) ∧ w'.cell? ⟨X, 5, none⟩ = some (.int .i64 r.val) ∧ w'.cell? ⟨X, 6, none⟩ = some (.int .i64 r.s0) ∧ w'.cell? ⟨X, 7, none⟩ = some (.int .i64 r.s1) ∧ w'.cell? ⟨X, 8, none⟩ = some (.int .i64 r.s2) ∧ w'.cell? ⟨X, 9, none⟩ = some (.int .i64 r.s3) ∧ w'.cell? ⟨X, 10, none⟩ = some (.int .i64 r.s4) ∧ w'.cell? ⟨X, 11, none⟩ = some (.int .i64 r.s5) ∧ w'.cell? ⟨X, 12, none⟩ = some (.int .i64 r.s6) ∧ w'.cell? ⟨X, 13, none⟩ = some (.int .i64 r.s7)) ∧ (w'.cell? ⟨X + 1, 0, none⟩ = some (.int .i64 q.tab) ∧ w'.cell? ⟨X + 1, 1, none⟩ = some (.int .i64 q.num) ∧ w'.cell? ⟨X + 1, 2, none⟩ = some (.int .i64 q.hour) ∧ w'.cell? ⟨X + 1, 3, none⟩ = some (.int .i64 q.sign) ∧ w'.cell? ⟨X + 1, 4, none⟩ = some (.int .i64 q.fld) ∧ w'.cell? ⟨X + 1, 5, none⟩ = some (.int .i64 q.val) ∧ w'.cell? ⟨X + 1, 6, none⟩ = some (.int .i64 q.s0) ∧ w'.cell? ⟨X + 1, 7, none⟩ = some (.int .i64 q.s1) ∧ w'.cell? ⟨X + 1, 8, none⟩ = some (.int .i64 q.s2) ∧ w'.cell? ⟨X + 1, 9, none⟩ = some (.int .i64 q.s3) ∧ w'.cell? ⟨X + 1, 10, none⟩ = some (.int .i64 q.s4) ∧ w'.cell? ⟨X + 1, 11, none⟩ = some (.int .i64 q.s5) ∧ w'.cell? ⟨X + 1, 12, none⟩ = some (.int .i64 q.s6) ∧ w'.cell? ⟨X + 1, 13, none⟩ = some (.int .i64 q.s7)))) 5 6 rfl (by kernel_rfl) (by kernel_rfl) ((unhid HSF) _ (Below.drew (Below.refl _ _))) ?_
  intro hSE
  have HBe := hid (Below.drew (Below.refl W.heap.size W))
  generalize W.drew = Wd at *
  (refine WE_take (i := 0) (v := ?_) rfl (by kernel_rfl) (by decide) (by kernel_rfl) (by kernel_rfl) (fun _ _ _ h => h) (by rfl) hSE ?_ ?_; rotate_left; (focus (intro w hSw; (try dsimp only at hSw); go_simp; (try with_reducible rfl))); simp only [Act.put, List.setIfInBounds_toArray, List.set_cons_zero, List.set_cons_succ])
  (refine WE_take (i := 2) (v := ?_) rfl (by kernel_rfl) (by decide) (by kernel_rfl) (by kernel_rfl) (fun _ _ _ h => h) (by rfl) hSE ?_ ?_; rotate_left; (focus (intro w hSw; (try dsimp only at hSw); go_simp; (try with_reducible rfl))); simp only [Act.put, List.setIfInBounds_toArray, List.set_cons_zero, List.set_cons_succ])
  (refine WE_one (i := 1) rfl (by decide) (by kernel_rfl) ?_; intro K hK)
  go_simp
  go_at_call 159
  refine (fields_calls r Wd).mono ?_
  rintro e w5 ⟨v1, rfl, hown1, hb1⟩
  obtain ⟨A1, k1, rfl, hrd1, -⟩ := own_slice hown1
  have HRD1 := hid hrd1
  have HBe := hid ((unhid HBe).trans (hb1.mono (unhid HBe).size))
  clear hown1 hrd1 hb1
  refine hK.out _ _ ((unhid HSF) _ (unhid HBe)) ?_
  clear hSE hK K
  intro hSE
  (try simp only [Act.put, List.setIfInBounds_toArray, List.set_cons_zero, List.set_cons_succ])
  (refine WE_one (i := 3) rfl (by decide) (by kernel_rfl) ?_; intro K hK)
  go_simp
  go_at_call 159
  refine (fields_calls q w5).mono ?_
  rintro e w6 ⟨v2, rfl, hown2, hb2⟩
  obtain ⟨A2, k2, rfl, hrd2, -⟩ := own_slice hown2
  have HRD1 := hid ((unhid HRD1).below hb2)
  have HRD2 := hid hrd2
  have HBe := hid ((unhid HBe).trans (hb2.mono (unhid HBe).size))
  clear hown2 hrd2 hb2
  refine hK.out _ _ ((unhid HSF) _ (unhid HBe)) ?_
  clear hSE hK K
  intro hSE
  (try simp only [Act.put, List.setIfInBounds_toArray, List.set_cons_zero, List.set_cons_succ])
  (refine WE_one (i := 4) rfl (by decide) (by kernel_rfl) ?_; intro K hK)
  go_simp
  refine hK.out _ _ ((unhid HSF) _ (unhid HBe)) ?_
  clear hSE hK K
  intro hSE
  (try simp only [Act.put, List.setIfInBounds_toArray, List.set_cons_zero, List.set_cons_succ])
  (refine WE_last rfl (by kernel_rfl) (by kernel_rfl) (by kernel_rfl) ?_; intro K hK; go_simp; refine hK.out _ _ (NoPanic.normal ?_); clear hK K)
  have HB := hid ((unhid HB).trans ((unhid HBe).mono (unhid HB).size))
  clear hSE HSF HBe HR HQ HXE
  go_upto_region 3 with (fail)
  go_loopw [7] (fun iv wr => ∃ k : Nat, k ≤ 14 ∧ iv = .int .i64 k ∧ r.flds.take k = q.flds.take k ∧ Below w6.heap.size w6 wr) (fun iv _ => 14 - (intOf iv).toNat)
  case atStart => exact ⟨0, Nat.zero_le _, rfl, by simp, Below.refl _ _⟩
  case round =>
    obtain ⟨k, hk, rfl, ht, hb⟩ := hrel
    have HT := hid ht
    have HBR := hid hb
    clear ht hb
    by_cases hlt : k < 14
    · have hki : (k : Int) < 14 := by omega
      have hl1 : k < r.flds.length := hlt
      have hl2 : k < q.flds.length := hlt
      obtain ⟨b1, o1, hA1, hbl1, hc1⟩ := ((unhid HRD1).below (unhid HBR)) (ints_ne hl1)
      obtain ⟨b2, o2, hA2, hbl2, hc2⟩ := ((unhid HRD2).below (unhid HBR)) (ints_ne hl2)
      subst hA1 hA2
      obtain ⟨x, hx⟩ : ∃ x, r.flds[k]'hl1 = x := ⟨_, rfl⟩
      obtain ⟨y, hy⟩ : ∃ y, q.flds[k]'hl2 = y := ⟨_, rfl⟩
      have e1 : wr.cell? ⟨b1, o1 + k, none⟩ = some (.int .i64 x) := by rw [← hx]; exact hc1 k _ (ints_at _ k hl1)
      have e2 : wr.cell? ⟨b2, o2 + k, none⟩ = some (.int .i64 y) := by rw [← hy]; exact hc2 k _ (ints_at _ k hl2)
      have HXY := hid (⟨hx, hy⟩ : r.flds[k]'hl1 = x ∧ q.flds[k]'hl2 = y)
      have m1 := fun p : After wr => After.cell (by dsimp only; exact hbl1) e1 p
      have m2 := fun p : After wr => After.cell (by dsimp only; exact hbl2) e2 p
      clear hc1 hc2 hx hy e1 e2
      by_cases hxy : x = y
      · have q1 : (x != y) = false := by simp [hxy]
        have HTS := hid (take_sameI hl1 hl2 (unhid HT) (by rw [(unhid HXY).1, (unhid HXY).2, hxy]))
        go_upto_region 5 with (fail)
        (refine wp_region_below (by kernel_rfl) (by kernel_rfl) ?_; (repeat (go_big_quiet_step (first | fail))); refine wpQuiet_nil ?_; intro wq hw'; obtain ⟨⟨wq2, hbq⟩, hw''⟩ := hw'; dsimp only at hw''; subst hw'')
        have HBR := hid ((unhid HBR).trans (hbq.mono (unhid HBR).size))
        clear hbq m1 m2
        go_wp2_with fail
        go_roundw
        case rel => exact ⟨k + 1, by omega, by simp, unhid HTS, unhid HBR⟩
        case measure => simp [intOf]; omega
      · have q1 : (x != y) = true := by simp [hxy]
        have HLE := hid (show rls r q = decide (x < y) from by
          have h := ltL_at hl1 hl2 (unhid HT) (by rw [(unhid HXY).1, (unhid HXY).2]; exact hxy)
          rw [(unhid HXY).1, (unhid HXY).2] at h
          exact h)
        go_upto_region 5 with (fail)
        (refine wp_region_below (by kernel_rfl) (by kernel_rfl) ?_; (repeat (go_big_quiet_step (first | fail))); refine wpQuiet_nil ?_; intro wq hw'; obtain ⟨⟨wq2, hbq⟩, hw''⟩ := hw'; dsimp only at hw''; subst hw'')
        have HBR := hid ((unhid HBR).trans (hbq.mono (unhid HBR).size))
        have n1 : ∀ p : After wq, p.w.cell? ⟨b1, o1 + k, none⟩ = some (.int .i64 x) := fun p => After.cell (by dsimp only; exact Nat.lt_of_lt_of_le hbl1 hbq.size) (m1 ⟨wq, hbq⟩) p
        have n2 : ∀ p : After wq, p.w.cell? ⟨b2, o2 + k, none⟩ = some (.int .i64 y) := fun p => After.cell (by dsimp only; exact Nat.lt_of_lt_of_le hbl2 hbq.size) (m2 ⟨wq, hbq⟩) p
        clear hbq m1 m2
        go_upto_region 6 with (fail)
        generalize hwx : wq = wx at *
        (refine wp_region_below (by kernel_rfl) (by kernel_rfl) ?_; (repeat (go_big_quiet_step (first | fail))); refine wpQuiet_nil ?_; intro wq hw'; obtain ⟨⟨wq2, hbq⟩, hw''⟩ := hw'; dsimp only at hw''; subst hw'')
        have HBR := hid ((unhid HBR).trans (hbq.mono (unhid HBR).size))
        clear hbq n1 n2
        go_wp2_with fail
        go_ret
        exact ⟨by rw [unhid HLE]; rfl, (unhid HB).trans ((unhid HBR).mono (unhid HB).size)⟩
    · obtain rfl : k = 14 := by omega
      have HEQ := hid (show rls r q = false from by
        have h := unhid HT
        rw [List.take_of_length_le (by rw [flds_len]; omega), List.take_of_length_le (by rw [flds_len]; omega)] at h
        unfold rls
        rw [h]
        exact ltL_irr _)
      go_wp2_with fail
      go_ret
      exact ⟨by rw [unhid HEQ]; rfl, (unhid HB).trans ((unhid HBR).mono (unhid HB).size)⟩

end Go.Proofs.YtegghimjmbgghaaGreat
