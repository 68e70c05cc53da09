/-
  BookRecords answers true.
-/
import Derived.Test.YtegghimjmbgghaaBkRc
set_option linter.unusedSimpArgs false
set_option linter.unusedVariables false
namespace Go.Proofs.Ytegghimjmbgghaa
open Go.RowKit Go.Shelf

set_option maxHeartbeats 8000000 in
set_option maxRecDepth 100000 in
theorem lrecords_calls (r q : Rc) (w : World) (h : RcW r) (_ : RcW q) :
    Calls Try.prog 11 #[.agg #[.int .i64 r.tab, .int .i64 r.num, .int .i64 r.hour, .int .i64 r.sign, .int .i64 r.fld, .int .i64 r.val, .int .i64 r.s0, .int .i64 r.s1, .int .i64 r.s2, .int .i64 r.s3, .int .i64 r.s4, .int .i64 r.s5, .int .i64 r.s6, .int .i64 r.s7], .agg #[.int .i64 q.tab, .int .i64 q.num, .int .i64 q.hour, .int .i64 q.sign, .int .i64 q.fld, .int .i64 q.val, .int .i64 q.s0, .int .i64 q.s1, .int .i64 q.s2, .int .i64 q.s3, .int .i64 q.s4, .int .i64 q.s5, .int .i64 q.s6, .int .i64 q.s7]] w fun e w' => e = .returned (.bool true) ∧ Below w.heap.size w w' := by
  obtain ⟨i0, hi, hz0, hz1, hz2⟩ := info_parts info_u8
  have HN64 := hid (h r.num (by simp [Rc.flds]))
  obtain ⟨hr, hq, hb⟩ := two_boxes w r q
  have HR := hid hr
  have HQ := hid hq
  have HB := hid hb
  clear h hr hq hb
  go_enter Try.func11, Try.ntmps11
  go_upto_region 1 with (fail)
  change Code.wp _ _ _ _ ((w.alloc (.cells (rcA r) 33)).alloc (.cells (rcA q) 33))
  obtain ⟨R, hR⟩ : ∃ R, R = w.heap.size := ⟨_, rfl⟩
  obtain ⟨X, hX⟩ : ∃ X, X = w.heap.size + 1 := ⟨_, rfl⟩
  rw [← hR] at HR ⊢
  rw [← hX] at HQ
  rw [show R + 1 = X by omega]
  clear hR hX
  generalize (w.alloc (.cells (rcA r) 33)).alloc (.cells (rcA q) 33) = W at *
  obtain ⟨c0, c1, c2, c3, c4, c5⟩ := (unhid HR).cells
  obtain ⟨e0, e1, e2, e3, e4, e5, e6, e7⟩ := (unhid HR).seen8
  go_wp2_with fail
  refine (ppack_calls r W).mono ?_
  rintro e W2 ⟨v, rfl, hown, hb2⟩
  obtain ⟨A1, k1, rfl, hrd1, hk1, -, -⟩ := own_slice2 hown
  have HR := hid ((unhid HR).below hb2 (unhid HR).lt)
  have HQ := hid ((unhid HQ).below hb2 (unhid HQ).lt)
  have HB := hid ((unhid HB).trans (hb2.mono (unhid HB).size))
  have HD1 := hid hrd1
  have HK1 := hid hk1
  clear hown hrd1 hk1 hb2 c0 c1 c2 c3 c4 c5 e0 e1 e2 e3 e4 e5 e6 e7
  obtain ⟨c0, c1, c2, c3, c4, c5⟩ := (unhid HR).cells
  obtain ⟨e0, e1, e2, e3, e4, e5, e6, e7⟩ := (unhid HR).seen8
  go_wp2_with fail
  refine (rpack_calls r W2).mono ?_
  rintro e W3 ⟨v, rfl, hown, hb2⟩
  obtain ⟨A2, k2, rfl, hrd2, -, -, -⟩ := own_slice2 hown
  have HR := hid ((unhid HR).below hb2 (unhid HR).lt)
  have HQ := hid ((unhid HQ).below hb2 (unhid HQ).lt)
  have HB := hid ((unhid HB).trans (hb2.mono (unhid HB).size))
  have HD1 := hid ((unhid HD1).below hb2)
  have HD2 := hid hrd2
  clear hown hrd2 hb2 c0 c1 c2 c3 c4 c5 e0 e1 e2 e3 e4 e5 e6 e7
  obtain ⟨E, hE⟩ : ∃ E, E = packE r := ⟨_, rfl⟩
  obtain ⟨L, hL⟩ : ∃ L, L = packL r := ⟨_, rfl⟩
  rw [← hE]
  rw [← hL] at HD1 HD2 HK1 ⊢
  have HEL := hid (⟨hE, hL⟩ : E = packE r ∧ L = packL r)
  clear hE hL
  go_upto_region 3 with (fail)
  have cv1 : ∀ p : After W3, (convert 43 9 (.slice A1 L.length k1)).run Try.prog p.w = .ok (.string ⟨L.toArray⟩) p.w := fun p => conv_bytes ((unhid HD1).below p.below) k1
  have cv2 : ∀ p : After W3, (convert 43 9 (.slice A2 L.length k2)).run Try.prog p.w = .ok (.string ⟨L.toArray⟩) p.w := fun p => conv_bytes ((unhid HD2).below p.below) k2
  have HRp := fun p : After W3 => ((unhid HR).below p.below (unhid HR).lt)
  have HQp := fun p : After W3 => ((unhid HQ).below p.below (unhid HQ).lt)
  have r0 := fun p : After W3 => (HRp p).cells.1
  have r1 := fun p : After W3 => (HRp p).cells.2.1
  have r2 := fun p : After W3 => (HRp p).cells.2.2.1
  have r3 := fun p : After W3 => (HRp p).cells.2.2.2.1
  have r4 := fun p : After W3 => (HRp p).cells.2.2.2.2.1
  have r5 := fun p : After W3 => (HRp p).cells.2.2.2.2.2
  have s0 := fun p : After W3 => (HRp p).seen8.1
  have s1 := fun p : After W3 => (HRp p).seen8.2.1
  have s2 := fun p : After W3 => (HRp p).seen8.2.2.1
  have s3 := fun p : After W3 => (HRp p).seen8.2.2.2.1
  have s4 := fun p : After W3 => (HRp p).seen8.2.2.2.2.1
  have s5 := fun p : After W3 => (HRp p).seen8.2.2.2.2.2.1
  have s6 := fun p : After W3 => (HRp p).seen8.2.2.2.2.2.2.1
  have s7 := fun p : After W3 => (HRp p).seen8.2.2.2.2.2.2.2
  have q0 := fun p : After W3 => (HQp p).cells.1
  have q1 := fun p : After W3 => (HQp p).cells.2.1
  have q2 := fun p : After W3 => (HQp p).cells.2.2.1
  have q3 := fun p : After W3 => (HQp p).cells.2.2.2.1
  have q4 := fun p : After W3 => (HQp p).cells.2.2.2.2.1
  have q5 := fun p : After W3 => (HQp p).cells.2.2.2.2.2
  have t0 := fun p : After W3 => (HQp p).seen8.1
  have t1 := fun p : After W3 => (HQp p).seen8.2.1
  have t2 := fun p : After W3 => (HQp p).seen8.2.2.1
  have t3 := fun p : After W3 => (HQp p).seen8.2.2.2.1
  have t4 := fun p : After W3 => (HQp p).seen8.2.2.2.2.1
  have t5 := fun p : After W3 => (HQp p).seen8.2.2.2.2.2.1
  have t6 := fun p : After W3 => (HQp p).seen8.2.2.2.2.2.2.1
  have t7 := fun p : After W3 => (HQp p).seen8.2.2.2.2.2.2.2
  clear HRp HQp
  (refine wp_region_below (by kernel_rfl) (by kernel_rfl) ?_; (repeat (go_big_quiet_step (first | (go_at_call 42; exact Calls.after_of (valid_calls r _)) | (go_at_call 26; exact Calls.after_of (rvalid_calls r _)) | (go_at_call 43; exact Calls.after_of (before_calls r q (unhid HN64) _)) | (go_at_call 44; exact Calls.after_of (rbefore_calls r q (unhid HN64) _))))); refine wpQuiet_nil ?_; intro wq hw'; obtain ⟨⟨wq2, hbq⟩, hw''⟩ := hw'; dsimp only at hw''; subst hw'')
  clear cv1 cv2 r0 r1 r2 r3 r4 r5 s0 s1 s2 s3 s4 s5 s6 s7 q0 q1 q2 q3 q4 q5 t0 t1 t2 t3 t4 t5 t6 t7
  have HR := hid ((unhid HR).below hbq (unhid HR).lt)
  have HB := hid ((unhid HB).trans (hbq.mono (unhid HB).size))
  have HD1 := hid ((unhid HD1).below hbq)
  clear hbq HD2 HQ
  cases hv : rcB r with
  | false =>
    obtain rfl : E = 90 := by rw [(unhid HEL).1]; simp [packE, hv]
    clear hv
    go_wp2_with (go_at_call 13; refine (first_calls wq).mono ?_; rintro e w5 ⟨rfl, hb5⟩)
    go_ret
    exact ⟨rfl, (unhid HB).trans (hb5.mono (unhid HB).size)⟩
  | true =>
    obtain rfl : E = 0 := by rw [(unhid HEL).1]; simp [packE, hv]
    have HLE := hid (show L = packS r 8 from by rw [(unhid HEL).2]; simp [packL, hv])
    have HLN := hid (show L.length = 54 from by rw [unhid HLE]; exact packS_len r 8)
    have hun := unp_pack hv
    rw [← unhid HLE] at hun
    have HUN := hid hun
    have HUL := hid (show unpE (L ++ [0]) = 4 from by rw [unhid HLE]; exact (unp_long r 0).2)
    clear hv hun HEL
    obtain ⟨b, off, rfl, -, -⟩ := (unhid HD1) (bys_ne (k := 0) (by rw [unhid HLN]; omega))
    go_wp2_with fail
    refine (punpack_calls L (some ⟨b, off, none⟩) k1 wq (unhid HD1) (by rw [unhid HLN]; omega) (unhid HK1)).mono ?_
    rintro e W5 ⟨rfl, hb5⟩
    rw [(unhid HUN).1, (unhid HUN).2]
    have HR := hid ((unhid HR).below hb5 (unhid HR).lt)
    have HB := hid ((unhid HB).trans (hb5.mono (unhid HB).size))
    have HD1 := hid ((unhid HD1).below hb5)
    clear hb5
    simp only [rcV, rcA]
    go_upto_region 8 with (fail)
    change Code.wp _ _ _ _ (W5.alloc (.cells (rcA r) 33))
    have hb6 := below_alloc W5 (.cells (rcA r) 33)
    have HY := hid (RcAt.new W5 r)
    have HR := hid ((unhid HR).below hb6 (unhid HR).lt)
    have HB := hid ((unhid HB).trans (hb6.mono (unhid HB).size))
    have HD1 := hid ((unhid HD1).below hb6)
    obtain ⟨Y, hY⟩ : ∃ Y, Y = W5.heap.size := ⟨_, rfl⟩
    rw [← hY] at HY ⊢
    clear hY hb6
    generalize W5.alloc (.cells (rcA r) 33) = W6 at *
    have HNW := hid (fun (o : Obj) => (show ∀ j u, (bys L)[j]? = some u → (W6.alloc o).cell? ((⟨b, off, none⟩ : Addr).add j) = some u from fun j u hu => by
      obtain ⟨b', off', e, hbl, hc⟩ := ((unhid HD1).alloc o) (bys_ne (k := 0) (by rw [unhid HLN]; omega))
      injection e with e
      injection e with e1 e2 e3
      subst e1 e2
      rw [add_at]
      exact hc j u hu))
    have hlm : L.length ≤ 100 := by rw [unhid HLN]; omega
    go_wp2_with (first | (at_builtin; refine wpList_append_own _ rfl _ _ 43 rfl W6.heap.size 5 i0 (.int .u8 0) 1 1 Try.underlying43 hi hz0 hz1 hz2 rfl (by decide) _ _ _ rfl (hown1.alloc _) ⟨w7.heap.size, 0, none⟩ 1 1 [.int .u8 0] rfl rfl (byt_news w7 0) (by simp [Value.oneCell']) (by unfold maxLen; omega) (by omega) (by simp; omega) ?_; intro v8 w8 hown2 hg2 hnil2; obtain ⟨A3, k3, rfl, hrd3, hk3, -, -⟩ := own_slice2 hown2) | (at_builtin; refine wpList_append_own _ rfl _ _ 43 rfl W6.heap.size 5 i0 (.int .u8 0) 1 1 Try.underlying43 hi hz0 hz1 hz2 rfl (by decide) (.slice (some ⟨W6.heap.size, 0, none⟩) 0 0) 0 [] rfl (World.ownsRow_made (e := 5) (size := 1) W6 #[] 0 (Nat.le_refl _) (by unfold maxLen; omega) rfl) ⟨b, off, none⟩ L.length k1 (bys L) rfl (by simp) ((unhid HNW) _) (by simp [bys, Value.oneCell']) (by unfold maxLen; omega) (by omega) (by simp) ?_; intro v7 w7 hown1 hg1 hnil1; have hsz7 : W6.heap.size ≤ w7.heap.size := Nat.le_trans (by simp) hg1.size))
    have HG := hid (show Below W6.heap.size W6 w8 from by
      have b1 := (Below.refl W6.heap.size W6).alloc (Nat.le_refl _) (.cells #[] 5)
      have b2 := b1.grown hg1 b1.size (fun q hq => by cases hq; exact Nat.le_refl _)
      have b3 := b2.alloc b2.size (.cells #[.int .u8 0] 5)
      exact b3.grown hg2 b3.size (fun q hq => (own_block_lt hown1 hq).1))
    have hnl : 0 + L.length + 1 = (L ++ [0]).length := by simp
    rw [hnl] at hk3
    have HD3 := hid (show Rd w8 A3 (bys (L ++ [0])) from by
      have e : bys (L ++ [0]) = [] ++ bys L ++ [.int .u8 0] := by simp [bys]
      rw [e]; exact hrd3)
    have HK3 := hid hk3
    clear hown1 hg1 hnil1 hsz7 hown2 hg2 hnil2 hrd3 hk3 hnl
    have hcall := punpack_calls (L ++ [0]) A3 k3 w8 (unhid HD3) (by rw [List.length_append, unhid HLN]; simp) (unhid HK3)
    have hl2 : (L ++ [(0 : UInt8)]).length = L.length + 1 := by simp
    rw [hl2] at hcall
    clear hl2
    refine hcall.mono ?_
    rintro e W9 ⟨rfl, hb9⟩
    rw [unhid HUL]
    have HR := hid (((unhid HR).below (unhid HG) (unhid HR).lt).below hb9 (Nat.lt_of_lt_of_le (unhid HR).lt (unhid HG).size))
    have HY := hid (((unhid HY).below (unhid HG) (unhid HY).lt).below hb9 (Nat.lt_of_lt_of_le (unhid HY).lt (unhid HG).size))
    have HB := hid (((unhid HB).trans ((unhid HG).mono (unhid HB).size)).trans (hb9.mono (Nat.le_trans (unhid HB).size (unhid HG).size)))
    clear hb9 hlm
    obtain ⟨c0, c1, c2, c3, c4, c5⟩ := (unhid HR).cells
    obtain ⟨e0, e1, e2, e3, e4, e5, e6, e7⟩ := (unhid HR).seen8
    obtain ⟨d0, d1, d2, d3, d4, d5⟩ := (unhid HY).cells
    obtain ⟨g0, g1, g2, g3, g4, g5, g6, g7⟩ := (unhid HY).seen8
    have heq := eql_same r
    go_wp2_with (go_at_call 13; refine (first_calls W9).mono ?_; rintro e w5 ⟨rfl, hb5⟩)
    go_ret
    exact ⟨rfl, (unhid HB).trans (hb5.mono (unhid HB).size)⟩

end Go.Proofs.Ytegghimjmbgghaa
