/-
  The strips of a type: the reference.
-/
import Derived.Test.YtbnnnjkfhffekaaGreatDoorWoG
import Derived.Test.YtbnnnjkfhffekaaGreatDoorWoS
set_option linter.unusedSimpArgs false
set_option linter.unusedVariables false
namespace Go.Proofs.YtbnnnjkfhffekaaGreatDoor
open Go.RowKit

set_option maxHeartbeats 4000000 in
set_option maxRecDepth 100000 in
theorem rstrips_calls (t : Ty) (width : Int) (w : World) (ht : t.text.length ≤ 1000000) :
    Calls Tryz.prog 21 #[.agg #[.int .i64 t.code, .int .i64 t.grade, .int .i64 t.frm, .int .i64 t.to, .string (SB t.text)], .int .i64 width] w (strR t width w) := by
  obtain ⟨i0, hi, hz0, hz1, hz2⟩ := info_partsd info_i64d
  have hb0 := below_alloc w (.cells #[.int .i64 t.code, .int .i64 t.grade, .int .i64 t.frm, .int .i64 t.to, .string (SB t.text)] 26)
  have HT := hid (TyAt.new w t)
  have HB := hid hb0
  have HY := hid (fun (h : strE t width = 0) (w' : World) (A : Option Addr) (c : Nat) hb hr => strR_yes (t := t) (width := width) (w := w) (w' := w') (A := A) (c := c) h hb hr)
  have HN := hid (fun (n : Int) (h : strE t width = n) (hn : n ≠ 0) (w' : World) hb => strR_no (t := t) (width := width) (n := n) (w := w) (w' := w') h hn hb)
  clear hb0
  go_enter Tryz.func21, Tryz.ntmps21
  go_upto_region 1 with (fail)
  change Code.wp _ _ _ _ (w.alloc (.cells #[.int .i64 t.code, .int .i64 t.grade, .int .i64 t.frm, .int .i64 t.to, .string (SB t.text)] 26))
  generalize w.alloc (.cells #[.int .i64 t.code, .int .i64 t.grade, .int .i64 t.frm, .int .i64 t.to, .string (SB t.text)] 26) = W at *
  obtain ⟨s0, s1, s2, s3, s4⟩ := (unhid HT).cells
  go_wp2_with fail
  refine (picture_calls t W ht).mono ?_
  rintro e w1 ⟨hb, g, A1, c1, pw, ph, B1, B2, n1, k1, n2, k2, rfl, hi1, hyes⟩
  have HB := hid ((unhid HB).trans (hb.mono (unhid HB).size))
  have HI := hid hi1
  have HYES := hid hyes
  clear hb hi1 hyes s0 s1 s2 s3 s4 HT
  cases htb : tyB t with
  | false =>
    have HX := hid ((unhid HN) 101 (strE_1 htb) (by decide))
    clear htb
    go_wp2_with fail
    go_ret2
    exact (unhid HX) _ (below_alloc' (below_alloc' (unhid HB) _) _)
  | true =>
    obtain ⟨hf, hgd, rfl, rfl, rfl, rfl, hrd⟩ := (unhid HYES) htb
    have HTB := hid htb
    have HRD := hid hrd
    have HCO := hid (show colsL t width = seamL g width ++ [g.size] by rw [hgd]; rfl)
    have HS3 := hid (fun h2 => (by rw [hgd]; exact strE_3 htb h2 : strE t width = seamE g width))
    have HS2 := hid (fun h2 => strE_2 (width := width) htb h2)
    have HSE := hid (fun (B1 : Option Addr) (k1 : Nat) (W : World) h => rseams_calls g B1 k1 width W h hf)
    have HIN := hid (seamL_in hf width)
    have hln := seamL_len g width hf
    obtain ⟨z0, z1⟩ := size_bounds hf
    clear hgd hrd htb HYES hf
    go_upto_region 2 with (fail)
    change Code.wp _ _ _ _ ((w1.alloc (.cells #[.int .i64 g.shape, .int .i64 g.size, .int .i64 g.height, .slice A1 g.items.length c1] 60)).alloc (.cells #[.int .i64 g.size, .int .i64 (heiF g), .slice B1 (numD g) k1, .slice B2 (numD g) k2] 62))
    have hb1 := below_alloc w1 (.cells #[.int .i64 g.shape, .int .i64 g.size, .int .i64 g.height, .slice A1 g.items.length c1] 60)
    have hb2 := below_alloc (w1.alloc (.cells #[.int .i64 g.shape, .int .i64 g.size, .int .i64 g.height, .slice A1 g.items.length c1] 60)) (.cells #[.int .i64 g.size, .int .i64 (heiF g), .slice B1 (numD g) k1, .slice B2 (numD g) k2] 62)
    have HB := hid (below_alloc' (below_alloc' (unhid HB) (.cells #[.int .i64 g.shape, .int .i64 g.size, .int .i64 g.height, .slice A1 g.items.length c1] 60)) (.cells #[.int .i64 g.size, .int .i64 (heiF g), .slice B1 (numD g) k1, .slice B2 (numD g) k2] 62))
    have HE := hid ((FaceAt.new w1 c1 (unhid HI)).below hb2)
    generalize (w1.alloc (.cells #[.int .i64 g.shape, .int .i64 g.size, .int .i64 g.height, .slice A1 g.items.length c1] 60)).alloc (.cells #[.int .i64 g.size, .int .i64 (heiF g), .slice B1 (numD g) k1, .slice B2 (numD g) k2] 62) = w2 at *
    generalize w1.heap.size = E at *
    clear hb1 hb2 HI HRD
    by_cases hw : 1 ≤ width ∧ width ≤ 150
    rotate_left
    · have HX := hid ((unhid HN) 2 ((unhid HS2) hw) (by decide))
      have d : decide (1 ≤ width ∧ width ≤ 150) = false := decide_eq_false hw
      clear hw
      go_wp2_with (go_at_call 26; refine (wfrom_calls _ _ _ _).mono ?_; rintro e w' ⟨rfl, rfl⟩)
      go_ret2
      exact (unhid HX) _ (unhid HB)
    have d : decide (1 ≤ width ∧ width ≤ 150) = true := decide_eq_true hw
    have HS4 := hid ((unhid HS3) hw)
    obtain ⟨e0, e1, e2, e3⟩ := (unhid HE).cells
    clear hw HS3 HS2
    go_wp2_with (go_at_call 26; refine (wfrom_calls _ _ _ _).mono ?_; rintro e w' ⟨rfl, rfl⟩)
    refine ((unhid HSE) A1 c1 w2 (unhid HE).ok).mono ?_
    rintro e w3 ⟨hb, A2, c2, rfl, hown⟩
    have HB := hid ((unhid HB).trans (hb.mono (unhid HB).size))
    have HE := hid ((unhid HE).below hb)
    have HOW := hid hown
    clear hb hown e0 e1 e2 e3 HSE d
    obtain ⟨L, hL⟩ : ∃ x, x = seamL g width := ⟨_, rfl⟩
    rw [← hL] at HOW HIN hln HCO ⊢
    obtain ⟨er, her⟩ : ∃ x, x = seamE g width := ⟨_, rfl⟩
    rw [← her] at HS4 ⊢
    clear hL her
    by_cases h0 : er = 0
    rotate_left
    · have d : (er != 0) = true := by simp [h0]
      have H0 := hid h0
      clear h0
      go_wp2_with fail
      go_ret2
      exact (unhid HN) er (unhid HS4) (unhid H0) _ (unhid HB)
    · subst h0
      obtain ⟨e0, e1, e2, e3⟩ := (unhid HE).cells
      go_wp2_with fail
      refine (rextent_calls g A1 c1 w3 (by omega) (by omega)).mono ?_
      rintro e w4 ⟨rfl, hb⟩
      have HB := hid ((unhid HB).trans (hb.mono (unhid HB).size))
      have HOW := hid (own_below (unhid HOW) hb)
      clear hb e0 e1 e2 e3 HE
      obtain ⟨A5, c5, hv5, hrd5, -⟩ := own_slice (unhid HOW)
      cases hv5
      have HRC := hid hrd5
      clear hrd5 HOW
      go_wp2_with fail
      go_loopw [15, 13, 14] (fun iv ov lv wr => ∃ k : Nat, k ≤ L.length ∧ iv = .int .i64 k ∧ lv = .int .i64 (lastK L k) ∧ wr.ownsRow w4.heap.size 3 1 ov k (ints (widK L k)) ∧ Below w4.heap.size w4 wr) (fun iv _ _ _ => L.length - (intOf iv).toNat)
      case atStart => exact ⟨0, Nat.zero_le _, rfl, rfl, World.ownsRow_nil _ _ _ _, Below.refl _ _⟩
      case round =>
        obtain ⟨k, hk, rfl, rfl, hown, hbel⟩ := hrel
        have HROW := hid hown
        have HBEL := hid hbel
        obtain ⟨A4, c4, rfl, hrd4, -⟩ := own_slice hown
        have HRD4 := hid hrd4
        clear hown hbel hrd4
        obtain ⟨y0, y1⟩ := lastK_in (unhid HIN) k (by omega)
        by_cases hlt : k < L.length
        · obtain ⟨b, off, rfl, hb, hc⟩ := ((unhid HRC).below (unhid HBEL)) (nums_ne hlt)
          have m0 := hc k _ (nums_at hlt)
          have HC6 := hid (fun W (h : Below w4.heap.size w4 W) => (unhid HRC).below h)
          have hki : (k : Int) < (L.length : Int) := by omega
          obtain ⟨x0, x1⟩ := (unhid HIN) (L.getD k 0) (by rw [getD_at hlt]; exact List.getElem_mem _)
          have HW1 := hid (show widK L (k + 1) = widK L k ++ [L.getD k 0 - lastK L k] from rfl)
          have HL1 := hid (show lastK L (k + 1) = L.getD k 0 from rfl)
          have HAT := hid (nums_at hlt)
          obtain ⟨x, hx⟩ : ∃ x, x = L.getD k 0 := ⟨_, rfl⟩
          rw [← hx] at m0 x0 x1 HW1 HL1 HAT
          obtain ⟨y, hy⟩ : ∃ y, y = lastK L k := ⟨_, rfl⟩
          rw [← hy] at y0 y1 HW1 ⊢
          clear hx hy hb hc HRD4
          go_wp2_with (at_builtin; refine wpList_append_own _ rfl _ _ 34 rfl w4.heap.size 3 i0 (.int .i64 0) 1 8 Tryz.underlying34 hi hz0 hz1 hz2 rfl (by decide) _ _ _ rfl ((unhid HROW).alloc _) ⟨wr.heap.size, 0, none⟩ 1 1 [.int .i64 (x - y)] rfl rfl (by exact World.news_of_block (cs := #[.int .i64 (x - y)]) (t := 3) (fr := (0, 0)) (by simpa using heap_alloc_new wr (.cells #[.int .i64 (x - y)] 3))) ?j2 ?j3 ?j4 ?j5 ?_)
          case j2 => first | rfl | (intro u hu; simp at hu; subst hu; rfl)
          case j3 => unfold maxLen; omega
          case j4 => omega
          case j5 => have := (unhid HBEL).size; simp; omega
          intro v' w6 hown6 hg6 _
          have hb6 := Below.grown ((unhid HBEL).alloc (unhid HBEL).size (.cells #[.int .i64 (x - y)] 3)) hg6 (by have := (unhid HBEL).size; simp; omega) (fun q hq => by
            rcases Nat.lt_or_ge q w4.heap.size with h | h
            · exact absurd hq (own_ne (unhid HROW) (Or.inl h))
            · exact h)
          have HBL6 := hid hb6
          have HO6 := hid hown6
          clear hb6 hown6 hg6
          obtain ⟨b7, off7, he7, -, hc7⟩ := ((unhid HC6) w6 (unhid HBL6)) (nums_ne hlt)
          injection he7 with he7
          injection he7 with he7 he8
          subst he7 he8
          have m7 := hc7 k _ (unhid HAT)
          clear hc7 m0
          go_wp2_with fail
          go_roundw
          case rel => exact ⟨k + 1, by omega, by go_num, by rw [unhid HL1], by rw [unhid HW1]; simpa [ints] using unhid HO6, unhid HBL6⟩
          case measure => simp [intOf]; omega
        · obtain rfl : k = L.length := by omega
          have HWA := hid (show widK (L ++ [g.size]) (L ++ [g.size]).length = widK L L.length ++ [g.size - lastK L L.length] by
            rw [List.length_append, List.length_singleton]
            show widK (L ++ [g.size]) L.length ++ [(L ++ [g.size]).getD L.length 0 - lastK (L ++ [g.size]) L.length] = _
            rw [widK_app _ _ (Nat.le_refl _), lastK_app _ _ (Nat.le_refl _), List.getD_eq_getElem?_getD, List.getElem?_append_right (Nat.le_refl _)]
            simp)
          obtain ⟨y, hy⟩ : ∃ y, y = lastK L L.length := ⟨_, rfl⟩
          rw [← hy] at y0 y1 HWA ⊢
          clear hy HRD4
          go_wp2_with (at_builtin; refine wpList_append_own _ rfl _ _ 34 rfl w4.heap.size 3 i0 (.int .i64 0) 1 8 Tryz.underlying34 hi hz0 hz1 hz2 rfl (by decide) _ _ _ rfl ((unhid HROW).alloc _) ⟨wr.heap.size, 0, none⟩ 1 1 [.int .i64 (g.size - y)] rfl rfl (by exact World.news_of_block (cs := #[.int .i64 (g.size - y)]) (t := 3) (fr := (0, 0)) (by simpa using heap_alloc_new wr (.cells #[.int .i64 (g.size - y)] 3))) ?i2 ?i3 ?i4 ?i5 ?_)
          case i2 => first | rfl | (intro u hu; simp at hu; subst hu; rfl)
          case i3 => unfold maxLen; omega
          case i4 => omega
          case i5 => have := (unhid HBEL).size; simp; omega
          intro v' w6 hown6 hg6 _
          have hb6 := Below.grown ((unhid HBEL).alloc (unhid HBEL).size (.cells #[.int .i64 (g.size - y)] 3)) hg6 (by have := (unhid HBEL).size; simp; omega) (fun q hq => by
            rcases Nat.lt_or_ge q w4.heap.size with h | h
            · exact absurd hq (own_ne (unhid HROW) (Or.inl h))
            · exact h)
          have HBL6 := hid hb6
          have HO6 := hid hown6
          clear hb6 hown6 hg6
          obtain ⟨A6, c6, rfl, hrd6, -⟩ := own_slice (unhid HO6)
          have HRD6 := hid hrd6
          clear hrd6
          go_wp2_with fail
          go_ret2
          have h := (unhid HY) (unhid HS4) w6 A6 c6 ((unhid HB).trans ((unhid HBL6).mono (unhid HB).size))
          rw [unhid HCO, unhid HWA] at h
          have h2 := h (by simpa [ints] using unhid HRD6)
          rw [List.length_append, List.length_singleton] at h2
          exact h2

end Go.Proofs.YtbnnnjkfhffekaaGreatDoor
