/-
  Equal and Mirror of the reference's pictures.
-/
import Derived.Test.YtmagidoodlkeoaaGreatDoorFcBx
import Derived.Test.YtmagidoodlkeoaaGreatDoorFcPaint
set_option linter.unusedSimpArgs false
set_option linter.unusedVariables false
namespace Go.Proofs.YtmagidoodlkeoaaGreatDoor
open Go.RowKit

theorem dotL_at {f : Fc} {k n : Nat} (h : n < numD f) : (dotL f k)[n]? = some (dotK f k n) := by simp [dotL, h]

set_option maxHeartbeats 4000000 in
set_option maxRecDepth 100000 in
theorem requal_calls (f g : Fc) (A1 A2 A3 A4 : Option Addr) (c1 c2 c3 c4 : Nat) (w : World) (hf : fcB f = true) (hg : fcB g = true) (hr : Rd w A1 (ints (dotL f f.items.length))) (hr2 : Rd w A3 (ints (dotL g g.items.length))) :
    Calls Tryz.prog 45 #[.agg #[.int .i64 f.size, .int .i64 (heiF f), .slice A1 (numD f) c1, .slice A2 (numD f) c2], .agg #[.int .i64 g.size, .int .i64 (heiF g), .slice A3 (numD g) c3, .slice A4 (numD g) c4]] w fun e w' => e = .returned (.bool (lookB f g)) ∧ Below w.heap.size w w' := by
  obtain ⟨n0, n1⟩ := numD_bounds hf
  have hb1 := below_alloc w (.cells #[.int .i64 f.size, .int .i64 (heiF f), .slice A1 (numD f) c1, .slice A2 (numD f) c2] 36)
  have hn1 := heap_alloc_new w (.cells #[.int .i64 f.size, .int .i64 (heiF f), .slice A1 (numD f) c1, .slice A2 (numD f) c2] 36)
  have hs1 : (w.alloc (.cells #[.int .i64 f.size, .int .i64 (heiF f), .slice A1 (numD f) c1, .slice A2 (numD f) c2] 36)).heap.size = w.heap.size + 1 := by simp
  have hb2 := below_alloc (w.alloc (.cells #[.int .i64 f.size, .int .i64 (heiF f), .slice A1 (numD f) c1, .slice A2 (numD f) c2] 36)) (.cells #[.int .i64 g.size, .int .i64 (heiF g), .slice A3 (numD g) c3, .slice A4 (numD g) c4] 36)
  have hn2 := heap_alloc_new (w.alloc (.cells #[.int .i64 f.size, .int .i64 (heiF f), .slice A1 (numD f) c1, .slice A2 (numD f) c2] 36)) (.cells #[.int .i64 g.size, .int .i64 (heiF g), .slice A3 (numD g) c3, .slice A4 (numD g) c4] 36)
  rw [hs1] at hn2
  have hn1' := (hb2.block w.heap.size (by rw [hs1]; omega)).trans hn1
  have hbb := hb1.trans (hb2.mono hb1.size)
  have HR1 := hid (hr.below hbb)
  have HR2 := hid (hr2.below hbb)
  have HBB := hid hbb
  have HN1 := hid hn1'
  have HN2 := hid hn2
  clear hb1 hb2 hn1 hn1' hn2 hs1 hbb hr hr2
  go_enter Tryz.func45, Tryz.ntmps45
  go_upto_region 1 with (fail)
  generalize (w.alloc (.cells #[.int .i64 f.size, .int .i64 (heiF f), .slice A1 (numD f) c1, .slice A2 (numD f) c2] 36)).alloc (.cells #[.int .i64 g.size, .int .i64 (heiF g), .slice A3 (numD g) c3, .slice A4 (numD g) c4] 36) = W at *
  obtain ⟨B, hB⟩ : ∃ B, B = w.heap.size := ⟨_, rfl⟩
  rw [← hB] at HN1 HN2 ⊢
  have HBW := hid hB
  clear hB
  have p0 := cell_of_row _ B 0 _ _ _ (unhid HN1)
  have p1 := cell_of_row _ B 1 _ _ _ (unhid HN1)
  have p2 := cell_of_row _ B 2 _ _ _ (unhid HN1)
  have q0 := cell_of_row _ (B + 1) 0 _ _ _ (unhid HN2)
  have q1 := cell_of_row _ (B + 1) 1 _ _ _ (unhid HN2)
  have q2 := cell_of_row _ (B + 1) 2 _ _ _ (unhid HN2)
  simp at p0 p1 p2 q0 q1 q2
  by_cases he : f.size = g.size ∧ heiF f = heiF g
  · obtain ⟨h1, h2⟩ := he
    have hN : numD g = numD f := by unfold numD; rw [h1, h2]
    have x1 : (f.size != g.size) = false := by simp [h1]
    have x2 : (heiF f != heiF g) = false := by simp [h2]
    have HE := hid (And.intro h1 h2)
    have HNN := hid hN
    clear h1 h2 hN
    go_wp2_with fail
    go_loopw [5] (fun iv wr => ∃ n : Nat, n ≤ numD f ∧ iv = .int .i64 n ∧ (∀ m, m < n → dotK f f.items.length m = dotK g g.items.length m) ∧ Below W.heap.size W wr) (fun iv _ => numD f - (intOf iv).toNat)
    case atStart => exact ⟨0, Nat.zero_le _, rfl, fun m hm => by omega, Below.refl _ _⟩
    case round =>
      obtain ⟨n, hn, rfl, hall, hbel⟩ := hrel
      have HALL := hid hall
      have HBL := hid hbel
      have hP := (hbel.block B (Array.getElem?_eq_some_iff.1 (unhid HN1)).1).trans (unhid HN1)
      have hQ := (hbel.block (B + 1) (Array.getElem?_eq_some_iff.1 (unhid HN2)).1).trans (unhid HN2)
      have r2 := cell_of_row _ B 2 _ _ _ hP
      have s2 := cell_of_row _ (B + 1) 2 _ _ _ hQ
      simp at r2 s2
      by_cases hnl : n < numD f
      · have hne : ints (dotL f f.items.length) ≠ [] := ints_ne (k := n) (by rw [dotL_len]; exact hnl)
        have hne2 : ints (dotL g g.items.length) ≠ [] := ints_ne (k := n) (by rw [dotL_len, unhid HNN]; exact hnl)
        obtain ⟨b, off, rfl, hb, hc⟩ := ((unhid HR1).below hbel) hne
        obtain ⟨b2, off2, rfl, hb2, hc2⟩ := ((unhid HR2).below hbel) hne2
        have m0 := hc n (.int .i64 (dotK f f.items.length n)) (by simp [ints, dotL_at hnl])
        have m1 := hc2 n (.int .i64 (dotK g g.items.length n)) (by simp [ints, dotL_at (f := g) (show n < numD g by rw [unhid HNN]; exact hnl)])
        rw [unhid HNN] at s2
        have hni : (n : Int) < (numD f : Int) := by omega
        have HOK := hid (show ∀ u v, u = dotK f f.items.length n → v = dotK g g.items.length n → (u = v → ∀ m, m < n + 1 → dotK f f.items.length m = dotK g g.items.length m) ∧ (u ≠ v → lookB f g = false) from fun u v hu hv =>
          ⟨fun e m hm => by
            by_cases em : m = n
            · subst em; rw [← hu, ← hv]; exact e
            · exact hall m (by omega), fun e => look_dot hnl (by rw [← hu, ← hv]; exact e)⟩)
        obtain ⟨u, hu⟩ : ∃ u, u = dotK f f.items.length n := ⟨_, rfl⟩
        obtain ⟨v, hv⟩ : ∃ v, v = dotK g g.items.length n := ⟨_, rfl⟩
        have HOK := hid ((unhid HOK) u v hu hv)
        rw [← hu] at m0
        rw [← hv] at m1
        clear hu hv hc hc2 hne hne2 hall hbel hP hQ
        by_cases huv : u = v
        · have hx : (u != v) = false := by simp [huv]
          have HQ := hid ((unhid HOK).1 huv)
          clear huv
          go_wp2_with fail
          go_quiet (fail)
          go_wp2_with fail
          go_roundw
          case rel => exact ⟨n + 1, by omega, by go_num, unhid HQ, by first | exact below_drewN' (unhid HBL) _ | exact Below.drew (unhid HBL)⟩
          case measure => simp [intOf]; omega
        · have hx : (u != v) = true := by simp [huv]
          have HQ := hid ((unhid HOK).2 huv)
          clear huv
          go_wp2_with fail
          go_quiet (fail)
          have HBF := hid (unhid HBL)
          go_wp2_with fail
          go_ret
          refine ⟨retb (by rw [unhid HQ]), ?_⟩
          first | exact below_drewN' ((unhid HBB).trans ((unhid HBL).mono (unhid HBB).size)) _ | exact Below.drew ((unhid HBB).trans ((unhid HBL).mono (unhid HBB).size))
      · obtain rfl : n = numD f := by omega
        have HQ := hid (look_true (unhid HE).1 (unhid HE).2 hall)
        clear hall hbel hP hQ
        have hni : ¬ (numD f : Int) < (numD f : Int) := by omega
        go_wp2_with fail
        go_ret
        exact ⟨retb (by rw [unhid HQ]), (unhid HBB).trans ((unhid HBL).mono (unhid HBB).size)⟩
  · have HQ := hid (look_false he)
    by_cases h1 : f.size = g.size
    · have h2 : ¬ heiF f = heiF g := fun e => he ⟨h1, e⟩
      have x1 : (f.size != g.size) = false := by simp [h1]
      have x2 : (heiF f != heiF g) = true := by simp [h2]
      clear h1 h2 he
      go_wp2_with fail
      go_ret
      exact ⟨retb (by rw [unhid HQ]), unhid HBB⟩
    · have x1 : (f.size != g.size) = true := by simp [h1]
      clear h1 he
      go_wp2_with fail
      go_ret
      exact ⟨retb (by rw [unhid HQ]), unhid HBB⟩

set_option maxHeartbeats 4000000 in
set_option maxRecDepth 100000 in
theorem rmirror_calls (f : Fc) (A1 A2 : Option Addr) (c1 c2 : Nat) (w : World) (hf : fcB f = true) (hr : Rd w A1 (ints (dotL f f.items.length))) :
    Calls Tryz.prog 53 #[.agg #[.int .i64 f.size, .int .i64 (heiF f), .slice A1 (numD f) c1, .slice A2 (numD f) c2]] w fun e w' => e = .returned (.bool (mirB f)) ∧ Below w.heap.size w w' := by
  obtain ⟨s0, s1⟩ := size_bounds hf
  obtain ⟨h0, h1⟩ := heiF_bounds hf
  have HFF := hid hf
  have hb1 := below_alloc w (.cells #[.int .i64 f.size, .int .i64 (heiF f), .slice A1 (numD f) c1, .slice A2 (numD f) c2] 36)
  have HN1 := hid (heap_alloc_new w (.cells #[.int .i64 f.size, .int .i64 (heiF f), .slice A1 (numD f) c1, .slice A2 (numD f) c2] 36))
  have HR1 := hid (hr.below hb1)
  have HBB := hid hb1
  have hTR : (∀ m, m < numD f → colAt f ((m % f.size.toNat : Nat) : Int) ((m / f.size.toNat : Nat) : Int) = colAt f (f.size - 1 - ((m % f.size.toNat : Nat) : Int)) ((m / f.size.toNat : Nat) : Int)) → mirB f = true := fun h => mir_true (fun n hn => by
    obtain ⟨a, b⟩ := pix_lt hn
    have h := h n hn
    unfold colAt at h
    have p0 := Int.natCast_nonneg (n % f.size.toNat)
    have p1 := Int.natCast_nonneg (n / f.size.toNat)
    rw [if_pos ⟨p0, a, p1, b⟩, if_pos ⟨by omega, by omega, p1, b⟩] at h
    exact h)
  have HTR := hid hTR
  clear hb1 hr hTR hf
  obtain ⟨sz, hsz⟩ : ∃ sz : Nat, sz = f.size.toNat := ⟨_, rfl⟩
  obtain ⟨hh, hhh⟩ : ∃ hh : Nat, hh = (heiF f).toNat := ⟨_, rfl⟩
  have HSZ := hid (show (sz : Int) = f.size by omega)
  have HHH := hid (show (hh : Int) = heiF f by omega)
  have HSN := hid hsz
  have HHN := hid hhh
  clear hsz hhh
  go_enter Tryz.func53, Tryz.ntmps53
  go_upto_region 1 with (fail)
  generalize w.alloc (.cells #[.int .i64 f.size, .int .i64 (heiF f), .slice A1 (numD f) c1, .slice A2 (numD f) c2] 36) = W at *
  go_wp2_with fail
  go_loopw [3] (fun jv wr => ∃ j : Nat, j ≤ hh ∧ jv = .int .i64 j ∧ (∀ m, m < j * sz → colAt f ((m % sz : Nat) : Int) ((m / sz : Nat) : Int) = colAt f (f.size - 1 - ((m % sz : Nat) : Int)) ((m / sz : Nat) : Int)) ∧ Below W.heap.size W wr) (fun jv _ => hh - (intOf jv).toNat)
  case atStart => exact ⟨0, Nat.zero_le _, rfl, fun m hm => by omega, Below.refl _ _⟩
  case round =>
    obtain ⟨j, hj, rfl, hall, hbel⟩ := hrel
    have HALL := hid hall
    have HBL := hid hbel
    have hP := (hbel.block w.heap.size (Array.getElem?_eq_some_iff.1 (unhid HN1)).1).trans (unhid HN1)
    have p1 := cell_of_row _ w.heap.size 1 _ _ _ hP
    simp at p1
    clear hall hbel hP
    by_cases hjl : j < hh
    · have hji : (j : Int) < heiF f := by have := unhid HHH; omega
      go_wp2_with fail
      go_loopw [4] (fun iv wr => ∃ i : Nat, i ≤ sz ∧ iv = .int .i64 i ∧ (∀ m, m < j * sz + i → colAt f ((m % sz : Nat) : Int) ((m / sz : Nat) : Int) = colAt f (f.size - 1 - ((m % sz : Nat) : Int)) ((m / sz : Nat) : Int)) ∧ Below W.heap.size W wr) (fun iv _ => sz - (intOf iv).toNat)
      case atStart => exact ⟨0, Nat.zero_le _, rfl, unhid HALL, unhid HBL⟩
      case round =>
        obtain ⟨i, hi, rfl, hall, hbel⟩ := hrel
        have HALL2 := hid hall
        have HBL2 := hid hbel
        have hP := (hbel.block w.heap.size (Array.getElem?_eq_some_iff.1 (unhid HN1)).1).trans (unhid HN1)
        have r0 := cell_of_row _ w.heap.size 0 _ _ _ hP
        simp at r0
        clear hall
        by_cases hil : i < sz
        · have hii : (i : Int) < f.size := by have := unhid HSZ; omega
          have e1 : (j * sz + i) % sz = i := by rw [Nat.add_comm, Nat.add_mul_mod_self_right, Nat.mod_eq_of_lt hil]
          have e2 : (j * sz + i) / sz = j := by rw [Nat.add_comm, Nat.add_mul_div_right _ _ (by omega), Nat.div_eq_of_lt hil, Nat.zero_add]
          have hx : j * sz + i < numD f := by
            have h1 : j * sz + sz ≤ hh * sz := by rw [← Nat.succ_mul]; exact Nat.mul_le_mul_right _ hjl
            have h2 : numD f = hh * sz := by unfold numD; rw [← unhid HSN, ← unhid HHN, Nat.mul_comm]
            omega
          have KF := hid (fun p : After wr => rat_calls f A1 A2 c1 c2 (i : Int) (j : Int) p.w (unhid HFF) (((unhid HR1).below hbel).below p.below))
          have KG := hid (fun p : After wr => rat_calls f A1 A2 c1 c2 (f.size - 1 - (i : Int)) (j : Int) p.w (unhid HFF) (((unhid HR1).below hbel).below p.below))
          have a0 : ∀ p : After wr, p.w.cell? ⟨w.heap.size, 0, none⟩ = some (.int .i64 f.size) := fun p => cell_of_row _ _ _ _ _ _ ((p.below.block _ (Array.getElem?_eq_some_iff.1 hP).1).trans hP)
          have a1 : ∀ p : After wr, p.w.cell? ⟨w.heap.size, 1, none⟩ = some (.int .i64 (heiF f)) := fun p => cell_of_row _ _ _ _ _ _ ((p.below.block _ (Array.getElem?_eq_some_iff.1 hP).1).trans hP)
          have a2 : ∀ p : After wr, p.w.cell? ⟨w.heap.size, 2, none⟩ = some (.slice A1 (numD f) c1) := fun p => cell_of_row _ _ _ _ _ _ ((p.below.block _ (Array.getElem?_eq_some_iff.1 hP).1).trans hP)
          have a3 : ∀ p : After wr, p.w.cell? ⟨w.heap.size, 3, none⟩ = some (.slice A2 (numD f) c2) := fun p => cell_of_row _ _ _ _ _ _ ((p.below.block _ (Array.getElem?_eq_some_iff.1 hP).1).trans hP)
          have HOK := hid (show ∀ u v, u = colAt f (i : Int) (j : Int) → v = colAt f (f.size - 1 - (i : Int)) (j : Int) → (u = v → ∀ m, m < j * sz + (i + 1) → colAt f ((m % sz : Nat) : Int) ((m / sz : Nat) : Int) = colAt f (f.size - 1 - ((m % sz : Nat) : Int)) ((m / sz : Nat) : Int)) ∧ (u ≠ v → mirB f = false) from fun u v hu hv =>
            ⟨fun e m hm => by
              by_cases em : m = j * sz + i
              · subst em; rw [e1, e2, ← hu, ← hv]; exact e
              · exact (unhid HALL2) m (by omega), fun e => mir_dot hx (by
                unfold dotK
                rw [← unhid HSN, e1, e2]
                intro h
                apply e
                rw [hu, hv]
                unfold colAt
                have p0 := Int.natCast_nonneg i
                have p1 := Int.natCast_nonneg j
                rw [if_pos ⟨p0, hii, p1, hji⟩, if_pos ⟨by omega, by omega, p1, hji⟩]
                exact h)⟩)
          obtain ⟨u, hu⟩ : ∃ u, u = colAt f (i : Int) (j : Int) := ⟨_, rfl⟩
          obtain ⟨v, hv⟩ : ∃ v, v = colAt f (f.size - 1 - (i : Int)) (j : Int) := ⟨_, rfl⟩
          have HOK := hid ((unhid HOK) u v hu hv)
          rw [← hu] at KF
          rw [← hv] at KG
          clear hu hv e1 e2 hx hbel hP
          obtain ⟨y0, y0'⟩ := w64 (n := f.size - 1) (by omega) (by omega)
          obtain ⟨y1, y1'⟩ := w64 (n := f.size - 1 - (i : Int)) (by omega) (by omega)
          go_wp2_with fail
          refine wp_region_below (by kernel_rfl) (by kernel_rfl) ?_
          go_big_quiet_step (fail)
          go_big_quiet_step (fail)
          go_big_quiet_step (fail)
          go_big_quiet_step ((go_at_call 28; exact Calls.after_of ((unhid KF) _)))
          go_big_quiet_step (fail)
          go_big_quiet_step (fail)
          go_big_quiet_step (fail)
          go_big_quiet_step (fail)
          go_big_quiet_step (fail)
          go_big_quiet_step (fail)
          go_big_quiet_step (fail)
          go_big_quiet_step ((go_at_call 28; exact Calls.after_of ((unhid KG) _)))
          go_big_quiet_step (fail)
          refine wpQuiet_nil ?_
          intro wq hw'
          obtain ⟨⟨wq2, hbq⟩, hw''⟩ := hw'
          dsimp only at hw''
          subst hw''
          have HB3 := hid ((unhid HBL2).trans (hbq.mono (unhid HBL2).size))
          clear a0 a1 a2 a3 y0 y0' y1 y1' hbq
          by_cases huv : u = v
          · have hxx : (u != v) = false := by simp [huv]
            have HQ := hid ((unhid HOK).1 huv)
            clear huv
            go_wp2_with fail
            go_roundw
            case rel => exact ⟨i + 1, by omega, by go_num, unhid HQ, unhid HB3⟩
            case measure => simp [intOf]; omega
          · have hxx : (u != v) = true := by simp [huv]
            have HQ := hid ((unhid HOK).2 huv)
            clear huv
            go_wp2_with fail
            go_ret
            exact ⟨retb (by rw [unhid HQ]), (unhid HBB).trans ((unhid HB3).mono (unhid HBB).size)⟩
        · obtain rfl : i = sz := by omega
          have hii : ¬ (i : Int) < f.size := by have := unhid HSZ; omega
          clear hbel hP
          go_wp2_with fail
          go_roundw
          case rel => exact ⟨j + 1, by omega, by go_num, fun m hm => (unhid HALL2) m (by rw [Nat.succ_mul] at hm; exact hm), unhid HBL2⟩
          case measure => simp [intOf]; omega
    · obtain rfl : j = hh := by omega
      have hji : ¬ (j : Int) < heiF f := by have := unhid HHH; omega
      have HQ := hid ((unhid HTR) (fun m hm => by
        have h := (unhid HALL) m (by
          have h2 : numD f = j * sz := by unfold numD; rw [← unhid HSN, ← unhid HHN, Nat.mul_comm]
          omega)
        rw [← unhid HSN]
        exact h))
      go_wp2_with fail
      go_ret
      exact ⟨retb (by rw [unhid HQ]), (unhid HBB).trans ((unhid HBL).mono (unhid HBB).size)⟩

end Go.Proofs.YtmagidoodlkeoaaGreatDoor
