/-
  The reference's fork of a tablet.
-/
import Derived.Test.YtegghimjmbgghaaGreatBkRb
import Derived.Test.YtegghimjmbgghaaGreatKitB
set_option linter.unusedSimpArgs false
set_option linter.unusedVariables false
namespace Go.Proofs.YtegghimjmbgghaaGreat
open Go.RowKit Go.Shelf

theorem frk0_adj {L : List Rc} (hv : ∀ r ∈ L, rcB r = true) (hA : Asc L) {t i : Nat} (hi : adjB L t i) (hmin : ∀ j, j < i → ¬ adjB L t j) : frk0 L t = (L[i + 1]'hi.1).num := by
  have h := adj_frk hv hA hi hmin
  have := (rc_ok (hv _ (List.getElem_mem hi.1))).num
  unfold frk0
  rw [h, if_pos (by omega)]
theorem frk0_none {L : List Rc} (hv : ∀ r ∈ L, rcB r = true) (hA : Asc L) {t : Nat} (hno : ∀ i, ¬ adjB L t i) : frk0 L t = 0 := by
  unfold frk0
  rw [no_adj_frk hv hA hno]
  rfl

set_option maxHeartbeats 8000000 in
set_option maxRecDepth 100000 in
theorem fork_calls {B : Nat} {L : List Rc} {C : List Bool} {A A2 : Option Addr} {c c2 : Nat} (t : Nat) (ti : Int) (hti : ti = (t : Int) + 1) (w : World) (h : RBk w B L C A c A2 c2) (hv : ∀ r ∈ L, rcB r = true) (hA : Asc L) (hL : L.length ≤ 1000000) :
    Calls Tryz.prog 63 #[.pointer (some ⟨B, 0, none⟩), .int .i64 ti] w fun e w' => e = .returned (.int .i64 (frk0 L t)) ∧ Below w.heap.size w w' := by
  have HK := hid h
  have HV := hid hv
  have HA := hid hA
  have HLL := hid hL
  have HT := hid hti
  clear h hv hL hti hA
  go_enter Tryz.func63, Tryz.ntmps63
  go_upto_region 2 with (fail)
  go_loopw [5] (fun iv wr => ∃ k : Nat, (k ≤ L.length) ∧ iv = .int .i64 ((k : Int) + 1) ∧ (∀ j, j < k → ¬ adjB L t j) ∧ Below w.heap.size w wr) (fun iv _ => L.length + 1 - (intOf iv).toNat)
  case atStart => exact ⟨0, Nat.zero_le _, rfl, fun j h => by omega, Below.refl _ _⟩
  case round =>
    obtain ⟨k, hk, rfl, hno, hb⟩ := hrel
    have HNO := hid hno
    have HB := hid hb
    have HKB := hid ((unhid HK).below hb)
    clear hno hb
    have k0 := (unhid HKB).cell0
    by_cases hlt : k + 1 < L.length
    · have hki : (k : Int) + 1 < (L.length : Int) := by omega
      have hlt0 : k < L.length := by omega
      have hki0 : (k : Int) < (L.length : Int) := by omega
      have hwk : wrap64 (k : Int) = (k : Int) := by have := unhid HLL; unfold wrap64; omega
      obtain ⟨b, off, hAe, hbl, hc⟩ := (unhid HKB).l (recs_ne hlt)
      subst hAe
      obtain ⟨x, hx⟩ : ∃ x, L[k] = x := ⟨_, rfl⟩
      obtain ⟨y, hy⟩ : ∃ y, L[k + 1] = y := ⟨_, rfl⟩
      obtain ⟨a0, a1, -⟩ := recs_cells hc hlt0 hx
      obtain ⟨d0, d1, -⟩ := recs_cells hc hlt hy
      have hkB : B < wr.heap.size := (Array.getElem?_eq_some_iff.1 (unhid HKB).b).1
      have m0 := fun p : After wr => After.cell (by dsimp only; exact hkB) k0 p
      have m1 := fun p : After wr => After.cell (by dsimp only; exact hbl) a0 p
      have m2 := fun p : After wr => After.cell (by dsimp only; exact hbl) a1 p
      have m3 := fun p : After wr => After.cell (by dsimp only; exact hbl) d0 p
      have m4 := fun p : After wr => After.cell (by dsimp only; exact hbl) d1 p
      have HXY := hid (⟨hx, hy⟩ : L[k] = x ∧ L[k + 1] = y)
      have HC := hid (⟨k0, d1⟩ : _ ∧ _)
      have hks : ((k : Int) + 1).toNat = k + 1 := by omega
      have hkm : (k : Int) + 1 - 1 = (k : Int) := by omega
      clear hc hx hy a0 a1 d0 
      by_cases e1 : y.tab = ti
      · have q1 : (y.tab == ti) = true := by simp [e1]
        by_cases e2 : x.tab = ti
        · have q2 : (x.tab == ti) = true := by simp [e2]
          by_cases e3 : y.num = x.num
          · have q3 : (y.num == x.num) = true := by simp [e3]
            have HAD := hid (show adjB L t k from ⟨hlt, by
              have o1 := (rc_ok ((unhid HV) x ((unhid HXY).1 ▸ List.getElem_mem hlt0))).tb
              have o3 := unhid HT
              rw [(unhid HXY).1]; omega, by
              have o2 := (rc_ok ((unhid HV) y ((unhid HXY).2 ▸ List.getElem_mem hlt))).tb
              have o3 := unhid HT
              rw [(unhid HXY).2]; omega, by rw [(unhid HXY).1, (unhid HXY).2]; exact e3.symm⟩)
            have HFR := hid (show frk0 L t = x.num from by rw [frk0_adj (unhid HV) (unhid HA) (unhid HAD) (unhid HNO), (unhid HXY).2, e3])
            go_upto_region 4 with (fail)
            (refine wp_region_below (by kernel_rfl) (by kernel_rfl) ?_; (repeat (go_big_quiet_step (first | fail))); refine wpQuiet_nil ?_; intro wq hw'; obtain ⟨⟨wq2, hbq⟩, hw''⟩ := hw'; dsimp only at hw''; subst hw'')
            have HB := hid ((unhid HB).trans (hbq.mono (unhid HB).size))
            have u0 := hbq.cell (p := ⟨B, 0, none⟩) hkB
            have u1 := hbq.cell (p := ⟨b, off + (k + 1) * 14 + 1, none⟩) hbl
            rw [(unhid HC).1] at u0
            rw [(unhid HC).2] at u1
            clear hbq
            go_wp2_with fail
            go_ret
            exact ⟨by rw [unhid HFR]; rfl, unhid HB⟩
          · have q3 : (y.num == x.num) = false := by simp [e3]
            have HNA := hid (show ¬ adjB L t k from fun ⟨h, f1, f2, f3⟩ => by
              rw [(unhid HXY).1] at f1 f3
              rw [(unhid HXY).2] at f2 f3
              have o1 := (rc_ok ((unhid HV) x ((unhid HXY).1 ▸ List.getElem_mem hlt0))).tb
              have o2 := (rc_ok ((unhid HV) y ((unhid HXY).2 ▸ List.getElem_mem hlt))).tb
              have o3 := unhid HT
              exact e3 f3.symm)
            go_upto_region 4 with (fail)
            (refine wp_region_below (by kernel_rfl) (by kernel_rfl) ?_; (repeat (go_big_quiet_step (first | fail))); refine wpQuiet_nil ?_; intro wq hw'; obtain ⟨⟨wq2, hbq⟩, hw''⟩ := hw'; dsimp only at hw''; subst hw'')
            have HB := hid ((unhid HB).trans (hbq.mono (unhid HB).size))
            clear hbq
            have HNO2 := hid (show ∀ j, j < k + 1 → ¬ adjB L t j from fun j hj => by
              rcases Nat.lt_or_ge j k with h | h
              · exact (unhid HNO) j h
              · have : j = k := by omega
                subst this; exact unhid HNA)
            have HW2 := hid (show wrap64 ((k : Int) + 1 + 1) = ((k + 1 : Nat) : Int) + 1 from by have := unhid HLL; unfold wrap64; omega)
            go_wp2_with fail
            go_roundw
            case rel => exact ⟨k + 1, by omega, by rw [unhid HW2], unhid HNO2, unhid HB⟩
            case measure => rw [unhid HW2]; simp [intOf]; omega
        · have q2 : (x.tab == ti) = false := by simp [e2]
          have HNA := hid (show ¬ adjB L t k from fun ⟨h, f1, f2, f3⟩ => by
            rw [(unhid HXY).1] at f1 f3
            rw [(unhid HXY).2] at f2 f3
            have o1 := (rc_ok ((unhid HV) x ((unhid HXY).1 ▸ List.getElem_mem hlt0))).tb
            have o2 := (rc_ok ((unhid HV) y ((unhid HXY).2 ▸ List.getElem_mem hlt))).tb
            have o3 := unhid HT
            omega)
          go_upto_region 4 with (fail)
          (refine wp_region_below (by kernel_rfl) (by kernel_rfl) ?_; (repeat (go_big_quiet_step (first | fail))); refine wpQuiet_nil ?_; intro wq hw'; obtain ⟨⟨wq2, hbq⟩, hw''⟩ := hw'; dsimp only at hw''; subst hw'')
          have HB := hid ((unhid HB).trans (hbq.mono (unhid HB).size))
          clear hbq
          have HNO2 := hid (show ∀ j, j < k + 1 → ¬ adjB L t j from fun j hj => by
            rcases Nat.lt_or_ge j k with h | h
            · exact (unhid HNO) j h
            · have : j = k := by omega
              subst this; exact unhid HNA)
          have HW2 := hid (show wrap64 ((k : Int) + 1 + 1) = ((k + 1 : Nat) : Int) + 1 from by have := unhid HLL; unfold wrap64; omega)
          go_wp2_with fail
          go_roundw
          case rel => exact ⟨k + 1, by omega, by rw [unhid HW2], unhid HNO2, unhid HB⟩
          case measure => rw [unhid HW2]; simp [intOf]; omega
      · have q1 : (y.tab == ti) = false := by simp [e1]
        have HNA := hid (show ¬ adjB L t k from fun ⟨h, f1, f2, f3⟩ => by
          rw [(unhid HXY).1] at f1 f3
          rw [(unhid HXY).2] at f2 f3
          have o1 := (rc_ok ((unhid HV) x ((unhid HXY).1 ▸ List.getElem_mem hlt0))).tb
          have o2 := (rc_ok ((unhid HV) y ((unhid HXY).2 ▸ List.getElem_mem hlt))).tb
          have o3 := unhid HT
          omega)
        go_upto_region 4 with (fail)
        (refine wp_region_below (by kernel_rfl) (by kernel_rfl) ?_; (repeat (go_big_quiet_step (first | fail))); refine wpQuiet_nil ?_; intro wq hw'; obtain ⟨⟨wq2, hbq⟩, hw''⟩ := hw'; dsimp only at hw''; subst hw'')
        have HB := hid ((unhid HB).trans (hbq.mono (unhid HB).size))
        clear hbq
        have HNO2 := hid (show ∀ j, j < k + 1 → ¬ adjB L t j from fun j hj => by
          rcases Nat.lt_or_ge j k with h | h
          · exact (unhid HNO) j h
          · have : j = k := by omega
            subst this; exact unhid HNA)
        have HW2 := hid (show wrap64 ((k : Int) + 1 + 1) = ((k + 1 : Nat) : Int) + 1 from by have := unhid HLL; unfold wrap64; omega)
        go_wp2_with fail
        go_roundw
        case rel => exact ⟨k + 1, by omega, by rw [unhid HW2], unhid HNO2, unhid HB⟩
        case measure => rw [unhid HW2]; simp [intOf]; omega
    · have hki : ¬ (k : Int) + 1 < (L.length : Int) := by omega
      have HF := hid (show frk0 L t = 0 from frk0_none (unhid HV) (unhid HA) (fun j hj => by
        rcases Nat.lt_or_ge j k with h | h
        · exact (unhid HNO) j h hj
        · obtain ⟨h1, -⟩ := hj; omega))
      go_wp2_with fail
      go_ret
      exact ⟨by rw [unhid HF]; rfl, unhid HB⟩

end Go.Proofs.YtegghimjmbgghaaGreat
