/-
  Two lists of numbers compared.
-/
import Derived.Test.YtegghimjmbgghaaBkFs
set_option linter.unusedSimpArgs false
set_option linter.unusedVariables false
namespace Go.Proofs.Ytegghimjmbgghaa
open Go.RowKit Go.Shelf

set_option maxHeartbeats 4000000 in
set_option maxRecDepth 100000 in
theorem sameInts_calls (l m : List Int) (A A2 : Option Addr) (c c2 : Nat) (w : World) (h1 : Rd w A (ints l)) (h2 : Rd w A2 (ints m)) (hl : l.length ≤ 1000000) :
    Calls Try.prog 38 #[.slice A l.length c, .slice A2 m.length c2] w fun e w' => e = .returned (.bool (decide (l = m))) ∧ Below w.heap.size w w' := by
  have HR1 := hid h1
  have HR2 := hid h2
  have HLL := hid hl
  clear h1 h2 hl
  go_enter Try.func38, Try.ntmps38
  by_cases hlen : l.length = m.length
  · rw [hlen]
    go_upto_region 4 with (fail)
    go_loopw [5] (fun iv wr => ∃ k : Nat, k ≤ m.length ∧ iv = .int .i64 k ∧ l.take k = m.take k ∧ Below w.heap.size w wr) (fun iv _ => m.length - (intOf iv).toNat)
    case atStart => exact ⟨0, Nat.zero_le _, rfl, by simp, Below.refl _ _⟩
    case round =>
      obtain ⟨k, hk, rfl, ht, hb⟩ := hrel
      have HT := hid ht
      have HB := hid hb
      clear ht hb
      by_cases hlt : k < m.length
      · have hki : (k : Int) < (m.length : Int) := by omega
        have hlt1 : k < l.length := by omega
        obtain ⟨b1, o1, hA1, hbl1, hc1⟩ := ((unhid HR1).below (unhid HB)) (ints_ne hlt1)
        obtain ⟨b2, o2, hA2, hbl2, hc2⟩ := ((unhid HR2).below (unhid HB)) (ints_ne hlt)
        subst hA1 hA2
        obtain ⟨x, hx⟩ : ∃ x, l[k]'hlt1 = x := ⟨_, rfl⟩
        obtain ⟨y, hy⟩ : ∃ y, m[k]'hlt = y := ⟨_, rfl⟩
        have HXY := hid (⟨hx, hy⟩ : l[k]'hlt1 = x ∧ m[k]'hlt = y)
        have e1 : wr.cell? ⟨b1, o1 + k, none⟩ = some (.int .i64 x) := by rw [← hx]; exact hc1 k _ (ints_at _ k hlt1)
        have e2 : wr.cell? ⟨b2, o2 + k, none⟩ = some (.int .i64 y) := by rw [← hy]; exact hc2 k _ (ints_at _ k hlt)
        clear hx hy hc1 hc2
        have r0 := fun p : After wr => After.cell (by dsimp only; exact hbl1) e1 p
        have q0 := fun p : After wr => After.cell (by dsimp only; exact hbl2) e2 p
        have hne : (x != y) = !decide (x = y) := by by_cases h : x = y <;> simp [h]
        go_upto_region 6 with (fail)
        (refine wp_region_below (by kernel_rfl) (by kernel_rfl) ?_; (repeat (go_big_quiet_step (first | fail))); refine wpQuiet_nil ?_; intro wq hw'; obtain ⟨⟨wq2, hbq⟩, hw''⟩ := hw'; dsimp only at hw''; subst hw'')
        clear r0 q0
        have HB := hid ((unhid HB).trans (hbq.mono (unhid HB).size))
        clear hbq
        try clear hne
        by_cases hxy : x = y
        · have HTS := hid (take_sameP hlt1 hlt (unhid HT) (by rw [(unhid HXY).1, (unhid HXY).2, hxy]))
          have HW1 := hid (show wrap64 ((k : Int) + 1) = ((k + 1 : Nat) : Int) from by have h1 := unhid HLL; rw [hlen] at h1; unfold wrap64; omega)
          have hd : (!decide (x = y)) = false := by simp [hxy]
          (try rw [hd])
          clear hd
          (try simp only [hxy])
          clear hxy
          go_wp2_with fail
          go_roundw
          case rel => exact ⟨k + 1, by omega, by rw [unhid HW1], unhid HTS, unhid HB⟩
          case measure => rw [unhid HW1]; simp [intOf]; omega
        · have HNE := hid (show decide (l = m) = false from by
            rw [decide_eq_false_iff_not]
            intro e
            subst e
            exact hxy ((unhid HXY).1.symm.trans (unhid HXY).2))
          have hd : (!decide (x = y)) = true := by simp [hxy]
          (try rw [hd])
          go_wp2_with fail
          go_ret
          exact ⟨by rw [unhid HNE]; rfl, unhid HB⟩
      · obtain rfl : k = m.length := by omega
        have HEQ := hid (show decide (l = m) = true from by
          have h := unhid HT
          rw [← hlen, List.take_length, hlen, List.take_length] at h
          simp [h])
        go_wp2_with fail
        go_ret
        exact ⟨by rw [unhid HEQ]; rfl, unhid HB⟩
  · have hne : ¬ (l.length : Int) = (m.length : Int) := by omega
    have HNE := hid (show decide (l = m) = false from by
      rw [decide_eq_false_iff_not]
      intro e
      exact hlen (by rw [e]))
    go_wp2_with fail
    go_ret
    exact ⟨by rw [unhid HNE]; rfl, Below.refl _ _⟩

end Go.Proofs.Ytegghimjmbgghaa
