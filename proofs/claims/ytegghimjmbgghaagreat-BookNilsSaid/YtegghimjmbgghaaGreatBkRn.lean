/-
  The reference's search in a list of records.
-/
import Derived.Test.YtegghimjmbgghaaGreatBkRl
import Derived.Test.YtegghimjmbgghaaGreatBkRb
import Derived.Test.YtegghimjmbgghaaGreatKitB
set_option linter.unusedSimpArgs false
set_option linter.unusedVariables false
namespace Go.Proofs.YtegghimjmbgghaaGreat
open Go.RowKit Go.Shelf

/-- A record lies at an address. -/
def At14 (w : World) (b o : Nat) (x : Rc) : Prop := w.cell? ⟨b, o, none⟩ = some (.int .i64 x.tab) ∧ w.cell? ⟨b, o + 1, none⟩ = some (.int .i64 x.num) ∧ w.cell? ⟨b, o + 2, none⟩ = some (.int .i64 x.hour) ∧ w.cell? ⟨b, o + 3, none⟩ = some (.int .i64 x.sign) ∧ w.cell? ⟨b, o + 4, none⟩ = some (.int .i64 x.fld) ∧ w.cell? ⟨b, o + 5, none⟩ = some (.int .i64 x.val) ∧ w.cell? ⟨b, o + 6, none⟩ = some (.int .i64 x.s0) ∧ w.cell? ⟨b, o + 7, none⟩ = some (.int .i64 x.s1) ∧ w.cell? ⟨b, o + 8, none⟩ = some (.int .i64 x.s2) ∧ w.cell? ⟨b, o + 9, none⟩ = some (.int .i64 x.s3) ∧ w.cell? ⟨b, o + 10, none⟩ = some (.int .i64 x.s4) ∧ w.cell? ⟨b, o + 11, none⟩ = some (.int .i64 x.s5) ∧ w.cell? ⟨b, o + 12, none⟩ = some (.int .i64 x.s6) ∧ w.cell? ⟨b, o + 13, none⟩ = some (.int .i64 x.s7)
theorem At14.below {w w' : World} {b o : Nat} {x : Rc} (h : At14 w b o x) (hb : Below w.heap.size w w') (hl : b < w.heap.size) : At14 w' b o x := by
  obtain ⟨c0, c1, c2, c3, c4, c5, c6, c7, c8, c9, c10, c11, c12, c13⟩ := h
  exact ⟨(hb.cell hl).trans c0, (hb.cell hl).trans c1, (hb.cell hl).trans c2, (hb.cell hl).trans c3, (hb.cell hl).trans c4, (hb.cell hl).trans c5, (hb.cell hl).trans c6, (hb.cell hl).trans c7, (hb.cell hl).trans c8, (hb.cell hl).trans c9, (hb.cell hl).trans c10, (hb.cell hl).trans c11, (hb.cell hl).trans c12, (hb.cell hl).trans c13⟩
theorem At14.after {w : World} {b o : Nat} {x : Rc} (h : At14 w b o x) (hl : b < w.heap.size) : ∀ p : After w, p.w.cell? ⟨b, o, none⟩ = some (.int .i64 x.tab) ∧ p.w.cell? ⟨b, o + 1, none⟩ = some (.int .i64 x.num) ∧ p.w.cell? ⟨b, o + 2, none⟩ = some (.int .i64 x.hour) ∧ p.w.cell? ⟨b, o + 3, none⟩ = some (.int .i64 x.sign) ∧ p.w.cell? ⟨b, o + 4, none⟩ = some (.int .i64 x.fld) ∧ p.w.cell? ⟨b, o + 5, none⟩ = some (.int .i64 x.val) ∧ p.w.cell? ⟨b, o + 6, none⟩ = some (.int .i64 x.s0) ∧ p.w.cell? ⟨b, o + 7, none⟩ = some (.int .i64 x.s1) ∧ p.w.cell? ⟨b, o + 8, none⟩ = some (.int .i64 x.s2) ∧ p.w.cell? ⟨b, o + 9, none⟩ = some (.int .i64 x.s3) ∧ p.w.cell? ⟨b, o + 10, none⟩ = some (.int .i64 x.s4) ∧ p.w.cell? ⟨b, o + 11, none⟩ = some (.int .i64 x.s5) ∧ p.w.cell? ⟨b, o + 12, none⟩ = some (.int .i64 x.s6) ∧ p.w.cell? ⟨b, o + 13, none⟩ = some (.int .i64 x.s7) := fun p => h.below p.below hl
theorem RcAt.at14 {w : World} {B : Nat} {r : Rc} (h : RcAt w B r) : At14 w B 0 r := by
  obtain ⟨c0, c1, c2, c3, c4, c5⟩ := h.cells
  obtain ⟨c6, c7, c8, c9, c10, c11, c12, c13⟩ := h.seen8
  simp only [At14, Nat.zero_add]
  exact ⟨c0, c1, c2, c3, c4, c5, c6, c7, c8, c9, c10, c11, c12, c13⟩
theorem rec_at14 {w : World} {b off : Nat} {L : List Rc} (h : ∀ j u, (recs L)[j]? = some u → w.cell? ⟨b, off + j, none⟩ = some u) {k : Nat} (hk : k < L.length) {x : Rc} (hx : L[k]'hk = x) : At14 w b (off + k * 14) x := recs_cells h hk hx

theorem find_no {r x : Rc} {L : List Rc} (hA : Asc L) {k : Nat} (hk : k < L.length) (h1 : ∀ (i : Nat) (hi : i < L.length), i < k → rls L[i] r = true) (hx : L[k]'hk = x) (h2 : rls x r = false) :
    fnd r L = k ∧ decide (r ∈ L) = decide (x = r) := by
  have e : fnd r L = k := fnd_is (by omega) h1 (fun _ => by rw [hx]; exact h2)
  refine ⟨e, decide_eq_decide.2 ?_⟩
  rw [fnd_mem hA]
  subst e
  exact ⟨fun ⟨h, e⟩ => hx.symm.trans e, fun e => ⟨hk, hx.trans e⟩⟩
theorem find_end {r : Rc} {L : List Rc} (hA : Asc L) (h1 : ∀ (i : Nat) (hi : i < L.length), i < L.length → rls L[i] r = true) : fnd r L = L.length ∧ decide (r ∈ L) = false := by
  have e : fnd r L = L.length := fnd_is (Nat.le_refl _) h1 (fun h => by omega)
  refine ⟨e, decide_eq_false ?_⟩
  rw [fnd_mem hA]
  rintro ⟨h, -⟩
  omega

set_option maxHeartbeats 4000000 in
set_option maxRecDepth 100000 in
theorem find_calls (r : Rc) (A : Option Addr) (L : List Rc) (c : Nat) (w : World) (h : Rd w A (recs L)) (hA : Asc L) (hL : L.length ≤ 1000000) :
    Calls Tryz.prog 115 #[.slice A L.length c, rcV r] w fun e w' => e = .returned (.tuple #[.int .i64 (fnd r L : Nat), .bool (decide (r ∈ L))]) ∧ Below w.heap.size w w' := by
  have hb0 := below_alloc w (.cells (rcA r) 82)
  have HR := hid (RcAt.new w r)
  have HB := hid hb0
  have HRD := hid (h.below hb0)
  have HA := hid hA
  have HLL := hid hL
  clear h hA hL hb0
  show Calls Tryz.prog 115 #[.slice A L.length c, .agg #[.int .i64 r.tab, .int .i64 r.num, .int .i64 r.hour, .int .i64 r.sign, .int .i64 r.fld, .int .i64 r.val, .int .i64 r.s0, .int .i64 r.s1, .int .i64 r.s2, .int .i64 r.s3, .int .i64 r.s4, .int .i64 r.s5, .int .i64 r.s6, .int .i64 r.s7]] w _
  go_enter Tryz.func115, Tryz.ntmps115
  go_upto_region 1 with (fail)
  change Code.wp _ _ _ _ (w.alloc (.cells (rcA r) 82))
  generalize w.alloc (.cells (rcA r) 82) = W at *
  obtain ⟨X, hX⟩ : ∃ X, X = w.heap.size := ⟨_, rfl⟩
  rw [← hX] at HR ⊢
  have HXE := hid hX
  clear hX
  go_upto_region 2 with (fail)
  go_loopw [6] (fun iv wr => ∃ k : Nat, k ≤ L.length ∧ iv = .int .i64 k ∧ (∀ (i : Nat) (hi : i < L.length), i < k → rls L[i] r = true) ∧ Below W.heap.size W wr) (fun iv _ => L.length - (intOf iv).toNat)
  case atStart => exact ⟨0, Nat.zero_le _, rfl, fun i _ h => by omega, Below.refl _ _⟩
  case round =>
    obtain ⟨k, hk, rfl, ht, hb⟩ := hrel
    have HT := hid ht
    have HBR := hid hb
    clear ht hb
    by_cases hlt : k < L.length
    · have hki : (k : Int) < (L.length : Int) := by omega
      obtain ⟨b, off, hAe, hbl, hc⟩ := ((unhid HRD).below (unhid HBR)) (recs_ne hlt)
      subst hAe
      obtain ⟨x, hx⟩ : ∃ x, L[k]'hlt = x := ⟨_, rfl⟩
      have HX := hid hx
      have HC := hid (rec_at14 hc hlt hx)
      have HCW := hid ((unhid HR).below (unhid HBR) (unhid HR).lt)
      have HBL := hid hbl
      have a0 := fun p => ((unhid HC).after (unhid HBL) p).1
      have a1 := fun p => ((unhid HC).after (unhid HBL) p).2.1
      have a2 := fun p => ((unhid HC).after (unhid HBL) p).2.2.1
      have a3 := fun p => ((unhid HC).after (unhid HBL) p).2.2.2.1
      have a4 := fun p => ((unhid HC).after (unhid HBL) p).2.2.2.2.1
      have a5 := fun p => ((unhid HC).after (unhid HBL) p).2.2.2.2.2.1
      have a6 := fun p => ((unhid HC).after (unhid HBL) p).2.2.2.2.2.2.1
      have a7 := fun p => ((unhid HC).after (unhid HBL) p).2.2.2.2.2.2.2.1
      have a8 := fun p => ((unhid HC).after (unhid HBL) p).2.2.2.2.2.2.2.2.1
      have a9 := fun p => ((unhid HC).after (unhid HBL) p).2.2.2.2.2.2.2.2.2.1
      have a10 := fun p => ((unhid HC).after (unhid HBL) p).2.2.2.2.2.2.2.2.2.2.1
      have a11 := fun p => ((unhid HC).after (unhid HBL) p).2.2.2.2.2.2.2.2.2.2.2.1
      have a12 := fun p => ((unhid HC).after (unhid HBL) p).2.2.2.2.2.2.2.2.2.2.2.2.1
      have a13 := fun p => ((unhid HC).after (unhid HBL) p).2.2.2.2.2.2.2.2.2.2.2.2.2
      have d0 := (unhid HCW).after.1
      have d1 := (unhid HCW).after.2.1
      have d2 := (unhid HCW).after.2.2.1
      have d3 := (unhid HCW).after.2.2.2.1
      have d4 := (unhid HCW).after.2.2.2.2.1
      have d5 := (unhid HCW).after.2.2.2.2.2.1
      have d6 := (unhid HCW).after.2.2.2.2.2.2.1
      have d7 := (unhid HCW).after.2.2.2.2.2.2.2.1
      have d8 := (unhid HCW).after.2.2.2.2.2.2.2.2.1
      have d9 := (unhid HCW).after.2.2.2.2.2.2.2.2.2.1
      have d10 := (unhid HCW).after.2.2.2.2.2.2.2.2.2.2.1
      have d11 := (unhid HCW).after.2.2.2.2.2.2.2.2.2.2.2.1
      have d12 := (unhid HCW).after.2.2.2.2.2.2.2.2.2.2.2.2.1
      have d13 := (unhid HCW).after.2.2.2.2.2.2.2.2.2.2.2.2.2
      clear hc hx hbl
      cases hd : rls x r with
      | true =>
        have HKW := hid (fun w => by have h := less_calls x r w; rw [hd] at h; exact h)
        have HT2 := hid (show ∀ (i : Nat) (hi : i < L.length), i < k + 1 → rls L[i] r = true from fun i hi h => by
          rcases Nat.lt_or_ge i k with h2 | h2
          · exact unhid HT i hi h2
          · obtain rfl : i = k := by omega
            rw [unhid HX]; exact hd)
        go_upto_region 2 with (fail)
        (refine wp_region_below (by kernel_rfl) (by kernel_rfl) ?_; (repeat (go_big_quiet_step (first | (go_at_call 142; exact Calls.after_of ((unhid HKW) _))))); refine wpQuiet_nil ?_; intro wq hw'; obtain ⟨⟨wq2, hbq⟩, hw''⟩ := hw'; dsimp only at hw''; subst hw'')
        have HBR := hid ((unhid HBR).trans (hbq.mono (unhid HBR).size))
        clear hbq hd a0 a1 a2 a3 a4 a5 a6 a7 a8 a9 a10 a11 a12 a13 d0 d1 d2 d3 d4 d5 d6 d7 d8 d9 d10 d11 d12 d13
        have HW1 := hid (show wrap64 ((k : Int) + 1) = ((k + 1 : Nat) : Int) from by have h1 := unhid HLL; unfold wrap64; omega)
        go_wp2_with fail
        go_roundw
        case rel => exact ⟨k + 1, by omega, by rw [unhid HW1], unhid HT2, unhid HBR⟩
        case measure => rw [unhid HW1]; simp [intOf]; omega
      | false =>
        have HKW := hid (fun w => by have h := less_calls x r w; rw [hd] at h; exact h)
        have HF := hid (find_no (unhid HA) hlt (unhid HT) (unhid HX) hd)
        go_upto_region 2 with (fail)
        (refine wp_region_below (by kernel_rfl) (by kernel_rfl) ?_; (repeat (go_big_quiet_step (first | (go_at_call 142; exact Calls.after_of ((unhid HKW) _))))); refine wpQuiet_nil ?_; intro wq hw'; obtain ⟨⟨wq2, hbq⟩, hw''⟩ := hw'; dsimp only at hw''; subst hw'')
        have HC := hid ((unhid HC).below hbq (unhid HBL))
        have HBL := hid (Nat.lt_of_lt_of_le (unhid HBL) hbq.size)
        have HCW := hid ((unhid HCW).below hbq (unhid HCW).lt)
        have HBR := hid ((unhid HBR).trans (hbq.mono (unhid HBR).size))
        clear hbq hd a0 a1 a2 a3 a4 a5 a6 a7 a8 a9 a10 a11 a12 a13 d0 d1 d2 d3 d4 d5 d6 d7 d8 d9 d10 d11 d12 d13
        have a0 := fun p => ((unhid HC).after (unhid HBL) p).1
        have a1 := fun p => ((unhid HC).after (unhid HBL) p).2.1
        have a2 := fun p => ((unhid HC).after (unhid HBL) p).2.2.1
        have a3 := fun p => ((unhid HC).after (unhid HBL) p).2.2.2.1
        have a4 := fun p => ((unhid HC).after (unhid HBL) p).2.2.2.2.1
        have a5 := fun p => ((unhid HC).after (unhid HBL) p).2.2.2.2.2.1
        have a6 := fun p => ((unhid HC).after (unhid HBL) p).2.2.2.2.2.2.1
        have a7 := fun p => ((unhid HC).after (unhid HBL) p).2.2.2.2.2.2.2.1
        have a8 := fun p => ((unhid HC).after (unhid HBL) p).2.2.2.2.2.2.2.2.1
        have a9 := fun p => ((unhid HC).after (unhid HBL) p).2.2.2.2.2.2.2.2.2.1
        have a10 := fun p => ((unhid HC).after (unhid HBL) p).2.2.2.2.2.2.2.2.2.2.1
        have a11 := fun p => ((unhid HC).after (unhid HBL) p).2.2.2.2.2.2.2.2.2.2.2.1
        have a12 := fun p => ((unhid HC).after (unhid HBL) p).2.2.2.2.2.2.2.2.2.2.2.2.1
        have a13 := fun p => ((unhid HC).after (unhid HBL) p).2.2.2.2.2.2.2.2.2.2.2.2.2
        have d0 := (unhid HCW).after.1
        have d1 := (unhid HCW).after.2.1
        have d2 := (unhid HCW).after.2.2.1
        have d3 := (unhid HCW).after.2.2.2.1
        have d4 := (unhid HCW).after.2.2.2.2.1
        have d5 := (unhid HCW).after.2.2.2.2.2.1
        have d6 := (unhid HCW).after.2.2.2.2.2.2.1
        have d7 := (unhid HCW).after.2.2.2.2.2.2.2.1
        have d8 := (unhid HCW).after.2.2.2.2.2.2.2.2.1
        have d9 := (unhid HCW).after.2.2.2.2.2.2.2.2.2.1
        have d10 := (unhid HCW).after.2.2.2.2.2.2.2.2.2.2.1
        have d11 := (unhid HCW).after.2.2.2.2.2.2.2.2.2.2.2.1
        have d12 := (unhid HCW).after.2.2.2.2.2.2.2.2.2.2.2.2.1
        have d13 := (unhid HCW).after.2.2.2.2.2.2.2.2.2.2.2.2.2
        have heq := eql_rc x r
        go_upto_region 4 with (fail)
        (refine wp_region_below (by kernel_rfl) (by kernel_rfl) ?_; (repeat (go_big_quiet_step (first | fail))); refine wpQuiet_nil ?_; intro wq hw'; obtain ⟨⟨wq2, hbq⟩, hw''⟩ := hw'; dsimp only at hw''; subst hw'')
        have HBR := hid ((unhid HBR).trans (hbq.mono (unhid HBR).size))
        clear hbq heq a0 a1 a2 a3 a4 a5 a6 a7 a8 a9 a10 a11 a12 a13 d0 d1 d2 d3 d4 d5 d6 d7 d8 d9 d10 d11 d12 d13
        go_wp2_with fail
        go_ret2
        exact ⟨by rw [(unhid HF).1, (unhid HF).2]; rfl, (unhid HB).trans ((unhid HBR).mono (unhid HB).size)⟩
    · obtain rfl : k = L.length := by omega
      have HF := hid (find_end (unhid HA) (unhid HT))
      go_upto_region 2 with (fail)
      (refine wp_region_below (by kernel_rfl) (by kernel_rfl) ?_; (repeat (go_big_quiet_step (first | fail))); refine wpQuiet_nil ?_; intro wq hw'; obtain ⟨⟨wq2, hbq⟩, hw''⟩ := hw'; dsimp only at hw''; subst hw'')
      have HBR := hid ((unhid HBR).trans (hbq.mono (unhid HBR).size))
      clear hbq
      go_upto_region 4 with (fail)
      generalize hwx : wq = wx at *
      (refine wp_region_below (by kernel_rfl) (by kernel_rfl) ?_; (repeat (go_big_quiet_step (first | fail))); refine wpQuiet_nil ?_; intro wq hw'; obtain ⟨⟨wq2, hbq⟩, hw''⟩ := hw'; dsimp only at hw''; subst hw'')
      have HBR := hid ((unhid HBR).trans (hbq.mono (unhid HBR).size))
      clear hbq
      go_wp2_with fail
      go_ret2
      exact ⟨by rw [(unhid HF).1, (unhid HF).2]; rfl, (unhid HB).trans ((unhid HBR).mono (unhid HB).size)⟩

end Go.Proofs.YtegghimjmbgghaaGreat
