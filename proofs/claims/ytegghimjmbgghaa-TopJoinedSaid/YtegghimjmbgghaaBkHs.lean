/-
  History of the program: its two functions, and slices.IndexFunc at records.
-/
import Derived.Test.YtegghimjmbgghaaBkDp
set_option linter.unusedSimpArgs false
set_option linter.unusedVariables false
namespace Go.Proofs.Ytegghimjmbgghaa
open Go.RowKit Go.Shelf

theorem signOf_calls (r : Rc) (s : Int) {X : Nat} (w : World) (hX : w.cell? ⟨X, 0, none⟩ = some (.int .i64 s)) (hlt : X < w.heap.size) :
    Calls Try.prog 114 #[rcV r, .pointer (some ⟨X, 0, none⟩)] w fun e w' => e = .returned (.bool (r.sign != s)) ∧ Below w.heap.size w w' := by
  have hb0 := below_alloc w (.cells (rcA r) 33)
  have hc := (World.cell?_of_block (hb0.block X hlt)).trans hX
  have HR := hid (RcAt.new w r)
  have HB := hid hb0
  clear hX hlt hb0
  show Calls Try.prog 114 #[.agg #[.int .i64 r.tab, .int .i64 r.num, .int .i64 r.hour, .int .i64 r.sign, .int .i64 r.fld, .int .i64 r.val, .int .i64 r.s0, .int .i64 r.s1, .int .i64 r.s2, .int .i64 r.s3, .int .i64 r.s4, .int .i64 r.s5, .int .i64 r.s6, .int .i64 r.s7], .pointer (some ⟨X, 0, none⟩)] w _
  go_enter Try.func114, Try.ntmps114
  go_upto_region 1 with (fail)
  change Code.wp _ _ _ _ (w.alloc (.cells (rcA r) 33))
  generalize w.alloc (.cells (rcA r) 33) = W at *
  obtain ⟨d0, d1, d2, d3, d4, d5⟩ := (unhid HR).cells
  go_wp2_with fail
  go_ret
  exact ⟨rfl, unhid HB⟩

theorem byHour_calls (r q : Rc) (w : World) (hr : I64 (r.hour - q.hour)) :
    Calls Try.prog 116 #[rcV r, rcV q] w fun e w' => e = .returned (.int .i64 (r.hour - q.hour)) ∧ w' = (w.alloc (.cells (rcA r) 33)).alloc (.cells (rcA q) 33) := by
  have hw : IntKind.i64.wrap (r.hour - q.hour) = r.hour - q.hour := by
    rw [IntKind.wrap_i64]
    unfold I64 at hr
    omega
  have HR := hid ((RcAt.new w r).below (below_alloc _ (.cells (rcA q) 33)) (by simp))
  have hq := RcAt.new (w.alloc (.cells (rcA r) 33)) q
  rw [show (w.alloc (.cells (rcA r) 33)).heap.size = w.heap.size + 1 by simp] at hq
  have HQ := hid hq
  clear hq
  show Calls Try.prog 116 #[.agg #[.int .i64 r.tab, .int .i64 r.num, .int .i64 r.hour, .int .i64 r.sign, .int .i64 r.fld, .int .i64 r.val, .int .i64 r.s0, .int .i64 r.s1, .int .i64 r.s2, .int .i64 r.s3, .int .i64 r.s4, .int .i64 r.s5, .int .i64 r.s6, .int .i64 r.s7], .agg #[.int .i64 q.tab, .int .i64 q.num, .int .i64 q.hour, .int .i64 q.sign, .int .i64 q.fld, .int .i64 q.val, .int .i64 q.s0, .int .i64 q.s1, .int .i64 q.s2, .int .i64 q.s3, .int .i64 q.s4, .int .i64 q.s5, .int .i64 q.s6, .int .i64 q.s7]] w _
  go_enter Try.func116, Try.ntmps116
  go_upto_region 1 with (fail)
  change Code.wp _ _ _ _ ((w.alloc (.cells (rcA r) 33)).alloc (.cells (rcA q) 33))
  obtain ⟨d0, d1, d2, d3, d4, d5⟩ := (unhid HR).cells
  obtain ⟨e0, e1, e2, e3, e4, e5⟩ := (unhid HQ).cells
  obtain ⟨W, hW⟩ : ∃ W, W = (w.alloc (.cells (rcA r) 33)).alloc (.cells (rcA q) 33) := ⟨_, rfl⟩
  have HW := hid (show ∀ Q : World → Prop, Q W → Q ((w.alloc (.cells (rcA r) 33)).alloc (.cells (rcA q) 33)) from fun Q h => hW ▸ h)
  rw [← hW] at d0 d1 d2 d3 d4 d5 e0 e1 e2 e3 e4 e5 ⊢
  clear hW
  go_wp2_with fail
  go_ret
  exact ⟨reti (by first | rfl | exact hw), unhid HW (fun z => W = z) rfl⟩

/-- The first record of another sign, or the end. -/
def FstI (l : List Rc) (s : Int) (k : Nat) : Prop := k ≤ l.length ∧ (∀ j (h : j < l.length), j < k → l[j].sign = s) ∧ ∀ h : k < l.length, l[k].sign ≠ s
set_option maxHeartbeats 4000000 in
set_option maxRecDepth 100000 in
theorem indexSign_calls (l : List Rc) (s : Int) (A : Option Addr) (c : Nat) {X : Nat} (w : World) (hX : w.cell? ⟨X, 0, none⟩ = some (.int .i64 s)) (hlt : X < w.heap.size) (hrd : Rd w A (recs l)) (hl : l.length ≤ 1000000) :
    Calls Try.prog 145 #[.slice A l.length c, .func (.func 114) #[] #[.pointer (some ⟨X, 0, none⟩)]] w fun e w' => ∃ k, FstI l s k ∧ e = .returned (.int .i64 (if k < l.length then (k : Int) else -1)) ∧ Below w.heap.size w w' := by
  have HR := hid hrd
  have HX := hid (show ∀ W : World, Below w.heap.size w W → W.cell? ⟨X, 0, none⟩ = some (.int .i64 s) ∧ X < W.heap.size from fun W hb => ⟨(World.cell?_of_block (hb.block X hlt)).trans hX, Nat.lt_of_lt_of_le hlt hb.size⟩)
  clear hrd hX hlt
  go_enter Try.func145, Try.ntmps145
  go_wp2_with fail
  go_loopw [8] (fun iv wr => ∃ k : Nat, k ≤ l.length ∧ iv = .int .i64 k ∧ (∀ j (h : j < l.length), j < k → l[j].sign = s) ∧ Below w.heap.size w wr) (fun iv _ => l.length - (intOf iv).toNat)
  case atStart => exact ⟨0, Nat.zero_le _, rfl, fun j _ h => absurd h (by omega), Below.refl _ _⟩
  case round =>
    obtain ⟨k, hk, rfl, hall, hb⟩ := hrel
    have HA := hid hall
    have HB := hid hb
    clear hall hb
    by_cases hlt : k < l.length
    · have hki : (k : Int) < (l.length : Int) := by omega
      obtain ⟨b, off, hAe, hbl, hc⟩ := ((unhid HR).below (unhid HB)) (recs_ne hlt)
      subst hAe
      obtain ⟨x, hx⟩ : ∃ x, l[k] = x := ⟨_, rfl⟩
      obtain ⟨m0, m1, m2, m3, m4, m5, m6, m7, m8, m9, m10, m11, m12, m13⟩ := recs_cells hc hlt hx
      have HXX := hid hx
      have HC := hid (signOf_calls x s wr ((unhid HX) _ (unhid HB)).1 ((unhid HX) _ (unhid HB)).2)
      clear hx hc
      go_wp2_with fail
      refine (unhid HC).mono ?_
      rintro e w5 ⟨rfl, hb5⟩
      have HB := hid ((unhid HB).trans (hb5.mono (unhid HB).size))
      clear hb5 m0 m1 m2 m3 m4 m5 m6 m7 m8 m9 m10 m11 m12 m13 HC
      by_cases hs : x.sign = s
      · have hse : (x.sign != s) = false := by simpa using hs
        have HA := hid (show ∀ j (h : j < l.length), j < k + 1 → l[j].sign = s from fun j h hj => by
          by_cases e : j = k
          · subst e
            rw [unhid HXX]
            exact hs
          · exact unhid HA j h (by omega))
        clear hs
        go_wp2_with fail
        go_roundw
        case rel => exact ⟨k + 1, by omega, by go_num, unhid HA, unhid HB⟩
        case measure => simp [intOf]; omega
      · have hse : (x.sign != s) = true := by simpa using hs
        have HF := hid (show FstI l s k from ⟨Nat.le_of_lt hlt, unhid HA, fun h => by rw [unhid HXX]; exact hs⟩)
        have HLT := hid hlt
        clear hs
        go_wp2_with fail
        go_ret
        exact ⟨k, unhid HF, by rw [if_pos (unhid HLT)]; rfl, unhid HB⟩
    · obtain rfl : k = l.length := by omega
      have HF := hid (show FstI l s l.length from ⟨Nat.le_refl _, unhid HA, fun h => absurd h (Nat.lt_irrefl _)⟩)
      go_wp2_with fail
      go_ret
      exact ⟨l.length, unhid HF, by rw [if_neg (Nat.lt_irrefl _)]; rfl, unhid HB⟩

end Go.Proofs.Ytegghimjmbgghaa
