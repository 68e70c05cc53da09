/-
  The figures of package face: which dots belong to them, which lie within their rims.
-/
import Derived.Test.YtfklckjfbnaoeaaGreatDoorFcVk
import Derived.Test.YtfklckjfbnaoeaaGreatDoorWaP
set_option linter.unusedSimpArgs false
set_option linter.unusedVariables false
namespace Go.Proofs.YtfklckjfbnaoeaaGreatDoor
open Go.RowKit

theorem mul_bd {a b A B : Int} (h1 : -A ≤ a) (h2 : a ≤ A) (h3 : -B ≤ b) (h4 : b ≤ B) : -(A * B) ≤ a * b ∧ a * b ≤ A * B := by
  have hA : 0 ≤ A := by omega
  have hB : 0 ≤ B := by omega
  have h : (a * b).natAbs ≤ A.natAbs * B.natAbs := by
    rw [Int.natAbs_mul]
    exact Nat.mul_le_mul (by omega) (by omega)
  rw [← Int.natAbs_mul] at h
  have hAB : 0 ≤ A * B := Int.mul_nonneg hA hB
  omega
theorem absI_bd {n A : Int} (h1 : -A ≤ n) (h2 : n ≤ A) : 0 ≤ absI n ∧ absI n ≤ A := by unfold absI; omega
theorem w64 {n : Int} (h1 : -9223372036854775808 ≤ n) (h2 : n ≤ 9223372036854775807) : wrap64 n = n ∧ IntKind.i64.wrap n = n := ⟨IntWalk.wrap64_in _ ⟨h1, h2⟩, IntWalk.i64_in _ ⟨h1, h2⟩⟩
theorem abs_q (n : Int) (w : World) (k : Nat) (h1 : -1000000000 ≤ n) (h2 : n ≤ 1000000000) :
    Calls Tryz.prog 322 #[.int .i64 n] (w.drewN k) fun e w'' => e = .returned (.int .i64 (absI n)) ∧ ∃ m, w'' = w.drewN m := quiet_same' (abs_calls n _ h1 h2)
/-- The numbers of a dot are small. -/
structure DotOk (w h x y : Int) : Prop where
  w0 : 0 ≤ w
  w1 : w ≤ 1000
  h0 : 0 ≤ h
  h1 : h ≤ 1000
  x0 : -1000 ≤ x
  x1 : x ≤ 1000
  y0 : -1000 ≤ y
  y1 : y ≤ 1000
set_option maxHeartbeats 1000000 in
theorem round_has (s i j w h x y : Int) (W : World) (hd : DotOk w h x y) (s0 : -2000 ≤ s) (s1 : s ≤ 1000) :
    Calls Tryz.prog 363 #[.int .i64 s, .agg #[.int .i64 i, .int .i64 j, .int .i64 w, .int .i64 h, .int .i64 x, .int .i64 y]] W fun e w' => e = .returned (.bool (decide (x * x + y * y ≤ s * s))) ∧ Below W.heap.size W w' := by
  obtain ⟨w0, w1, h0, h1, x0, x1, y0, y1⟩ := hd
  have mx := mul_bd x0 x1 x0 x1
  have my := mul_bd y0 y1 y0 y1
  have ms := mul_bd s0 (show s ≤ 2000 by omega) s0 (show s ≤ 2000 by omega)
  obtain ⟨mx1, mx2⟩ := mx
  obtain ⟨my1, my2⟩ := my
  obtain ⟨ms1, ms2⟩ := ms
  obtain ⟨e1, e1'⟩ := w64 (n := x * x) (by omega) (by omega)
  obtain ⟨e2, e2'⟩ := w64 (n := y * y) (by omega) (by omega)
  obtain ⟨e3, e3'⟩ := w64 (n := s * s) (by omega) (by omega)
  obtain ⟨e4, e4'⟩ := w64 (n := x * x + y * y) (by omega) (by omega)
  go_enter Tryz.func363, Tryz.ntmps363
  go_wp2_with fail
  go_ret
  exact ⟨retb (by simp), by first | exact below_alloc _ _ | exact below_drewN' (below_alloc _ _) _ | exact below_alloc' (below_alloc _ _) _ | exact below_drewN' (below_alloc' (below_alloc _ _) _) _⟩

set_option maxHeartbeats 1000000 in
theorem round_inner (s i j w h x y : Int) (b : Int) (W : World) (hd : DotOk w h x y) (s0 : 0 ≤ s) (s1 : s ≤ 1000) (b0 : 0 ≤ b) (b1 : b ≤ 1000) :
    Calls Tryz.prog 364 #[.int .i64 s, .agg #[.int .i64 i, .int .i64 j, .int .i64 w, .int .i64 h, .int .i64 x, .int .i64 y], .int .i64 b] W fun e w' => e = .returned (.bool (decide (0 < s - 2 * b ∧ x * x + y * y ≤ (s - 2 * b) * (s - 2 * b)))) ∧ Below W.heap.size W w' := by
  obtain ⟨w0, w1, h0, h1, x0, x1, y0, y1⟩ := hd
  have HD := hid (show DotOk w h x y from ⟨w0, w1, h0, h1, x0, x1, y0, y1⟩)
  go_enter Tryz.func364, Tryz.ntmps364
  by_cases hp : 0 < s - 2 * b
  · have d1 := decide_eq_true hp
    go_wp2_with fail
    refine (round_has (s - 2 * b) i j w h x y _ (unhid HD) (by omega) (by omega)).mono ?_
    rintro e w2 ⟨rfl, hb2⟩
    have HB2 := hid hb2
    clear hb2
    generalize hq : (decide (x * x + y * y ≤ (s - 2 * b) * (s - 2 * b))) = q
    have HQ := hid hq
    clear hq
    go_wp2_with fail
    go_ret
    refine ⟨retE ?_, (below_alloc _ _).trans ((unhid HB2).mono (by simp))⟩
    rw [Bool.decide_and, d1, Bool.true_and]
    exact unhid HQ
  · have d1 := decide_eq_false hp
    go_wp2_with fail
    go_ret
    exact ⟨retE (by simp only [Bool.and_eq_false_iff, decide_eq_false_iff_not]; left; omega), below_alloc _ _⟩

set_option maxHeartbeats 1000000 in
theorem diamond_has (s i j w h x y : Int) (W : World) (hd : DotOk w h x y) (s0 : -2000 ≤ s) (s1 : s ≤ 1000) :
    Calls Tryz.prog 365 #[.int .i64 s, .agg #[.int .i64 i, .int .i64 j, .int .i64 w, .int .i64 h, .int .i64 x, .int .i64 y]] W fun e w' => e = .returned (.bool (decide (absI x + absI y ≤ s))) ∧ Below W.heap.size W w' := by
  obtain ⟨w0, w1, h0, h1, x0, x1, y0, y1⟩ := hd
  obtain ⟨ax0, ax1⟩ := absI_bd x0 x1
  obtain ⟨ay0, ay1⟩ := absI_bd y0 y1
  obtain ⟨e1, e1'⟩ := w64 (n := absI x + absI y) (by omega) (by omega)
  go_enter Tryz.func365, Tryz.ntmps365
  go_wp2_with fail
  go_quiet ((go_at_call 322; exact abs_q _ _ _ (by omega) (by omega)))
  go_wp2_with fail
  go_ret
  exact ⟨retb (by simp), by first | exact below_alloc _ _ | exact below_drewN' (below_alloc _ _) _ | exact below_alloc' (below_alloc _ _) _ | exact below_drewN' (below_alloc' (below_alloc _ _) _) _⟩

set_option maxHeartbeats 1000000 in
theorem diamond_inner (s i j w h x y : Int) (b : Int) (W : World) (hd : DotOk w h x y) (s0 : 0 ≤ s) (s1 : s ≤ 1000) (b0 : 0 ≤ b) (b1 : b ≤ 500) :
    Calls Tryz.prog 366 #[.int .i64 s, .agg #[.int .i64 i, .int .i64 j, .int .i64 w, .int .i64 h, .int .i64 x, .int .i64 y], .int .i64 b] W fun e w' => e = .returned (.bool (decide (absI x + absI y ≤ s - 3 * b))) ∧ Below W.heap.size W w' := by
  obtain ⟨w0, w1, h0, h1, x0, x1, y0, y1⟩ := hd
  have HD := hid (show DotOk w h x y from ⟨w0, w1, h0, h1, x0, x1, y0, y1⟩)
  go_enter Tryz.func366, Tryz.ntmps366
  go_wp2_with fail
  refine (diamond_has (s - 3 * b) i j w h x y _ (unhid HD) (by omega) (by omega)).mono ?_
  rintro e w2 ⟨rfl, hb2⟩
  generalize hq : (decide (absI x + absI y ≤ s - 3 * b)) = q
  have HQ := hid hq
  clear hq
  go_wp2_with fail
  go_ret
  exact ⟨retE (unhid HQ), (below_alloc _ _).trans (hb2.mono (by simp))⟩

set_option maxHeartbeats 1000000 in
theorem octagon_has (s i j w h x y : Int) (W : World) (hd : DotOk w h x y) (s0 : -2000 ≤ s) (s1 : s ≤ 1000) :
    Calls Tryz.prog 367 #[.int .i64 s, .agg #[.int .i64 i, .int .i64 j, .int .i64 w, .int .i64 h, .int .i64 x, .int .i64 y]] W fun e w' => e = .returned (.bool (decide (29 * (absI x + absI y) ≤ 41 * s))) ∧ Below W.heap.size W w' := by
  obtain ⟨w0, w1, h0, h1, x0, x1, y0, y1⟩ := hd
  obtain ⟨ax0, ax1⟩ := absI_bd x0 x1
  obtain ⟨ay0, ay1⟩ := absI_bd y0 y1
  obtain ⟨e1, e1'⟩ := w64 (n := absI x + absI y) (by omega) (by omega)
  obtain ⟨e2, e2'⟩ := w64 (n := 29 * (absI x + absI y)) (by omega) (by omega)
  obtain ⟨e3, e3'⟩ := w64 (n := 41 * s) (by omega) (by omega)
  go_enter Tryz.func367, Tryz.ntmps367
  go_wp2_with fail
  go_quiet ((go_at_call 322; exact abs_q _ _ _ (by omega) (by omega)))
  go_wp2_with fail
  go_ret
  exact ⟨retb (by simp), by first | exact below_alloc _ _ | exact below_drewN' (below_alloc _ _) _ | exact below_alloc' (below_alloc _ _) _ | exact below_drewN' (below_alloc' (below_alloc _ _) _) _⟩

set_option maxHeartbeats 1000000 in
theorem octagon_inner (s i j w h x y : Int) (b : Int) (W : World) (hd : DotOk w h x y) (s0 : 0 ≤ s) (s1 : s ≤ 1000) (b0 : 0 ≤ b) (b1 : b ≤ 500) :
    Calls Tryz.prog 368 #[.int .i64 s, .agg #[.int .i64 i, .int .i64 j, .int .i64 w, .int .i64 h, .int .i64 x, .int .i64 y], .int .i64 b] W fun e w' => e = .returned (.bool (decide (absI x < s - 2 * b ∧ absI y < s - 2 * b ∧ 29 * (absI x + absI y) ≤ 41 * (s - 2 * b)))) ∧ Below W.heap.size W w' := by
  obtain ⟨w0, w1, h0, h1, x0, x1, y0, y1⟩ := hd
  have HD := hid (show DotOk w h x y from ⟨w0, w1, h0, h1, x0, x1, y0, y1⟩)
  have hpost : decide (absI x < s - 2 * b ∧ absI y < s - 2 * b ∧ 29 * (absI x + absI y) ≤ 41 * (s - 2 * b)) = (decide (absI x < s - 2 * b) && decide (absI y < s - 2 * b) && decide (29 * (absI x + absI y) ≤ 41 * (s - 2 * b))) := by
    rw [Bool.decide_and, Bool.decide_and, Bool.and_assoc]
  rw [hpost]
  have HOH := hid (fun W' => octagon_has (s - 2 * b) i j w h x y W' (unhid HD) (by omega) (by omega))
  generalize decide (29 * (absI x + absI y) ≤ 41 * (s - 2 * b)) = q at HOH ⊢
  clear hpost
  go_enter Tryz.func368, Tryz.ntmps368
  by_cases hp : absI x < s - 2 * b
  · have d1 := decide_eq_true hp
    by_cases hp2 : absI y < s - 2 * b
    · have d2 := decide_eq_true hp2
      rw [d1, d2]
      go_wp2_with (first | (go_at_call 322; refine (abs_calls _ _ (by omega) (by omega)).mono ?_; rintro e w' ⟨rfl, rfl⟩) | (go_at_call 367; refine ((unhid HOH) _).mono ?_; rintro e w2 ⟨rfl, hb2⟩))
      go_ret
      exact ⟨rfl, (below_alloc _ _).trans (Below.mono (by assumption) (by simp))⟩
    · have d2 := decide_eq_false hp2
      rw [d1, d2]
      go_wp2_with (first | (go_at_call 322; refine (abs_calls _ _ (by omega) (by omega)).mono ?_; rintro e w' ⟨rfl, rfl⟩))
      go_ret
      exact ⟨rfl, below_alloc _ _⟩
  · have d1 := decide_eq_false hp
    rw [d1]
    go_wp2_with (first | (go_at_call 322; refine (abs_calls _ _ (by omega) (by omega)).mono ?_; rintro e w' ⟨rfl, rfl⟩))
    go_ret
    exact ⟨rfl, below_alloc _ _⟩

set_option maxHeartbeats 1000000 in
theorem triangle_has (s u i j w h x y : Int) (W : World) (hd : DotOk w h x y) (s0 : 0 ≤ s) (s1 : s ≤ 1000) (u0 : -1 ≤ u) (u1 : u ≤ 1) :
    Calls Tryz.prog 369 #[.agg #[.int .i64 s, .int .i64 u], .agg #[.int .i64 i, .int .i64 j, .int .i64 w, .int .i64 h, .int .i64 x, .int .i64 y]] W fun e w' => e = .returned (.bool (decide (2 * h * absI x ≤ s * (h - u * y)))) ∧ Below W.heap.size W w' := by
  obtain ⟨w0, w1, h0, h1, x0, x1, y0, y1⟩ := hd
  obtain ⟨ax0, ax1⟩ := absI_bd x0 x1
  obtain ⟨ay0, ay1⟩ := absI_bd y0 y1
  have mu := mul_bd u0 u1 y0 y1
  obtain ⟨mu1, mu2⟩ := mu
  have m1 := mul_bd (a := 2 * h) (b := absI x) (A := 2000) (B := 1000) (by omega) (by omega) (by omega) (by omega)
  obtain ⟨m11, m12⟩ := m1
  have m2 := mul_bd (a := s) (b := h - u * y) (A := 1000) (B := 2000) (by omega) (by omega) (by omega) (by omega)
  obtain ⟨m21, m22⟩ := m2
  obtain ⟨e1, e1'⟩ := w64 (n := 2 * h) (by omega) (by omega)
  obtain ⟨e2, e2'⟩ := w64 (n := 2 * h * absI x) (by omega) (by omega)
  obtain ⟨e3, e3'⟩ := w64 (n := u * y) (by omega) (by omega)
  obtain ⟨e4, e4'⟩ := w64 (n := h - u * y) (by omega) (by omega)
  obtain ⟨e5, e5'⟩ := w64 (n := s * (h - u * y)) (by omega) (by omega)
  go_enter Tryz.func369, Tryz.ntmps369
  go_wp2_with fail
  go_quiet ((go_at_call 322; exact abs_q _ _ _ (by omega) (by omega)))
  go_wp2_with fail
  go_ret
  exact ⟨retb (by simp), by first | exact below_alloc _ _ | exact below_drewN' (below_alloc _ _) _ | exact below_alloc' (below_alloc _ _) _ | exact below_drewN' (below_alloc' (below_alloc _ _) _) _⟩

set_option maxHeartbeats 1000000 in
theorem triangle_inner (s u i j w h x y : Int) (b : Int) (W : World) (hd : DotOk w h x y) (s0 : 0 ≤ s) (s1 : s ≤ 1000) (u0 : -1 ≤ u) (u1 : u ≤ 1) (b0 : 0 ≤ b) (b1 : b ≤ 500) :
    Calls Tryz.prog 370 #[.agg #[.int .i64 s, .int .i64 u], .agg #[.int .i64 i, .int .i64 j, .int .i64 w, .int .i64 h, .int .i64 x, .int .i64 y], .int .i64 b] W fun e w' => e = .returned (.bool (decide (2 * h * (absI x + 2 * b) ≤ s * (h - u * y) ∧ 2 * b - h < u * y))) ∧ Below W.heap.size W w' := by
  obtain ⟨w0, w1, h0, h1, x0, x1, y0, y1⟩ := hd
  obtain ⟨ax0, ax1⟩ := absI_bd x0 x1
  obtain ⟨ay0, ay1⟩ := absI_bd y0 y1
  have mu := mul_bd u0 u1 y0 y1
  obtain ⟨mu1, mu2⟩ := mu
  have m1 := mul_bd (a := 2 * h) (b := absI x + 2 * b) (A := 2000) (B := 2000) (by omega) (by omega) (by omega) (by omega)
  obtain ⟨m11, m12⟩ := m1
  have m2 := mul_bd (a := s) (b := h - u * y) (A := 1000) (B := 2000) (by omega) (by omega) (by omega) (by omega)
  obtain ⟨m21, m22⟩ := m2
  obtain ⟨e1, e1'⟩ := w64 (n := 2 * h) (by omega) (by omega)
  obtain ⟨e2, e2'⟩ := w64 (n := 2 * h * (absI x + 2 * b)) (by omega) (by omega)
  obtain ⟨e3, e3'⟩ := w64 (n := u * y) (by omega) (by omega)
  obtain ⟨e4, e4'⟩ := w64 (n := h - u * y) (by omega) (by omega)
  obtain ⟨e5, e5'⟩ := w64 (n := s * (h - u * y)) (by omega) (by omega)
  obtain ⟨e6, e6'⟩ := w64 (n := 2 * b) (by omega) (by omega)
  obtain ⟨e7, e7'⟩ := w64 (n := absI x + 2 * b) (by omega) (by omega)
  obtain ⟨e8, e8'⟩ := w64 (n := 2 * b - h) (by omega) (by omega)
  go_enter Tryz.func370, Tryz.ntmps370
  go_wp2_with fail
  by_cases hp : 2 * h * (absI x + 2 * b) ≤ s * (h - u * y)
  · have d1 := decide_eq_true hp
    go_quiet ((go_at_call 322; exact abs_q _ _ _ (by omega) (by omega)))
    go_wp2_with fail
    go_ret
    exact ⟨retE (by rw [Bool.decide_and, d1, Bool.true_and]), below_drewN' (below_alloc' (below_alloc _ _) _) _⟩
  · have d1 := decide_eq_false hp
    go_quiet ((go_at_call 322; exact abs_q _ _ _ (by omega) (by omega)))
    go_wp2_with fail
    go_ret
    exact ⟨retE (by first | rfl | (rw [Bool.decide_and, d1]; rfl)), below_drewN' (below_alloc' (below_alloc _ _) _) _⟩

set_option maxHeartbeats 1000000 in
theorem panel_has (i j w h x y : Int) (W : World) (hd : DotOk w h x y) :
    Calls Tryz.prog 371 #[.agg #[], .agg #[.int .i64 i, .int .i64 j, .int .i64 w, .int .i64 h, .int .i64 x, .int .i64 y]] W fun e w' => e = .returned (.bool (true)) ∧ Below W.heap.size W w' := by
  obtain ⟨w0, w1, h0, h1, x0, x1, y0, y1⟩ := hd
  go_enter Tryz.func371, Tryz.ntmps371
  go_wp2_with fail
  go_ret
  exact ⟨rfl, below_alloc' (below_alloc _ _) _⟩

set_option maxHeartbeats 1000000 in
theorem panel_inner (i j w h x y : Int) (b : Int) (W : World) (hd : DotOk w h x y) (b0 : 0 ≤ b) (b1 : b ≤ 500) :
    Calls Tryz.prog 372 #[.agg #[], .agg #[.int .i64 i, .int .i64 j, .int .i64 w, .int .i64 h, .int .i64 x, .int .i64 y], .int .i64 b] W fun e w' => e = .returned (.bool (decide (absI x < w - 2 * b ∧ absI y < h - 2 * b))) ∧ Below W.heap.size W w' := by
  obtain ⟨w0, w1, h0, h1, x0, x1, y0, y1⟩ := hd
  obtain ⟨ax0, ax1⟩ := absI_bd x0 x1
  obtain ⟨ay0, ay1⟩ := absI_bd y0 y1
  obtain ⟨e1, e1'⟩ := w64 (n := 2 * b) (by omega) (by omega)
  obtain ⟨e2, e2'⟩ := w64 (n := w - 2 * b) (by omega) (by omega)
  obtain ⟨e3, e3'⟩ := w64 (n := h - 2 * b) (by omega) (by omega)
  go_enter Tryz.func372, Tryz.ntmps372
  go_wp2_with fail
  by_cases hp : absI x < w - 2 * b
  · have d1 := decide_eq_true hp
    go_quiet ((go_at_call 322; exact abs_q _ _ _ (by omega) (by omega)))
    go_wp2_with fail
    go_ret
    exact ⟨retE (by rw [Bool.decide_and, d1, Bool.true_and]), below_drewN' (below_alloc' (below_alloc _ _) _) _⟩
  · have d1 := decide_eq_false hp
    go_quiet ((go_at_call 322; exact abs_q _ _ _ (by omega) (by omega)))
    go_wp2_with fail
    go_ret
    exact ⟨retE (by first | rfl | (rw [Bool.decide_and, d1]; rfl)), below_drewN' (below_alloc' (below_alloc _ _) _) _⟩

end Go.Proofs.YtfklckjfbnaoeaaGreatDoor
