/-
  The reference's shapes: which dots belong to them, which lie within their rims.
-/
import Derived.Test.YtmagidoodlkeoaaGreatDoorFcG
set_option linter.unusedSimpArgs false
set_option linter.unusedVariables false
namespace Go.Proofs.YtmagidoodlkeoaaGreatDoor
open Go.RowKit

theorem absI_sq (n : Int) : absI n * absI n = n * n := by
  unfold absI
  rcases Int.le_total 0 n with h | h
  · rw [Int.max_eq_left (by omega)]
  · rw [Int.max_eq_right (by omega), Int.neg_mul_neg]
set_option maxHeartbeats 2000000 in
set_option maxRecDepth 100000 in
theorem rpart_1 (f : Fc) (A : Option Addr) (c : Nat) (x y : Int) (w : World) (hf : fcB f = true) (hx : -1000 ≤ x ∧ x ≤ 1000) (hy : -1000 ≤ y ∧ y ≤ 1000) (hk : f.shape = 1) :
    Calls Tryz.prog 75 #[.agg #[.int .i64 f.shape, .int .i64 f.size, .int .i64 f.height, .slice A f.items.length c], .int .i64 x, .int .i64 y] w fun e w' => e = .returned (.bool (partB f x y)) ∧ Below w.heap.size w w' := by
  have hp : partB f x y = (decide (x * x + y * y ≤ f.size * f.size)) := by
    unfold partB
    rw [if_pos hk]
  have hre := fun W => rextent_calls f A c W (by have := size_bounds hf; omega) (by have := size_bounds hf; omega)
  rw [hk] at hre ⊢
  have HRE := hid hre
  obtain ⟨s0, s1⟩ := size_bounds hf
  obtain ⟨h0, h1⟩ := heiF_bounds hf
  obtain ⟨x0, x1⟩ := hx
  obtain ⟨y0, y1⟩ := hy
  obtain ⟨ax0, ax1⟩ := absI_bd x0 x1
  obtain ⟨ay0, ay1⟩ := absI_bd y0 y1
  have hsq := absI_sq x
  clear hf hre hk
  generalize heiF f = h at *
  have HP := hid hp
  clear hp
  obtain ⟨mx1, mx2⟩ := mul_bd (a := x) (b := x) (A := 5000) (B := 5000) (by omega) (by omega) (by omega) (by omega)
  obtain ⟨my1, my2⟩ := mul_bd (a := y) (b := y) (A := 5000) (B := 5000) (by omega) (by omega) (by omega) (by omega)
  obtain ⟨ms1, ms2⟩ := mul_bd (a := f.size) (b := f.size) (A := 5000) (B := 5000) (by omega) (by omega) (by omega) (by omega)
  obtain ⟨e0, e0'⟩ := w64 (n := x * x) (by omega) (by omega)
  obtain ⟨e1, e1'⟩ := w64 (n := y * y) (by omega) (by omega)
  obtain ⟨e2, e2'⟩ := w64 (n := f.size * f.size) (by omega) (by omega)
  obtain ⟨e3, e3'⟩ := w64 (n := x * x + y * y) (by omega) (by omega)
  go_enter Tryz.func75, Tryz.ntmps75
  go_wp2_with fail
  refine ((unhid HRE) _).mono ?_
  rintro e w1 ⟨rfl, hb1⟩
  have HB := hid ((below_alloc w (.cells #[.int .i64 1, .int .i64 f.size, .int .i64 f.height, .slice A f.items.length c] 25)).trans (hb1.mono (by simp)))
  have c0 : w1.cell? ⟨w.heap.size, 0, none⟩ = some (.int .i64 1) := by rw [hb1.cell (p := ⟨w.heap.size, 0, none⟩) (by simp), World.cell?_alloc_new]; rfl
  clear hb1
  go_wp2_with (first | (go_at_call 100; refine (rabs_calls _ _ (by omega) (by omega)).mono ?_; rintro e w' ⟨rfl, rfl⟩))
  all_goals
    go_ret
    refine ⟨retE ?_, unhid HB⟩
    first
      | (rw [unhid HP]; done)
      | (rw [unhid HP]
         go_light
         first | (simp_all; done) | (simp_all; omega))

set_option maxHeartbeats 2000000 in
set_option maxRecDepth 100000 in
theorem rpart_2 (f : Fc) (A : Option Addr) (c : Nat) (x y : Int) (w : World) (hf : fcB f = true) (hx : -1000 ≤ x ∧ x ≤ 1000) (hy : -1000 ≤ y ∧ y ≤ 1000) (hk : f.shape = 2) :
    Calls Tryz.prog 75 #[.agg #[.int .i64 f.shape, .int .i64 f.size, .int .i64 f.height, .slice A f.items.length c], .int .i64 x, .int .i64 y] w fun e w' => e = .returned (.bool (partB f x y)) ∧ Below w.heap.size w w' := by
  have hp : partB f x y = (true) := by
    unfold partB
    rw [if_neg (by omega), if_neg (by omega), if_neg (by omega), if_neg (by omega), if_neg (by omega)]
  have hre := fun W => rextent_calls f A c W (by have := size_bounds hf; omega) (by have := size_bounds hf; omega)
  rw [hk] at hre ⊢
  have HRE := hid hre
  obtain ⟨s0, s1⟩ := size_bounds hf
  obtain ⟨h0, h1⟩ := heiF_bounds hf
  obtain ⟨x0, x1⟩ := hx
  obtain ⟨y0, y1⟩ := hy
  obtain ⟨ax0, ax1⟩ := absI_bd x0 x1
  obtain ⟨ay0, ay1⟩ := absI_bd y0 y1
  have hsq := absI_sq x
  clear hf hre hk
  generalize heiF f = h at *
  have HP := hid hp
  clear hp
  go_enter Tryz.func75, Tryz.ntmps75
  go_wp2_with fail
  refine ((unhid HRE) _).mono ?_
  rintro e w1 ⟨rfl, hb1⟩
  have HB := hid ((below_alloc w (.cells #[.int .i64 2, .int .i64 f.size, .int .i64 f.height, .slice A f.items.length c] 25)).trans (hb1.mono (by simp)))
  have c0 : w1.cell? ⟨w.heap.size, 0, none⟩ = some (.int .i64 2) := by rw [hb1.cell (p := ⟨w.heap.size, 0, none⟩) (by simp), World.cell?_alloc_new]; rfl
  clear hb1
  go_wp2_with (first | (go_at_call 100; refine (rabs_calls _ _ (by omega) (by omega)).mono ?_; rintro e w' ⟨rfl, rfl⟩))
  all_goals
    go_ret
    refine ⟨retE ?_, unhid HB⟩
    first
      | (rw [unhid HP]; done)
      | (rw [unhid HP]
         go_light
         first | (simp_all; done) | (simp_all; omega))

set_option maxHeartbeats 2000000 in
set_option maxRecDepth 100000 in
theorem rpart_3 (f : Fc) (A : Option Addr) (c : Nat) (x y : Int) (w : World) (hf : fcB f = true) (hx : -1000 ≤ x ∧ x ≤ 1000) (hy : -1000 ≤ y ∧ y ≤ 1000) (hk : f.shape = 3) :
    Calls Tryz.prog 75 #[.agg #[.int .i64 f.shape, .int .i64 f.size, .int .i64 f.height, .slice A f.items.length c], .int .i64 x, .int .i64 y] w fun e w' => e = .returned (.bool (partB f x y)) ∧ Below w.heap.size w w' := by
  have hp : partB f x y = (decide (absI x + absI y ≤ f.size)) := by
    unfold partB
    rw [if_neg (by omega), if_pos hk]
  have hre := fun W => rextent_calls f A c W (by have := size_bounds hf; omega) (by have := size_bounds hf; omega)
  rw [hk] at hre ⊢
  have HRE := hid hre
  obtain ⟨s0, s1⟩ := size_bounds hf
  obtain ⟨h0, h1⟩ := heiF_bounds hf
  obtain ⟨x0, x1⟩ := hx
  obtain ⟨y0, y1⟩ := hy
  obtain ⟨ax0, ax1⟩ := absI_bd x0 x1
  obtain ⟨ay0, ay1⟩ := absI_bd y0 y1
  have hsq := absI_sq x
  clear hf hre hk
  generalize heiF f = h at *
  have HP := hid hp
  clear hp
  obtain ⟨e0, e0'⟩ := w64 (n := absI x + absI y) (by omega) (by omega)
  go_enter Tryz.func75, Tryz.ntmps75
  go_wp2_with fail
  refine ((unhid HRE) _).mono ?_
  rintro e w1 ⟨rfl, hb1⟩
  have HB := hid ((below_alloc w (.cells #[.int .i64 3, .int .i64 f.size, .int .i64 f.height, .slice A f.items.length c] 25)).trans (hb1.mono (by simp)))
  have c0 : w1.cell? ⟨w.heap.size, 0, none⟩ = some (.int .i64 3) := by rw [hb1.cell (p := ⟨w.heap.size, 0, none⟩) (by simp), World.cell?_alloc_new]; rfl
  clear hb1
  go_wp2_with (first | (go_at_call 100; refine (rabs_calls _ _ (by omega) (by omega)).mono ?_; rintro e w' ⟨rfl, rfl⟩))
  all_goals
    go_ret
    refine ⟨retE ?_, unhid HB⟩
    first
      | (rw [unhid HP]; done)
      | (rw [unhid HP]
         go_light
         first | (simp_all; done) | (simp_all; omega))

set_option maxHeartbeats 2000000 in
set_option maxRecDepth 100000 in
theorem rpart_4 (f : Fc) (A : Option Addr) (c : Nat) (x y : Int) (w : World) (hf : fcB f = true) (hx : -1000 ≤ x ∧ x ≤ 1000) (hy : -1000 ≤ y ∧ y ≤ 1000) (hk : f.shape = 4) :
    Calls Tryz.prog 75 #[.agg #[.int .i64 f.shape, .int .i64 f.size, .int .i64 f.height, .slice A f.items.length c], .int .i64 x, .int .i64 y] w fun e w' => e = .returned (.bool (partB f x y)) ∧ Below w.heap.size w w' := by
  have hp : partB f x y = (decide (29 * (absI x + absI y) ≤ 41 * f.size)) := by
    unfold partB
    rw [if_neg (by omega), if_neg (by omega), if_pos hk]
  have hre := fun W => rextent_calls f A c W (by have := size_bounds hf; omega) (by have := size_bounds hf; omega)
  rw [hk] at hre ⊢
  have HRE := hid hre
  obtain ⟨s0, s1⟩ := size_bounds hf
  obtain ⟨h0, h1⟩ := heiF_bounds hf
  obtain ⟨x0, x1⟩ := hx
  obtain ⟨y0, y1⟩ := hy
  obtain ⟨ax0, ax1⟩ := absI_bd x0 x1
  obtain ⟨ay0, ay1⟩ := absI_bd y0 y1
  have hsq := absI_sq x
  clear hf hre hk
  generalize heiF f = h at *
  have HP := hid hp
  clear hp
  obtain ⟨e0, e0'⟩ := w64 (n := absI x + absI y) (by omega) (by omega)
  obtain ⟨e1, e1'⟩ := w64 (n := 29 * (absI x + absI y)) (by omega) (by omega)
  obtain ⟨e2, e2'⟩ := w64 (n := 41 * f.size) (by omega) (by omega)
  go_enter Tryz.func75, Tryz.ntmps75
  go_wp2_with fail
  refine ((unhid HRE) _).mono ?_
  rintro e w1 ⟨rfl, hb1⟩
  have HB := hid ((below_alloc w (.cells #[.int .i64 4, .int .i64 f.size, .int .i64 f.height, .slice A f.items.length c] 25)).trans (hb1.mono (by simp)))
  have c0 : w1.cell? ⟨w.heap.size, 0, none⟩ = some (.int .i64 4) := by rw [hb1.cell (p := ⟨w.heap.size, 0, none⟩) (by simp), World.cell?_alloc_new]; rfl
  clear hb1
  go_wp2_with (first | (go_at_call 100; refine (rabs_calls _ _ (by omega) (by omega)).mono ?_; rintro e w' ⟨rfl, rfl⟩))
  all_goals
    go_ret
    refine ⟨retE ?_, unhid HB⟩
    first
      | (rw [unhid HP]; done)
      | (rw [unhid HP]
         go_light
         first | (simp_all; done) | (simp_all; omega))

set_option maxHeartbeats 2000000 in
set_option maxRecDepth 100000 in
theorem rpart_5 (f : Fc) (A : Option Addr) (c : Nat) (x y : Int) (w : World) (hf : fcB f = true) (hx : -1000 ≤ x ∧ x ≤ 1000) (hy : -1000 ≤ y ∧ y ≤ 1000) (hk : f.shape = 5) :
    Calls Tryz.prog 75 #[.agg #[.int .i64 f.shape, .int .i64 f.size, .int .i64 f.height, .slice A f.items.length c], .int .i64 x, .int .i64 y] w fun e w' => e = .returned (.bool (partB f x y)) ∧ Below w.heap.size w w' := by
  have hp : partB f x y = (decide (2 * heiF f * absI x ≤ f.size * (heiF f - y))) := by
    unfold partB
    rw [if_neg (by omega), if_neg (by omega), if_neg (by omega), if_pos hk]
  have hre := fun W => rextent_calls f A c W (by have := size_bounds hf; omega) (by have := size_bounds hf; omega)
  rw [hk] at hre ⊢
  have HRE := hid hre
  obtain ⟨s0, s1⟩ := size_bounds hf
  obtain ⟨h0, h1⟩ := heiF_bounds hf
  obtain ⟨x0, x1⟩ := hx
  obtain ⟨y0, y1⟩ := hy
  obtain ⟨ax0, ax1⟩ := absI_bd x0 x1
  obtain ⟨ay0, ay1⟩ := absI_bd y0 y1
  have hsq := absI_sq x
  clear hf hre hk
  generalize heiF f = h at *
  have HP := hid hp
  clear hp
  obtain ⟨m11, m12⟩ := mul_bd (a := 2 * h) (b := absI x) (A := 5000) (B := 5000) (by omega) (by omega) (by omega) (by omega)
  obtain ⟨m21, m22⟩ := mul_bd (a := f.size) (b := h - y) (A := 5000) (B := 5000) (by omega) (by omega) (by omega) (by omega)
  obtain ⟨e0, e0'⟩ := w64 (n := 2 * h) (by omega) (by omega)
  obtain ⟨e1, e1'⟩ := w64 (n := 2 * h * absI x) (by omega) (by omega)
  obtain ⟨e2, e2'⟩ := w64 (n := h - y) (by omega) (by omega)
  obtain ⟨e3, e3'⟩ := w64 (n := f.size * (h - y)) (by omega) (by omega)
  go_enter Tryz.func75, Tryz.ntmps75
  go_wp2_with fail
  refine ((unhid HRE) _).mono ?_
  rintro e w1 ⟨rfl, hb1⟩
  have HB := hid ((below_alloc w (.cells #[.int .i64 5, .int .i64 f.size, .int .i64 f.height, .slice A f.items.length c] 25)).trans (hb1.mono (by simp)))
  have c0 : w1.cell? ⟨w.heap.size, 0, none⟩ = some (.int .i64 5) := by rw [hb1.cell (p := ⟨w.heap.size, 0, none⟩) (by simp), World.cell?_alloc_new]; rfl
  clear hb1
  go_wp2_with (first | (go_at_call 100; refine (rabs_calls _ _ (by omega) (by omega)).mono ?_; rintro e w' ⟨rfl, rfl⟩))
  all_goals
    go_ret
    refine ⟨retE ?_, unhid HB⟩
    first
      | (rw [unhid HP]; done)
      | (rw [unhid HP]
         go_light
         first | (simp_all; done) | (simp_all; omega))

set_option maxHeartbeats 2000000 in
set_option maxRecDepth 100000 in
theorem rpart_6 (f : Fc) (A : Option Addr) (c : Nat) (x y : Int) (w : World) (hf : fcB f = true) (hx : -1000 ≤ x ∧ x ≤ 1000) (hy : -1000 ≤ y ∧ y ≤ 1000) (hk : f.shape = 6) :
    Calls Tryz.prog 75 #[.agg #[.int .i64 f.shape, .int .i64 f.size, .int .i64 f.height, .slice A f.items.length c], .int .i64 x, .int .i64 y] w fun e w' => e = .returned (.bool (partB f x y)) ∧ Below w.heap.size w w' := by
  have hp : partB f x y = (decide (2 * heiF f * absI x ≤ f.size * (heiF f + y))) := by
    unfold partB
    rw [if_neg (by omega), if_neg (by omega), if_neg (by omega), if_neg (by omega), if_pos hk]
  have hre := fun W => rextent_calls f A c W (by have := size_bounds hf; omega) (by have := size_bounds hf; omega)
  rw [hk] at hre ⊢
  have HRE := hid hre
  obtain ⟨s0, s1⟩ := size_bounds hf
  obtain ⟨h0, h1⟩ := heiF_bounds hf
  obtain ⟨x0, x1⟩ := hx
  obtain ⟨y0, y1⟩ := hy
  obtain ⟨ax0, ax1⟩ := absI_bd x0 x1
  obtain ⟨ay0, ay1⟩ := absI_bd y0 y1
  have hsq := absI_sq x
  clear hf hre hk
  generalize heiF f = h at *
  have HP := hid hp
  clear hp
  obtain ⟨m11, m12⟩ := mul_bd (a := 2 * h) (b := absI x) (A := 5000) (B := 5000) (by omega) (by omega) (by omega) (by omega)
  obtain ⟨m21, m22⟩ := mul_bd (a := f.size) (b := h + y) (A := 5000) (B := 5000) (by omega) (by omega) (by omega) (by omega)
  obtain ⟨e0, e0'⟩ := w64 (n := 2 * h) (by omega) (by omega)
  obtain ⟨e1, e1'⟩ := w64 (n := 2 * h * absI x) (by omega) (by omega)
  obtain ⟨e2, e2'⟩ := w64 (n := h + y) (by omega) (by omega)
  obtain ⟨e3, e3'⟩ := w64 (n := f.size * (h + y)) (by omega) (by omega)
  go_enter Tryz.func75, Tryz.ntmps75
  go_wp2_with fail
  refine ((unhid HRE) _).mono ?_
  rintro e w1 ⟨rfl, hb1⟩
  have HB := hid ((below_alloc w (.cells #[.int .i64 6, .int .i64 f.size, .int .i64 f.height, .slice A f.items.length c] 25)).trans (hb1.mono (by simp)))
  have c0 : w1.cell? ⟨w.heap.size, 0, none⟩ = some (.int .i64 6) := by rw [hb1.cell (p := ⟨w.heap.size, 0, none⟩) (by simp), World.cell?_alloc_new]; rfl
  clear hb1
  go_wp2_with (first | (go_at_call 100; refine (rabs_calls _ _ (by omega) (by omega)).mono ?_; rintro e w' ⟨rfl, rfl⟩))
  all_goals
    go_ret
    refine ⟨retE ?_, unhid HB⟩
    first
      | (rw [unhid HP]; done)
      | (rw [unhid HP]
         go_light
         first | (simp_all; done) | (simp_all; omega))

set_option maxHeartbeats 2000000 in
set_option maxRecDepth 100000 in
theorem rmid_1 (f : Fc) (A : Option Addr) (c : Nat) (x y : Int) (b : Int) (w : World) (hf : fcB f = true) (hx : -1000 ≤ x ∧ x ≤ 1000) (hy : -1000 ≤ y ∧ y ≤ 1000) (hb : 0 ≤ b ∧ b ≤ 200) (hk : f.shape = 1) :
    Calls Tryz.prog 101 #[.agg #[.int .i64 f.shape, .int .i64 f.size, .int .i64 f.height, .slice A f.items.length c], .int .i64 x, .int .i64 y, .int .i64 b] w fun e w' => e = .returned (.bool (midB f x y b)) ∧ Below w.heap.size w w' := by
  have hp : midB f x y b = (decide (0 < f.size - 2 * b) && decide (x * x + y * y ≤ (f.size - 2 * b) * (f.size - 2 * b))) := by
    unfold midB
    rw [if_pos hk]
    simp only [Bool.decide_and, Bool.and_assoc]
  have hre := fun W => rextent_calls f A c W (by have := size_bounds hf; omega) (by have := size_bounds hf; omega)
  rw [hk] at hre ⊢
  have HRE := hid hre
  obtain ⟨s0, s1⟩ := size_bounds hf
  obtain ⟨h0, h1⟩ := heiF_bounds hf
  obtain ⟨x0, x1⟩ := hx
  obtain ⟨y0, y1⟩ := hy
  obtain ⟨b0, b1⟩ := hb
  obtain ⟨ax0, ax1⟩ := absI_bd x0 x1
  obtain ⟨ay0, ay1⟩ := absI_bd y0 y1
  have hsq := absI_sq x
  clear hf hre hk
  generalize heiF f = h at *
  have HP := hid hp
  clear hp
  obtain ⟨mx1, mx2⟩ := mul_bd (a := x) (b := x) (A := 5000) (B := 5000) (by omega) (by omega) (by omega) (by omega)
  obtain ⟨my1, my2⟩ := mul_bd (a := y) (b := y) (A := 5000) (B := 5000) (by omega) (by omega) (by omega) (by omega)
  obtain ⟨ms1, ms2⟩ := mul_bd (a := (f.size - 2 * b)) (b := (f.size - 2 * b)) (A := 5000) (B := 5000) (by omega) (by omega) (by omega) (by omega)
  obtain ⟨e0, e0'⟩ := w64 (n := 2 * b) (by omega) (by omega)
  obtain ⟨e1, e1'⟩ := w64 (n := f.size - 2 * b) (by omega) (by omega)
  obtain ⟨e2, e2'⟩ := w64 (n := x * x) (by omega) (by omega)
  obtain ⟨e3, e3'⟩ := w64 (n := y * y) (by omega) (by omega)
  obtain ⟨e4, e4'⟩ := w64 (n := (f.size - 2 * b) * (f.size - 2 * b)) (by omega) (by omega)
  obtain ⟨e5, e5'⟩ := w64 (n := x * x + y * y) (by omega) (by omega)
  go_enter Tryz.func101, Tryz.ntmps101
  go_wp2_with fail
  refine ((unhid HRE) _).mono ?_
  rintro e w1 ⟨rfl, hb1⟩
  have HB := hid ((below_alloc w (.cells #[.int .i64 1, .int .i64 f.size, .int .i64 f.height, .slice A f.items.length c] 25)).trans (hb1.mono (by simp)))
  have c0 : w1.cell? ⟨w.heap.size, 0, none⟩ = some (.int .i64 1) := by rw [hb1.cell (p := ⟨w.heap.size, 0, none⟩) (by simp), World.cell?_alloc_new]; rfl
  clear hb1
  go_wp2_with (first | (go_at_call 100; refine (rabs_calls _ _ (by omega) (by omega)).mono ?_; rintro e w' ⟨rfl, rfl⟩))
  all_goals
    go_ret
    refine ⟨retE ?_, unhid HB⟩
    first
      | (rw [unhid HP]; done)
      | (rw [unhid HP]
         go_light
         first | (simp_all; done) | (simp_all; omega))

set_option maxHeartbeats 2000000 in
set_option maxRecDepth 100000 in
theorem rmid_2 (f : Fc) (A : Option Addr) (c : Nat) (x y : Int) (b : Int) (w : World) (hf : fcB f = true) (hx : -1000 ≤ x ∧ x ≤ 1000) (hy : -1000 ≤ y ∧ y ≤ 1000) (hb : 0 ≤ b ∧ b ≤ 200) (hk : f.shape = 2) :
    Calls Tryz.prog 101 #[.agg #[.int .i64 f.shape, .int .i64 f.size, .int .i64 f.height, .slice A f.items.length c], .int .i64 x, .int .i64 y, .int .i64 b] w fun e w' => e = .returned (.bool (midB f x y b)) ∧ Below w.heap.size w w' := by
  have hp : midB f x y b = (decide (absI x < f.size - 2 * b) && decide (absI y < heiF f - 2 * b)) := by
    unfold midB
    rw [if_neg (by omega), if_neg (by omega), if_neg (by omega), if_neg (by omega), if_neg (by omega)]
    simp only [Bool.decide_and, Bool.and_assoc]
  have hre := fun W => rextent_calls f A c W (by have := size_bounds hf; omega) (by have := size_bounds hf; omega)
  rw [hk] at hre ⊢
  have HRE := hid hre
  obtain ⟨s0, s1⟩ := size_bounds hf
  obtain ⟨h0, h1⟩ := heiF_bounds hf
  obtain ⟨x0, x1⟩ := hx
  obtain ⟨y0, y1⟩ := hy
  obtain ⟨b0, b1⟩ := hb
  obtain ⟨ax0, ax1⟩ := absI_bd x0 x1
  obtain ⟨ay0, ay1⟩ := absI_bd y0 y1
  have hsq := absI_sq x
  clear hf hre hk
  generalize heiF f = h at *
  have HP := hid hp
  clear hp
  obtain ⟨e0, e0'⟩ := w64 (n := 2 * b) (by omega) (by omega)
  obtain ⟨e1, e1'⟩ := w64 (n := f.size - 2 * b) (by omega) (by omega)
  obtain ⟨e2, e2'⟩ := w64 (n := h - 2 * b) (by omega) (by omega)
  go_enter Tryz.func101, Tryz.ntmps101
  go_wp2_with fail
  refine ((unhid HRE) _).mono ?_
  rintro e w1 ⟨rfl, hb1⟩
  have HB := hid ((below_alloc w (.cells #[.int .i64 2, .int .i64 f.size, .int .i64 f.height, .slice A f.items.length c] 25)).trans (hb1.mono (by simp)))
  have c0 : w1.cell? ⟨w.heap.size, 0, none⟩ = some (.int .i64 2) := by rw [hb1.cell (p := ⟨w.heap.size, 0, none⟩) (by simp), World.cell?_alloc_new]; rfl
  clear hb1
  go_wp2_with (first | (go_at_call 100; refine (rabs_calls _ _ (by omega) (by omega)).mono ?_; rintro e w' ⟨rfl, rfl⟩))
  all_goals
    go_ret
    refine ⟨retE ?_, unhid HB⟩
    first
      | (rw [unhid HP]; done)
      | (rw [unhid HP]
         go_light
         first | (simp_all; done) | (simp_all; omega))

set_option maxHeartbeats 2000000 in
set_option maxRecDepth 100000 in
theorem rmid_3 (f : Fc) (A : Option Addr) (c : Nat) (x y : Int) (b : Int) (w : World) (hf : fcB f = true) (hx : -1000 ≤ x ∧ x ≤ 1000) (hy : -1000 ≤ y ∧ y ≤ 1000) (hb : 0 ≤ b ∧ b ≤ 200) (hk : f.shape = 3) :
    Calls Tryz.prog 101 #[.agg #[.int .i64 f.shape, .int .i64 f.size, .int .i64 f.height, .slice A f.items.length c], .int .i64 x, .int .i64 y, .int .i64 b] w fun e w' => e = .returned (.bool (midB f x y b)) ∧ Below w.heap.size w w' := by
  have hp : midB f x y b = (decide (absI x + absI y ≤ f.size - 3 * b)) := by
    unfold midB
    rw [if_neg (by omega), if_pos hk]
  have hre := fun W => rextent_calls f A c W (by have := size_bounds hf; omega) (by have := size_bounds hf; omega)
  rw [hk] at hre ⊢
  have HRE := hid hre
  obtain ⟨s0, s1⟩ := size_bounds hf
  obtain ⟨h0, h1⟩ := heiF_bounds hf
  obtain ⟨x0, x1⟩ := hx
  obtain ⟨y0, y1⟩ := hy
  obtain ⟨b0, b1⟩ := hb
  obtain ⟨ax0, ax1⟩ := absI_bd x0 x1
  obtain ⟨ay0, ay1⟩ := absI_bd y0 y1
  have hsq := absI_sq x
  clear hf hre hk
  generalize heiF f = h at *
  have HP := hid hp
  clear hp
  obtain ⟨e0, e0'⟩ := w64 (n := 2 * b) (by omega) (by omega)
  obtain ⟨e1, e1'⟩ := w64 (n := f.size - 2 * b) (by omega) (by omega)
  obtain ⟨e2, e2'⟩ := w64 (n := absI x + absI y) (by omega) (by omega)
  obtain ⟨e3, e3'⟩ := w64 (n := 3 * b) (by omega) (by omega)
  obtain ⟨e4, e4'⟩ := w64 (n := f.size - 3 * b) (by omega) (by omega)
  go_enter Tryz.func101, Tryz.ntmps101
  go_wp2_with fail
  refine ((unhid HRE) _).mono ?_
  rintro e w1 ⟨rfl, hb1⟩
  have HB := hid ((below_alloc w (.cells #[.int .i64 3, .int .i64 f.size, .int .i64 f.height, .slice A f.items.length c] 25)).trans (hb1.mono (by simp)))
  have c0 : w1.cell? ⟨w.heap.size, 0, none⟩ = some (.int .i64 3) := by rw [hb1.cell (p := ⟨w.heap.size, 0, none⟩) (by simp), World.cell?_alloc_new]; rfl
  clear hb1
  go_wp2_with (first | (go_at_call 100; refine (rabs_calls _ _ (by omega) (by omega)).mono ?_; rintro e w' ⟨rfl, rfl⟩))
  all_goals
    go_ret
    refine ⟨retE ?_, unhid HB⟩
    first
      | (rw [unhid HP]; done)
      | (rw [unhid HP]
         go_light
         first | (simp_all; done) | (simp_all; omega))

set_option maxHeartbeats 2000000 in
set_option maxRecDepth 100000 in
theorem rmid_4 (f : Fc) (A : Option Addr) (c : Nat) (x y : Int) (b : Int) (w : World) (hf : fcB f = true) (hx : -1000 ≤ x ∧ x ≤ 1000) (hy : -1000 ≤ y ∧ y ≤ 1000) (hb : 0 ≤ b ∧ b ≤ 200) (hk : f.shape = 4) :
    Calls Tryz.prog 101 #[.agg #[.int .i64 f.shape, .int .i64 f.size, .int .i64 f.height, .slice A f.items.length c], .int .i64 x, .int .i64 y, .int .i64 b] w fun e w' => e = .returned (.bool (midB f x y b)) ∧ Below w.heap.size w w' := by
  have hp : midB f x y b = (decide (absI x < f.size - 2 * b) && decide (absI y < f.size - 2 * b) && decide (29 * (absI x + absI y) ≤ 41 * (f.size - 2 * b))) := by
    unfold midB
    rw [if_neg (by omega), if_neg (by omega), if_pos hk]
    simp only [Bool.decide_and, Bool.and_assoc]
  have hre := fun W => rextent_calls f A c W (by have := size_bounds hf; omega) (by have := size_bounds hf; omega)
  rw [hk] at hre ⊢
  have HRE := hid hre
  obtain ⟨s0, s1⟩ := size_bounds hf
  obtain ⟨h0, h1⟩ := heiF_bounds hf
  obtain ⟨x0, x1⟩ := hx
  obtain ⟨y0, y1⟩ := hy
  obtain ⟨b0, b1⟩ := hb
  obtain ⟨ax0, ax1⟩ := absI_bd x0 x1
  obtain ⟨ay0, ay1⟩ := absI_bd y0 y1
  have hsq := absI_sq x
  clear hf hre hk
  generalize heiF f = h at *
  have HP := hid hp
  clear hp
  obtain ⟨e0, e0'⟩ := w64 (n := 2 * b) (by omega) (by omega)
  obtain ⟨e1, e1'⟩ := w64 (n := f.size - 2 * b) (by omega) (by omega)
  obtain ⟨e2, e2'⟩ := w64 (n := absI x + absI y) (by omega) (by omega)
  obtain ⟨e3, e3'⟩ := w64 (n := 29 * (absI x + absI y)) (by omega) (by omega)
  obtain ⟨e4, e4'⟩ := w64 (n := 41 * (f.size - 2 * b)) (by omega) (by omega)
  go_enter Tryz.func101, Tryz.ntmps101
  go_wp2_with fail
  refine ((unhid HRE) _).mono ?_
  rintro e w1 ⟨rfl, hb1⟩
  have HB := hid ((below_alloc w (.cells #[.int .i64 4, .int .i64 f.size, .int .i64 f.height, .slice A f.items.length c] 25)).trans (hb1.mono (by simp)))
  have c0 : w1.cell? ⟨w.heap.size, 0, none⟩ = some (.int .i64 4) := by rw [hb1.cell (p := ⟨w.heap.size, 0, none⟩) (by simp), World.cell?_alloc_new]; rfl
  clear hb1
  go_wp2_with (first | (go_at_call 100; refine (rabs_calls _ _ (by omega) (by omega)).mono ?_; rintro e w' ⟨rfl, rfl⟩))
  all_goals
    go_ret
    refine ⟨retE ?_, unhid HB⟩
    first
      | (rw [unhid HP]; done)
      | (rw [unhid HP]
         go_light
         first | (simp_all; done) | (simp_all; omega))

set_option maxHeartbeats 2000000 in
set_option maxRecDepth 100000 in
theorem rmid_5 (f : Fc) (A : Option Addr) (c : Nat) (x y : Int) (b : Int) (w : World) (hf : fcB f = true) (hx : -1000 ≤ x ∧ x ≤ 1000) (hy : -1000 ≤ y ∧ y ≤ 1000) (hb : 0 ≤ b ∧ b ≤ 200) (hk : f.shape = 5) :
    Calls Tryz.prog 101 #[.agg #[.int .i64 f.shape, .int .i64 f.size, .int .i64 f.height, .slice A f.items.length c], .int .i64 x, .int .i64 y, .int .i64 b] w fun e w' => e = .returned (.bool (midB f x y b)) ∧ Below w.heap.size w w' := by
  have hp : midB f x y b = (decide (2 * heiF f * (absI x + 2 * b) ≤ f.size * (heiF f - y)) && decide (2 * b - heiF f < y)) := by
    unfold midB
    rw [if_neg (by omega), if_neg (by omega), if_neg (by omega), if_pos hk]
    simp only [Bool.decide_and, Bool.and_assoc]
  have hre := fun W => rextent_calls f A c W (by have := size_bounds hf; omega) (by have := size_bounds hf; omega)
  rw [hk] at hre ⊢
  have HRE := hid hre
  obtain ⟨s0, s1⟩ := size_bounds hf
  obtain ⟨h0, h1⟩ := heiF_bounds hf
  obtain ⟨x0, x1⟩ := hx
  obtain ⟨y0, y1⟩ := hy
  obtain ⟨b0, b1⟩ := hb
  obtain ⟨ax0, ax1⟩ := absI_bd x0 x1
  obtain ⟨ay0, ay1⟩ := absI_bd y0 y1
  have hsq := absI_sq x
  clear hf hre hk
  generalize heiF f = h at *
  have HP := hid hp
  clear hp
  obtain ⟨m11, m12⟩ := mul_bd (a := 2 * h) (b := (absI x + 2 * b)) (A := 5000) (B := 5000) (by omega) (by omega) (by omega) (by omega)
  obtain ⟨m21, m22⟩ := mul_bd (a := f.size) (b := (h - y)) (A := 5000) (B := 5000) (by omega) (by omega) (by omega) (by omega)
  obtain ⟨e0, e0'⟩ := w64 (n := 2 * b) (by omega) (by omega)
  obtain ⟨e1, e1'⟩ := w64 (n := f.size - 2 * b) (by omega) (by omega)
  obtain ⟨e2, e2'⟩ := w64 (n := 2 * h) (by omega) (by omega)
  obtain ⟨e3, e3'⟩ := w64 (n := absI x + 2 * b) (by omega) (by omega)
  obtain ⟨e4, e4'⟩ := w64 (n := 2 * h * (absI x + 2 * b)) (by omega) (by omega)
  obtain ⟨e5, e5'⟩ := w64 (n := h - y) (by omega) (by omega)
  obtain ⟨e6, e6'⟩ := w64 (n := f.size * (h - y)) (by omega) (by omega)
  obtain ⟨e7, e7'⟩ := w64 (n := 2 * b - h) (by omega) (by omega)
  go_enter Tryz.func101, Tryz.ntmps101
  go_wp2_with fail
  refine ((unhid HRE) _).mono ?_
  rintro e w1 ⟨rfl, hb1⟩
  have HB := hid ((below_alloc w (.cells #[.int .i64 5, .int .i64 f.size, .int .i64 f.height, .slice A f.items.length c] 25)).trans (hb1.mono (by simp)))
  have c0 : w1.cell? ⟨w.heap.size, 0, none⟩ = some (.int .i64 5) := by rw [hb1.cell (p := ⟨w.heap.size, 0, none⟩) (by simp), World.cell?_alloc_new]; rfl
  clear hb1
  go_wp2_with (first | (go_at_call 100; refine (rabs_calls _ _ (by omega) (by omega)).mono ?_; rintro e w' ⟨rfl, rfl⟩))
  all_goals
    go_ret
    refine ⟨retE ?_, unhid HB⟩
    first
      | (rw [unhid HP]; done)
      | (rw [unhid HP]
         go_light
         first | (simp_all; done) | (simp_all; omega))

set_option maxHeartbeats 2000000 in
set_option maxRecDepth 100000 in
theorem rmid_6 (f : Fc) (A : Option Addr) (c : Nat) (x y : Int) (b : Int) (w : World) (hf : fcB f = true) (hx : -1000 ≤ x ∧ x ≤ 1000) (hy : -1000 ≤ y ∧ y ≤ 1000) (hb : 0 ≤ b ∧ b ≤ 200) (hk : f.shape = 6) :
    Calls Tryz.prog 101 #[.agg #[.int .i64 f.shape, .int .i64 f.size, .int .i64 f.height, .slice A f.items.length c], .int .i64 x, .int .i64 y, .int .i64 b] w fun e w' => e = .returned (.bool (midB f x y b)) ∧ Below w.heap.size w w' := by
  have hp : midB f x y b = (decide (2 * heiF f * (absI x + 2 * b) ≤ f.size * (heiF f + y)) && decide (y < heiF f - 2 * b)) := by
    unfold midB
    rw [if_neg (by omega), if_neg (by omega), if_neg (by omega), if_neg (by omega), if_pos hk]
    simp only [Bool.decide_and, Bool.and_assoc]
  have hre := fun W => rextent_calls f A c W (by have := size_bounds hf; omega) (by have := size_bounds hf; omega)
  rw [hk] at hre ⊢
  have HRE := hid hre
  obtain ⟨s0, s1⟩ := size_bounds hf
  obtain ⟨h0, h1⟩ := heiF_bounds hf
  obtain ⟨x0, x1⟩ := hx
  obtain ⟨y0, y1⟩ := hy
  obtain ⟨b0, b1⟩ := hb
  obtain ⟨ax0, ax1⟩ := absI_bd x0 x1
  obtain ⟨ay0, ay1⟩ := absI_bd y0 y1
  have hsq := absI_sq x
  clear hf hre hk
  generalize heiF f = h at *
  have HP := hid hp
  clear hp
  obtain ⟨m11, m12⟩ := mul_bd (a := 2 * h) (b := (absI x + 2 * b)) (A := 5000) (B := 5000) (by omega) (by omega) (by omega) (by omega)
  obtain ⟨m21, m22⟩ := mul_bd (a := f.size) (b := (h + y)) (A := 5000) (B := 5000) (by omega) (by omega) (by omega) (by omega)
  obtain ⟨e0, e0'⟩ := w64 (n := 2 * b) (by omega) (by omega)
  obtain ⟨e1, e1'⟩ := w64 (n := f.size - 2 * b) (by omega) (by omega)
  obtain ⟨e2, e2'⟩ := w64 (n := 2 * h) (by omega) (by omega)
  obtain ⟨e3, e3'⟩ := w64 (n := absI x + 2 * b) (by omega) (by omega)
  obtain ⟨e4, e4'⟩ := w64 (n := 2 * h * (absI x + 2 * b)) (by omega) (by omega)
  obtain ⟨e5, e5'⟩ := w64 (n := h + y) (by omega) (by omega)
  obtain ⟨e6, e6'⟩ := w64 (n := f.size * (h + y)) (by omega) (by omega)
  obtain ⟨e7, e7'⟩ := w64 (n := h - 2 * b) (by omega) (by omega)
  go_enter Tryz.func101, Tryz.ntmps101
  go_wp2_with fail
  refine ((unhid HRE) _).mono ?_
  rintro e w1 ⟨rfl, hb1⟩
  have HB := hid ((below_alloc w (.cells #[.int .i64 6, .int .i64 f.size, .int .i64 f.height, .slice A f.items.length c] 25)).trans (hb1.mono (by simp)))
  have c0 : w1.cell? ⟨w.heap.size, 0, none⟩ = some (.int .i64 6) := by rw [hb1.cell (p := ⟨w.heap.size, 0, none⟩) (by simp), World.cell?_alloc_new]; rfl
  clear hb1
  go_wp2_with (first | (go_at_call 100; refine (rabs_calls _ _ (by omega) (by omega)).mono ?_; rintro e w' ⟨rfl, rfl⟩))
  all_goals
    go_ret
    refine ⟨retE ?_, unhid HB⟩
    first
      | (rw [unhid HP]; done)
      | (rw [unhid HP]
         go_light
         first | (simp_all; done) | (simp_all; omega))

theorem rpart_calls (f : Fc) (A : Option Addr) (c : Nat) (x y : Int) (w : World) (hf : fcB f = true) (hx : -1000 ≤ x ∧ x ≤ 1000) (hy : -1000 ≤ y ∧ y ≤ 1000) :
    Calls Tryz.prog 75 #[.agg #[.int .i64 f.shape, .int .i64 f.size, .int .i64 f.height, .slice A f.items.length c], .int .i64 x, .int .i64 y] w fun e w' => e = .returned (.bool (partB f x y)) ∧ Below w.heap.size w w' := by
  have hs : 1 ≤ f.shape ∧ f.shape ≤ 6 := by simp only [fcB, Bool.and_eq_true, decide_eq_true_eq] at hf; exact hf.1.1.1.1
  rcases (show f.shape = 1 ∨ f.shape = 2 ∨ f.shape = 3 ∨ f.shape = 4 ∨ f.shape = 5 ∨ f.shape = 6 by omega) with h | h | h | h | h | h
  · exact rpart_1 f A c x y w hf hx hy h
  · exact rpart_2 f A c x y w hf hx hy h
  · exact rpart_3 f A c x y w hf hx hy h
  · exact rpart_4 f A c x y w hf hx hy h
  · exact rpart_5 f A c x y w hf hx hy h
  · exact rpart_6 f A c x y w hf hx hy h
theorem rmid_calls (f : Fc) (A : Option Addr) (c : Nat) (x y b : Int) (w : World) (hf : fcB f = true) (hx : -1000 ≤ x ∧ x ≤ 1000) (hy : -1000 ≤ y ∧ y ≤ 1000) (hb : 0 ≤ b ∧ b ≤ 200) :
    Calls Tryz.prog 101 #[.agg #[.int .i64 f.shape, .int .i64 f.size, .int .i64 f.height, .slice A f.items.length c], .int .i64 x, .int .i64 y, .int .i64 b] w fun e w' => e = .returned (.bool (midB f x y b)) ∧ Below w.heap.size w w' := by
  have hs : 1 ≤ f.shape ∧ f.shape ≤ 6 := by simp only [fcB, Bool.and_eq_true, decide_eq_true_eq] at hf; exact hf.1.1.1.1
  rcases (show f.shape = 1 ∨ f.shape = 2 ∨ f.shape = 3 ∨ f.shape = 4 ∨ f.shape = 5 ∨ f.shape = 6 by omega) with h | h | h | h | h | h
  · exact rmid_1 f A c x y b w hf hx hy hb h
  · exact rmid_2 f A c x y b w hf hx hy hb h
  · exact rmid_3 f A c x y b w hf hx hy hb h
  · exact rmid_4 f A c x y b w hf hx hy hb h
  · exact rmid_5 f A c x y b w hf hx hy hb h
  · exact rmid_6 f A c x y b w hf hx hy hb h

end Go.Proofs.YtmagidoodlkeoaaGreatDoor
