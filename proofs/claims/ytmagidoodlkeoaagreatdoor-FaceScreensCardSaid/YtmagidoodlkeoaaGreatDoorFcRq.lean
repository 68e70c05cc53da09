/-
  Which dots an item paints: the reference.
-/
import Derived.Test.YtmagidoodlkeoaaGreatDoorFcHr
import Derived.Test.YtmagidoodlkeoaaGreatDoorFcRp
set_option linter.unusedSimpArgs false
set_option linter.unusedVariables false
namespace Go.Proofs.YtmagidoodlkeoaaGreatDoor
open Go.RowKit

set_option maxHeartbeats 4000000 in
set_option maxRecDepth 100000 in
theorem rpaints_1 (f : Fc) (A : Option Addr) (c : Nat) (x : It) (i j : Int) (w : World) (hf : fcB f = true) (hi : 0 ≤ i ∧ i < f.size) (hj : 0 ≤ j ∧ j < heiF f) (hx : itB x = true) (hk : x.kind = 1) :
    Calls Tryz.prog 76 #[.agg #[.int .i64 f.shape, .int .i64 f.size, .int .i64 f.height, .slice A f.items.length c], .agg #[.int .i64 x.kind, .int .i64 x.colour, .int .i64 x.left, .int .i64 x.low, .int .i64 x.a, .int .i64 x.b, .string (SB x.text)], .int .i64 i, .int .i64 j] w fun e w' =>
      e = .returned (.bool (paintB f x i j)) ∧ Below w.heap.size w w' := by
  have hp : paintB f x i j = (true) := by
    unfold paintB
    rw [if_pos hk]
  have HP := hid hp
  obtain ⟨l0, l1, o0, o1, a0, a1, b0, b1⟩ := it_numbers hx
  obtain ⟨s0, s1⟩ := size_bounds hf
  obtain ⟨h0, h1⟩ := heiF_bounds hf
  obtain ⟨i0, i1⟩ := hi
  obtain ⟨j0, j1⟩ := hj
  have HRE := hid (fun W => rextent_calls f A c W (by omega) (by omega))
  rw [hk]
  clear hp hf hx hk
  go_enter Tryz.func76, Tryz.ntmps76
  go_wp2_with fail
  obtain ⟨W, hW⟩ : ∃ W, W = (w.alloc (.cells #[.int .i64 f.shape, .int .i64 f.size, .int .i64 f.height, .slice A f.items.length c] 25)).alloc (.cells #[.int .i64 1, .int .i64 x.colour, .int .i64 x.left, .int .i64 x.low, .int .i64 x.a, .int .i64 x.b, .string (SB x.text)] 66) := ⟨_, rfl⟩
  have g1 : ∀ n, W.cell? ⟨w.heap.size, n, none⟩ = #[Value.int .i64 f.shape, .int .i64 f.size, .int .i64 f.height, .slice A f.items.length c][n]? := fun n => by rw [hW, World.cell?_alloc_lt _ _ ⟨w.heap.size, n, none⟩ (by simp), World.cell?_alloc_new]
  have g2 : ∀ n, W.cell? ⟨w.heap.size + 1, n, none⟩ = #[Value.int .i64 1, .int .i64 x.colour, .int .i64 x.left, .int .i64 x.low, .int .i64 x.a, .int .i64 x.b, .string (SB x.text)][n]? := fun n => by
    have e : (w.alloc (.cells #[.int .i64 f.shape, .int .i64 f.size, .int .i64 f.height, .slice A f.items.length c] 25)).heap.size = w.heap.size + 1 := by simp
    rw [hW, ← e, World.cell?_alloc_new]
  have hsz : w.heap.size + 1 < W.heap.size := by rw [hW]; simp
  have hbw : Below w.heap.size w W := by rw [hW]; exact below_alloc' (below_alloc _ _) _
  rw [← hW]
  clear hW
  refine ((unhid HRE) _).mono ?_
  rintro e w1 ⟨rfl, hb1⟩
  have HB1 := hid (hbw.trans (hb1.mono hbw.size))
  have d0 := (hb1.cell (p := ⟨w.heap.size + 1, 0, none⟩) (by dsimp only; omega)).trans (g2 0)
  have d1 := (hb1.cell (p := ⟨w.heap.size + 1, 1, none⟩) (by dsimp only; omega)).trans (g2 1)
  have d2 := (hb1.cell (p := ⟨w.heap.size + 1, 2, none⟩) (by dsimp only; omega)).trans (g2 2)
  have d3 := (hb1.cell (p := ⟨w.heap.size + 1, 3, none⟩) (by dsimp only; omega)).trans (g2 3)
  have d4 := (hb1.cell (p := ⟨w.heap.size + 1, 4, none⟩) (by dsimp only; omega)).trans (g2 4)
  have d5 := (hb1.cell (p := ⟨w.heap.size + 1, 5, none⟩) (by dsimp only; omega)).trans (g2 5)
  have d6 := (hb1.cell (p := ⟨w.heap.size + 1, 6, none⟩) (by dsimp only; omega)).trans (g2 6)
  simp at  d0 d1 d2 d3 d4 d5 d6
  clear hb1 hbw g1 g2
  go_wp2_with fail
  go_ret
  exact ⟨retE (unhid HP), unhid HB1⟩

set_option maxHeartbeats 4000000 in
set_option maxRecDepth 100000 in
theorem rpaints_2 (f : Fc) (A : Option Addr) (c : Nat) (x : It) (i j : Int) (w : World) (hf : fcB f = true) (hi : 0 ≤ i ∧ i < f.size) (hj : 0 ≤ j ∧ j < heiF f) (hx : itB x = true) (hk : x.kind = 2) :
    Calls Tryz.prog 76 #[.agg #[.int .i64 f.shape, .int .i64 f.size, .int .i64 f.height, .slice A f.items.length c], .agg #[.int .i64 x.kind, .int .i64 x.colour, .int .i64 x.left, .int .i64 x.low, .int .i64 x.a, .int .i64 x.b, .string (SB x.text)], .int .i64 i, .int .i64 j] w fun e w' =>
      e = .returned (.bool (paintB f x i j)) ∧ Below w.heap.size w w' := by
  have hp : paintB f x i j = (!midB f (2 * i + 1 - f.size) (2 * j + 1 - heiF f) x.a) := by
    unfold paintB
    rw [if_neg (by omega), if_pos hk]
  have HP := hid hp
  obtain ⟨l0, l1, o0, o1, a0, a1, b0, b1⟩ := it_numbers hx
  obtain ⟨s0, s1⟩ := size_bounds hf
  obtain ⟨h0, h1⟩ := heiF_bounds hf
  obtain ⟨i0, i1⟩ := hi
  obtain ⟨j0, j1⟩ := hj
  have HRE := hid (fun W => rextent_calls f A c W (by omega) (by omega))
  have HMI := hid (fun W => rmid_calls f A c (2 * i + 1 - f.size) (2 * j + 1 - heiF f) x.a W hf (by omega) (by omega) (by omega))
  rw [hk]
  clear hp hf hx hk
  go_enter Tryz.func76, Tryz.ntmps76
  go_wp2_with fail
  obtain ⟨W, hW⟩ : ∃ W, W = (w.alloc (.cells #[.int .i64 f.shape, .int .i64 f.size, .int .i64 f.height, .slice A f.items.length c] 25)).alloc (.cells #[.int .i64 2, .int .i64 x.colour, .int .i64 x.left, .int .i64 x.low, .int .i64 x.a, .int .i64 x.b, .string (SB x.text)] 66) := ⟨_, rfl⟩
  have g1 : ∀ n, W.cell? ⟨w.heap.size, n, none⟩ = #[Value.int .i64 f.shape, .int .i64 f.size, .int .i64 f.height, .slice A f.items.length c][n]? := fun n => by rw [hW, World.cell?_alloc_lt _ _ ⟨w.heap.size, n, none⟩ (by simp), World.cell?_alloc_new]
  have g2 : ∀ n, W.cell? ⟨w.heap.size + 1, n, none⟩ = #[Value.int .i64 2, .int .i64 x.colour, .int .i64 x.left, .int .i64 x.low, .int .i64 x.a, .int .i64 x.b, .string (SB x.text)][n]? := fun n => by
    have e : (w.alloc (.cells #[.int .i64 f.shape, .int .i64 f.size, .int .i64 f.height, .slice A f.items.length c] 25)).heap.size = w.heap.size + 1 := by simp
    rw [hW, ← e, World.cell?_alloc_new]
  have hsz : w.heap.size + 1 < W.heap.size := by rw [hW]; simp
  have hbw : Below w.heap.size w W := by rw [hW]; exact below_alloc' (below_alloc _ _) _
  rw [← hW]
  clear hW
  refine ((unhid HRE) _).mono ?_
  rintro e w1 ⟨rfl, hb1⟩
  have HB1 := hid (hbw.trans (hb1.mono hbw.size))
  have c0 := (hb1.cell (p := ⟨w.heap.size, 0, none⟩) (by dsimp only; omega)).trans (g1 0)
  have c1 := (hb1.cell (p := ⟨w.heap.size, 1, none⟩) (by dsimp only; omega)).trans (g1 1)
  have c2 := (hb1.cell (p := ⟨w.heap.size, 2, none⟩) (by dsimp only; omega)).trans (g1 2)
  have c3 := (hb1.cell (p := ⟨w.heap.size, 3, none⟩) (by dsimp only; omega)).trans (g1 3)
  have d0 := (hb1.cell (p := ⟨w.heap.size + 1, 0, none⟩) (by dsimp only; omega)).trans (g2 0)
  have d1 := (hb1.cell (p := ⟨w.heap.size + 1, 1, none⟩) (by dsimp only; omega)).trans (g2 1)
  have d2 := (hb1.cell (p := ⟨w.heap.size + 1, 2, none⟩) (by dsimp only; omega)).trans (g2 2)
  have d3 := (hb1.cell (p := ⟨w.heap.size + 1, 3, none⟩) (by dsimp only; omega)).trans (g2 3)
  have d4 := (hb1.cell (p := ⟨w.heap.size + 1, 4, none⟩) (by dsimp only; omega)).trans (g2 4)
  have d5 := (hb1.cell (p := ⟨w.heap.size + 1, 5, none⟩) (by dsimp only; omega)).trans (g2 5)
  have d6 := (hb1.cell (p := ⟨w.heap.size + 1, 6, none⟩) (by dsimp only; omega)).trans (g2 6)
  simp at c0 c1 c2 c3 d0 d1 d2 d3 d4 d5 d6
  clear hb1 hbw g1 g2
  go_wp2_with fail
  refine ((unhid HMI) _).mono ?_
  rintro e w2 ⟨rfl, hb2⟩
  have HB2 := hid ((unhid HB1).trans (hb2.mono (unhid HB1).size))
  generalize midB f (2 * i + 1 - f.size) (2 * j + 1 - heiF f) x.a = q at HP
  go_wp2_with fail
  go_ret
  exact ⟨retE (unhid HP), unhid HB2⟩

set_option maxHeartbeats 4000000 in
set_option maxRecDepth 100000 in
theorem rpaints_3 (f : Fc) (A : Option Addr) (c : Nat) (x : It) (i j : Int) (w : World) (hf : fcB f = true) (hi : 0 ≤ i ∧ i < f.size) (hj : 0 ≤ j ∧ j < heiF f) (hx : itB x = true) (hk : x.kind = 3) :
    Calls Tryz.prog 76 #[.agg #[.int .i64 f.shape, .int .i64 f.size, .int .i64 f.height, .slice A f.items.length c], .agg #[.int .i64 x.kind, .int .i64 x.colour, .int .i64 x.left, .int .i64 x.low, .int .i64 x.a, .int .i64 x.b, .string (SB x.text)], .int .i64 i, .int .i64 j] w fun e w' =>
      e = .returned (.bool (paintB f x i j)) ∧ Below w.heap.size w w' := by
  have hp : paintB f x i j = (decide (x.left ≤ i) && decide (i < x.left + x.a) && decide (x.low ≤ j) && decide (j < x.low + x.b)) := by
    unfold paintB
    rw [if_neg (by omega), if_neg (by omega), if_pos hk]
    simp only [Bool.decide_and, Bool.and_assoc]
  have HP := hid hp
  obtain ⟨l0, l1, o0, o1, a0, a1, b0, b1⟩ := it_numbers hx
  obtain ⟨s0, s1⟩ := size_bounds hf
  obtain ⟨h0, h1⟩ := heiF_bounds hf
  obtain ⟨i0, i1⟩ := hi
  obtain ⟨j0, j1⟩ := hj
  have HRE := hid (fun W => rextent_calls f A c W (by omega) (by omega))
  rw [hk]
  clear hp hf hx hk
  go_enter Tryz.func76, Tryz.ntmps76
  go_wp2_with fail
  obtain ⟨W, hW⟩ : ∃ W, W = (w.alloc (.cells #[.int .i64 f.shape, .int .i64 f.size, .int .i64 f.height, .slice A f.items.length c] 25)).alloc (.cells #[.int .i64 3, .int .i64 x.colour, .int .i64 x.left, .int .i64 x.low, .int .i64 x.a, .int .i64 x.b, .string (SB x.text)] 66) := ⟨_, rfl⟩
  have g1 : ∀ n, W.cell? ⟨w.heap.size, n, none⟩ = #[Value.int .i64 f.shape, .int .i64 f.size, .int .i64 f.height, .slice A f.items.length c][n]? := fun n => by rw [hW, World.cell?_alloc_lt _ _ ⟨w.heap.size, n, none⟩ (by simp), World.cell?_alloc_new]
  have g2 : ∀ n, W.cell? ⟨w.heap.size + 1, n, none⟩ = #[Value.int .i64 3, .int .i64 x.colour, .int .i64 x.left, .int .i64 x.low, .int .i64 x.a, .int .i64 x.b, .string (SB x.text)][n]? := fun n => by
    have e : (w.alloc (.cells #[.int .i64 f.shape, .int .i64 f.size, .int .i64 f.height, .slice A f.items.length c] 25)).heap.size = w.heap.size + 1 := by simp
    rw [hW, ← e, World.cell?_alloc_new]
  have hsz : w.heap.size + 1 < W.heap.size := by rw [hW]; simp
  have hbw : Below w.heap.size w W := by rw [hW]; exact below_alloc' (below_alloc _ _) _
  rw [← hW]
  clear hW
  refine ((unhid HRE) _).mono ?_
  rintro e w1 ⟨rfl, hb1⟩
  have HB1 := hid (hbw.trans (hb1.mono hbw.size))
  have d0 := (hb1.cell (p := ⟨w.heap.size + 1, 0, none⟩) (by dsimp only; omega)).trans (g2 0)
  have d1 := (hb1.cell (p := ⟨w.heap.size + 1, 1, none⟩) (by dsimp only; omega)).trans (g2 1)
  have d2 := (hb1.cell (p := ⟨w.heap.size + 1, 2, none⟩) (by dsimp only; omega)).trans (g2 2)
  have d3 := (hb1.cell (p := ⟨w.heap.size + 1, 3, none⟩) (by dsimp only; omega)).trans (g2 3)
  have d4 := (hb1.cell (p := ⟨w.heap.size + 1, 4, none⟩) (by dsimp only; omega)).trans (g2 4)
  have d5 := (hb1.cell (p := ⟨w.heap.size + 1, 5, none⟩) (by dsimp only; omega)).trans (g2 5)
  have d6 := (hb1.cell (p := ⟨w.heap.size + 1, 6, none⟩) (by dsimp only; omega)).trans (g2 6)
  simp at  d0 d1 d2 d3 d4 d5 d6
  clear hb1 hbw g1 g2
  go_wp2_with fail
  all_goals
    go_ret
    refine ⟨retE ?_, unhid HB1⟩
    rw [unhid HP]
    go_light
    first | (simp_all; done) | (simp_all; omega)

set_option maxHeartbeats 4000000 in
set_option maxRecDepth 100000 in
theorem rpaints_4 (f : Fc) (A : Option Addr) (c : Nat) (x : It) (i j : Int) (w : World) (hf : fcB f = true) (hi : 0 ≤ i ∧ i < f.size) (hj : 0 ≤ j ∧ j < heiF f) (hx : itB x = true) (hk : x.kind = 4) :
    Calls Tryz.prog 76 #[.agg #[.int .i64 f.shape, .int .i64 f.size, .int .i64 f.height, .slice A f.items.length c], .agg #[.int .i64 x.kind, .int .i64 x.colour, .int .i64 x.left, .int .i64 x.low, .int .i64 x.a, .int .i64 x.b, .string (SB x.text)], .int .i64 i, .int .i64 j] w fun e w' =>
      e = .returned (.bool (paintB f x i j)) ∧ Below w.heap.size w w' := by
  have hp : paintB f x i j = (decide ((2 * (i - x.left) + 1 - x.a) * (2 * (i - x.left) + 1 - x.a) + (2 * (j - x.low) + 1 - x.a) * (2 * (j - x.low) + 1 - x.a) ≤ x.a * x.a)) := by
    unfold paintB
    rw [if_neg (by omega), if_neg (by omega), if_neg (by omega), if_pos hk]
  have HP := hid hp
  obtain ⟨l0, l1, o0, o1, a0, a1, b0, b1⟩ := it_numbers hx
  obtain ⟨s0, s1⟩ := size_bounds hf
  obtain ⟨h0, h1⟩ := heiF_bounds hf
  obtain ⟨i0, i1⟩ := hi
  obtain ⟨j0, j1⟩ := hj
  have HRE := hid (fun W => rextent_calls f A c W (by omega) (by omega))
  rw [hk]
  clear hp hf hx hk
  have mu := mul_bd (a := (2 * (i - x.left) + 1 - x.a)) (b := (2 * (i - x.left) + 1 - x.a)) (A := 2000) (B := 2000) (by omega) (by omega) (by omega) (by omega)
  obtain ⟨mu1, mu2⟩ := mu
  have mv := mul_bd (a := (2 * (j - x.low) + 1 - x.a)) (b := (2 * (j - x.low) + 1 - x.a)) (A := 2000) (B := 2000) (by omega) (by omega) (by omega) (by omega)
  obtain ⟨mv1, mv2⟩ := mv
  have ma := mul_bd (a := x.a) (b := x.a) (A := 2000) (B := 2000) (by omega) (by omega) (by omega) (by omega)
  obtain ⟨ma1, ma2⟩ := ma
  obtain ⟨e1, e1'⟩ := w64 (n := i - x.left) (by omega) (by omega)
  obtain ⟨e2, e2'⟩ := w64 (n := 2 * (i - x.left)) (by omega) (by omega)
  obtain ⟨e3, e3'⟩ := w64 (n := 2 * (i - x.left) + 1) (by omega) (by omega)
  obtain ⟨e4, e4'⟩ := w64 (n := (2 * (i - x.left) + 1 - x.a)) (by omega) (by omega)
  obtain ⟨e5, e5'⟩ := w64 (n := j - x.low) (by omega) (by omega)
  obtain ⟨e6, e6'⟩ := w64 (n := 2 * (j - x.low)) (by omega) (by omega)
  obtain ⟨e7, e7'⟩ := w64 (n := 2 * (j - x.low) + 1) (by omega) (by omega)
  obtain ⟨e8, e8'⟩ := w64 (n := (2 * (j - x.low) + 1 - x.a)) (by omega) (by omega)
  obtain ⟨e9, e9'⟩ := w64 (n := (2 * (i - x.left) + 1 - x.a) * (2 * (i - x.left) + 1 - x.a)) (by omega) (by omega)
  obtain ⟨e10, e10'⟩ := w64 (n := (2 * (j - x.low) + 1 - x.a) * (2 * (j - x.low) + 1 - x.a)) (by omega) (by omega)
  obtain ⟨e11, e11'⟩ := w64 (n := x.a * x.a) (by omega) (by omega)
  obtain ⟨e12, e12'⟩ := w64 (n := (2 * (i - x.left) + 1 - x.a) * (2 * (i - x.left) + 1 - x.a) + (2 * (j - x.low) + 1 - x.a) * (2 * (j - x.low) + 1 - x.a)) (by omega) (by omega)
  go_enter Tryz.func76, Tryz.ntmps76
  go_wp2_with fail
  obtain ⟨W, hW⟩ : ∃ W, W = (w.alloc (.cells #[.int .i64 f.shape, .int .i64 f.size, .int .i64 f.height, .slice A f.items.length c] 25)).alloc (.cells #[.int .i64 4, .int .i64 x.colour, .int .i64 x.left, .int .i64 x.low, .int .i64 x.a, .int .i64 x.b, .string (SB x.text)] 66) := ⟨_, rfl⟩
  have g1 : ∀ n, W.cell? ⟨w.heap.size, n, none⟩ = #[Value.int .i64 f.shape, .int .i64 f.size, .int .i64 f.height, .slice A f.items.length c][n]? := fun n => by rw [hW, World.cell?_alloc_lt _ _ ⟨w.heap.size, n, none⟩ (by simp), World.cell?_alloc_new]
  have g2 : ∀ n, W.cell? ⟨w.heap.size + 1, n, none⟩ = #[Value.int .i64 4, .int .i64 x.colour, .int .i64 x.left, .int .i64 x.low, .int .i64 x.a, .int .i64 x.b, .string (SB x.text)][n]? := fun n => by
    have e : (w.alloc (.cells #[.int .i64 f.shape, .int .i64 f.size, .int .i64 f.height, .slice A f.items.length c] 25)).heap.size = w.heap.size + 1 := by simp
    rw [hW, ← e, World.cell?_alloc_new]
  have hsz : w.heap.size + 1 < W.heap.size := by rw [hW]; simp
  have hbw : Below w.heap.size w W := by rw [hW]; exact below_alloc' (below_alloc _ _) _
  rw [← hW]
  clear hW
  refine ((unhid HRE) _).mono ?_
  rintro e w1 ⟨rfl, hb1⟩
  have HB1 := hid (hbw.trans (hb1.mono hbw.size))
  have d0 := (hb1.cell (p := ⟨w.heap.size + 1, 0, none⟩) (by dsimp only; omega)).trans (g2 0)
  have d1 := (hb1.cell (p := ⟨w.heap.size + 1, 1, none⟩) (by dsimp only; omega)).trans (g2 1)
  have d2 := (hb1.cell (p := ⟨w.heap.size + 1, 2, none⟩) (by dsimp only; omega)).trans (g2 2)
  have d3 := (hb1.cell (p := ⟨w.heap.size + 1, 3, none⟩) (by dsimp only; omega)).trans (g2 3)
  have d4 := (hb1.cell (p := ⟨w.heap.size + 1, 4, none⟩) (by dsimp only; omega)).trans (g2 4)
  have d5 := (hb1.cell (p := ⟨w.heap.size + 1, 5, none⟩) (by dsimp only; omega)).trans (g2 5)
  have d6 := (hb1.cell (p := ⟨w.heap.size + 1, 6, none⟩) (by dsimp only; omega)).trans (g2 6)
  simp at  d0 d1 d2 d3 d4 d5 d6
  clear hb1 hbw g1 g2
  go_wp2_with fail
  go_quiet (fail)
  go_wp2_with fail
  go_ret
  exact ⟨retE (by rw [unhid HP]), below_drewN' (unhid HB1) _⟩

set_option maxHeartbeats 4000000 in
set_option maxRecDepth 100000 in
theorem rpaints_5 (f : Fc) (A : Option Addr) (c : Nat) (x : It) (i j : Int) (w : World) (hf : fcB f = true) (hi : 0 ≤ i ∧ i < f.size) (hj : 0 ≤ j ∧ j < heiF f) (hx : itB x = true) (hk : x.kind = 5) :
    Calls Tryz.prog 76 #[.agg #[.int .i64 f.shape, .int .i64 f.size, .int .i64 f.height, .slice A f.items.length c], .agg #[.int .i64 x.kind, .int .i64 x.colour, .int .i64 x.left, .int .i64 x.low, .int .i64 x.a, .int .i64 x.b, .string (SB x.text)], .int .i64 i, .int .i64 j] w fun e w' =>
      e = .returned (.bool (paintB f x i j)) ∧ Below w.heap.size w w' := by
  have hp : paintB f x i j = (decide (2 * absI ((2 * i + 1 - f.size) * heiF f - (2 * j + 1 - heiF f) * f.size) ≤ x.a * (f.size + heiF f))) := by
    unfold paintB
    rw [if_neg (by omega), if_neg (by omega), if_neg (by omega), if_neg (by omega), if_pos hk]
  have HP := hid hp
  obtain ⟨l0, l1, o0, o1, a0, a1, b0, b1⟩ := it_numbers hx
  obtain ⟨s0, s1⟩ := size_bounds hf
  obtain ⟨h0, h1⟩ := heiF_bounds hf
  obtain ⟨i0, i1⟩ := hi
  obtain ⟨j0, j1⟩ := hj
  have HRE := hid (fun W => rextent_calls f A c W (by omega) (by omega))
  rw [hk]
  clear hp hf hx hk
  have mu := mul_bd (a := (2 * i + 1 - f.size)) (b := heiF f) (A := 2000) (B := 2000) (by omega) (by omega) (by omega) (by omega)
  obtain ⟨mu1, mu2⟩ := mu
  have mv := mul_bd (a := (2 * j + 1 - heiF f)) (b := f.size) (A := 2000) (B := 2000) (by omega) (by omega) (by omega) (by omega)
  obtain ⟨mv1, mv2⟩ := mv
  have ma := mul_bd (a := x.a) (b := f.size + heiF f) (A := 2000) (B := 2000) (by omega) (by omega) (by omega) (by omega)
  obtain ⟨ma1, ma2⟩ := ma
  obtain ⟨ab1, ab2⟩ := absI_bd (n := (2 * i + 1 - f.size) * heiF f - (2 * j + 1 - heiF f) * f.size) (A := 8000000) (by omega) (by omega)
  obtain ⟨e1, e1'⟩ := w64 (n := (2 * i + 1 - f.size) * heiF f) (by omega) (by omega)
  obtain ⟨e2, e2'⟩ := w64 (n := (2 * j + 1 - heiF f) * f.size) (by omega) (by omega)
  obtain ⟨e3, e3'⟩ := w64 (n := (2 * i + 1 - f.size) * heiF f - (2 * j + 1 - heiF f) * f.size) (by omega) (by omega)
  obtain ⟨e4, e4'⟩ := w64 (n := 2 * absI ((2 * i + 1 - f.size) * heiF f - (2 * j + 1 - heiF f) * f.size)) (by omega) (by omega)
  obtain ⟨e5, e5'⟩ := w64 (n := f.size + heiF f) (by omega) (by omega)
  obtain ⟨e6, e6'⟩ := w64 (n := x.a * (f.size + heiF f)) (by omega) (by omega)
  go_enter Tryz.func76, Tryz.ntmps76
  go_wp2_with fail
  obtain ⟨W, hW⟩ : ∃ W, W = (w.alloc (.cells #[.int .i64 f.shape, .int .i64 f.size, .int .i64 f.height, .slice A f.items.length c] 25)).alloc (.cells #[.int .i64 5, .int .i64 x.colour, .int .i64 x.left, .int .i64 x.low, .int .i64 x.a, .int .i64 x.b, .string (SB x.text)] 66) := ⟨_, rfl⟩
  have g1 : ∀ n, W.cell? ⟨w.heap.size, n, none⟩ = #[Value.int .i64 f.shape, .int .i64 f.size, .int .i64 f.height, .slice A f.items.length c][n]? := fun n => by rw [hW, World.cell?_alloc_lt _ _ ⟨w.heap.size, n, none⟩ (by simp), World.cell?_alloc_new]
  have g2 : ∀ n, W.cell? ⟨w.heap.size + 1, n, none⟩ = #[Value.int .i64 5, .int .i64 x.colour, .int .i64 x.left, .int .i64 x.low, .int .i64 x.a, .int .i64 x.b, .string (SB x.text)][n]? := fun n => by
    have e : (w.alloc (.cells #[.int .i64 f.shape, .int .i64 f.size, .int .i64 f.height, .slice A f.items.length c] 25)).heap.size = w.heap.size + 1 := by simp
    rw [hW, ← e, World.cell?_alloc_new]
  have hsz : w.heap.size + 1 < W.heap.size := by rw [hW]; simp
  have hbw : Below w.heap.size w W := by rw [hW]; exact below_alloc' (below_alloc _ _) _
  rw [← hW]
  clear hW
  refine ((unhid HRE) _).mono ?_
  rintro e w1 ⟨rfl, hb1⟩
  have HB1 := hid (hbw.trans (hb1.mono hbw.size))
  have d0 := (hb1.cell (p := ⟨w.heap.size + 1, 0, none⟩) (by dsimp only; omega)).trans (g2 0)
  have d1 := (hb1.cell (p := ⟨w.heap.size + 1, 1, none⟩) (by dsimp only; omega)).trans (g2 1)
  have d2 := (hb1.cell (p := ⟨w.heap.size + 1, 2, none⟩) (by dsimp only; omega)).trans (g2 2)
  have d3 := (hb1.cell (p := ⟨w.heap.size + 1, 3, none⟩) (by dsimp only; omega)).trans (g2 3)
  have d4 := (hb1.cell (p := ⟨w.heap.size + 1, 4, none⟩) (by dsimp only; omega)).trans (g2 4)
  have d5 := (hb1.cell (p := ⟨w.heap.size + 1, 5, none⟩) (by dsimp only; omega)).trans (g2 5)
  have d6 := (hb1.cell (p := ⟨w.heap.size + 1, 6, none⟩) (by dsimp only; omega)).trans (g2 6)
  simp at  d0 d1 d2 d3 d4 d5 d6
  clear hb1 hbw g1 g2
  go_wp2_with fail
  go_quiet ((go_at_call 100; exact rabs_q _ _ _ (by omega) (by omega)))
  go_wp2_with fail
  go_ret
  exact ⟨retE (by rw [unhid HP]), below_drewN' (unhid HB1) _⟩

set_option maxHeartbeats 4000000 in
set_option maxRecDepth 100000 in
theorem rpaints_6 (f : Fc) (A : Option Addr) (c : Nat) (x : It) (i j : Int) (w : World) (hf : fcB f = true) (hi : 0 ≤ i ∧ i < f.size) (hj : 0 ≤ j ∧ j < heiF f) (hx : itB x = true) (hk : x.kind = 6) :
    Calls Tryz.prog 76 #[.agg #[.int .i64 f.shape, .int .i64 f.size, .int .i64 f.height, .slice A f.items.length c], .agg #[.int .i64 x.kind, .int .i64 x.colour, .int .i64 x.left, .int .i64 x.low, .int .i64 x.a, .int .i64 x.b, .string (SB x.text)], .int .i64 i, .int .i64 j] w fun e w' =>
      e = .returned (.bool (paintB f x i j)) ∧ Below w.heap.size w w' := by
  have hp : paintB f x i j = (inkB x i j) := by
    unfold paintB
    rw [if_neg (by omega), if_neg (by omega), if_neg (by omega), if_neg (by omega), if_neg (by omega)]
  have HP := hid hp
  obtain ⟨l0, l1, o0, o1, a0, a1, b0, b1⟩ := it_numbers hx
  obtain ⟨s0, s1⟩ := size_bounds hf
  obtain ⟨h0, h1⟩ := heiF_bounds hf
  obtain ⟨i0, i1⟩ := hi
  obtain ⟨j0, j1⟩ := hj
  have HRE := hid (fun W => rextent_calls f A c W (by omega) (by omega))
  have HIN := hid (fun W => rinked_calls x i j W hx hk (by omega) (by omega))
  rw [hk] at HIN ⊢
  clear hp hf hx hk
  go_enter Tryz.func76, Tryz.ntmps76
  go_wp2_with fail
  obtain ⟨W, hW⟩ : ∃ W, W = (w.alloc (.cells #[.int .i64 f.shape, .int .i64 f.size, .int .i64 f.height, .slice A f.items.length c] 25)).alloc (.cells #[.int .i64 6, .int .i64 x.colour, .int .i64 x.left, .int .i64 x.low, .int .i64 x.a, .int .i64 x.b, .string (SB x.text)] 66) := ⟨_, rfl⟩
  have g1 : ∀ n, W.cell? ⟨w.heap.size, n, none⟩ = #[Value.int .i64 f.shape, .int .i64 f.size, .int .i64 f.height, .slice A f.items.length c][n]? := fun n => by rw [hW, World.cell?_alloc_lt _ _ ⟨w.heap.size, n, none⟩ (by simp), World.cell?_alloc_new]
  have g2 : ∀ n, W.cell? ⟨w.heap.size + 1, n, none⟩ = #[Value.int .i64 6, .int .i64 x.colour, .int .i64 x.left, .int .i64 x.low, .int .i64 x.a, .int .i64 x.b, .string (SB x.text)][n]? := fun n => by
    have e : (w.alloc (.cells #[.int .i64 f.shape, .int .i64 f.size, .int .i64 f.height, .slice A f.items.length c] 25)).heap.size = w.heap.size + 1 := by simp
    rw [hW, ← e, World.cell?_alloc_new]
  have hsz : w.heap.size + 1 < W.heap.size := by rw [hW]; simp
  have hbw : Below w.heap.size w W := by rw [hW]; exact below_alloc' (below_alloc _ _) _
  rw [← hW]
  clear hW
  refine ((unhid HRE) _).mono ?_
  rintro e w1 ⟨rfl, hb1⟩
  have HB1 := hid (hbw.trans (hb1.mono hbw.size))
  have d0 := (hb1.cell (p := ⟨w.heap.size + 1, 0, none⟩) (by dsimp only; omega)).trans (g2 0)
  have d1 := (hb1.cell (p := ⟨w.heap.size + 1, 1, none⟩) (by dsimp only; omega)).trans (g2 1)
  have d2 := (hb1.cell (p := ⟨w.heap.size + 1, 2, none⟩) (by dsimp only; omega)).trans (g2 2)
  have d3 := (hb1.cell (p := ⟨w.heap.size + 1, 3, none⟩) (by dsimp only; omega)).trans (g2 3)
  have d4 := (hb1.cell (p := ⟨w.heap.size + 1, 4, none⟩) (by dsimp only; omega)).trans (g2 4)
  have d5 := (hb1.cell (p := ⟨w.heap.size + 1, 5, none⟩) (by dsimp only; omega)).trans (g2 5)
  have d6 := (hb1.cell (p := ⟨w.heap.size + 1, 6, none⟩) (by dsimp only; omega)).trans (g2 6)
  simp at  d0 d1 d2 d3 d4 d5 d6
  clear hb1 hbw g1 g2
  go_wp2_with fail
  refine ((unhid HIN) _).mono ?_
  rintro e w2 ⟨rfl, hb2⟩
  have HB2 := hid ((unhid HB1).trans (hb2.mono (unhid HB1).size))
  generalize inkB x i j = q at HP
  go_wp2_with fail
  go_ret
  exact ⟨retE (unhid HP), unhid HB2⟩

theorem rpaints_calls (f : Fc) (A : Option Addr) (c : Nat) (x : It) (i j : Int) (w : World) (hf : fcB f = true) (hi : 0 ≤ i ∧ i < f.size) (hj : 0 ≤ j ∧ j < heiF f) (hx : itB x = true) :
    Calls Tryz.prog 76 #[.agg #[.int .i64 f.shape, .int .i64 f.size, .int .i64 f.height, .slice A f.items.length c], .agg #[.int .i64 x.kind, .int .i64 x.colour, .int .i64 x.left, .int .i64 x.low, .int .i64 x.a, .int .i64 x.b, .string (SB x.text)], .int .i64 i, .int .i64 j] w fun e w' =>
      e = .returned (.bool (paintB f x i j)) ∧ Below w.heap.size w w' := by
  obtain ⟨k1, k2, -⟩ := it_bounds hx
  rcases (show x.kind = 1 ∨ x.kind = 2 ∨ x.kind = 3 ∨ x.kind = 4 ∨ x.kind = 5 ∨ x.kind = 6 by omega) with h | h | h | h | h | h
  · exact rpaints_1 f A c x i j w hf hi hj hx h
  · exact rpaints_2 f A c x i j w hf hi hj hx h
  · exact rpaints_3 f A c x i j w hf hi hj hx h
  · exact rpaints_4 f A c x i j w hf hi hj hx h
  · exact rpaints_5 f A c x i j w hf hi hj hx h
  · exact rpaints_6 f A c x i j w hf hi hj hx h

end Go.Proofs.YtmagidoodlkeoaaGreatDoor
