/-
  What an item paints: package face, but for texts.
-/
import Derived.Test.YtfklckjfbnaoeaaGreatDoorFcF
set_option linter.unusedSimpArgs false
set_option linter.unusedVariables false
namespace Go.Proofs.YtfklckjfbnaoeaaGreatDoor
open Go.RowKit

theorem absI_sym {n : Int} : absI n = absI (-n) := by unfold absI; omega
theorem it_numbers {x : It} (h : itB x = true) : 0 ≤ x.left ∧ x.left ≤ 200 ∧ 0 ≤ x.low ∧ x.low ≤ 200 ∧ 0 ≤ x.a ∧ x.a ≤ 200 ∧ 0 ≤ x.b ∧ x.b ≤ 200 := by
  obtain ⟨-, -, -, -, a1, a2, a3, a4, a5, a6, -, a7, a8, -⟩ := it_bounds h
  exact ⟨a1, a2, a3, a4, a5, a6, a7, a8⟩
set_option maxHeartbeats 2000000 in
set_option maxRecDepth 100000 in
theorem painted_1 (f : Fc) (A : Option Addr) (c : Nat) (x : It) (i j : Int) (w : World) (hf : fcB f = true) (hi : 0 ≤ i ∧ i < f.size) (hj : 0 ≤ j ∧ j < heiF f) (hx : itB x = true) (hk : x.kind = 1) :
    Calls Tryz.prog 302 #[.agg #[.int .i64 i, .int .i64 j, .int .i64 f.size, .int .i64 (heiF f), .int .i64 (2 * i + 1 - f.size), .int .i64 (2 * j + 1 - heiF f)], .agg #[.int .i64 f.shape, .int .i64 f.size, .int .i64 f.height, .slice A f.items.length c], .agg #[.int .i64 x.kind, .int .i64 x.colour, .int .i64 x.left, .int .i64 x.low, .int .i64 x.a, .int .i64 x.b, .string (SB x.text)]] w fun e w' =>
      e = .returned (.bool (paintB f x i j)) ∧ Below w.heap.size w w' := by
  have hp : paintB f x i j = true := by unfold paintB; rw [if_pos hk]
  have HP := hid hp
  rw [hk]
  clear hp hf hx hk
  go_enter Tryz.func302, Tryz.ntmps302
  go_wp2_with fail
  go_ret
  exact ⟨retE (unhid HP), below_alloc' (below_alloc' (below_alloc _ _) _) _⟩
set_option maxHeartbeats 2000000 in
set_option maxRecDepth 100000 in
theorem painted_2 (f : Fc) (A : Option Addr) (c : Nat) (x : It) (i j : Int) (w : World) (hf : fcB f = true) (hi : 0 ≤ i ∧ i < f.size) (hj : 0 ≤ j ∧ j < heiF f) (hx : itB x = true) (hk : x.kind = 2) :
    Calls Tryz.prog 302 #[.agg #[.int .i64 i, .int .i64 j, .int .i64 f.size, .int .i64 (heiF f), .int .i64 (2 * i + 1 - f.size), .int .i64 (2 * j + 1 - heiF f)], .agg #[.int .i64 f.shape, .int .i64 f.size, .int .i64 f.height, .slice A f.items.length c], .agg #[.int .i64 x.kind, .int .i64 x.colour, .int .i64 x.left, .int .i64 x.low, .int .i64 x.a, .int .i64 x.b, .string (SB x.text)]] w fun e w' =>
      e = .returned (.bool (paintB f x i j)) ∧ Below w.heap.size w w' := by
  have hp : paintB f x i j = !midB f (2 * i + 1 - f.size) (2 * j + 1 - heiF f) x.a := by unfold paintB; rw [if_neg (by omega), if_pos hk]
  have HP := hid hp
  obtain ⟨-, -, -, -, a0, a1, -, -⟩ := it_numbers hx
  obtain ⟨s0, s1⟩ := size_bounds hf
  obtain ⟨h0, h1⟩ := heiF_bounds hf
  have HD := hid (paint_dot hf (by omega) (by omega) hi.2 hj.2)
  obtain ⟨T, v, gh, gi, FM⟩ := fig_meth hf
  have hs : 1 ≤ f.shape ∧ f.shape ≤ 6 := by simp only [fcB, Bool.and_eq_true, decide_eq_true_eq] at hf; exact hf.1.1.1.1
  have hfo := fun W' => figureOf_calls f A c W' hs
  rw [FM.val] at hfo
  have HFO := hid hfo
  have HFI := hid FM.inner
  have hni := FM.nilI
  have hmi := FM.methI
  have hei := FM.entI
  rw [hk]
  clear hp hf hx hk FM hfo hs
  go_enter Tryz.func302, Tryz.ntmps302
  go_wp2_with fail
  obtain ⟨W, hW⟩ : ∃ W, W = ((w.alloc (.cells #[.int .i64 i, .int .i64 j, .int .i64 f.size, .int .i64 (heiF f), .int .i64 (2 * i + 1 - f.size), .int .i64 (2 * j + 1 - heiF f)] 406)).alloc (.cells #[.int .i64 f.shape, .int .i64 f.size, .int .i64 f.height, .slice A f.items.length c] 214)).alloc (.cells #[.int .i64 2, .int .i64 x.colour, .int .i64 x.left, .int .i64 x.low, .int .i64 x.a, .int .i64 x.b, .string (SB x.text)] 320) := ⟨_, rfl⟩
  have g0 : ∀ n, W.cell? ⟨w.heap.size, n, none⟩ = #[Value.int .i64 i, .int .i64 j, .int .i64 f.size, .int .i64 (heiF f), .int .i64 (2 * i + 1 - f.size), .int .i64 (2 * j + 1 - heiF f)][n]? := fun n => by rw [hW, World.cell?_alloc_lt _ _ ⟨w.heap.size, n, none⟩ (by simp; omega), World.cell?_alloc_lt _ _ ⟨w.heap.size, n, none⟩ (by simp), World.cell?_alloc_new]
  have g1 : ∀ n, W.cell? ⟨w.heap.size + 1, n, none⟩ = #[Value.int .i64 f.shape, .int .i64 f.size, .int .i64 f.height, .slice A f.items.length c][n]? := fun n => by
    have e : (w.alloc (.cells #[.int .i64 i, .int .i64 j, .int .i64 f.size, .int .i64 (heiF f), .int .i64 (2 * i + 1 - f.size), .int .i64 (2 * j + 1 - heiF f)] 406)).heap.size = w.heap.size + 1 := by simp
    rw [hW, World.cell?_alloc_lt _ _ ⟨w.heap.size + 1, n, none⟩ (by simp), ← e, World.cell?_alloc_new]
  have g2 : ∀ n, W.cell? ⟨w.heap.size + 2, n, none⟩ = #[Value.int .i64 2, .int .i64 x.colour, .int .i64 x.left, .int .i64 x.low, .int .i64 x.a, .int .i64 x.b, .string (SB x.text)][n]? := fun n => by
    have e : ((w.alloc (.cells #[.int .i64 i, .int .i64 j, .int .i64 f.size, .int .i64 (heiF f), .int .i64 (2 * i + 1 - f.size), .int .i64 (2 * j + 1 - heiF f)] 406)).alloc (.cells #[.int .i64 f.shape, .int .i64 f.size, .int .i64 f.height, .slice A f.items.length c] 214)).heap.size = w.heap.size + 2 := by simp
    rw [hW, ← e, World.cell?_alloc_new]
  have hsz : W.heap.size = w.heap.size + 3 := by rw [hW]; simp
  have hbw : Below w.heap.size w W := by rw [hW]; exact below_alloc' (below_alloc' (below_alloc _ _) _) _
  have c00 := g0 0
  have c01 := g0 1
  have c02 := g0 2
  have c03 := g0 3
  have c04 := g0 4
  have c05 := g0 5
  have c10 := g1 0
  have c11 := g1 1
  have c12 := g1 2
  have c13 := g1 3
  have c24 := g2 4
  simp at c00 c01 c02 c03 c04 c05 c10 c11 c12 c13 c24
  rw [← hW]
  clear hW g0 g1 g2
  have HBW := hid hbw
  clear hbw
  generalize hBq : w.heap.size = B at *
  have q00 := fun p : After W => After.cell (a := ⟨B, 0, none⟩) (by dsimp only; omega) c00 p
  have q01 := fun p : After W => After.cell (a := ⟨B, 1, none⟩) (by dsimp only; omega) c01 p
  have q02 := fun p : After W => After.cell (a := ⟨B, 2, none⟩) (by dsimp only; omega) c02 p
  have q03 := fun p : After W => After.cell (a := ⟨B, 3, none⟩) (by dsimp only; omega) c03 p
  have q04 := fun p : After W => After.cell (a := ⟨B, 4, none⟩) (by dsimp only; omega) c04 p
  have q05 := fun p : After W => After.cell (a := ⟨B, 5, none⟩) (by dsimp only; omega) c05 p
  have q10 := fun p : After W => After.cell (a := ⟨B + 1, 0, none⟩) (by dsimp only; omega) c10 p
  have q11 := fun p : After W => After.cell (a := ⟨B + 1, 1, none⟩) (by dsimp only; omega) c11 p
  have q12 := fun p : After W => After.cell (a := ⟨B + 1, 2, none⟩) (by dsimp only; omega) c12 p
  have q13 := fun p : After W => After.cell (a := ⟨B + 1, 3, none⟩) (by dsimp only; omega) c13 p
  have q24 := fun p : After W => After.cell (a := ⟨B + 2, 4, none⟩) (by dsimp only; omega) c24 p
  generalize hm : midB f (2 * i + 1 - f.size) (2 * j + 1 - heiF f) x.a = mb at HP
  have HM := hid hm
  clear hm
  refine wp_region_below (by kernel_rfl) (by kernel_rfl) ?_
  (repeat (go_big_quiet_step (first | (go_at_call 301; exact Calls.after_of ((unhid HFO) _)) | (exact Calls.after_of (((unhid HM) ▸ (unhid HFI) _ _ _ _ _ _ (unhid HD) a0 a1))))))
  refine wpQuiet_nil ?_
  intro wq hw'
  obtain ⟨⟨wq2, hbq⟩, hw''⟩ := hw'
  dsimp only at hw''
  subst hw''
  go_wp2_with fail
  go_ret
  have hbw := unhid HBW
  exact ⟨retE (by rw [unhid HP]), by rw [hBq]; exact hbw.trans (hbq.mono (by have := hbw.size; omega))⟩
set_option maxHeartbeats 2000000 in
set_option maxRecDepth 100000 in
theorem painted_3 (f : Fc) (A : Option Addr) (c : Nat) (x : It) (i j : Int) (w : World) (hf : fcB f = true) (hi : 0 ≤ i ∧ i < f.size) (hj : 0 ≤ j ∧ j < heiF f) (hx : itB x = true) (hk : x.kind = 3) :
    Calls Tryz.prog 302 #[.agg #[.int .i64 i, .int .i64 j, .int .i64 f.size, .int .i64 (heiF f), .int .i64 (2 * i + 1 - f.size), .int .i64 (2 * j + 1 - heiF f)], .agg #[.int .i64 f.shape, .int .i64 f.size, .int .i64 f.height, .slice A f.items.length c], .agg #[.int .i64 x.kind, .int .i64 x.colour, .int .i64 x.left, .int .i64 x.low, .int .i64 x.a, .int .i64 x.b, .string (SB x.text)]] w fun e w' =>
      e = .returned (.bool (paintB f x i j)) ∧ Below w.heap.size w w' := by
  have hp : paintB f x i j = (decide (x.left ≤ i ∧ i ≤ x.left + x.a - 1) && decide (x.low ≤ j ∧ j ≤ x.low + x.b - 1)) := by
    unfold paintB
    rw [if_neg (by omega), if_neg (by omega), if_pos hk, ← Bool.decide_and, decide_eq_decide]
    omega
  have HP := hid hp
  obtain ⟨l0, l1, o0, o1, a0, a1, b0, b1⟩ := it_numbers hx
  rw [hk]
  clear hp hf hx hk
  go_enter Tryz.func302, Tryz.ntmps302
  by_cases h1 : x.left ≤ i ∧ i ≤ x.left + x.a - 1
  · have d1 : wiB x.left i (x.left + x.a - 1) = true := decide_eq_true h1
    go_wp2_with (go_at_call 227; refine (within_b _ _ _ _).mono ?_; rintro e w' ⟨rfl, rfl⟩)
    all_goals
      go_ret
      exact ⟨retE (by rw [unhid HP, decide_eq_true h1, Bool.true_and]; first | rfl | assumption | simp_all [wiB]), below_alloc' (below_alloc' (below_alloc _ _) _) _⟩
  · have d1 : wiB x.left i (x.left + x.a - 1) = false := decide_eq_false h1
    go_wp2_with (go_at_call 227; refine (within_b _ _ _ _).mono ?_; rintro e w' ⟨rfl, rfl⟩)
    all_goals
      go_ret
      exact ⟨retE (by rw [unhid HP, decide_eq_false h1, Bool.false_and]), below_alloc' (below_alloc' (below_alloc _ _) _) _⟩
set_option maxHeartbeats 2000000 in
set_option maxRecDepth 100000 in
theorem painted_4 (f : Fc) (A : Option Addr) (c : Nat) (x : It) (i j : Int) (w : World) (hf : fcB f = true) (hi : 0 ≤ i ∧ i < f.size) (hj : 0 ≤ j ∧ j < heiF f) (hx : itB x = true) (hk : x.kind = 4) :
    Calls Tryz.prog 302 #[.agg #[.int .i64 i, .int .i64 j, .int .i64 f.size, .int .i64 (heiF f), .int .i64 (2 * i + 1 - f.size), .int .i64 (2 * j + 1 - heiF f)], .agg #[.int .i64 f.shape, .int .i64 f.size, .int .i64 f.height, .slice A f.items.length c], .agg #[.int .i64 x.kind, .int .i64 x.colour, .int .i64 x.left, .int .i64 x.low, .int .i64 x.a, .int .i64 x.b, .string (SB x.text)]] w fun e w' =>
      e = .returned (.bool (paintB f x i j)) ∧ Below w.heap.size w w' := by
  have hp : paintB f x i j = decide ((2 * (i - x.left) + 1 - x.a) * (2 * (i - x.left) + 1 - x.a) + (2 * (j - x.low) + 1 - x.a) * (2 * (j - x.low) + 1 - x.a) ≤ x.a * x.a) := by
    unfold paintB
    rw [if_neg (by omega), if_neg (by omega), if_neg (by omega), if_pos hk]
  have HP := hid hp
  obtain ⟨l0, l1, o0, o1, a0, a1, b0, b1⟩ := it_numbers hx
  obtain ⟨s0, s1⟩ := size_bounds hf
  obtain ⟨h0, h1⟩ := heiF_bounds hf
  rw [hk]
  clear hp hf hx hk
  have mu := mul_bd (a := (2 * (i - x.left) + 1 - x.a)) (b := (2 * (i - x.left) + 1 - x.a)) (A := 2000) (B := 2000) (by omega) (by omega) (by omega) (by omega)
  obtain ⟨mu1, mu2⟩ := mu
  have mv := mul_bd (a := (2 * (j - x.low) + 1 - x.a)) (b := (2 * (j - x.low) + 1 - x.a)) (A := 2000) (B := 2000) (by omega) (by omega) (by omega) (by omega)
  obtain ⟨mv1, mv2⟩ := mv
  have ma := mul_bd (a := x.a) (b := x.a) (A := 2000) (B := 2000) (by omega) (by omega) (by omega) (by omega)
  obtain ⟨ma1, ma2⟩ := ma
  obtain ⟨e1, e1'⟩ := w64 (n := i - x.left) (by omega) (by omega)
  obtain ⟨e2, e2'⟩ := w64 (n := 2 * (i - x.left)) (by omega) (by omega)
  obtain ⟨e3, e3'⟩ := w64 (n := 2 * (i - x.left) + 1) (by omega) (by omega)
  obtain ⟨e4, e4'⟩ := w64 (n := (2 * (i - x.left) + 1 - x.a)) (by omega) (by omega)
  obtain ⟨e5, e5'⟩ := w64 (n := j - x.low) (by omega) (by omega)
  obtain ⟨e6, e6'⟩ := w64 (n := 2 * (j - x.low)) (by omega) (by omega)
  obtain ⟨e7, e7'⟩ := w64 (n := 2 * (j - x.low) + 1) (by omega) (by omega)
  obtain ⟨e8, e8'⟩ := w64 (n := (2 * (j - x.low) + 1 - x.a)) (by omega) (by omega)
  obtain ⟨e9, e9'⟩ := w64 (n := (2 * (i - x.left) + 1 - x.a) * (2 * (i - x.left) + 1 - x.a)) (by omega) (by omega)
  obtain ⟨e10, e10'⟩ := w64 (n := (2 * (j - x.low) + 1 - x.a) * (2 * (j - x.low) + 1 - x.a)) (by omega) (by omega)
  obtain ⟨e11, e11'⟩ := w64 (n := x.a * x.a) (by omega) (by omega)
  obtain ⟨e12, e12'⟩ := w64 (n := (2 * (i - x.left) + 1 - x.a) * (2 * (i - x.left) + 1 - x.a) + (2 * (j - x.low) + 1 - x.a) * (2 * (j - x.low) + 1 - x.a)) (by omega) (by omega)
  go_enter Tryz.func302, Tryz.ntmps302
  go_wp2_with fail
  go_quiet (fail)
  go_wp2_with fail
  go_ret
  exact ⟨retE (by rw [unhid HP]), below_drewN' (below_alloc' (below_alloc' (below_alloc _ _) _) _) _⟩
set_option maxHeartbeats 2000000 in
set_option maxRecDepth 100000 in
theorem painted_5 (f : Fc) (A : Option Addr) (c : Nat) (x : It) (i j : Int) (w : World) (hf : fcB f = true) (hi : 0 ≤ i ∧ i < f.size) (hj : 0 ≤ j ∧ j < heiF f) (hx : itB x = true) (hk : x.kind = 5) :
    Calls Tryz.prog 302 #[.agg #[.int .i64 i, .int .i64 j, .int .i64 f.size, .int .i64 (heiF f), .int .i64 (2 * i + 1 - f.size), .int .i64 (2 * j + 1 - heiF f)], .agg #[.int .i64 f.shape, .int .i64 f.size, .int .i64 f.height, .slice A f.items.length c], .agg #[.int .i64 x.kind, .int .i64 x.colour, .int .i64 x.left, .int .i64 x.low, .int .i64 x.a, .int .i64 x.b, .string (SB x.text)]] w fun e w' =>
      e = .returned (.bool (paintB f x i j)) ∧ Below w.heap.size w w' := by
  have hp : paintB f x i j = decide (2 * absI ((2 * i + 1 - f.size) * heiF f - (2 * j + 1 - heiF f) * f.size) ≤ x.a * (f.size + heiF f)) := by
    unfold paintB
    rw [if_neg (by omega), if_neg (by omega), if_neg (by omega), if_neg (by omega), if_pos hk]
  have HP := hid hp
  obtain ⟨l0, l1, o0, o1, a0, a1, b0, b1⟩ := it_numbers hx
  obtain ⟨s0, s1⟩ := size_bounds hf
  obtain ⟨h0, h1⟩ := heiF_bounds hf
  rw [hk]
  clear hp hf hx hk
  have mu := mul_bd (a := (2 * i + 1 - f.size)) (b := heiF f) (A := 2000) (B := 2000) (by omega) (by omega) (by omega) (by omega)
  obtain ⟨mu1, mu2⟩ := mu
  have mv := mul_bd (a := (2 * j + 1 - heiF f)) (b := f.size) (A := 2000) (B := 2000) (by omega) (by omega) (by omega) (by omega)
  obtain ⟨mv1, mv2⟩ := mv
  have ma := mul_bd (a := x.a) (b := f.size + heiF f) (A := 2000) (B := 2000) (by omega) (by omega) (by omega) (by omega)
  obtain ⟨ma1, ma2⟩ := ma
  obtain ⟨ab1, ab2⟩ := absI_bd (n := (2 * i + 1 - f.size) * heiF f - (2 * j + 1 - heiF f) * f.size) (A := 8000000) (by omega) (by omega)
  obtain ⟨e1, e1'⟩ := w64 (n := (2 * i + 1 - f.size) * heiF f) (by omega) (by omega)
  obtain ⟨e2, e2'⟩ := w64 (n := (2 * j + 1 - heiF f) * f.size) (by omega) (by omega)
  obtain ⟨e3, e3'⟩ := w64 (n := (2 * i + 1 - f.size) * heiF f - (2 * j + 1 - heiF f) * f.size) (by omega) (by omega)
  obtain ⟨e4, e4'⟩ := w64 (n := 2 * absI ((2 * i + 1 - f.size) * heiF f - (2 * j + 1 - heiF f) * f.size)) (by omega) (by omega)
  obtain ⟨e5, e5'⟩ := w64 (n := f.size + heiF f) (by omega) (by omega)
  obtain ⟨e6, e6'⟩ := w64 (n := x.a * (f.size + heiF f)) (by omega) (by omega)
  go_enter Tryz.func302, Tryz.ntmps302
  go_wp2_with fail
  go_quiet ((go_at_call 322; exact abs_q _ _ _ (by omega) (by omega)))
  go_wp2_with fail
  go_ret
  exact ⟨retE (by rw [unhid HP]), below_drewN' (below_alloc' (below_alloc' (below_alloc _ _) _) _) _⟩

end Go.Proofs.YtfklckjfbnaoeaaGreatDoor
