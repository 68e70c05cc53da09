/-
  Dots and figures of package face.
-/
import Derived.Test.YtfklckjfbnaoeaaGreatDoorFcD
import Derived.Test.YtfklckjfbnaoeaaGreatDoorWaK
set_option linter.unusedSimpArgs false
set_option linter.unusedVariables false
namespace Go.Proofs.YtfklckjfbnaoeaaGreatDoor
open Go.RowKit

/-- The figure of a face. -/
def figV (f : Fc) : Value :=
  if f.shape = 1 then .iface 428 (.int .i64 f.size) else if f.shape = 3 then .iface 429 (.int .i64 f.size) else if f.shape = 4 then .iface 430 (.int .i64 f.size)
  else if f.shape = 5 then .iface 432 (.agg #[.int .i64 f.size, .int .i64 1]) else if f.shape = 6 then .iface 432 (.agg #[.int .i64 f.size, .int .i64 (-1)]) else .iface 434 (.agg #[])

set_option maxHeartbeats 1000000 in
theorem figureOf_calls (f : Fc) (A : Option Addr) (c : Nat) (w : World) (hs : 1 ≤ f.shape ∧ f.shape ≤ 6) :
    Calls Tryz.prog 301 #[.agg #[.int .i64 f.shape, .int .i64 f.size, .int .i64 f.height, .slice A f.items.length c]] w fun e w' => e = .returned (figV f) ∧ Below w.heap.size w w' := by
  obtain ⟨s, z, g, l⟩ := f
  dsimp only at hs ⊢
  have hs' : s = 1 ∨ s = 2 ∨ s = 3 ∨ s = 4 ∨ s = 5 ∨ s = 6 := by omega
  clear hs
  rcases hs' with rfl | rfl | rfl | rfl | rfl | rfl
  all_goals
    go_enter Tryz.func301, Tryz.ntmps301
    go_wp2_with fail
    go_ret
    exact ⟨rfl, below_alloc _ _⟩

set_option maxHeartbeats 1000000 in
theorem dotOf_calls (f : Fc) (A : Option Addr) (c : Nat) (i j : Int) (w : World) (hf : fcB f = true) (hi : 0 ≤ i ∧ i < 1000) (hj : 0 ≤ j ∧ j < 1000) :
    Calls Tryz.prog 300 #[.agg #[.int .i64 f.shape, .int .i64 f.size, .int .i64 f.height, .slice A f.items.length c], .int .i64 i, .int .i64 j] w fun e w' =>
      e = .returned (.agg #[.int .i64 i, .int .i64 j, .int .i64 f.size, .int .i64 (heiF f), .int .i64 (2 * i + 1 - f.size), .int .i64 (2 * j + 1 - heiF f)]) ∧ Below w.heap.size w w' := by
  obtain ⟨s0, s1⟩ := size_bounds hf
  obtain ⟨h0, h1⟩ := heiF_bounds hf
  obtain ⟨i0, i1⟩ := hi
  obtain ⟨j0, j1⟩ := hj
  clear hf
  go_enter Tryz.func300, Tryz.ntmps300
  go_wp2_with fail
  refine (extent_calls f A c _ (by omega) (by omega)).mono ?_
  rintro e w2 ⟨rfl, hb2⟩
  have hz := (hb2.block (w.heap.size + 1) (by simp)).trans (heap_alloc2_new w _ _)
  have HB2 := hid (show Below w.heap.size w w2 from (below_alloc' (below_alloc _ _) _).trans (hb2.mono (by simp; omega)))
  clear hb2
  generalize hh : heiF f = h at *
  have HH := hid hh
  clear hh
  have HZ := hid hz
  clear hz
  go_wp2_with (refine wpList_store_row rfl 406 (.tmp 6) (.tmp 28) rfl (w.heap.size + 1) #[.int .i64 i, .int .i64 j, .int .i64 f.size, .int .i64 h, .int .i64 (2 * i + 1 - f.size), .int .i64 (2 * j + 1 - h)] rfl rfl 406 _ (unhid HZ) (by kernel_rfl) rfl (by kernel_rfl) ?_)
  (try simp only [Exit.inBlock, Exit.then])
  refine bodyPost_ret_by (v := .agg #[.int .i64 i, .int .i64 j, .int .i64 f.size, .int .i64 h, .int .i64 (2 * i + 1 - f.size), .int .i64 (2 * j + 1 - h)]) (results_cell_row Tryz.results300 _ _ (w.heap.size + 1) 406 #[.int .i64 i, .int .i64 j, .int .i64 f.size, .int .i64 h, .int .i64 (2 * i + 1 - f.size), .int .i64 (2 * j + 1 - h)] (0, 0) _ rfl (setRow_heap _ _ _ _ _ _ (unhid HZ)) Tryz.underlying406 rfl (by kernel_rfl)) rfl ⟨by rw [unhid HH], below_setRow (unhid HB2) (by omega) _⟩

theorem paint_dot {f : Fc} {i j : Int} (hf : fcB f = true) (hi : 0 ≤ i ∧ i < 1000) (hj : 0 ≤ j ∧ j < 1000) (hi2 : i < f.size) (hj2 : j < heiF f) : DotOk f.size (heiF f) (2 * i + 1 - f.size) (2 * j + 1 - heiF f) := by
  obtain ⟨s0, s1⟩ := size_bounds hf
  obtain ⟨h0, h1⟩ := heiF_bounds hf
  exact ⟨by omega, by omega, by omega, by omega, by omega, by omega, by omega, by omega⟩

/-- What a call through the figure's interface comes to. -/
structure FigM (f : Fc) (T : TypeId) (v : Value) (gh gi : Nat) : Prop where
  val : figV f = .iface T v
  nilH : ∀ W : World, (nilAhead 566 T v "blazon/face.has").run Tryz.prog W = .ok (some false) W
  methH : ∀ W : World, (method 566 T v "blazon/face.has").run Tryz.prog W = .ok (gh, v) W
  nilI : ∀ W : World, (nilAhead 566 T v "blazon/face.inner").run Tryz.prog W = .ok (some false) W
  methI : ∀ W : World, (method 566 T v "blazon/face.inner").run Tryz.prog W = .ok (gi, v) W
  entH : ∀ args (W : World), (callFunc gh args).run Tryz.prog W = .ok (.enter gh args) W
  entI : ∀ args (W : World), (callFunc gi args).run Tryz.prog W = .ok (.enter gi args) W
  has : ∀ (i j x y : Int) (W : World), DotOk f.size (heiF f) x y → Calls Tryz.prog gh #[v, .agg #[.int .i64 i, .int .i64 j, .int .i64 f.size, .int .i64 (heiF f), .int .i64 x, .int .i64 y]] W fun e w' => e = .returned (.bool (partB f x y)) ∧ Below W.heap.size W w'
  inner : ∀ (i j x y b : Int) (W : World), DotOk f.size (heiF f) x y → 0 ≤ b → b ≤ 200 → Calls Tryz.prog gi #[v, .agg #[.int .i64 i, .int .i64 j, .int .i64 f.size, .int .i64 (heiF f), .int .i64 x, .int .i64 y], .int .i64 b] W fun e w' => e = .returned (.bool (midB f x y b)) ∧ Below W.heap.size W w'
theorem fig_meth {f : Fc} (hf : fcB f = true) : ∃ T v gh gi, FigM f T v gh gi := by
  obtain ⟨s0, s1⟩ := size_bounds hf
  have hs : 1 ≤ f.shape ∧ f.shape ≤ 6 := by simp only [fcB, Bool.and_eq_true, decide_eq_true_eq] at hf; exact hf.1.1.1.1
  rcases (show f.shape = 1 ∨ f.shape = 2 ∨ f.shape = 3 ∨ f.shape = 4 ∨ f.shape = 5 ∨ f.shape = 6 by omega) with h | h | h | h | h | h
  · refine ⟨428, .int .i64 f.size, 363, 364, by simp [figV, h], fun _ => by kernel_rfl, fun _ => by kernel_rfl, fun _ => by kernel_rfl, fun _ => by kernel_rfl, fun _ _ => by simp [go_sem], fun _ _ => by simp [go_sem], fun i j x y W hd => ?_, fun i j x y b W hd b0 b1 => ?_⟩
    · refine (round_has f.size i j _ _ x y W hd (by omega) (by omega)).mono fun e w' ⟨he, hb⟩ => ⟨?_, hb⟩
      rw [he]
      exact retE (by simp only [partB, h]; simp)
    · refine (round_inner f.size i j _ _ x y b W hd (by omega) (by omega) b0 (by omega)).mono fun e w' ⟨he, hb⟩ => ⟨?_, hb⟩
      rw [he]
      exact retE (by simp only [midB, h]; simp; try (congr 1; rw [decide_eq_decide]; omega))
  · refine ⟨434, .agg #[], 371, 372, by simp [figV, h], fun _ => by kernel_rfl, fun _ => by kernel_rfl, fun _ => by kernel_rfl, fun _ => by kernel_rfl, fun _ _ => by simp [go_sem], fun _ _ => by simp [go_sem], fun i j x y W hd => ?_, fun i j x y b W hd b0 b1 => ?_⟩
    · refine (panel_has i j _ _ x y W hd).mono fun e w' ⟨he, hb⟩ => ⟨?_, hb⟩
      rw [he]
      exact retE (by simp only [partB, h]; simp)
    · refine (panel_inner i j _ _ x y b W hd b0 (by omega)).mono fun e w' ⟨he, hb⟩ => ⟨?_, hb⟩
      rw [he]
      exact retE (by simp only [midB, h]; simp; try (congr 1; rw [decide_eq_decide]; omega))
  · refine ⟨429, .int .i64 f.size, 365, 366, by simp [figV, h], fun _ => by kernel_rfl, fun _ => by kernel_rfl, fun _ => by kernel_rfl, fun _ => by kernel_rfl, fun _ _ => by simp [go_sem], fun _ _ => by simp [go_sem], fun i j x y W hd => ?_, fun i j x y b W hd b0 b1 => ?_⟩
    · refine (diamond_has f.size i j _ _ x y W hd (by omega) (by omega)).mono fun e w' ⟨he, hb⟩ => ⟨?_, hb⟩
      rw [he]
      exact retE (by simp only [partB, h]; simp)
    · refine (diamond_inner f.size i j _ _ x y b W hd (by omega) (by omega) b0 (by omega)).mono fun e w' ⟨he, hb⟩ => ⟨?_, hb⟩
      rw [he]
      exact retE (by simp only [midB, h]; simp; try (congr 1; rw [decide_eq_decide]; omega))
  · refine ⟨430, .int .i64 f.size, 367, 368, by simp [figV, h], fun _ => by kernel_rfl, fun _ => by kernel_rfl, fun _ => by kernel_rfl, fun _ => by kernel_rfl, fun _ _ => by simp [go_sem], fun _ _ => by simp [go_sem], fun i j x y W hd => ?_, fun i j x y b W hd b0 b1 => ?_⟩
    · refine (octagon_has f.size i j _ _ x y W hd (by omega) (by omega)).mono fun e w' ⟨he, hb⟩ => ⟨?_, hb⟩
      rw [he]
      exact retE (by simp only [partB, h]; simp)
    · refine (octagon_inner f.size i j _ _ x y b W hd (by omega) (by omega) b0 (by omega)).mono fun e w' ⟨he, hb⟩ => ⟨?_, hb⟩
      rw [he]
      exact retE (by simp only [midB, h]; simp; try (congr 1; rw [decide_eq_decide]; omega))
  · refine ⟨432, .agg #[.int .i64 f.size, .int .i64 1], 369, 370, by simp [figV, h], fun _ => by kernel_rfl, fun _ => by kernel_rfl, fun _ => by kernel_rfl, fun _ => by kernel_rfl, fun _ _ => by simp [go_sem], fun _ _ => by simp [go_sem], fun i j x y W hd => ?_, fun i j x y b W hd b0 b1 => ?_⟩
    · refine (triangle_has f.size 1 i j _ _ x y W hd (by omega) (by omega) (by omega) (by omega)).mono fun e w' ⟨he, hb⟩ => ⟨?_, hb⟩
      rw [he]
      exact retE (by simp only [partB, h]; simp)
    · refine (triangle_inner f.size 1 i j _ _ x y b W hd (by omega) (by omega) (by omega) (by omega) b0 (by omega)).mono fun e w' ⟨he, hb⟩ => ⟨?_, hb⟩
      rw [he]
      exact retE (by simp only [midB, h]; simp; try (congr 1; rw [decide_eq_decide]; omega))
  · refine ⟨432, .agg #[.int .i64 f.size, .int .i64 (-1)], 369, 370, by simp [figV, h], fun _ => by kernel_rfl, fun _ => by kernel_rfl, fun _ => by kernel_rfl, fun _ => by kernel_rfl, fun _ _ => by simp [go_sem], fun _ _ => by simp [go_sem], fun i j x y W hd => ?_, fun i j x y b W hd b0 b1 => ?_⟩
    · refine (triangle_has f.size (-1) i j _ _ x y W hd (by omega) (by omega) (by omega) (by omega)).mono fun e w' ⟨he, hb⟩ => ⟨?_, hb⟩
      rw [he]
      exact retE (by simp only [partB, h]; simp)
    · refine (triangle_inner f.size (-1) i j _ _ x y b W hd (by omega) (by omega) (by omega) (by omega) b0 (by omega)).mono fun e w' ⟨he, hb⟩ => ⟨?_, hb⟩
      rw [he]
      exact retE (by simp only [midB, h]; simp; try (congr 1; rw [decide_eq_decide]; omega))

end Go.Proofs.YtfklckjfbnaoeaaGreatDoor
