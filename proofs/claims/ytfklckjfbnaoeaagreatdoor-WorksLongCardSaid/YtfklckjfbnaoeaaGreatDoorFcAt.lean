/-
  At and Extent of package face.
-/
import Derived.Test.YtfklckjfbnaoeaaGreatDoorFcI
set_option linter.unusedSimpArgs false
set_option linter.unusedVariables false
namespace Go.Proofs.YtfklckjfbnaoeaaGreatDoor
open Go.RowKit

/-- What At returns. -/
def atR (f : Fc) (i j : Int) : Value := .tuple #[.int .i64 (if fcB f then colAt f i j else 0), .int .i64 (if fcB f then 0 else 10)]
theorem atR_no {f : Fc} {i j : Int} (h : fcB f = false) : atR f i j = .tuple #[.int .i64 0, .int .i64 10] := by unfold atR; rw [h]; rfl
theorem atR_out {f : Fc} {i j : Int} (h : fcB f = true) (hn : ¬ (0 ≤ i ∧ i < f.size ∧ 0 ≤ j ∧ j < heiF f)) : atR f i j = .tuple #[.int .i64 0, .int .i64 0] := by unfold atR colAt; rw [h, if_neg hn]; rfl
theorem atR_in {f : Fc} {i j : Int} (h : fcB f = true) (hn : 0 ≤ i ∧ i < f.size ∧ 0 ≤ j ∧ j < heiF f) : atR f i j = .tuple #[.int .i64 (colI f i j), .int .i64 0] := by unfold atR colAt; rw [h, if_pos hn]; rfl

/-- What Extent returns. -/
def extR (f : Fc) : Value := .tuple #[.int .i64 (if fcB f then f.size else 0), .int .i64 (if fcB f then heiF f else 0), .int .i64 (if fcB f then 0 else 10)]
theorem extR_no {f : Fc} (h : fcB f = false) : extR f = .tuple #[.int .i64 0, .int .i64 0, .int .i64 10] := by unfold extR; rw [h]; rfl
theorem extR_yes {f : Fc} (h : fcB f = true) : extR f = .tuple #[.int .i64 f.size, .int .i64 (heiF f), .int .i64 0] := by unfold extR; rw [h]; rfl
set_option maxHeartbeats 2000000 in
set_option maxRecDepth 100000 in
theorem pextent_calls (f : Fc) (A : Option Addr) (c : Nat) (w : World) (hit : ItsOk w A f.items) :
    Calls Tryz.prog 238 #[.agg #[.int .i64 f.shape, .int .i64 f.size, .int .i64 f.height, .slice A f.items.length c]] w fun e w' => e = .returned (extR f) ∧ Below w.heap.size w w' := by
  have HIT := hid hit
  clear hit
  cases hf : fcB f with
  | false =>
    have HR := hid (extR_no hf)
    have HF := hid hf
    clear hf
    go_enter Tryz.func238, Tryz.ntmps238
    go_wp2_with fail
    refine (valid_calls f A c _ ((unhid HIT).below (below_alloc _ _))).mono ?_
    rintro e w1 ⟨rfl, hb1⟩
    rw [unhid HF]
    go_wp2_with fail
    go_ret3
    exact ⟨by rw [unhid HR]; rfl, (below_alloc _ _).trans (hb1.mono (by simp))⟩
  | true =>
    obtain ⟨s0, s1⟩ := size_bounds hf
    have HR := hid (extR_yes hf)
    have HF := hid hf
    clear hf
    go_enter Tryz.func238, Tryz.ntmps238
    go_wp2_with fail
    refine (valid_calls f A c _ ((unhid HIT).below (below_alloc _ _))).mono ?_
    rintro e w1 ⟨rfl, hb1⟩
    rw [unhid HF]
    have g1 : ∀ n, w1.cell? ⟨w.heap.size, n, none⟩ = #[Value.int .i64 f.shape, .int .i64 f.size, .int .i64 f.height, .slice A f.items.length c][n]? := fun n => by rw [hb1.cell (p := ⟨w.heap.size, n, none⟩) (by simp), World.cell?_alloc_new]
    have c0 := g1 0
    have c1 := g1 1
    have c2 := g1 2
    have c3 := g1 3
    simp at c0 c1 c2 c3
    have HB1 := hid ((below_alloc w (.cells #[.int .i64 f.shape, .int .i64 f.size, .int .i64 f.height, .slice A f.items.length c] 214)).trans (hb1.mono (by simp)))
    clear g1 hb1
    go_wp2_with fail
    refine (extent_calls f A c _ (by omega) (by omega)).mono ?_
    rintro e w2 ⟨rfl, hb2⟩
    generalize heiF f = h at HR
    go_wp2_with fail
    go_ret3
    exact ⟨by rw [unhid HR]; rfl, (unhid HB1).trans (hb2.mono (unhid HB1).size)⟩

end Go.Proofs.YtfklckjfbnaoeaaGreatDoor
