/-
  At and Extent of package face.
-/
import Derived.Test.YtmagidoodlkeoaaGreatDoorFcI
set_option linter.unusedSimpArgs false
set_option linter.unusedVariables false
namespace Go.Proofs.YtmagidoodlkeoaaGreatDoor
open Go.RowKit

/-- What At returns. -/
def atR (f : Fc) (i j : Int) : Value := .tuple #[.int .i64 (if fcB f then colAt f i j else 0), .int .i64 (if fcB f then 0 else 10)]
theorem atR_no {f : Fc} {i j : Int} (h : fcB f = false) : atR f i j = .tuple #[.int .i64 0, .int .i64 10] := by unfold atR; rw [h]; rfl
theorem atR_out {f : Fc} {i j : Int} (h : fcB f = true) (hn : ¬ (0 ≤ i ∧ i < f.size ∧ 0 ≤ j ∧ j < heiF f)) : atR f i j = .tuple #[.int .i64 0, .int .i64 0] := by unfold atR colAt; rw [h, if_neg hn]; rfl
theorem atR_in {f : Fc} {i j : Int} (h : fcB f = true) (hn : 0 ≤ i ∧ i < f.size ∧ 0 ≤ j ∧ j < heiF f) : atR f i j = .tuple #[.int .i64 (colI f i j), .int .i64 0] := by unfold atR colAt; rw [h, if_pos hn]; rfl

set_option maxHeartbeats 2000000 in
set_option maxRecDepth 100000 in
theorem at_calls (f : Fc) (A : Option Addr) (c : Nat) (i j : Int) (w : World) (hit : ItsOk w A f.items) :
    Calls Tryz.prog 25 #[.agg #[.int .i64 f.shape, .int .i64 f.size, .int .i64 f.height, .slice A f.items.length c], .int .i64 i, .int .i64 j] w fun e w' => e = .returned (atR f i j) ∧ Below w.heap.size w w' := by
  have HIT := hid hit
  clear hit
  cases hf : fcB f with
  | false =>
    have HR := hid (atR_no (i := i) (j := j) hf)
    have HF := hid hf
    clear hf
    go_enter Tryz.func25, Tryz.ntmps25
    go_wp2_with fail
    refine (valid_calls f A c _ ((unhid HIT).below (below_alloc _ _))).mono ?_
    rintro e w1 ⟨rfl, hb1⟩
    rw [unhid HF]
    go_wp2_with fail
    go_ret2
    exact ⟨by rw [unhid HR]; rfl, (below_alloc _ _).trans (hb1.mono (by simp))⟩
  | true =>
    obtain ⟨s0, s1⟩ := size_bounds hf
    obtain ⟨h0, h1⟩ := heiF_bounds hf
    have HROUT := hid (atR_out (i := i) (j := j) hf)
    have HRIN := hid (atR_in (i := i) (j := j) hf)
    have HCC := hid (fun W (h : ItsOk W A f.items) hi hj => colour_calls f A c i j W h hf hi hj)
    have HF := hid hf
    clear hf
    go_enter Tryz.func25, Tryz.ntmps25
    go_wp2_with fail
    refine (valid_calls f A c _ ((unhid HIT).below (below_alloc _ _))).mono ?_
    rintro e w1 ⟨rfl, hb1⟩
    rw [unhid HF]
    have g1 : ∀ n, w1.cell? ⟨w.heap.size, n, none⟩ = #[Value.int .i64 f.shape, .int .i64 f.size, .int .i64 f.height, .slice A f.items.length c][n]? := fun n => by rw [hb1.cell (p := ⟨w.heap.size, n, none⟩) (by simp), World.cell?_alloc_new]
    have c0 := g1 0
    have c1 := g1 1
    have c2 := g1 2
    have c3 := g1 3
    simp at c0 c1 c2 c3
    have hbw1 := (below_alloc w (.cells #[.int .i64 f.shape, .int .i64 f.size, .int .i64 f.height, .slice A f.items.length c] 25)).trans (hb1.mono (by simp))
    have hs1 : w.heap.size < w1.heap.size := Nat.lt_of_lt_of_le (by simp) hb1.size
    have HB1 := hid hbw1
    clear g1 hb1 hbw1
    go_wp2_with fail
    refine (extent_calls f A c _ (by omega) (by omega)).mono ?_
    rintro e w2 ⟨rfl, hb2⟩
    have d0 := (hb2.cell (p := ⟨w.heap.size, 0, none⟩) hs1).trans c0
    have d1 := (hb2.cell (p := ⟨w.heap.size, 1, none⟩) hs1).trans c1
    have d2 := (hb2.cell (p := ⟨w.heap.size, 2, none⟩) hs1).trans c2
    have d3 := (hb2.cell (p := ⟨w.heap.size, 3, none⟩) hs1).trans c3
    have HB2 := hid ((unhid HB1).trans (hb2.mono (unhid HB1).size))
    clear hb2 c0 c1 c2 c3
    generalize hh : heiF f = h at h0 h1 ⊢
    have HH := hid hh
    clear hh
    by_cases hi : 0 ≤ i ∧ i ≤ f.size - 1
    · have di : wiB 0 i (f.size - 1) = true := decide_eq_true hi
      by_cases hj : 0 ≤ j ∧ j ≤ h - 1
      · have dj : wiB 0 j (h - 1) = true := decide_eq_true hj
        have hi' : 0 ≤ i ∧ i < f.size := ⟨by omega, by omega⟩
        have hj' : 0 ≤ j ∧ j < heiF f := by have := unhid HH; exact ⟨by omega, by omega⟩
        have HI := hid hi'
        have HJ := hid hj'
        clear hi hj hi' hj'
        go_wp2_with (first | (go_at_call 71; refine (within_b _ _ _ _).mono ?_; rintro e w' ⟨rfl, rfl⟩))
        refine ((unhid HCC) _ ((unhid HIT).below (unhid HB2)) (unhid HI) (unhid HJ)).mono ?_
        rintro e w3 ⟨rfl, hb3⟩
        have HR := hid ((unhid HRIN) ⟨(unhid HI).1, (unhid HI).2, (unhid HJ).1, (unhid HJ).2⟩)
        generalize colI f i j = q at HR
        go_wp2_with fail
        go_ret2
        exact ⟨by rw [unhid HR]; rfl, (unhid HB2).trans (hb3.mono (unhid HB2).size)⟩
      · have dj : wiB 0 j (h - 1) = false := decide_eq_false hj
        have HR := hid ((unhid HROUT) (by have := unhid HH; omega))
        clear hi hj
        go_wp2_with (first | (go_at_call 71; refine (within_b _ _ _ _).mono ?_; rintro e w' ⟨rfl, rfl⟩))
        go_ret2
        exact ⟨by rw [unhid HR]; rfl, unhid HB2⟩
    · have di : wiB 0 i (f.size - 1) = false := decide_eq_false hi
      have HR := hid ((unhid HROUT) (by omega))
      clear hi
      go_wp2_with (first | (go_at_call 71; refine (within_b _ _ _ _).mono ?_; rintro e w' ⟨rfl, rfl⟩))
      all_goals
        go_ret2
        exact ⟨by rw [unhid HR]; rfl, unhid HB2⟩

/-- What Extent returns. -/
def extR (f : Fc) : Value := .tuple #[.int .i64 (if fcB f then f.size else 0), .int .i64 (if fcB f then heiF f else 0), .int .i64 (if fcB f then 0 else 10)]
theorem extR_no {f : Fc} (h : fcB f = false) : extR f = .tuple #[.int .i64 0, .int .i64 0, .int .i64 10] := by unfold extR; rw [h]; rfl
theorem extR_yes {f : Fc} (h : fcB f = true) : extR f = .tuple #[.int .i64 f.size, .int .i64 (heiF f), .int .i64 0] := by unfold extR; rw [h]; rfl
set_option maxHeartbeats 2000000 in
set_option maxRecDepth 100000 in
theorem pextent_calls (f : Fc) (A : Option Addr) (c : Nat) (w : World) (hit : ItsOk w A f.items) :
    Calls Tryz.prog 36 #[.agg #[.int .i64 f.shape, .int .i64 f.size, .int .i64 f.height, .slice A f.items.length c]] w fun e w' => e = .returned (extR f) ∧ Below w.heap.size w w' := by
  have HIT := hid hit
  clear hit
  cases hf : fcB f with
  | false =>
    have HR := hid (extR_no hf)
    have HF := hid hf
    clear hf
    go_enter Tryz.func36, Tryz.ntmps36
    go_wp2_with fail
    refine (valid_calls f A c _ ((unhid HIT).below (below_alloc _ _))).mono ?_
    rintro e w1 ⟨rfl, hb1⟩
    rw [unhid HF]
    go_wp2_with fail
    go_ret3
    exact ⟨by rw [unhid HR]; rfl, (below_alloc _ _).trans (hb1.mono (by simp))⟩
  | true =>
    obtain ⟨s0, s1⟩ := size_bounds hf
    have HR := hid (extR_yes hf)
    have HF := hid hf
    clear hf
    go_enter Tryz.func36, Tryz.ntmps36
    go_wp2_with fail
    refine (valid_calls f A c _ ((unhid HIT).below (below_alloc _ _))).mono ?_
    rintro e w1 ⟨rfl, hb1⟩
    rw [unhid HF]
    have g1 : ∀ n, w1.cell? ⟨w.heap.size, n, none⟩ = #[Value.int .i64 f.shape, .int .i64 f.size, .int .i64 f.height, .slice A f.items.length c][n]? := fun n => by rw [hb1.cell (p := ⟨w.heap.size, n, none⟩) (by simp), World.cell?_alloc_new]
    have c0 := g1 0
    have c1 := g1 1
    have c2 := g1 2
    have c3 := g1 3
    simp at c0 c1 c2 c3
    have HB1 := hid ((below_alloc w (.cells #[.int .i64 f.shape, .int .i64 f.size, .int .i64 f.height, .slice A f.items.length c] 25)).trans (hb1.mono (by simp)))
    clear g1 hb1
    go_wp2_with fail
    refine (extent_calls f A c _ (by omega) (by omega)).mono ?_
    rintro e w2 ⟨rfl, hb2⟩
    generalize heiF f = h at HR
    go_wp2_with fail
    go_ret3
    exact ⟨by rw [unhid HR]; rfl, (unhid HB1).trans (hb2.mono (unhid HB1).size)⟩

end Go.Proofs.YtmagidoodlkeoaaGreatDoor
