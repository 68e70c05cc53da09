/-
  What the law FaceAreas counts: dots and runs, row by row; faces that are not heavy are small.
-/
import Derived.Test.YtmagidoodlkeoaaGreatDoorFcScreens
set_option linter.unusedSimpArgs false
set_option linter.unusedVariables false
namespace Go.Proofs.YtmagidoodlkeoaaGreatDoor
open Go.RowKit

theorem heavy_small {f : Fc} (h : heavyF f = false) (hf : fcB f = true) : f.size ≤ 50 ∧ heiF f ≤ 50 := by
  unfold heavyF at h
  rw [hf] at h
  simp at h
  obtain ⟨-, ⟨h1, h2⟩, -⟩ := h
  refine ⟨h1, ?_⟩
  obtain ⟨s0, s1⟩ := size_bounds hf
  unfold heiF
  split
  · exact h2
  · split <;> omega
def dotS (f : Fc) (j i : Nat) : List Int := (List.range 10).map fun (v : Nat) => areaJ f (v : Int) j + cntK (rowC f j) (v : Int) i
theorem dotS_len (f : Fc) (j i : Nat) : (dotS f j i).length = 10 := by simp [dotS]
theorem dotS_zero (f : Fc) (j : Nat) : dotS f j 0 = arrJ f j := by simp [dotS, arrJ, cntK]
theorem dotS_end (f : Fc) (j : Nat) : dotS f j f.size.toNat = arrJ f (j + 1) := by simp [dotS, arrJ, areaJ]
theorem dotS_at (f : Fc) (j i : Nat) {v : Nat} (h : v < 10) : (dotS f j i)[v]? = some (areaJ f (v : Int) j + cntK (rowC f j) (v : Int) i) := by simp [dotS, h]
theorem dotS_succ {f : Fc} {j i v : Nat} (h : v < 10) (hv : rowC f j i = (v : Int)) : dotS f j (i + 1) = (dotS f j i).set v (areaJ f (v : Int) j + cntK (rowC f j) (v : Int) i + 1) := by
  have hs : ∀ u : Nat, cntK (rowC f j) (u : Int) (i + 1) = cntK (rowC f j) (u : Int) i + (if (v : Int) = (u : Int) then 1 else 0) := fun u => by rw [cntK, hv]
  apply List.ext_getElem?
  intro u
  rw [List.getElem?_set]
  by_cases e : v = u
  · subst e
    simp [dotS, h, hs]
    omega
  · rw [if_neg e]
    by_cases hu : u < 10
    · have : ¬ (v : Int) = (u : Int) := by omega
      simp only [dotS, List.getElem?_map, List.getElem?_range hu, Option.map_some, hs, if_neg this, Int.add_zero]
    · simp [dotS, hu]
def runV (f : Fc) (j r v : Nat) : Int := if v = 0 then 0 else areaJ f (v : Int) j + sumV (v : Int) ((runsK (rowC f j) f.size.toNat).take r)
def runS (f : Fc) (j r : Nat) : List Int := (List.range 10).map (runV f j r)
def runJ (f : Fc) (j : Nat) : List Int := (List.range 10).map fun (v : Nat) => if v = 0 then 0 else areaJ f (v : Int) j
theorem runJ_zero (f : Fc) : runJ f 0 = [0, 0, 0, 0, 0, 0, 0, 0, 0, 0] := by simp [runJ, areaJ, List.range_succ]
theorem runS_zero (f : Fc) (j : Nat) : runS f j 0 = runJ f j := by
  unfold runS runJ
  apply List.map_congr_left
  intro v _
  unfold runV
  split <;> simp [sumV]
theorem runS_at (f : Fc) (j r : Nat) {v : Nat} (h : v < 10) : (runS f j r)[v]? = some (runV f j r v) := by simp [runS, h]
theorem runJ_at (f : Fc) (j : Nat) {v : Nat} (h : v < 10) (h1 : 1 ≤ v) : (runJ f j)[v]? = some (areaJ f (v : Int) j) := by
  simp [runJ, h]
  omega
theorem runS_next {f : Fc} {j r cv : Nat} (hr : r < (runsK (rowC f j) f.size.toNat).length) (h1 : 1 ≤ cv) (h9 : cv < 10) (hc : (runsK (rowC f j) f.size.toNat)[r].col = (cv : Int)) :
    runS f j (r + 1) = (runS f j r).set cv (runV f j r cv + (runsK (rowC f j) f.size.toNat)[r].cnt) := by
  have hs : ∀ u : Nat, runV f j (r + 1) u = if u = 0 then 0 else runV f j r u + (if (cv : Int) = (u : Int) then (runsK (rowC f j) f.size.toNat)[r].cnt else 0) := fun u => by
    unfold runV
    rw [List.take_succ_eq_append_getElem hr, sumV_app]
    by_cases e : u = 0
    · rw [if_pos e, if_pos e]
    · rw [if_neg e, if_neg e, if_neg e]
      simp only [sumV, hc]
      omega
  apply List.ext_getElem?
  intro u
  rw [List.getElem?_set]
  by_cases e : cv = u
  · subst e
    simp only [runS, List.length_map, List.length_range, h9, if_true, List.getElem?_map, List.getElem?_range h9, Option.map_some, hs, if_neg (show ¬ cv = 0 by omega)]
  · rw [if_neg e]
    by_cases hu : u < 10
    · have hne : ¬ (cv : Int) = (u : Int) := by omega
      simp only [runS, List.getElem?_map, List.getElem?_range hu, Option.map_some, hs, if_neg hne, Int.add_zero]
      by_cases e0 : u = 0
      · subst e0; simp [runV]
      · rw [if_neg e0]
    · simp [runS, hu]
theorem runS_end (f : Fc) (j : Nat) : runS f j (runsK (rowC f j) f.size.toNat).length = runJ f (j + 1) := by
  obtain ⟨h1, -⟩ := runs_sums (rowC f j) f.size.toNat
  unfold runS runJ
  apply List.map_congr_left
  intro v _
  unfold runV
  rw [List.take_length, areaJ]
  split
  · rfl
  · rw [h1 (v : Int) (by omega)]
theorem runV_bounds {f : Fc} (h : fcB f = true) {j : Nat} (hj : j ≤ 200) (r v : Nat) : 0 ≤ runV f j r v ∧ runV f j r v ≤ 1000000 := by
  obtain ⟨s0, s1⟩ := size_bounds h
  have hl := runs_len (rowC f j) f.size.toNat
  have he := (runs_ok (rowC f j) f.size.toNat).each
  have hs := sums_bounds ((runsK (rowC f j) f.size.toNat).take r) (fun x hx => by
    have := he x (List.mem_of_mem_take hx)
    omega) (v : Int)
  have hlen : ((runsK (rowC f j) f.size.toNat).take r).length ≤ 200 := by rw [List.length_take]; omega
  obtain ⟨a0, a1⟩ := areaJ_bounds f (v : Int) j
  have hm : (j : Int) * (f.size.toNat : Int) ≤ 200 * 200 := Int.mul_le_mul (by omega) (by omega) (by omega) (by omega)
  unfold runV
  split <;> omega
/-- The first c areas together. -/
def allK (f : Fc) : Nat → Int
  | 0 => 0
  | c + 1 => allK f c + areaP f (c : Int)
theorem allK_bounds {f : Fc} (h : fcB f = true) (c : Nat) : 0 ≤ allK f c ∧ allK f c ≤ 40000 * c := by
  induction c with
  | zero => simp [allK]
  | succ c ih =>
    have := areaP_bounds h (c : Int)
    unfold allK
    omega
theorem allK_all {f : Fc} (h : fcB f = true) : allK f 10 = f.size * heiF f := by
  have e := areaJ_all h (heiF f).toNat
  obtain ⟨h0, h1⟩ := heiF_bounds h
  have e2 : ((heiF f).toNat : Int) = heiF f := by omega
  rw [e2, Int.mul_comm] at e
  rw [← e]
  simp [allK, areaP]
theorem screensK_prefix (f : Fc) (c m : Nat) : ∃ B, screensK f (c + m) = screensK f c ++ B := by
  induction m with
  | zero => exact ⟨[], by simp⟩
  | succ m ih =>
    obtain ⟨B, e⟩ := ih
    rw [← Nat.add_assoc, screensK]
    split
    · exact ⟨B ++ [((c + m + 1 : Nat) : Int)], by rw [e, List.append_assoc]⟩
    · exact ⟨B, e⟩
theorem screensK_yes {f : Fc} {c : Nat} (h : 0 < areaP f ((c + 1 : Nat) : Int)) : (screensK f (c + 1)).length = (screensK f c).length + 1 := by rw [screensK, if_pos h]; simp
theorem screensK_no {f : Fc} {c : Nat} (h : ¬ 0 < areaP f ((c + 1 : Nat) : Int)) : screensK f (c + 1) = screensK f c := by rw [screensK, if_neg h]
theorem screensK_at {f : Fc} {c : Nat} (hc : c < 8) (h : 0 < areaP f ((c + 1 : Nat) : Int)) : (screensK f c).length < (screensK f 8).length ∧ (screensK f 8)[(screensK f c).length]? = some ((c + 1 : Nat) : Int) := by
  obtain ⟨B, e⟩ := screensK_prefix f (c + 1) (8 - (c + 1))
  have e2 : screensK f (c + 1) = screensK f c ++ [((c + 1 : Nat) : Int)] := by rw [screensK, if_pos h]
  rw [show c + 1 + (8 - (c + 1)) = 8 by omega, e2] at e
  rw [e]
  simp

end Go.Proofs.YtmagidoodlkeoaaGreatDoor
