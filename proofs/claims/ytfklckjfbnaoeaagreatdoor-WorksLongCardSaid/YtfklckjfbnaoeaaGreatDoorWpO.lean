/-
  The arguments of the laws about a works opened: a setup, what it is asked.
-/
import Derived.Test.YtfklckjfbnaoeaaGreatDoorWoO
import Derived.OpenShut
set_option linter.unusedSimpArgs false
set_option linter.unusedVariables false
namespace Go.Proofs.YtfklckjfbnaoeaaGreatDoor
open Go.RowKit Go.ChangeShapes Go.WideShapes Go.Deep

section
variable {H : Type} {enc : TypeId × Value → H} {w : World} {base : Nat} {spare : Nat → Bool} {held : Bool}

theorem len10 {α : Type} {l : List α} (h : l.length = 10) : ∃ a b c d e f g i j k, l = [a, b, c, d, e, f, g, i, j, k] := by
  match l, h with
  | [a, b, c, d, e, f, g, i, j, k], _ => exact ⟨a, b, c, d, e, f, g, i, j, k, rfl⟩
theorem open_arr3 {fuel : Nat} {cs : List Value} {x : DataW H × List MemPlace} (h : DataW.trod enc Tryz.prog w base spare held fuel 22 cs = some x) : ∃ a b c : Int, cs = [.int .i64 a, .int .i64 b, .int .i64 c] := by
  obtain ⟨xs, m, -, -, hl, hx, hg⟩ := DataW.trod_array Tryz.underlying22 h
  rw [show Tryz.prog.cellsOf 22 = 3 by kernel_rfl] at hl
  obtain ⟨c0, c1, c2, rfl⟩ := len3 hl
  have g : ∀ i, i < 3 → DataW.trod enc Tryz.prog w base spare held m 3 (List.take (Tryz.prog.cellsOf 3) (List.drop i [c0, c1, c2])) = xs[i]? := fun i hi => by
    have := hg i hi
    rw [cells_int, Nat.mul_one] at this
    rw [cells_int]
    exact this
  obtain ⟨m0, rfl, -⟩ := field_int (xs := xs) (j := 0) (off := 0) (by omega) rfl (g 0 (by omega))
  obtain ⟨m1, rfl, -⟩ := field_int (xs := xs) (j := 1) (off := 1) (by omega) rfl (g 1 (by omega))
  obtain ⟨m2, rfl, -⟩ := field_int (xs := xs) (j := 2) (off := 2) (by omega) rfl (g 2 (by omega))
  exact ⟨m0, m1, m2, rfl⟩
theorem open_arr4 {fuel : Nat} {cs : List Value} {x : DataW H × List MemPlace} (h : DataW.trod enc Tryz.prog w base spare held fuel 25 cs = some x) : ∃ a b c d : Int, cs = [.int .i64 a, .int .i64 b, .int .i64 c, .int .i64 d] := by
  obtain ⟨xs, m, -, -, hl, hx, hg⟩ := DataW.trod_array Tryz.underlying25 h
  rw [show Tryz.prog.cellsOf 25 = 4 by kernel_rfl] at hl
  obtain ⟨c0, c1, c2, c3, rfl⟩ := len4 hl
  have g : ∀ i, i < 4 → DataW.trod enc Tryz.prog w base spare held m 3 (List.take (Tryz.prog.cellsOf 3) (List.drop i [c0, c1, c2, c3])) = xs[i]? := fun i hi => by
    have := hg i hi
    rw [cells_int, Nat.mul_one] at this
    rw [cells_int]
    exact this
  obtain ⟨m0, rfl, -⟩ := field_int (xs := xs) (j := 0) (off := 0) (by omega) rfl (g 0 (by omega))
  obtain ⟨m1, rfl, -⟩ := field_int (xs := xs) (j := 1) (off := 1) (by omega) rfl (g 1 (by omega))
  obtain ⟨m2, rfl, -⟩ := field_int (xs := xs) (j := 2) (off := 2) (by omega) rfl (g 2 (by omega))
  obtain ⟨m3, rfl, -⟩ := field_int (xs := xs) (j := 3) (off := 3) (by omega) rfl (g 3 (by omega))
  exact ⟨m0, m1, m2, m3, rfl⟩
theorem open_setup {fuel : Nat} {cs : List Value} {x : DataW H × List MemPlace} (h : DataW.trod enc Tryz.prog w base spare held fuel 29 cs = some x) (hw : Fit Tryz.prog 29 x.1) :
    ∃ a b l0 l1 l2 s k0 k1 k2 k3 : Int, cs = [.int .i64 a, .int .i64 b, .int .i64 l0, .int .i64 l1, .int .i64 l2, .int .i64 s, .int .i64 k0, .int .i64 k1, .int .i64 k2, .int .i64 k3] ∧ True := by
  obtain ⟨xs, n', -, rfl, hlen, hxl, hg⟩ := DataW.trod_struct Tryz.underlying29 h
  rw [show Tryz.prog.cellsOf 29 = 10 by kernel_rfl] at hlen
  have hxl : xs.length = 3 := hxl
  obtain ⟨c0, c1, c2, c3, c4, c5, c6, c7, c8, c9, rfl⟩ := len10 hlen
  have h0 := hg 0 _ rfl
  rw [List.getElem?_eq_getElem (by omega)] at h0
  have h0' : DataW.trod enc Tryz.prog w base spare held n' 24 ((([c0, c1, c2, c3, c4, c5, c6, c7, c8, c9] : List Value).drop 0).take (Tryz.prog.cellsOf 24)) = some xs[0] := h0
  rw [show Tryz.prog.cellsOf 24 = 5 by kernel_rfl] at h0'
  have h0'' : DataW.trod enc Tryz.prog w base spare held n' 24 [c0, c1, c2, c3, c4] = some xs[0] := h0'
  obtain ⟨ys, n2, -, -, -, hyl, hgy⟩ := DataW.trod_struct Tryz.underlying24 h0''
  have hyl : ys.length = 3 := hyl
  obtain ⟨a, rfl, -⟩ := field_int (j := 0) (off := 0) (by omega) rfl (hgy 0 _ rfl)
  obtain ⟨b, rfl, -⟩ := field_int (j := 1) (off := 1) (by omega) rfl (hgy 1 _ rfl)
  have h2 := hgy 2 _ rfl
  rw [List.getElem?_eq_getElem (by omega)] at h2
  have h2' : DataW.trod enc Tryz.prog w base spare held n2 22 (List.take (Tryz.prog.cellsOf 22) [c2, c3, c4]) = some ys[2] := h2
  rw [show Tryz.prog.cellsOf 22 = 3 by kernel_rfl] at h2'
  obtain ⟨l0, l1, l2, hl⟩ := open_arr3 h2'
  have hl' : [c2, c3, c4] = [Value.int .i64 l0, .int .i64 l1, .int .i64 l2] := hl
  injection hl' with e2 hl'
  injection hl' with e3 hl'
  injection hl' with e4 _
  subst e2 e3 e4
  obtain ⟨s, rfl, -⟩ := field_int (j := 1) (off := 5) (by omega) rfl (hg 1 _ rfl)
  have h3 := hg 2 _ rfl
  rw [List.getElem?_eq_getElem (by omega)] at h3
  have h3' : DataW.trod enc Tryz.prog w base spare held n' 27 (List.take (Tryz.prog.cellsOf 27) [c6, c7, c8, c9]) = some xs[2] := h3
  rw [show Tryz.prog.cellsOf 27 = 4 by kernel_rfl] at h3'
  obtain ⟨zs, n3, -, -, -, hzl, hgz⟩ := DataW.trod_struct Tryz.underlying27 h3'
  have hzl : zs.length = 1 := hzl
  have h4 := hgz 0 _ rfl
  rw [List.getElem?_eq_getElem (by omega)] at h4
  have h4' : DataW.trod enc Tryz.prog w base spare held n3 25 (List.take (Tryz.prog.cellsOf 25) [c6, c7, c8, c9]) = some zs[0] := h4
  rw [show Tryz.prog.cellsOf 25 = 4 by kernel_rfl] at h4'
  obtain ⟨k0, k1, k2, k3, hk⟩ := open_arr4 h4'
  have hk' : [c6, c7, c8, c9] = [Value.int .i64 k0, .int .i64 k1, .int .i64 k2, .int .i64 k3] := hk
  injection hk' with e6 hk'
  injection hk' with e7 hk'
  injection hk' with e8 hk'
  injection hk' with e9 _
  subst e6 e7 e8 e9
  exact ⟨a, b, l0, l1, l2, s, k0, k1, k2, k3, rfl, trivial⟩
theorem open_ask {fuel : Nat} {cs : List Value} {x : DataW H × List MemPlace} (h : DataW.trod enc Tryz.prog w base spare held fuel 37 cs = some x) (hw : Fit Tryz.prog 37 x.1) :
    ∃ m n o u v : Int, cs = [.int .i64 m, .int .i64 n, .int .i64 o, .int .i64 u, .int .i64 v] ∧ True := by
  obtain ⟨xs, n', -, rfl, hlen, hxl, hg⟩ := DataW.trod_struct Tryz.underlying37 h
  rw [show Tryz.prog.cellsOf 37 = 5 by kernel_rfl] at hlen
  have hxl : xs.length = 5 := hxl
  obtain ⟨c0, c1, c2, c3, c4, rfl⟩ := len5 hlen
  obtain ⟨m0, rfl, w0⟩ := field_int (j := 0) (off := 0) (by omega) rfl (hg 0 _ rfl)
  obtain ⟨m1, rfl, w1⟩ := field_int (j := 1) (off := 1) (by omega) rfl (hg 1 _ rfl)
  obtain ⟨m2, rfl, w2⟩ := field_int (j := 2) (off := 2) (by omega) rfl (hg 2 _ rfl)
  obtain ⟨m3, rfl, w3⟩ := field_int (j := 3) (off := 3) (by omega) rfl (hg 3 _ rfl)
  obtain ⟨m4, rfl, w4⟩ := field_int (j := 4) (off := 4) (by omega) rfl (hg 4 _ rfl)
  exact ⟨m0, m1, m2, m3, m4, rfl, trivial⟩
end

end Go.Proofs.YtfklckjfbnaoeaaGreatDoor
