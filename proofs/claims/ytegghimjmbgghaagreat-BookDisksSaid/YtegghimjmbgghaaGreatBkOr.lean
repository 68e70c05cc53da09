/-
  The arguments opened: a record.
-/
import Derived.Test.YtegghimjmbgghaaGreatBkO
import Derived.OpenShut
set_option linter.unusedSimpArgs false
set_option linter.unusedVariables false
namespace Go.Proofs.YtegghimjmbgghaaGreat
open Go.RowKit Go.ChangeShapes Go.WideShapes Go.Deep

section
variable {H : Type} {enc : TypeId × Value → H} {w : World} {base : Nat} {spare : Nat → Bool} {held : Bool}

/-- A record that came in. -/
theorem cells14 {l : List Value} (h : l.length = 14) : ∃ c0 c1 c2 c3 c4 c5 c6 c7 c8 c9 c10 c11 c12 c13, l = [c0, c1, c2, c3, c4, c5, c6, c7, c8, c9, c10, c11, c12, c13] := by
  match l, h with
  | [a, b, c, d, e, f, g, i, j, k, m, n, o, p], _ => exact ⟨a, b, c, d, e, f, g, i, j, k, m, n, o, p, rfl⟩
theorem cell_int {n : Nat} {cs : List Value} {off : Nat} {c : Value} {y : Option (DataW H × List MemPlace)} {z : DataW H × List MemPlace} (hz : y = some z) (hc : cs[off]? = some c)
    (h : DataW.trod enc Tryz.prog w base spare held n 3 ((cs.drop off).take (Tryz.prog.cellsOf 3)) = y) : ∃ m, c = .int .i64 m ∧ I64 m := by
  rw [hz, cells_int'] at h
  obtain ⟨m, hm, hw⟩ := one_int' h
  obtain ⟨hlt, rfl⟩ := List.getElem?_eq_some_iff.1 hc
  rw [List.drop_eq_getElem_cons hlt] at hm
  simp only [List.take_succ_cons, List.take_zero, List.cons.injEq, and_true] at hm
  exact ⟨m, hm, hw⟩
set_option maxRecDepth 100000 in
theorem open_cells {fuel : Nat} {cs : List Value} {x : DataW H × List MemPlace} (h : DataW.trod enc Tryz.prog w base spare held fuel 82 cs = some x) :
    ∃ r : Rc, cs = rcC r ∧ RcW r := by
  obtain ⟨xs, n, -, rfl, hlen, hxl, hg⟩ := DataW.trod_struct Tryz.underlying82 h
  rw [show Tryz.prog.cellsOf 82 = 14 by kernel_rfl] at hlen
  have hxl : xs.length = 7 := hxl
  obtain ⟨c0, c1, c2, c3, c4, c5, c6, c7, c8, c9, c10, c11, c12, c13, rfl⟩ := cells14 hlen
  obtain ⟨m0, rfl, w0⟩ := cell_int (off := 0) (List.getElem?_eq_getElem (by omega : 0 < xs.length)) rfl (hg 0 _ rfl)
  obtain ⟨m1, rfl, w1⟩ := cell_int (off := 1) (List.getElem?_eq_getElem (by omega : 1 < xs.length)) rfl (hg 1 _ rfl)
  obtain ⟨m2, rfl, w2⟩ := cell_int (off := 2) (List.getElem?_eq_getElem (by omega : 2 < xs.length)) rfl (hg 2 _ rfl)
  obtain ⟨m3, rfl, w3⟩ := cell_int (off := 3) (List.getElem?_eq_getElem (by omega : 3 < xs.length)) rfl (hg 3 _ rfl)
  obtain ⟨m4, rfl, w4⟩ := cell_int (off := 4) (List.getElem?_eq_getElem (by omega : 4 < xs.length)) rfl (hg 4 _ rfl)
  obtain ⟨m5, rfl, w5⟩ := cell_int (off := 5) (List.getElem?_eq_getElem (by omega : 5 < xs.length)) rfl (hg 5 _ rfl)
  have h6 := hg 6 _ rfl
  rw [List.getElem?_eq_getElem (by omega : 6 < xs.length)] at h6
  have h7 : DataW.trod enc Tryz.prog w base spare held n 80 ([c6, c7, c8, c9, c10, c11, c12, c13]) = some xs[6] := h6
  obtain ⟨ys, m, -, -, -, hyl, hy⟩ := DataW.trod_array Tryz.underlying80 h7
  obtain ⟨n0, rfl, v0⟩ := cell_int (off := 0) (cs := [c6, c7, c8, c9, c10, c11, c12, c13]) (List.getElem?_eq_getElem (by omega : 0 < ys.length)) rfl (by have := hy 0 (by omega); rw [cells_int'] at this ⊢; exact this)
  obtain ⟨n1, rfl, v1⟩ := cell_int (off := 1) (cs := [.int .i64 n0, c7, c8, c9, c10, c11, c12, c13]) (List.getElem?_eq_getElem (by omega : 1 < ys.length)) rfl (by have := hy 1 (by omega); rw [cells_int'] at this ⊢; exact this)
  obtain ⟨n2, rfl, v2⟩ := cell_int (off := 2) (cs := [.int .i64 n0, .int .i64 n1, c8, c9, c10, c11, c12, c13]) (List.getElem?_eq_getElem (by omega : 2 < ys.length)) rfl (by have := hy 2 (by omega); rw [cells_int'] at this ⊢; exact this)
  obtain ⟨n3, rfl, v3⟩ := cell_int (off := 3) (cs := [.int .i64 n0, .int .i64 n1, .int .i64 n2, c9, c10, c11, c12, c13]) (List.getElem?_eq_getElem (by omega : 3 < ys.length)) rfl (by have := hy 3 (by omega); rw [cells_int'] at this ⊢; exact this)
  obtain ⟨n4, rfl, v4⟩ := cell_int (off := 4) (cs := [.int .i64 n0, .int .i64 n1, .int .i64 n2, .int .i64 n3, c10, c11, c12, c13]) (List.getElem?_eq_getElem (by omega : 4 < ys.length)) rfl (by have := hy 4 (by omega); rw [cells_int'] at this ⊢; exact this)
  obtain ⟨n5, rfl, v5⟩ := cell_int (off := 5) (cs := [.int .i64 n0, .int .i64 n1, .int .i64 n2, .int .i64 n3, .int .i64 n4, c11, c12, c13]) (List.getElem?_eq_getElem (by omega : 5 < ys.length)) rfl (by have := hy 5 (by omega); rw [cells_int'] at this ⊢; exact this)
  obtain ⟨n6, rfl, v6⟩ := cell_int (off := 6) (cs := [.int .i64 n0, .int .i64 n1, .int .i64 n2, .int .i64 n3, .int .i64 n4, .int .i64 n5, c12, c13]) (List.getElem?_eq_getElem (by omega : 6 < ys.length)) rfl (by have := hy 6 (by omega); rw [cells_int'] at this ⊢; exact this)
  obtain ⟨n7, rfl, v7⟩ := cell_int (off := 7) (cs := [.int .i64 n0, .int .i64 n1, .int .i64 n2, .int .i64 n3, .int .i64 n4, .int .i64 n5, .int .i64 n6, c13]) (List.getElem?_eq_getElem (by omega : 7 < ys.length)) rfl (by have := hy 7 (by omega); rw [cells_int'] at this ⊢; exact this)
  exact ⟨⟨m0, m1, m2, m3, m4, m5, n0, n1, n2, n3, n4, n5, n6, n7⟩, rfl, fun k hk => by
    simp only [Rc.flds, List.mem_cons, List.not_mem_nil, or_false] at hk
    rcases hk with rfl | rfl | rfl | rfl | rfl | rfl | rfl | rfl | rfl | rfl | rfl | rfl | rfl | rfl <;> assumption⟩
theorem open_rec {fuel : Nat} {cs : List Value} {x : DataW H × List MemPlace} (h : DataW.trod enc Tryz.prog w base spare held fuel 82 cs = some x) (_ : Fit Tryz.prog 82 x.1) :
    ∃ r : Rc, cs = rcC r ∧ RcW r := open_cells h
end

end Go.Proofs.YtegghimjmbgghaaGreat
