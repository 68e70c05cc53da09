/-
  The arguments opened: numbers, spans, signs, edicts, a line, an ask that came in.
-/
import Derived.Test.YtmpngoejnmlmbaaGreatOpenK
import Derived.Test.YtmpngoejnmlmbaaGreatEdict
set_option linter.unusedSimpArgs false
set_option linter.unusedVariables false
namespace Go.Proofs.YtmpngoejnmlmbaaGreat
open Go.RowKit Go.ChangeShapes Go.WideShapes Go.Deep

section
variable {H : Type} {enc : TypeId × Value → H} {w : World} {base : Nat} {spare : Nat → Bool} {held : Bool}

theorem len2 {α : Type} {l : List α} (h : l.length = 2) : ∃ a b, l = [a, b] := by
  match l, h with
  | [a, b], _ => exact ⟨a, b, rfl⟩
theorem len8 {α : Type} {l : List α} (h : l.length = 8) : ∃ a b c d e f g i, l = [a, b, c, d, e, f, g, i] := by
  match l, h with
  | [a, b, c, d, e, f, g, i], _ => exact ⟨a, b, c, d, e, f, g, i, rfl⟩
theorem len9 {α : Type} {l : List α} (h : l.length = 9) : ∃ a b c d e f g i j, l = [a, b, c, d, e, f, g, i, j] := by
  match l, h with
  | [a, b, c, d, e, f, g, i, j], _ => exact ⟨a, b, c, d, e, f, g, i, j, rfl⟩

theorem wf_i64 {m : Int} (h : (Lit.int .i64 m).wf = true) : I64 m := by
  simp [Lit.wf, IntKind.min, IntKind.max, IntKind.signed, IntKind.bits] at h
  exact ⟨by omega, by omega⟩
theorem cells_int : Tryz.prog.cellsOf 3 = 1 := by kernel_rfl
theorem one_int {n : Nat} {cs : List Value} {y : DataW H × List MemPlace} (h : DataW.trod enc Tryz.prog w base spare held n 3 cs = some y) : ∃ m, cs = [.int .i64 m] ∧ I64 m := by
  obtain ⟨m, rfl, -, hw⟩ := DataW.trod_int Tryz.underlying3 h
  exact ⟨m, rfl, wf_i64 hw⟩
/-- A number's field in the cells of a struct. -/
theorem field_int {n : Nat} {cs : List Value} {off : Nat} {c : Value} {xs : List (DataW H × List MemPlace)} {j : Nat} (hj : j < xs.length) (hc : cs[off]? = some c)
    (h : DataW.trod enc Tryz.prog w base spare held n 3 ((cs.drop off).take (Tryz.prog.cellsOf 3)) = xs[j]?) : ∃ m, c = .int .i64 m ∧ I64 m := by
  rw [List.getElem?_eq_getElem hj, cells_int] at h
  obtain ⟨m, hm, hw⟩ := one_int h
  obtain ⟨hlt, rfl⟩ := List.getElem?_eq_some_iff.1 hc
  rw [List.drop_eq_getElem_cons hlt] at hm
  simp only [List.take_succ_cons, List.take_zero, List.cons.injEq, and_true] at hm
  exact ⟨m, hm, hw⟩

theorem open_ints {fuel : Nat} {cs : List Value} {x : DataW H × List MemPlace} (h : DataW.trod enc Tryz.prog w base spare held fuel 22 cs = some x) (hw : Fit Tryz.prog 22 x.1) :
    ∃ (A : Option Addr) (js : List Int) (c : Nat), cs = [.slice A js.length c] ∧ LnOk w A js := by
  obtain ⟨A, l, c, rfl, hr, -, hb⟩ := open_rows (fun k : Int => [Value.int .i64 k]) 1 8 (fun _ => True) Tryz.underlying22 cells_int (by omega) (fun _ => rfl) (by kernel_rfl)
    (fun n cs x h _ => (one_int h).imp fun m hm => ⟨hm.1, trivial⟩) h hw
  refine ⟨A, l, c, rfl, ⟨by unfold reachBytes at hb; omega, ?_⟩⟩
  have e : l.flatMap (fun k : Int => [Value.int .i64 k]) = ints l := by simp [ints, List.map_eq_flatMap]
  rw [← e]; exact hr

theorem open_spans {fuel : Nat} {cs : List Value} {x : DataW H × List MemPlace} (h : DataW.trod enc Tryz.prog w base spare held fuel 78 cs = some x) (hw : Fit Tryz.prog 78 x.1) :
    ∃ (A : Option Addr) (l : List (Int × Int)) (c : Nat), cs = [.slice A l.length c] ∧ Rd w A (spans l) ∧ l.length ≤ 20000000000000 := by
  obtain ⟨A, l, c, rfl, hr, -, hb⟩ := open_rows spanC 2 16 (fun _ => True) Tryz.underlying78 (by kernel_rfl) (by omega) (fun _ => rfl) (by kernel_rfl)
    (fun n cs x h _ => by
      obtain ⟨xs, n', -, -, hlen, hxl, hg⟩ := DataW.trod_struct Tryz.underlying126 h
      rw [show Tryz.prog.cellsOf 126 = 2 by kernel_rfl] at hlen
      have hxl : xs.length = 2 := hxl
      obtain ⟨c0, c1, rfl⟩ := len2 hlen
      obtain ⟨m0, rfl, -⟩ := field_int (j := 0) (off := 0) (by omega) rfl (hg 0 _ rfl)
      obtain ⟨m1, rfl, -⟩ := field_int (j := 1) (off := 1) (by omega) rfl (hg 1 _ rfl)
      exact ⟨(m0, m1), rfl, trivial⟩) h hw
  exact ⟨A, l, c, rfl, hr, by unfold reachBytes at hb; omega⟩
theorem open_signs {fuel : Nat} {cs : List Value} {x : DataW H × List MemPlace} (h : DataW.trod enc Tryz.prog w base spare held fuel 25 cs = some x) (hw : Fit Tryz.prog 25 x.1) :
    ∃ (A : Option Addr) (l : List Sg) (c : Nat), cs = [.slice A l.length c] ∧ SgsOk w A l := by
  obtain ⟨A, l, c, rfl, hr, hok, hb⟩ := open_rows sgC 9 88 (fun s => SgOk w s) Tryz.underlying25 (by kernel_rfl) (by omega) (fun _ => rfl) (by kernel_rfl)
    (fun n cs x h hf => by
      obtain ⟨xs, n', -, rfl, hlen, hxl, hg⟩ := DataW.trod_struct Tryz.underlying80 h
      rw [show Tryz.prog.cellsOf 80 = 9 by kernel_rfl] at hlen
      have hxl : xs.length = 9 := hxl
      obtain ⟨c0, c1, c2, c3, c4, c5, c6, c7, c8, rfl⟩ := len9 hlen
      obtain ⟨m0, rfl, w0⟩ := field_int (j := 0) (off := 0) (by omega) rfl (hg 0 _ rfl)
      obtain ⟨m1, rfl, w1⟩ := field_int (j := 1) (off := 1) (by omega) rfl (hg 1 _ rfl)
      obtain ⟨m2, rfl, w2⟩ := field_int (j := 2) (off := 2) (by omega) rfl (hg 2 _ rfl)
      obtain ⟨m3, rfl, w3⟩ := field_int (j := 3) (off := 3) (by omega) rfl (hg 3 _ rfl)
      obtain ⟨m4, rfl, w4⟩ := field_int (j := 4) (off := 4) (by omega) rfl (hg 4 _ rfl)
      obtain ⟨m5, rfl, w5⟩ := field_int (j := 5) (off := 5) (by omega) rfl (hg 5 _ rfl)
      obtain ⟨m6, rfl, w6⟩ := field_int (j := 6) (off := 6) (by omega) rfl (hg 6 _ rfl)
      obtain ⟨m7, rfl, w7⟩ := field_int (j := 7) (off := 7) (by omega) rfl (hg 7 _ rfl)
      have h8 := hg 8 _ rfl
      rw [List.getElem?_eq_getElem (by omega)] at h8
      obtain ⟨A, l, c, hcs, hrd, hl⟩ := open_spans h8 (hf.part (j := 8) Tryz.underlying80 rfl (by rw [List.getElem?_map, List.getElem?_eq_getElem (by omega)]; rfl))
      have hcs2 : List.take (Tryz.prog.cellsOf 78) [c8] = [Value.slice A l.length c] := hcs
      rw [show Tryz.prog.cellsOf 78 = 1 by kernel_rfl] at hcs2
      have hcs' : [c8] = [Value.slice A l.length c] := hcs2
      obtain rfl := List.cons.inj hcs' |>.1
      exact ⟨⟨m0, m1, m2, m3, m4, m5, m6, m7, A, c, l⟩, rfl, ⟨hl, hrd, w0⟩⟩) h hw
  exact ⟨A, l, c, rfl, ⟨by unfold reachBytes at hb; omega, hr, hok⟩⟩

theorem open_edicts {fuel : Nat} {cs : List Value} {x : DataW H × List MemPlace} (h : DataW.trod enc Tryz.prog w base spare held fuel 26 cs = some x) (hw : Fit Tryz.prog 26 x.1) :
    ∃ (A : Option Addr) (l : List Ed) (c : Nat), cs = [.slice A l.length c] ∧ EdsOk w A l := by
  obtain ⟨A, l, c, rfl, hr, hok, hb⟩ := open_rows edC 8 64 EdOk Tryz.underlying26 (by kernel_rfl) (by omega) (fun _ => rfl) (by kernel_rfl)
    (fun n cs x h _ => by
      obtain ⟨xs, n', -, rfl, hlen, hxl, hg⟩ := DataW.trod_struct Tryz.underlying93 h
      rw [show Tryz.prog.cellsOf 93 = 8 by kernel_rfl] at hlen
      have hxl : xs.length = 8 := hxl
      obtain ⟨c0, c1, c2, c3, c4, c5, c6, c7, rfl⟩ := len8 hlen
      obtain ⟨m0, rfl, w0⟩ := field_int (j := 0) (off := 0) (by omega) rfl (hg 0 _ rfl)
      obtain ⟨m1, rfl, w1⟩ := field_int (j := 1) (off := 1) (by omega) rfl (hg 1 _ rfl)
      obtain ⟨m2, rfl, w2⟩ := field_int (j := 2) (off := 2) (by omega) rfl (hg 2 _ rfl)
      obtain ⟨m3, rfl, w3⟩ := field_int (j := 3) (off := 3) (by omega) rfl (hg 3 _ rfl)
      obtain ⟨m4, rfl, w4⟩ := field_int (j := 4) (off := 4) (by omega) rfl (hg 4 _ rfl)
      obtain ⟨m5, rfl, w5⟩ := field_int (j := 5) (off := 5) (by omega) rfl (hg 5 _ rfl)
      obtain ⟨m6, rfl, w6⟩ := field_int (j := 6) (off := 6) (by omega) rfl (hg 6 _ rfl)
      obtain ⟨m7, rfl, w7⟩ := field_int (j := 7) (off := 7) (by omega) rfl (hg 7 _ rfl)
      exact ⟨⟨m0, m1, m2, m3, m4, m5, m6, m7⟩, rfl, ⟨w0, w2⟩⟩) h hw
  exact ⟨A, l, c, rfl, ⟨by unfold reachBytes at hb; omega, hr, hok⟩⟩

theorem open_line {fuel : Nat} {cs : List Value} {x : DataW H × List MemPlace} (h : DataW.trod enc Tryz.prog w base spare held fuel 24 cs = some x) (hw : Fit Tryz.prog 24 x.1) :
    ∃ (len : Int) (A : Option Addr) (js : List Int) (c : Nat), cs = [.int .i64 len, .slice A js.length c] ∧ LnOk w A js ∧ I64 len := by
  obtain ⟨xs, n', -, rfl, hlen, hxl, hg⟩ := DataW.trod_struct Tryz.underlying24 h
  rw [show Tryz.prog.cellsOf 24 = 2 by kernel_rfl] at hlen
  have hxl : xs.length = 2 := hxl
  obtain ⟨c0, c1, rfl⟩ := len2 hlen
  obtain ⟨m0, rfl, w0⟩ := field_int (j := 0) (off := 0) (by omega) rfl (hg 0 _ rfl)
  have h1 := hg 1 _ rfl
  rw [List.getElem?_eq_getElem (by omega)] at h1
  obtain ⟨A, js, c, hcs, hl⟩ := open_ints h1 (hw.part (j := 1) Tryz.underlying24 rfl (by rw [List.getElem?_map, List.getElem?_eq_getElem (by omega)]; rfl))
  have hcs2 : List.take (Tryz.prog.cellsOf 22) [c1] = [Value.slice A js.length c] := hcs
  rw [show Tryz.prog.cellsOf 22 = 1 by kernel_rfl] at hcs2
  have hcs' : [c1] = [Value.slice A js.length c] := hcs2
  obtain rfl := List.cons.inj hcs' |>.1
  exact ⟨m0, A, js, c, rfl, hl, w0⟩

theorem open_ask {fuel : Nat} {cs : List Value} {x : DataW H × List MemPlace} (h : DataW.trod enc Tryz.prog w base spare held fuel 28 cs = some x) (hw : Fit Tryz.prog 28 x.1) :
    ∃ (len : Int) (A : Option Addr) (js : List Int) (c : Nat) (A2 : Option Addr) (l : List Sg) (c2 : Nat) (A3 : Option Addr) (ed : List Ed) (c3 : Nat) (hour dir topic metre : Int),
      cs = [.int .i64 len, .slice A js.length c, .slice A2 l.length c2, .slice A3 ed.length c3, .int .i64 hour, .int .i64 dir, .int .i64 topic, .int .i64 metre] ∧ LnOk w A js ∧ SgsOk w A2 l ∧ EdsOk w A3 ed ∧ I64 len ∧ I64 hour ∧ I64 dir ∧ I64 topic ∧ I64 metre := by
  obtain ⟨xs, n', -, rfl, hlen, hxl, hg⟩ := DataW.trod_struct Tryz.underlying28 h
  rw [show Tryz.prog.cellsOf 28 = 8 by kernel_rfl] at hlen
  have hxl : xs.length = 7 := hxl
  obtain ⟨c0, c1, c2, c3, c4, c5, c6, c7, rfl⟩ := len8 hlen
  have h0 := hg 0 _ rfl
  have h1 := hg 1 _ rfl
  have h2 := hg 2 _ rfl
  rw [List.getElem?_eq_getElem (by omega)] at h0 h1 h2
  obtain ⟨len, A, js, k1, e0, o0, w0⟩ := open_line h0 (hw.part (j := 0) Tryz.underlying28 rfl (by rw [List.getElem?_map, List.getElem?_eq_getElem (by omega)]; rfl))
  obtain ⟨A2, l, k2, e1, o1⟩ := open_signs h1 (hw.part (j := 1) Tryz.underlying28 rfl (by rw [List.getElem?_map, List.getElem?_eq_getElem (by omega)]; rfl))
  obtain ⟨A3, ed, k3, e2, o2⟩ := open_edicts h2 (hw.part (j := 2) Tryz.underlying28 rfl (by rw [List.getElem?_map, List.getElem?_eq_getElem (by omega)]; rfl))
  obtain ⟨m3, rfl, w3⟩ := field_int (j := 3) (off := 4) (by omega) rfl (hg 3 _ rfl)
  obtain ⟨m4, rfl, w4⟩ := field_int (j := 4) (off := 5) (by omega) rfl (hg 4 _ rfl)
  obtain ⟨m5, rfl, w5⟩ := field_int (j := 5) (off := 6) (by omega) rfl (hg 5 _ rfl)
  obtain ⟨m6, rfl, w6⟩ := field_int (j := 6) (off := 7) (by omega) rfl (hg 6 _ rfl)
  have f0 : List.take (Tryz.prog.cellsOf 24) [c0, c1, c2, c3, .int .i64 m3, .int .i64 m4, .int .i64 m5, .int .i64 m6] = [.int .i64 len, .slice A js.length k1] := e0
  have f1 : List.take (Tryz.prog.cellsOf 25) [c2, c3, .int .i64 m3, .int .i64 m4, .int .i64 m5, .int .i64 m6] = [Value.slice A2 l.length k2] := e1
  have f2 : List.take (Tryz.prog.cellsOf 26) [c3, .int .i64 m3, .int .i64 m4, .int .i64 m5, .int .i64 m6] = [Value.slice A3 ed.length k3] := e2
  rw [show Tryz.prog.cellsOf 24 = 2 by kernel_rfl] at f0
  rw [show Tryz.prog.cellsOf 25 = 1 by kernel_rfl] at f1
  rw [show Tryz.prog.cellsOf 26 = 1 by kernel_rfl] at f2
  have e0' : [c0, c1] = [.int .i64 len, .slice A js.length k1] := f0
  have e1' : [c2] = [Value.slice A2 l.length k2] := f1
  have e2' : [c3] = [Value.slice A3 ed.length k3] := f2
  simp only [List.cons.injEq, and_true] at e0' e1' e2'
  obtain ⟨rfl, rfl⟩ := e0'
  subst e1' e2'
  exact ⟨len, A, js, k1, A2, l, k2, A3, ed, k3, m3, m4, m5, m6, rfl, o0, o1, o2, w0, w3, w4, w5, w6⟩
end

end Go.Proofs.YtmpngoejnmlmbaaGreat
