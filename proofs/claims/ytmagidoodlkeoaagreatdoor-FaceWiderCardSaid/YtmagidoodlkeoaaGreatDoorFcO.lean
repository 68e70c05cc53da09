/-
  The arguments opened: a face, a sheet of lines, a text that came in.
-/
import Derived.Test.YtmagidoodlkeoaaGreatDoorOpenK
import Derived.Test.YtmagidoodlkeoaaGreatDoorFcK
set_option linter.unusedSimpArgs false
set_option linter.unusedVariables false
namespace Go.Proofs.YtmagidoodlkeoaaGreatDoor
open Go.RowKit Go.ChangeShapes Go.WideShapes Go.Deep

section
variable {H : Type} {enc : TypeId × Value → H} {w : World} {base : Nat} {spare : Nat → Bool} {held : Bool}

theorem len4 {α : Type} {l : List α} (h : l.length = 4) : ∃ a b c d, l = [a, b, c, d] := by
  match l, h with
  | [a, b, c, d], _ => exact ⟨a, b, c, d, rfl⟩
theorem len7 {α : Type} {l : List α} (h : l.length = 7) : ∃ a b c d e f g, l = [a, b, c, d, e, f, g] := by
  match l, h with
  | [a, b, c, d, e, f, g], _ => exact ⟨a, b, c, d, e, f, g, rfl⟩

theorem wf_i64 {m : Int} (h : (Lit.int .i64 m).wf = true) : I64 m := by
  simp [Lit.wf, IntKind.min, IntKind.max, IntKind.signed, IntKind.bits] at h
  exact ⟨by omega, by omega⟩
theorem cells_int : Tryz.prog.cellsOf 3 = 1 := by kernel_rfl
theorem one_int {n : Nat} {cs : List Value} {y : DataW H × List MemPlace} (h : DataW.trod enc Tryz.prog w base spare held n 3 cs = some y) : ∃ m, cs = [.int .i64 m] ∧ I64 m := by
  obtain ⟨m, rfl, -, hw⟩ := DataW.trod_int Tryz.underlying3 h
  exact ⟨m, rfl, wf_i64 hw⟩
/-- A number's field in the cells of a struct. -/
theorem field_int {n : Nat} {cs : List Value} {off : Nat} {c : Value} {xs : List (DataW H × List MemPlace)} {j : Nat} (hj : j < xs.length) (hc : cs[off]? = some c)
    (h : DataW.trod enc Tryz.prog w base spare held n 3 ((cs.drop off).take (Tryz.prog.cellsOf 3)) = xs[j]?) : ∃ m, c = .int .i64 m ∧ I64 m := by
  rw [List.getElem?_eq_getElem hj, cells_int] at h
  obtain ⟨m, hm, hw⟩ := one_int h
  obtain ⟨hlt, rfl⟩ := List.getElem?_eq_some_iff.1 hc
  rw [List.drop_eq_getElem_cons hlt] at hm
  simp only [List.take_succ_cons, List.take_zero, List.cons.injEq, and_true] at hm
  exact ⟨m, hm, hw⟩
theorem one_string {n : Nat} {cs : List Value} {y : DataW H × List MemPlace} (h : DataW.trod enc Tryz.prog w base spare held n 9 cs = some y) (hf : Fit Tryz.prog 9 y.1) : ∃ l : List UInt8, cs = [.string (SB l)] ∧ l.length ≤ 140737488355328 := by
  obtain ⟨s, rfl, rfl, -⟩ := DataW.trod_string Tryz.underlying9 h
  refine ⟨s.data.toList, by rw [SB_of], ?_⟩
  have := hf s.data.toList.length (by simp [DataW.weights])
  unfold reachBytes at this
  omega

theorem open_items {fuel : Nat} {cs : List Value} {x : DataW H × List MemPlace} (h : DataW.trod enc Tryz.prog w base spare held fuel 23 cs = some x) (hw : Fit Tryz.prog 23 x.1) :
    ∃ (A : Option Addr) (l : List It) (c : Nat), cs = [.slice A l.length c] ∧ ItsOk w A l := by
  obtain ⟨A, l, c, rfl, hr, hok, hb⟩ := open_rows itC 7 64 (fun x => x.text.length ≤ 140737488355328) Tryz.underlying23 (by kernel_rfl) (by omega) (fun _ => rfl) (by kernel_rfl)
    (fun n cs x h hf => by
      obtain ⟨xs, n', -, rfl, hlen, hxl, hg⟩ := DataW.trod_struct Tryz.underlying66 h
      rw [show Tryz.prog.cellsOf 66 = 7 by kernel_rfl] at hlen
      have hxl : xs.length = 7 := hxl
      obtain ⟨c0, c1, c2, c3, c4, c5, c6, rfl⟩ := len7 hlen
      obtain ⟨m0, rfl, w0⟩ := field_int (j := 0) (off := 0) (by omega) rfl (hg 0 _ rfl)
      obtain ⟨m1, rfl, w1⟩ := field_int (j := 1) (off := 1) (by omega) rfl (hg 1 _ rfl)
      obtain ⟨m2, rfl, w2⟩ := field_int (j := 2) (off := 2) (by omega) rfl (hg 2 _ rfl)
      obtain ⟨m3, rfl, w3⟩ := field_int (j := 3) (off := 3) (by omega) rfl (hg 3 _ rfl)
      obtain ⟨m4, rfl, w4⟩ := field_int (j := 4) (off := 4) (by omega) rfl (hg 4 _ rfl)
      obtain ⟨m5, rfl, w5⟩ := field_int (j := 5) (off := 5) (by omega) rfl (hg 5 _ rfl)
      have h6 := hg 6 _ rfl
      rw [List.getElem?_eq_getElem (by omega)] at h6
      obtain ⟨t, hcs, ht⟩ := one_string h6 (hf.part (j := 6) Tryz.underlying66 rfl (by rw [List.getElem?_map, List.getElem?_eq_getElem (by omega)]; rfl))
      have hcs2 : List.take (Tryz.prog.cellsOf 9) [c6] = [Value.string (SB t)] := hcs
      rw [show Tryz.prog.cellsOf 9 = 1 by kernel_rfl] at hcs2
      have hcs' : [c6] = [Value.string (SB t)] := hcs2
      obtain rfl := List.cons.inj hcs' |>.1
      exact ⟨⟨m0, m1, m2, m3, m4, m5, t⟩, rfl, ht⟩) h hw
  exact ⟨A, l, c, rfl, ⟨by unfold reachBytes at hb; omega, hr, hok⟩⟩

theorem open_face {fuel : Nat} {cs : List Value} {x : DataW H × List MemPlace} (h : DataW.trod enc Tryz.prog w base spare held fuel 25 cs = some x) (hw : Fit Tryz.prog 25 x.1) :
    ∃ (f : Fc) (A : Option Addr) (c : Nat), cs = [.int .i64 f.shape, .int .i64 f.size, .int .i64 f.height, .slice A f.items.length c] ∧ ItsOk w A f.items := by
  obtain ⟨xs, n', -, rfl, hlen, hxl, hg⟩ := DataW.trod_struct Tryz.underlying25 h
  rw [show Tryz.prog.cellsOf 25 = 4 by kernel_rfl] at hlen
  have hxl : xs.length = 4 := hxl
  obtain ⟨c0, c1, c2, c3, rfl⟩ := len4 hlen
  obtain ⟨m0, rfl, w0⟩ := field_int (j := 0) (off := 0) (by omega) rfl (hg 0 _ rfl)
  obtain ⟨m1, rfl, w1⟩ := field_int (j := 1) (off := 1) (by omega) rfl (hg 1 _ rfl)
  obtain ⟨m2, rfl, w2⟩ := field_int (j := 2) (off := 2) (by omega) rfl (hg 2 _ rfl)
  have h3 := hg 3 _ rfl
  rw [List.getElem?_eq_getElem (by omega)] at h3
  obtain ⟨A, l, c, hcs, hl⟩ := open_items h3 (hw.part (j := 3) Tryz.underlying25 rfl (by rw [List.getElem?_map, List.getElem?_eq_getElem (by omega)]; rfl))
  have hcs2 : List.take (Tryz.prog.cellsOf 23) [c3] = [Value.slice A l.length c] := hcs
  rw [show Tryz.prog.cellsOf 23 = 1 by kernel_rfl] at hcs2
  have hcs' : [c3] = [Value.slice A l.length c] := hcs2
  obtain rfl := List.cons.inj hcs' |>.1
  exact ⟨⟨m0, m1, m2, l⟩, A, c, rfl, hl⟩
end

end Go.Proofs.YtmagidoodlkeoaaGreatDoor
