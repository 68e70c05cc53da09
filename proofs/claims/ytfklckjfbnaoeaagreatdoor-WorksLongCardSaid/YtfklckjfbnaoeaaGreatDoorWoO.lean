/-
  The arguments of the works' laws opened: types, price lists, counts.
-/
import Derived.Test.YtfklckjfbnaoeaaGreatDoorWaK
import Derived.Test.YtfklckjfbnaoeaaGreatDoorWaL
set_option linter.unusedSimpArgs false
set_option linter.unusedVariables false
namespace Go.Proofs.YtfklckjfbnaoeaaGreatDoor
open Go.RowKit Go.ChangeShapes Go.WideShapes Go.Deep

section
variable {H : Type} {enc : TypeId × Value → H} {w : World} {base : Nat} {spare : Nat → Bool} {held : Bool}

theorem len2 {α : Type} {l : List α} (h : l.length = 2) : ∃ a b, l = [a, b] := by
  match l, h with
  | [a, b], _ => exact ⟨a, b, rfl⟩
theorem len3 {α : Type} {l : List α} (h : l.length = 3) : ∃ a b c, l = [a, b, c] := by
  match l, h with
  | [a, b, c], _ => exact ⟨a, b, c, rfl⟩
theorem len5 {α : Type} {l : List α} (h : l.length = 5) : ∃ a b c d e, l = [a, b, c, d, e] := by
  match l, h with
  | [a, b, c, d, e], _ => exact ⟨a, b, c, d, e, rfl⟩

theorem open_type {fuel : Nat} {cs : List Value} {x : DataW H × List MemPlace} (h : DataW.trod enc Tryz.prog w base spare held fuel 67 cs = some x) (hw : Fit Tryz.prog 67 x.1) :
    ∃ t : Ty, cs = tyC t ∧ t.text.length ≤ 140737488355328 := by
  obtain ⟨xs, n', -, rfl, hlen, hxl, hg⟩ := DataW.trod_struct Tryz.underlying67 h
  rw [show Tryz.prog.cellsOf 67 = 5 by kernel_rfl] at hlen
  have hxl : xs.length = 5 := hxl
  obtain ⟨c0, c1, c2, c3, c4, rfl⟩ := len5 hlen
  obtain ⟨m0, rfl, w0⟩ := field_int (j := 0) (off := 0) (by omega) rfl (hg 0 _ rfl)
  obtain ⟨m1, rfl, w1⟩ := field_int (j := 1) (off := 1) (by omega) rfl (hg 1 _ rfl)
  obtain ⟨m2, rfl, w2⟩ := field_int (j := 2) (off := 2) (by omega) rfl (hg 2 _ rfl)
  obtain ⟨m3, rfl, w3⟩ := field_int (j := 3) (off := 3) (by omega) rfl (hg 3 _ rfl)
  have h4 := hg 4 _ rfl
  rw [List.getElem?_eq_getElem (by omega)] at h4
  obtain ⟨t, hcs, ht⟩ := one_string h4 (hw.part (j := 4) Tryz.underlying67 rfl (by rw [List.getElem?_map, List.getElem?_eq_getElem (by omega)]; rfl))
  have hcs2 : List.take (Tryz.prog.cellsOf 9) [c4] = [Value.string (SB t)] := hcs
  rw [show Tryz.prog.cellsOf 9 = 1 by kernel_rfl] at hcs2
  have hcs' : [c4] = [Value.string (SB t)] := hcs2
  obtain rfl := List.cons.inj hcs' |>.1
  exact ⟨⟨m0, m1, m2, m3, t⟩, rfl, ht⟩
theorem open_types {fuel : Nat} {cs : List Value} {x : DataW H × List MemPlace} (h : DataW.trod enc Tryz.prog w base spare held fuel 55 cs = some x) (hw : Fit Tryz.prog 55 x.1) :
    ∃ (A : Option Addr) (l : List Ty) (c : Nat), cs = [.slice A l.length c] ∧ TysOk w A l := by
  obtain ⟨A, l, c, rfl, hr, hok, hb⟩ := open_rows tyC 5 48 (fun x => x.text.length ≤ 140737488355328) Tryz.underlying55 (by kernel_rfl) (by omega) (fun _ => rfl) (by kernel_rfl)
    (fun n cs x h hf => open_type h hf) h hw
  exact ⟨A, l, c, rfl, ⟨by unfold reachBytes at hb; omega, hr, hok⟩⟩
theorem open_steps {fuel : Nat} {cs : List Value} {x : DataW H × List MemPlace} (h : DataW.trod enc Tryz.prog w base spare held fuel 70 cs = some x) (hw : Fit Tryz.prog 70 x.1) :
    ∃ (A : Option Addr) (l : List Stp) (c : Nat), cs = [.slice A l.length c] ∧ StpsOk w A l := by
  obtain ⟨A, l, c, rfl, hr, -, hb⟩ := open_rows stC 2 16 (fun _ => True) Tryz.underlying70 (by kernel_rfl) (by omega) (fun _ => rfl) (by kernel_rfl)
    (fun n cs x h hf => by
      obtain ⟨xs, n', -, rfl, hlen, hxl, hg⟩ := DataW.trod_struct Tryz.underlying69 h
      rw [show Tryz.prog.cellsOf 69 = 2 by kernel_rfl] at hlen
      have hxl : xs.length = 2 := hxl
      obtain ⟨c0, c1, rfl⟩ := len2 hlen
      obtain ⟨m0, rfl, w0⟩ := field_int (j := 0) (off := 0) (by omega) rfl (hg 0 _ rfl)
      obtain ⟨m1, rfl, w1⟩ := field_int (j := 1) (off := 1) (by omega) rfl (hg 1 _ rfl)
      exact ⟨⟨m0, m1⟩, rfl, trivial⟩) h hw
  exact ⟨A, l, c, rfl, ⟨by unfold reachBytes at hb; omega, hr⟩⟩
theorem open_prices {fuel : Nat} {cs : List Value} {x : DataW H × List MemPlace} (h : DataW.trod enc Tryz.prog w base spare held fuel 72 cs = some x) (hw : Fit Tryz.prog 72 x.1) :
    ∃ (p : Prc) (A : Option Addr) (c : Nat), cs = [.int .i64 p.dot, .int .i64 p.scr, .slice A p.steps.length c] ∧ StpsOk w A p.steps := by
  obtain ⟨xs, n', -, rfl, hlen, hxl, hg⟩ := DataW.trod_struct Tryz.underlying72 h
  rw [show Tryz.prog.cellsOf 72 = 3 by kernel_rfl] at hlen
  have hxl : xs.length = 3 := hxl
  obtain ⟨c0, c1, c2, rfl⟩ := len3 hlen
  obtain ⟨m0, rfl, w0⟩ := field_int (j := 0) (off := 0) (by omega) rfl (hg 0 _ rfl)
  obtain ⟨m1, rfl, w1⟩ := field_int (j := 1) (off := 1) (by omega) rfl (hg 1 _ rfl)
  have h2 := hg 2 _ rfl
  rw [List.getElem?_eq_getElem (by omega)] at h2
  obtain ⟨A, l, c, hcs, hl⟩ := open_steps h2 (hw.part (j := 2) Tryz.underlying72 rfl (by rw [List.getElem?_map, List.getElem?_eq_getElem (by omega)]; rfl))
  have hcs2 : List.take (Tryz.prog.cellsOf 70) [c2] = [Value.slice A l.length c] := hcs
  rw [show Tryz.prog.cellsOf 70 = 1 by kernel_rfl] at hcs2
  have hcs' : [c2] = [Value.slice A l.length c] := hcs2
  obtain rfl := List.cons.inj hcs' |>.1
  exact ⟨⟨m0, m1, l⟩, A, c, rfl, hl⟩
theorem open_ints {fuel : Nat} {cs : List Value} {x : DataW H × List MemPlace} (h : DataW.trod enc Tryz.prog w base spare held fuel 49 cs = some x) (hw : Fit Tryz.prog 49 x.1) :
    ∃ (A : Option Addr) (l : List Int) (c : Nat), cs = [.slice A l.length c] ∧ IntsOk w A l := by
  obtain ⟨A, l, c, rfl, hr, -, hb⟩ := open_rows (fun n : Int => [Value.int .i64 n]) 1 8 (fun _ => True) Tryz.underlying49 (by kernel_rfl) (by omega) (fun _ => rfl) (by kernel_rfl)
    (fun n cs x h hf => by
      obtain ⟨m, hcs, -⟩ := one_int h
      exact ⟨m, hcs, trivial⟩) h hw
  refine ⟨A, l, c, rfl, ⟨by unfold reachBytes at hb; omega, ?_⟩⟩
  have : ints l = l.flatMap (fun n => [Value.int .i64 n]) := by unfold ints; exact List.map_eq_flatMap
  rw [this]
  exact hr
end

end Go.Proofs.YtfklckjfbnaoeaaGreatDoor
