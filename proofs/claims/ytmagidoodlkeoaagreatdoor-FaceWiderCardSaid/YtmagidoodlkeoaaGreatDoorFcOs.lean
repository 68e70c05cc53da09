/-
  The arguments opened: a sheet of lines.
-/
import Derived.Test.YtmagidoodlkeoaaGreatDoorFcO
import Derived.Test.YtmagidoodlkeoaaGreatDoorFcPl
set_option linter.unusedSimpArgs false
set_option linter.unusedVariables false
namespace Go.Proofs.YtmagidoodlkeoaaGreatDoor
open Go.RowKit Go.ChangeShapes Go.WideShapes Go.Deep

section
variable {H : Type} {enc : TypeId × Value → H} {w : World} {base : Nat} {spare : Nat → Bool} {held : Bool}

theorem open_strs {fuel : Nat} {cs : List Value} {x : DataW H × List MemPlace} (h : DataW.trod enc Tryz.prog w base spare held fuel 60 cs = some x) (hw : Fit Tryz.prog 60 x.1) :
    ∃ (A : Option Addr) (ls : List (List UInt8)) (c : Nat), cs = [.slice A ls.length c] ∧ StrsOk w A ls := by
  obtain ⟨A, l, c, rfl, hr, hok, hb⟩ := open_rows (fun l : List UInt8 => [Value.string (SB l)]) 1 16 (fun x => x.length ≤ 140737488355328) Tryz.underlying60 (by kernel_rfl) (by omega) (fun _ => rfl) (by kernel_rfl)
    (fun n cs x h hf => by
      obtain ⟨t, hcs, ht⟩ := one_string h hf
      exact ⟨t, hcs, ht⟩) h hw
  refine ⟨A, l, c, rfl, by unfold reachBytes at hb; omega, ?_, hok⟩
  have : strs l = l.flatMap (fun l => [Value.string (SB l)]) := by unfold strs; exact List.map_eq_flatMap
  rw [this]
  exact hr
theorem open_sheet {fuel : Nat} {cs : List Value} {x : DataW H × List MemPlace} (h : DataW.trod enc Tryz.prog w base spare held fuel 62 cs = some x) (hw : Fit Tryz.prog 62 x.1) :
    ∃ (ls : List (List UInt8)) (A : Option Addr) (c : Nat) (unit ground ink : Int), cs = [.slice A ls.length c, .int .i64 unit, .int .i64 ground, .int .i64 ink] ∧ StrsOk w A ls := by
  obtain ⟨xs, n', -, rfl, hlen, hxl, hg⟩ := DataW.trod_struct Tryz.underlying62 h
  rw [show Tryz.prog.cellsOf 62 = 4 by kernel_rfl] at hlen
  have hxl : xs.length = 4 := hxl
  obtain ⟨c0, c1, c2, c3, rfl⟩ := len4 hlen
  obtain ⟨m1, rfl, w1⟩ := field_int (j := 1) (off := 1) (by omega) rfl (hg 1 _ rfl)
  obtain ⟨m2, rfl, w2⟩ := field_int (j := 2) (off := 2) (by omega) rfl (hg 2 _ rfl)
  obtain ⟨m3, rfl, w3⟩ := field_int (j := 3) (off := 3) (by omega) rfl (hg 3 _ rfl)
  have h0 := hg 0 _ rfl
  rw [List.getElem?_eq_getElem (by omega)] at h0
  obtain ⟨A, l, c, hcs, hl⟩ := open_strs h0 (hw.part (j := 0) Tryz.underlying62 rfl (by rw [List.getElem?_map, List.getElem?_eq_getElem (by omega)]; rfl))
  have hcs2 : List.take (Tryz.prog.cellsOf 60) [c0, .int .i64 m1, .int .i64 m2, .int .i64 m3] = [Value.slice A l.length c] := hcs
  rw [show Tryz.prog.cellsOf 60 = 1 by kernel_rfl] at hcs2
  have hcs' : [c0] = [Value.slice A l.length c] := hcs2
  obtain rfl := List.cons.inj hcs' |>.1
  exact ⟨l, A, c, m1, m2, m3, rfl, hl⟩
end

end Go.Proofs.YtmagidoodlkeoaaGreatDoor
