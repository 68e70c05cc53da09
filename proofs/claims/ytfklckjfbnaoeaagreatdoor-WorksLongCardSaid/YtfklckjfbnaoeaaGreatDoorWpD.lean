/-
  A new disk, the log on it, the state of new works.
-/
import Derived.Test.YtfklckjfbnaoeaaGreatDoorWpC
import Derived.Test.YtfklckjfbnaoeaaGreatDoorWoE
import Derived.StillTailTactics
import Derived.Deep.RegionLawGrows
set_option linter.unusedSimpArgs false
set_option linter.unusedVariables false
namespace Go.Proofs.YtfklckjfbnaoeaaGreatDoor
open Go.RowKit

theorem setCell_id {w : World} {B i : Nat} {cs : Array Value} {t : TypeId} {v : Value} (h : w.heap[B]? = some (.cells cs t (0, 0))) (hv : cs[i]? = some v) : w.setCell ⟨B, i, none⟩ v = w := by
  have hq : (w.setCell ⟨B, i, none⟩ v).heap = w.heap := by
    apply Array.ext_getElem?
    intro k
    by_cases hk : k = B
    · subst hk
      rw [heap_setCell_same _ _ _ _ _ _ h, h]
      have : cs.setIfInBounds i v = cs := by
        apply Array.ext_getElem?
        intro j
        rw [Array.getElem?_setIfInBounds]
        split
        · rename_i e; subst e
          obtain ⟨hi, _⟩ := Array.getElem?_eq_some_iff.1 hv
          rw [if_pos hi, hv]
        · rfl
      rw [this]
    · exact heap_setCell_other _ _ _ _ hk
  cases w
  simp only [World.setCell] at hq ⊢
  rw [hq]

/-- A disk that is up, with no bytes. -/
def DiskAt (w : World) (D : Nat) : Prop := w.heap[D]? = some (.cells #[.bool true, .bool false, .slice none 0 0, .int .i64 0, .int .i64 0, .int .i64 0] 119 (0, 0))
theorem DiskAt.lt {w : World} {D : Nat} (h : DiskAt w D) : D < w.heap.size := (Array.getElem?_eq_some_iff.1 h).1
theorem DiskAt.below {w w' : World} {D : Nat} (h : DiskAt w D) (hb : Below w.heap.size w w') : DiskAt w' D := (hb.block D h.lt).trans h
theorem DiskAt.cells {w : World} {D : Nat} (h : DiskAt w D) :
    w.cell? ⟨D, 0, none⟩ = some (.bool true) ∧ w.cell? ⟨D, 1, none⟩ = some (.bool false) ∧ w.cell? ⟨D, 2, none⟩ = some (.slice none 0 0) ∧ w.cell? ⟨D, 3, none⟩ = some (.int .i64 0) ∧ w.cell? ⟨D, 4, none⟩ = some (.int .i64 0) ∧ w.cell? ⟨D, 5, none⟩ = some (.int .i64 0) :=
  ⟨cell_of_row _ D 0 _ _ _ h, cell_of_row _ D 1 _ _ _ h, cell_of_row _ D 2 _ _ _ h, cell_of_row _ D 3 _ _ _ h, cell_of_row _ D 4 _ _ _ h, cell_of_row _ D 5 _ _ _ h⟩
def diskO : Obj := .cells #[.bool true, .bool false, .slice none 0 0, .int .i64 0, .int .i64 0, .int .i64 0] 119
def logO (D : Nat) : Obj := .cells #[.pointer (some ⟨D, 0, none⟩), .int .i64 0, .bool false, .slice none 0 0] 129

theorem newDisk_calls (w : World) : Calls Tryz.prog 19 #[] w fun e w' => e = .returned (.pointer (some ⟨w.heap.size, 0, none⟩)) ∧ w' = w.alloc diskO := by
  go_enter Tryz.func19, Tryz.ntmps19
  go_wp2_with fail
  go_ret
  exact ⟨rfl, rfl⟩

theorem dnone_new (D : Nat) (w : World) (h : DiskAt w D) :
    Calls Tryz.prog 86 #[.pointer (some ⟨D, 0, none⟩)] w fun e w' => e = .returned (.bool false) ∧ w = w' := by
  obtain ⟨c0, c1, c2, c3, c4, c5⟩ := h.cells
  have fz := frozen_of_row w D 3 _ _ h
  have HD := hid h
  clear h
  go_enter Tryz.func86, Tryz.ntmps86
  go_wp2_with fail
  go_ret
  exact ⟨rfl, rfl⟩

theorem ddown_new (D : Nat) (w : World) (h : DiskAt w D) :
    Calls Tryz.prog 92 #[.pointer (some ⟨D, 0, none⟩)] w fun e w' => e = .returned (.bool false) ∧ w = w' := by
  obtain ⟨c0, c1, c2, c3, c4, c5⟩ := h.cells
  have fz := frozen_of_row w D 3 _ _ h
  have HD := hid h
  clear h
  go_enter Tryz.func92, Tryz.ntmps92
  go_wp2_with (go_at_call 86; refine (dnone_new _ _ (unhid HD)).mono ?_; rintro e w' ⟨rfl, rfl⟩)
  go_ret
  exact ⟨rfl, rfl⟩

theorem dbegin_new (D : Nat) (w : World) (h : DiskAt w D) :
    Calls Tryz.prog 97 #[.pointer (some ⟨D, 0, none⟩)] w fun e w' => e = .returned (.int .i64 0) ∧ w = w' := by
  obtain ⟨c0, c1, c2, c3, c4, c5⟩ := h.cells
  have fz := frozen_of_row w D 3 _ _ h
  have HD := hid h
  clear h
  go_enter Tryz.func97, Tryz.ntmps97
  go_wp2_with fail
  go_ret
  exact ⟨rfl, rfl⟩

set_option maxRecDepth 100000 in
theorem cloneNil_calls (w : World) : Calls Tryz.prog 93 #[.slice none 0 0] w fun e w' => e = .returned (.slice none 0 0) ∧ w = w' := by
  have heq := fun (w : World) (A : Option Addr) (n c : Nat) => Lib.run_eql_slice_nil (P := Tryz.prog) w 87 5 A n c 0 0 Tryz.underlying87
  go_enter Tryz.func93, Tryz.ntmps93
  go_wp2_with fail
  go_ret
  exact ⟨rfl, rfl⟩
set_option maxRecDepth 100000 in
theorem bfirst_nil (w : World) : Calls Tryz.prog 52 #[.slice none 0 0] w fun e w' => e = .returned (.tuple #[.slice none 0 0, .int .i64 0]) ∧ w = w' := by
  go_enter Tryz.func52, Tryz.ntmps52
  go_wp2_with fail
  go_ret2
  exact ⟨rfl, rfl⟩

theorem dread_new (D : Nat) (w : World) (h : DiskAt w D) :
    Calls Tryz.prog 51 #[.pointer (some ⟨D, 0, none⟩)] w fun e w' => e = .returned (.tuple #[.slice none 0 0, .int .i64 0]) ∧ w = w' := by
  obtain ⟨c0, c1, c2, c3, c4, c5⟩ := h.cells
  have fz := frozen_of_row w D 3 _ _ h
  have HD := hid h
  clear h
  go_enter Tryz.func51, Tryz.ntmps51
  go_wp2_with first | (go_at_call 92; refine (ddown_new _ _ (unhid HD)).mono ?_; rintro e w' ⟨rfl, rfl⟩) | (go_at_call 93; refine (cloneNil_calls _).mono ?_; rintro e w' ⟨rfl, rfl⟩)
  go_ret2
  exact ⟨rfl, rfl⟩

theorem dsync_new (D : Nat) (w : World) (h : DiskAt w D) :
    Calls Tryz.prog 54 #[.pointer (some ⟨D, 0, none⟩)] w fun e w' => e = .returned (.int .i64 0) ∧ w = w' := by
  obtain ⟨c0, c1, c2, c3, c4, c5⟩ := h.cells
  have fz := frozen_of_row w D 3 _ _ h
  have HD := hid h
  clear h
  go_enter Tryz.func54, Tryz.ntmps54
  go_wp2_with first | (go_at_call 92; refine (ddown_new _ _ (unhid HD)).mono ?_; rintro e w' ⟨rfl, rfl⟩) | (go_at_call 97; refine (dbegin_new _ _ (unhid HD)).mono ?_; rintro e w' ⟨rfl, rfl⟩)
  go_ret
  exact ⟨rfl, by rw [setCell_id (unhid HD) rfl]⟩

theorem bopen_new (D : Nat) (w : World) (h : DiskAt w D) :
    Calls Tryz.prog 23 #[.pointer (some ⟨D, 0, none⟩)] w fun e w' => e = .returned (.tuple #[.pointer (some ⟨w.heap.size, 0, none⟩), .int .i64 0]) ∧ w' = w.alloc (logO D) := by
  obtain ⟨c0, c1, c2, c3, c4, c5⟩ := h.cells
  have HD := hid h
  have HD2 := hid (h.below (below_alloc w (logO D)))
  clear h
  go_enter Tryz.func23, Tryz.ntmps23
  go_wp2_with (go_at_call 51; refine (dread_new _ _ (unhid HD)).mono ?_; rintro e w' ⟨rfl, rfl⟩)
  change Code.wp _ _ _ _ (w.alloc (logO D))
  generalize hW : w.alloc (logO D) = W at *
  clear c0 c1 c2 c3 c4 c5 HD
  obtain ⟨c0, c1, c2, c3, c4, c5⟩ := (unhid HD2).cells
  go_loopw [7] (fun iv wr => iv = .int .i64 0 ∧ wr = W) (fun _ _ => 0)
  case atStart => exact ⟨rfl, (by first | rfl | trivial)⟩
  case round =>
    obtain ⟨rfl, hwr⟩ := hrel
    subst hwr
    go_wp2_with first | (go_at_call 52; refine (bfirst_nil _).mono ?_; rintro e w' ⟨rfl, rfl⟩) | (go_at_call 54; refine (dsync_new _ _ (unhid HD2)).mono ?_; rintro e w' ⟨rfl, rfl⟩)
    go_ret2
    exact ⟨rfl, hW.symm⟩

end Go.Proofs.YtfklckjfbnaoeaaGreatDoor
