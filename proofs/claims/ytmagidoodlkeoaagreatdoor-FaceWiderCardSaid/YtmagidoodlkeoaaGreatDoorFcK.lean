/-
  Faces in memory: the cells of an item, of a list of items; what is known of a face that came in or was made.
-/
import Derived.Test.YtmagidoodlkeoaaGreatDoorProg
import Derived.Test.YtmagidoodlkeoaaGreatDoorKitB
import Derived.Test.YtmagidoodlkeoaaGreatDoorKit2
import Derived.Test.YtmagidoodlkeoaaGreatDoorFcQ
set_option linter.unusedSimpArgs false
set_option linter.unusedVariables false
namespace Go.Proofs.YtmagidoodlkeoaaGreatDoor
open Go.RowKit

theorem retE {a b : Bool} (h : b = a) : Ending.returned (.bool a) = .returned (.bool b) := by rw [h]
/-- The cells of an item. -/
def itC (x : It) : List Value := [.int .i64 x.kind, .int .i64 x.colour, .int .i64 x.left, .int .i64 x.low, .int .i64 x.a, .int .i64 x.b, .string (SB x.text)]
def its (l : List It) : List Value := l.flatMap itC
theorem its_ne {l : List It} {k : Nat} (h : k < l.length) : its l ≠ [] := flat_ne (f := itC) (K := 7) (fun _ => rfl) (by omega) h
theorem its_len (l : List It) : (its l).length = l.length * 7 := flat_len (f := itC) (fun _ => rfl) l
theorem its_cells {w : World} {b off : Nat} {l : List It} (h : ∀ j u, (its l)[j]? = some u → w.cell? ⟨b, off + j, none⟩ = some u) {k : Nat} (hk : k < l.length) :
    w.cell? ⟨b, off + k * 7, none⟩ = some (.int .i64 l[k].kind) ∧ w.cell? ⟨b, off + k * 7 + 1, none⟩ = some (.int .i64 l[k].colour) ∧ w.cell? ⟨b, off + k * 7 + 2, none⟩ = some (.int .i64 l[k].left) ∧
    w.cell? ⟨b, off + k * 7 + 3, none⟩ = some (.int .i64 l[k].low) ∧ w.cell? ⟨b, off + k * 7 + 4, none⟩ = some (.int .i64 l[k].a) ∧ w.cell? ⟨b, off + k * 7 + 5, none⟩ = some (.int .i64 l[k].b) ∧
    w.cell? ⟨b, off + k * 7 + 6, none⟩ = some (.string (SB l[k].text)) :=
  ⟨h _ _ (flat_at (f := itC) (K := 7) (fun _ => rfl) l k 0 hk (by omega)), h _ _ (flat_at (f := itC) (K := 7) (fun _ => rfl) l k 1 hk (by omega)), h _ _ (flat_at (f := itC) (K := 7) (fun _ => rfl) l k 2 hk (by omega)), h _ _ (flat_at (f := itC) (K := 7) (fun _ => rfl) l k 3 hk (by omega)), h _ _ (flat_at (f := itC) (K := 7) (fun _ => rfl) l k 4 hk (by omega)), h _ _ (flat_at (f := itC) (K := 7) (fun _ => rfl) l k 5 hk (by omega)), h _ _ (flat_at (f := itC) (K := 7) (fun _ => rfl) l k 6 hk (by omega))⟩

theorem SB_size (l : List UInt8) : (SB l).size = l.length := rfl
theorem SB_toList (l : List UInt8) : (SB l).toList = l := by
  rw [Lib.toList_data]; rfl
theorem SB_app (a b : List UInt8) : SB a ++ SB b = SB (a ++ b) := by
  apply ByteArray.ext
  simp [SB, ByteArray.data_append]
theorem SB_inj {a b : List UInt8} (h : SB a = SB b) : a = b := by
  have := congrArg (fun s : ByteArray => s.data.toList) h
  simpa [SB_data] using this

/-- A list of items that lies in memory. -/
structure ItsOk (w : World) (A : Option Addr) (l : List It) : Prop where
  n : l.length ≤ 2199023255552
  rd : Rd w A (its l)
  txt : ∀ x ∈ l, x.text.length ≤ 140737488355328
theorem ItsOk.below {w w' : World} {A : Option Addr} {l : List It} (h : ItsOk w A l) (hb : Below w.heap.size w w') : ItsOk w' A l := ⟨h.n, h.rd.below hb, h.txt⟩
theorem ItsOk.nil (w : World) (A : Option Addr) : ItsOk w A [] := ⟨by simp, Rd.nil _ _, by simp⟩

theorem block_set_same {w : World} {g : Nat} {cs : Array Value} {t : TypeId} (h : w.heap[g]? = some (.cells cs t (0, 0))) (i : Nat) (u : Value) : (w.setCell ⟨g, i, none⟩ u).heap[g]? = some (.cells (cs.setIfInBounds i u) t (0, 0)) := by
  simp [World.setCell, Array.getElem?_modify, h]
theorem block_set_other {w : World} {g k : Nat} (i : Nat) (u : Value) (h : k ≠ g) : (w.setCell ⟨g, i, none⟩ u).heap[k]? = w.heap[k]? := Below.heap_setCell _ _ _ _ h
theorem rdNew1 (w : World) (cs : List Value) (t : TypeId) : Rd (w.alloc (.cells cs.toArray t)) (some ⟨w.heap.size, 0, none⟩) cs := fun _ =>
  ⟨w.heap.size, 0, rfl, by simp, fun j u hu => by rw [Nat.zero_add, cell_of_row _ _ j _ _ _ (heap_alloc_new w (.cells cs.toArray t))]; simpa using hu⟩

end Go.Proofs.YtmagidoodlkeoaaGreatDoor
