/-
  A face in a block of its own, as the laws keep their parameters; how a law goes on behind a call.
-/
import Derived.Test.YtmagidoodlkeoaaGreatDoorFcLo
import Derived.Test.YtmagidoodlkeoaaGreatDoorFcFi
set_option linter.unusedSimpArgs false
set_option linter.unusedVariables false
namespace Go.Proofs.YtmagidoodlkeoaaGreatDoor
open Go.RowKit

/-- The block B holds the face f. -/
structure FaceAt (w : World) (B : Nat) (f : Fc) (A : Option Addr) (c : Nat) : Prop where
  heap : w.heap[B]? = some (.cells #[.int .i64 f.shape, .int .i64 f.size, .int .i64 f.height, .slice A f.items.length c] 25 (0, 0))
  ok : ItsOk w A f.items
theorem FaceAt.lt {w : World} {B : Nat} {f : Fc} {A : Option Addr} {c : Nat} (h : FaceAt w B f A c) : B < w.heap.size := (Array.getElem?_eq_some_iff.1 h.heap).1
theorem FaceAt.below {w w' : World} {B : Nat} {f : Fc} {A : Option Addr} {c : Nat} (h : FaceAt w B f A c) (hb : Below w.heap.size w w') : FaceAt w' B f A c := ⟨(hb.block B h.lt).trans h.heap, h.ok.below hb⟩
theorem FaceAt.new (w : World) {f : Fc} {A : Option Addr} (c : Nat) (h : ItsOk w A f.items) : FaceAt (w.alloc (.cells #[.int .i64 f.shape, .int .i64 f.size, .int .i64 f.height, .slice A f.items.length c] 25)) w.heap.size f A c := ⟨heap_alloc_new _ _, h.below (below_alloc _ _)⟩
theorem FaceAt.cells {w : World} {B : Nat} {f : Fc} {A : Option Addr} {c : Nat} (h : FaceAt w B f A c) :
    w.cell? ⟨B, 0, none⟩ = some (.int .i64 f.shape) ∧ w.cell? ⟨B, 1, none⟩ = some (.int .i64 f.size) ∧ w.cell? ⟨B, 2, none⟩ = some (.int .i64 f.height) ∧ w.cell? ⟨B, 3, none⟩ = some (.slice A f.items.length c) :=
  ⟨cell_of_row _ _ _ _ _ _ h.heap, cell_of_row _ _ _ _ _ _ h.heap, cell_of_row _ _ _ _ _ _ h.heap, cell_of_row _ _ _ _ _ _ h.heap⟩

/-- How far a law has come: nothing that was there has turned, the library's variables stand. -/
structure On (w0 w : World) : Prop where
  bel : Below w0.heap.size w0 w
  gl : Gl w
theorem On.start {w : World} (h : Gl w) : On w w := ⟨Below.refl _ _, h⟩
theorem On.next {w0 w w' : World} (h : On w0 w) (hb : Below w.heap.size w w') : On w0 w' := ⟨h.bel.trans (hb.mono h.bel.size), h.gl.below hb⟩
theorem On.lay {w0 w : World} (h : On w0 w) (o : Obj) : On w0 (w.alloc o) := h.next (below_alloc _ _)
/-- The law's last word. -/
theorem On.first {w0 w : World} (h : On w0 w) : Calls Tryz.prog 20 #[] w fun e w' => e = .returned (.bool true) ∧ Below w0.heap.size w0 w' :=
  (first_calls w h.gl).mono fun _ _ ⟨he, hb⟩ => ⟨he, (h.next hb).bel⟩

end Go.Proofs.YtmagidoodlkeoaaGreatDoor
