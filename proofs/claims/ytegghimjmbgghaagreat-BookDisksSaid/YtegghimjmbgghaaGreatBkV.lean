/-
  Unpack of the program.
-/
import Derived.Test.YtegghimjmbgghaaGreatBkU
set_option linter.unusedSimpArgs false
set_option linter.unusedVariables false
namespace Go.Proofs.YtegghimjmbgghaaGreat
open Go.RowKit Go.Shelf

theorem read_sub {w : World} {b off : Nat} {l : List UInt8} (h : Rd w (some ⟨b, off, none⟩) (bys l)) (hl : l.length = 54) (a n c : Nat) (ha : a + n ≤ 54) (hn : n ≤ 8) :
    Calls Tryz.prog 104 #[.slice (some ⟨b, off + a, none⟩) n c] w fun e w' => e = .returned (.int .u64 (nv l a n : Int)) ∧ w = w' := by
  have := read_calls ((l.drop a).take n) (some ⟨b, off + a, none⟩) c w (bys_sub h a n) (by rw [sub_len hl ha]; exact hn)
  rwa [sub_len hl ha] at this
set_option maxRecDepth 100000 in
theorem slice_4 (b off d : Nat) {a : Nat} (ha : a + 4 ≤ 54) (w : World) : (Instr.slice 52 (.slice (some ⟨b, off, none⟩) 54 (d + 54)) (some (.int .i64 (a : Int))) (some (.int .i64 ((a : Int) + 4))) none).run Tryz.prog w = .ok (.slice (some ⟨b, off + a, none⟩) 4 (d + 54 - a)) w := by
  rw [run_slice_lh (P := Tryz.prog) w 52 (some ⟨b, off, none⟩) 54 (d + 54) (by kernel_rfl) .i64 .i64 (a : Int) ((a : Int) + 4) (by omega) (by omega) (by omega)]
  have e1 : (a : Int).toNat = a := by omega
  have e2 : ((a : Int) + 4).toNat = a + 4 := by omega
  have e3 : a + 4 - a = 4 := by omega
  have e4 : ¬ d + 54 = a := by omega
  rw [e1, e2]
  show Result.ok (sliced _ _ _ _ 1) w = _
  simp only [sliced, e3, if_neg e4, Option.map_some, Nat.mul_one]
  rw [add_at]

/-- The record after k of the numbers seen, its value still missing. -/
def recV (l : List UInt8) : Rc := ⟨b0 l 0, nv l 1 4, nv l 5 4, nv l 9 4, b0 l 13, 0, 0, 0, 0, 0, 0, 0, 0, 0⟩
theorem recV_set (l : List UInt8) : (rcA (recV l)).setIfInBounds 5 (.int .i64 ((nv l 14 8 : Int) - 1099511627776)) = rcA (recP l 0) := rfl
structure UnI (w : World) (B R : Nat) (l : List UInt8) (A : Option Addr) (c : Nat) (W : World) : Prop where
  box : W.heap[B]? = some (.cells #[.slice A l.length c] 52 (0, 0))
  res : RcAt W R rc0
  b : Below w.heap.size w W
  hB : B = w.heap.size
  hR : R = w.heap.size + 1
theorem UnI.below {w : World} {B R : Nat} {l : List UInt8} {A : Option Addr} {c : Nat} {W W' : World} (h : UnI w B R l A c W) (hb : Below W.heap.size W W') : UnI w B R l A c W' :=
  ⟨(hb.block B (Array.getElem?_eq_some_iff.1 h.box).1).trans h.box, h.res.below hb h.res.lt, h.b.trans (hb.mono h.b.size), h.hB, h.hR⟩
theorem UnI.lt {w : World} {B R : Nat} {l : List UInt8} {A : Option Addr} {c : Nat} {W : World} (h : UnI w B R l A c W) : R < W.heap.size := h.res.lt
theorem UnI.cell {w : World} {B R : Nat} {l : List UInt8} {A : Option Addr} {c : Nat} {W : World} (h : UnI w B R l A c W) : W.cell? ⟨B, 0, none⟩ = some (.slice A l.length c) := cell_of_row _ B 0 _ _ _ h.box
theorem UnI.set {w : World} {B R : Nat} {l : List UInt8} {A : Option Addr} {c : Nat} {W : World} (h : UnI w B R l A c W) {X : Nat} (hX : R < X) (i : Nat) (v : Value) : UnI w B R l A c (W.setCell ⟨X, i, none⟩ v) :=
  ⟨(heap_setCell_other _ _ _ _ (show B ≠ X by have := h.hB; have := h.hR; omega)).trans h.box, (heap_setCell_other _ _ _ _ (show R ≠ X by omega)).trans h.res, h.b.setCell (p := ⟨X, i, none⟩) (by have := h.hR; show w.heap.size ≤ X; omega) v, h.hB, h.hR⟩
theorem UnI.new (w : World) (l : List UInt8) (A : Option Addr) (c : Nat) : UnI w w.heap.size (w.heap.size + 1) l A c ((w.alloc (.cells #[.slice A l.length c] 52)).alloc (.cells (rcA rc0) 82)) := by
  have b1 := below_alloc w (.cells #[.slice A l.length c] 52)
  have h1 := heap_alloc_new w (.cells #[.slice A l.length c] 52)
  have hs : (w.alloc (.cells #[.slice A l.length c] 52)).heap.size = w.heap.size + 1 := by simp
  have b2 := below_alloc (w.alloc (.cells #[.slice A l.length c] 52)) (.cells (rcA rc0) 82)
  have h2 := RcAt.new (w.alloc (.cells #[.slice A l.length c] 52)) rc0
  rw [hs] at h2
  exact ⟨(b2.block _ (by omega)).trans h1, h2, b1.trans (b2.mono (by omega)), rfl, rfl⟩

end Go.Proofs.YtegghimjmbgghaaGreat
