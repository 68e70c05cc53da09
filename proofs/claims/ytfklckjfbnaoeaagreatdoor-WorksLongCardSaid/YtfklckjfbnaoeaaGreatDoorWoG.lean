/-
  The picture of a type: the reference.
-/
import Derived.Test.YtfklckjfbnaoeaaGreatDoorWoC
set_option linter.unusedSimpArgs false
set_option linter.unusedVariables false
namespace Go.Proofs.YtfklckjfbnaoeaaGreatDoor
open Go.RowKit Go.Deep

theorem RB.row {w wr : World} {R R' : Nat} {vs us : Array Value} {ty : TypeId} (h : RB w wr R vs ty) (hR' : w.heap.size ≤ R') (hne : R ≠ R') : RB w (wr.setRow R' us) R vs ty := ⟨h.hR, (setRow_oth wr R' R us hne).trans h.res, below_setRow h.below hR' us⟩
theorem RB.set {w wr : World} {R : Nat} {vs : Array Value} {ty : TypeId} (h : RB w wr R vs ty) (us : Array Value) : RB w (wr.setRow R us) R us ty := ⟨h.hR, setRow_heap _ _ _ _ _ _ h.res, below_setRow h.below h.hR us⟩
/-- A short row with a slice in it holds no long list of numbers. -/
theorem nums_keep {w : World} {A : Option Addr} {l : List Int} {R : Nat} {vs : Array Value} {ty : TypeId} (h : Rd w A (ints l)) (hl : 4 ≤ l.length) (hr : w.heap[R]? = some (.cells vs ty (0, 0))) (hv : vs.size = 4) (h3 : ∃ a b c, vs[3]? = some (.slice a b c)) (us : Array Value) : Rd (w.setRow R us) A (ints l) := by
  intro hx
  obtain ⟨b, off, rfl, hb, hc⟩ := h hx
  have hbR : b ≠ R := by
    rintro rfl
    have c3 := hc 3 _ (nums_at (k := 3) (by omega))
    rw [cell_of_row _ b (off + 3) _ _ _ hr] at c3
    have := (Array.getElem?_eq_some_iff.1 c3).1
    obtain ⟨x, y, z, h3⟩ := h3
    rw [show off + 3 = 3 by omega, h3] at c3
    cases c3
  refine ⟨b, off, rfl, by simpa [World.setRow] using hb, fun j u hu => ?_⟩
  rw [World.cell?_of_block (w := w) (setRow_oth w R b us hbR)]
  exact hc j u hu
theorem dots_many {f : Fc} (hf : fcB f = true) : 4 ≤ (dotL f f.items.length).length := by
  obtain ⟨s0, s1⟩ := size_bounds hf
  obtain ⟨h0, h1⟩ := heiF_bounds hf
  rw [dotL_len]
  have : 4 * 1 ≤ f.size.toNat * (heiF f).toNat := Nat.mul_le_mul (by omega) (by omega)
  unfold numD
  omega
/-- What picture answers. -/
def picR (t : Ty) (w : World) (e : Ending) (w' : World) : Prop :=
  Below w.heap.size w w' ∧ ∃ (g : Fc) (A : Option Addr) (c : Nat) (pw ph : Int) (A1 A2 : Option Addr) (n1 k1 n2 k2 : Nat), e = .returned (.tuple #[.agg #[.int .i64 g.shape, .int .i64 g.size, .int .i64 g.height, .slice A g.items.length c], .agg #[.int .i64 pw, .int .i64 ph, .slice A1 n1 k1, .slice A2 n2 k2], .bool (tyB t)]) ∧ ItsOk w' A g.items ∧
    (tyB t = true → fcB g = true ∧ g = facP t ∧ pw = g.size ∧ ph = heiF g ∧ n1 = numD g ∧ n2 = numD g ∧ Rd w' A1 (ints (dotL g g.items.length)))
theorem picR_no {t : Ty} {w w' : World} (h : tyB t = false) (hb : Below w.heap.size w w') : picR t w (.returned (.tuple #[.agg (fi 0 0 0 (.slice none 0 0)), .agg #[.int .i64 0, .int .i64 0, .slice none 0 0, .slice none 0 0], .bool false])) w' :=
  ⟨hb, ⟨0, 0, 0, []⟩, none, 0, 0, 0, none, none, 0, 0, 0, 0, by rw [h]; rfl, ItsOk.nil _ _, fun e => by rw [h] at e; cases e⟩

end Go.Proofs.YtfklckjfbnaoeaaGreatDoor
