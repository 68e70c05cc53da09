/-
  A map from numbers to bools that a call makes and fills with true: the numbers that were seen.
-/
import Derived.Test.YtmpngoejnmlmbaaGreatLeaf
import Derived.Maps.OwnSet
set_option linter.unusedSimpArgs false
set_option linter.unusedVariables false
namespace Go.Proofs.YtmpngoejnmlmbaaGreat
open Go.RowKit Go.Maps

theorem kInt : Keyed Tryz.prog 3 := int_keyed (q := .i64) Tryz.underlying3
theorem zBool (w : World) : (zeroValue 4).run Tryz.prog w = .ok (.bool false) w := by kernel_rfl

theorem plainElem_bool_inv {P : Program} {e : TypeId} (he : P.underlying e = some .bool) {v : Value} {z : DataW Unit × List MemPlace} (h : plainElem P e v = some z) : ∃ a, v = .bool a ∧ z = (.lit (.bool a), []) := by
  unfold plainElem at h
  rw [he] at h
  cases v <;> simp at h
  exact ⟨_, rfl, h.symm⟩

def Seen (w : World) (b n : Nat) (l : List Int) : Prop :=
  ∃ D : DataW Unit, w.ownsMap Tryz.prog 3 (plainElem Tryz.prog 4) b n D ∧ ∀ x, I64 x → D.atKey (.int .i64 x) (.lit (.bool false)) = .lit (.bool (decide (x ∈ l)))

theorem i64_wf {x : Int} (h : I64 x) : (Lit.int .i64 x).wf = true := WalkArith.wf_i64 (by unfold I64 at h; omega)

theorem Seen.made (w : World) : Seen (w.alloc (.map #[] 0)) w.heap.size 0 [] :=
  ⟨.map [], World.ownsMap_made _ _ _ _, fun x _ => by simp [DataW.atKey]⟩
theorem Seen.kept {w w' : World} {row : Option Nat} {b n : Nat} {l : List Int} (h : Seen w b n l) (hg : w.grownBy w' row) (hne : some b ≠ row) : Seen w' b n l := by
  obtain ⟨D, ho, hd⟩ := h; exact ⟨D, ho.kept hg hne, hd⟩
theorem Seen.below {w w' : World} {b n : Nat} {l : List Int} (h : Seen w b n l) (hb : Below w.heap.size w w') : Seen w' b n l :=
  h.kept (row := none) ⟨hb.os, hb.tape, hb.output, hb.size, fun i hi _ => hb.block i hi⟩ (by simp)
theorem Seen.lt {w : World} {b n : Nat} {l : List Int} (h : Seen w b n l) : b < w.heap.size := by obtain ⟨D, ho, _⟩ := h; exact ho.lt

theorem Seen.look {w : World} {b n : Nat} {l : List Int} (h : Seen w b n l) {x : Int} (hx : I64 x) :
    (Instr.lookup 152 (.map (some b)) (.int .i64 x) false).run Tryz.prog w = .ok (.bool (decide (x ∈ l))) w := by
  obtain ⟨D, ho, hd⟩ := h
  obtain ⟨v, ps, hrun, hv⟩ := ho.lookup kInt Tryz.underlying152 (zBool w) (plainElem_bool Tryz.underlying4 false) (keyOf_int_mk (q := .i64) Tryz.underlying3 (i64_wf hx))
  rw [hd x hx] at hv
  obtain ⟨a, rfl, hz⟩ := plainElem_bool_inv Tryz.underlying4 hv
  simp only [Prod.mk.injEq, DataW.lit.injEq, Lit.bool.injEq] at hz
  rw [hrun, hz.1]

theorem wpList_seen {w : World} {ops : Array Oper} {rest : List Oper} {o : Oper} {a : Act} {Q : Exit → Act → World → Prop}
    (hg : o.guard = none) (m x v : Operand) (hop : o.op = Op.mapUpdate 152 m x v) (b n : Nat) (l : List Int) (hs : Seen w b n l) (y : Int) (hy : I64 y) (hn : n < maxLen)
    (hm : a.eval m = .map (some b)) (hx : a.eval x = .int .i64 y) (hv : a.eval v = .bool true)
    (hK : ∀ w', Seen w' b (n + 1) (y :: l) → w.grownBy w' (some b) → wpList Tryz.prog ops Q rest (a.put o.dst undef) w') : wpList Tryz.prog ops Q (o :: rest) a w := by
  obtain ⟨D, ho, hd⟩ := hs
  refine wpList_mapUpdate_own w hg m x v _ hop 3 4 kInt Tryz.underlying152 _ b n D hm ho hn _ _ (.int .i64 y) hx hv (keyOf_int_mk (q := .i64) Tryz.underlying3 (i64_wf hy)) (.lit (.bool true)) [] (plainElem_bool Tryz.underlying4 true) fun w' h1 h2 => hK w' ⟨_, h1, fun z hz => ?_⟩ h2
  by_cases e : z = y
  · subst e
    rw [atKey_put_same ho.isMap (by simp [WideAt.IsKeyLit])]; simp
  · rw [atKey_put_other (by simpa using e), hd z hz]; simp [e]

end Go.Proofs.YtmpngoejnmlmbaaGreat
