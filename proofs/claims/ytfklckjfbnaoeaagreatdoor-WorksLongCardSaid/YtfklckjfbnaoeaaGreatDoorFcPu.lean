/-
  Lengths of cuts and splits; the two structs that readItem fills.
-/
import Derived.Test.YtfklckjfbnaoeaaGreatDoorFcPf
import Derived.Laws.ResultCell
set_option linter.unusedSimpArgs false
set_option linter.unusedVariables false
namespace Go.Proofs.YtfklckjfbnaoeaaGreatDoor
open Go.RowKit

theorem cut_len (s sep : List UInt8) : (Lib.cut s sep).1.length + (Lib.cut s sep).2.1.length ≤ s.length := by
  unfold Lib.cut
  split
  · simp only [List.length_take, List.length_drop]; omega
  · simp
theorem splitK_words (sep : List UInt8) : ∀ (k : Nat) (s : List UInt8), ∀ x ∈ Lib.splitK sep 0 k s, x.length ≤ s.length
  | 0, s, x, hx => by simp [Lib.splitK] at hx; subst hx; exact Nat.le_refl _
  | k + 1, s, x, hx => by
    unfold Lib.splitK at hx
    split at hx
    · simp at hx; subst hx; exact Nat.le_refl _
    · rcases List.mem_cons.1 hx with rfl | hx
      · simp only [List.length_take]; omega
      · have := splitK_words sep k _ x hx
        simp only [List.length_drop] at this; omega
theorem splitK_len (sep : List UInt8) : ∀ (k : Nat) (s : List UInt8), 1 ≤ (Lib.splitK sep 0 k s).length ∧ (Lib.splitK sep 0 k s).length ≤ k + 1
  | 0, s => by simp [Lib.splitK]
  | k + 1, s => by
    unfold Lib.splitK
    split
    · simp
    · have := splitK_len sep k (s.drop ((Lib.index s sep).toNat + sep.length))
      simp only [List.length_cons]; omega
theorem split_word {s sep x : List UInt8} (h : x ∈ Lib.split s sep) : x.length ≤ s.length := splitK_words sep _ s x h
theorem split_len (s sep : List UInt8) : 1 ≤ (Lib.split s sep).length ∧ (Lib.split s sep).length ≤ s.length + 2 := by
  have h := splitK_len sep (Lib.count s sep) s
  have := Lib.count_le s sep
  exact ⟨h.1, Nat.le_trans h.2 (by omega)⟩

/-- The rest of the reading, behind a place. -/
def tailR (k c : Int) (t : List UInt8) (l o : Int) (m : Nat) (x y : List UInt8) : Option It :=
  if 2 < m then none else some ⟨k, c, l, o, if 0 < m then numP x else 0, if 1 < m then numP y else 0, t⟩
theorem getD_take (r : List (List UInt8)) (m j : Nat) (h : j < m) : (r.take m).getD j [] = r.getD j [] := by
  rw [List.getD_eq_getElem?_getD, List.getD_eq_getElem?_getD, List.getElem?_take_of_lt h]
theorem readNs_eq (k c : Int) (t : List UInt8) (r : List (List UInt8)) : readNs k c t r = if 3 ≤ r.length ∧ r.getD (r.length - 3) [] = [97, 116] then tailR k c t (numP (r.getD (r.length - 2) [])) (numP (r.getD (r.length - 1) [])) (r.length - 3) (r.getD 0 []) (r.getD 1 []) else tailR k c t 0 0 r.length (r.getD 0 []) (r.getD 1 []) := by
  unfold readNs
  by_cases h : 3 ≤ r.length ∧ r.getD (r.length - 3) [] = [97, 116]
  · rw [if_pos h, if_pos h]
    unfold tailR
    have e : (r.take (r.length - 3)).length = r.length - 3 := by rw [List.length_take]; omega
    dsimp only
    rw [e]
    by_cases h1 : 0 < r.length - 3
    · rw [getD_take r _ 0 h1]
      by_cases h2 : 1 < r.length - 3
      · rw [getD_take r _ 1 h2]
      · rw [if_neg h2, if_neg h2]
    · have h2 : ¬ 1 < r.length - 3 := by omega
      rw [if_neg h1, if_neg h1, if_neg h2, if_neg h2]
  · rw [if_neg h, if_neg h]
    rfl

/-- An item as an array of cells. -/
def xi (k c l o a b : Int) (t : List UInt8) : Array Value := #[.int .i64 k, .int .i64 c, .int .i64 l, .int .i64 o, .int .i64 a, .int .i64 b, .string (SB t)]

theorem xi_one (k c l o a b : Int) (t : List UInt8) : (xi k c l o a b t).all (·.oneCell') = true := by simp [xi, Value.oneCell']
theorem xi_size (k c l o a b : Int) (t : List UInt8) : (Tryz.prog.info? 320).map (·.size) = some (xi k c l o a b t).size := by
  show _ = some 7
  kernel_rfl

theorem rdNew0 (w : World) (cs : List Value) (t : TypeId) : Rd (w.alloc (.cells cs.toArray t)) (some ⟨w.heap.size, 0, none⟩) cs := fun _ => by
  refine ⟨w.heap.size, 0, rfl, by simp, fun j u hj => ?_⟩
  rw [World.cell?_alloc_new]
  simpa using hj

/-- The result's block B holds zeros, the block behind it an item in the making; what lay below has not turned. -/
structure XI (w : World) (B : Nat) (wr : World) (vs : Array Value) : Prop where
  hB : B = w.heap.size
  res : wr.heap[B]? = some (.cells (xi 0 0 0 0 0 0 []) 320 (0, 0))
  x : wr.heap[B + 1]? = some (.cells vs 320 (0, 0))
  below : Below w.heap.size w wr

theorem XI.size {w wr : World} {B : Nat} {vs : Array Value} (h : XI w B wr vs) : B + 1 < wr.heap.size := (Array.getElem?_eq_some_iff.1 h.x).1
theorem XI.after {w wr wr' : World} {B : Nat} {vs : Array Value} (h : XI w B wr vs) (hb : Below wr.heap.size wr wr') : XI w B wr' vs :=
  ⟨h.hB, (hb.block B (Nat.lt_of_succ_lt h.size)).trans h.res, (hb.block (B + 1) h.size).trans h.x, h.below.trans (hb.mono h.below.size)⟩
theorem XI.set {w wr : World} {B : Nat} {vs : Array Value} (h : XI w B wr vs) (i : Nat) (v : Value) : XI w B (wr.setCell ⟨B + 1, i, none⟩ v) (vs.setIfInBounds i v) :=
  ⟨h.hB, (heap_setCell_other _ _ _ _ (by simp)).trans h.res, heap_setCell_same _ _ _ _ _ _ h.x, Below.setCell h.below (by rw [h.hB]; simp) v⟩
theorem XI.cell {w wr : World} {B : Nat} {vs : Array Value} (h : XI w B wr vs) (i : Nat) : wr.cell? ⟨B + 1, i, none⟩ = vs[i]? := cell_of_row _ _ _ _ _ _ h.x
theorem XI.cellB {w wr : World} {B : Nat} {vs : Array Value} (h : XI w B wr vs) (i : Nat) : wr.cell? ⟨B, i, none⟩ = (xi 0 0 0 0 0 0 [])[i]? := cell_of_row _ _ _ _ _ _ h.res
theorem XI.frozen {w wr : World} {B : Nat} {vs : Array Value} (h : XI w B wr vs) (i : Nat) : wr.frozen? ⟨B + 1, i, none⟩ = false := frozen_of_row _ _ _ _ _ h.x

theorem XI.done {w wr : World} {B : Nat} {vs : Array Value} (h : XI w B wr vs) (us : Array Value) (i : Nat) : (wr.setRow B us).cell? ⟨B, i, none⟩ = us[i]? := cell_of_row _ _ _ _ _ _ (setRow_heap _ _ _ _ _ _ h.res)
theorem XI.doneB {w wr : World} {B : Nat} {vs : Array Value} (h : XI w B wr vs) (us : Array Value) : Below w.heap.size w (wr.setRow B us) := below_setRow h.below (by rw [h.hB]; exact Nat.le_refl _) us
theorem results_cell_row_tmp {P : Program} {fn : Func} {p u : Tmp} {ty : TypeId} (h : fn.results = #[.cell p ty, .tmp u]) (tmps : Array Value) (w : World) (g : Nat) (t : TypeId) (cs : Array Value) (fr : Nat × Nat) (d : TypeDesc) (v : Value)
    (hp : tmps.getD p undef = .pointer (some ⟨g, 0, none⟩)) (hv : tmps.getD u undef = v) (hg : w.heap[g]? = some (.cells cs t fr))
    (hu : P.underlying ty = some d) (hd : (match d with | .struct _ | .array _ _ => true | _ => false) = true) (hi : (P.info? ty).map (·.size) = some cs.size) :
    (results fn tmps).run P w = .ok (.tuple #[.agg cs, v]) w := by
  rw [results_cell_tmp h, hp, hv]
  simp [asAddr, Result.andThen, run_loadVar_row w g t ty cs fr d hg hu hd hi]
theorem XI.doneH {w wr : World} {B : Nat} {vs : Array Value} (h : XI w B wr vs) (us : Array Value) : (wr.setRow B us).heap[B]? = some (.cells us 320 (0, 0)) := setRow_heap _ _ _ _ _ _ h.res
theorem xi_start (w : World) : XI w w.heap.size ((w.alloc (.cells (xi 0 0 0 0 0 0 []) 320)).alloc (.cells (xi 0 0 0 0 0 0 []) 320)) (xi 0 0 0 0 0 0 []) := by
  refine ⟨rfl, ?_, ?_, below_alloc' (below_alloc _ _) _⟩
  · exact ((below_alloc _ _).block _ (by simp)).trans (heap_alloc_new _ _)
  · have h := heap_alloc_new (w.alloc (.cells (xi 0 0 0 0 0 0 []) 320)) (.cells (xi 0 0 0 0 0 0 []) 320)
    simp only [World.size_alloc] at h
    exact h

/-- What readItem answers. -/
def readR (s : List UInt8) (w : World) (e : Ending) (w' : World) : Prop :=
  Below w.heap.size w w' ∧ match readIt s with
    | none => ∃ (k c l o a b : Int) (t : List UInt8), e = .returned (.tuple #[.agg (xi k c l o a b t), .bool false])
    | some x => e = .returned (.tuple #[.agg (xi x.kind x.colour x.left x.low x.a x.b x.text), .bool true])
theorem readR_no {s : List UInt8} {w w' : World} {k c l o a b : Int} {t : List UInt8} (h : readIt s = none) (hb : Below w.heap.size w w') : readR s w (.returned (.tuple #[.agg (xi k c l o a b t), .bool false])) w' := by
  refine ⟨hb, ?_⟩
  rw [h]
  exact ⟨k, c, l, o, a, b, t, rfl⟩
theorem readR_yes {s : List UInt8} {w w' : World} {x : It} (h : readIt s = some x) (hb : Below w.heap.size w w') : readR s w (.returned (.tuple #[.agg (xi x.kind x.colour x.left x.low x.a x.b x.text), .bool true])) w' := by
  refine ⟨hb, ?_⟩
  rw [h]

end Go.Proofs.YtfklckjfbnaoeaaGreatDoor
