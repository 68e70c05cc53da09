/-
  The events of a topic along a row: package rule's events.
-/
import Derived.Test.YtmpngoejnmlmbaaGreatReach
set_option linter.unusedSimpArgs false
set_option linter.unusedVariables false
namespace Go.Proofs.YtmpngoejnmlmbaaGreat
open Go.RowKit

def evC (e : Int × Int) : List Value := [.int .i64 e.1, .int .i64 e.2]
def evs (l : List (Int × Int)) : List Value := l.flatMap evC

/-- The state of events: block B is the line's, B + 1 the list's variable, B + 2 the end's. -/
structure EvSt (w : World) (B : Nat) (lv : Array Value) (out : List (Int × Int)) (e : Int) : Prop where
  line : w.heap[B]? = some (.cells lv 24 (0, 0))
  endc : w.heap[B + 2]? = some (.cells #[.int .i64 e] 3 (0, 0))
  outc : ∃ A c, w.heap[B + 1]? = some (.cells #[.slice A out.length c] 100 (0, 0)) ∧ w.ownsRow (B + 3) 129 2 (.slice A out.length c) out.length (evs out)

theorem EvSt.lt {w : World} {B : Nat} {lv : Array Value} {out : List (Int × Int)} {e : Int} (h : EvSt w B lv out e) : B + 2 < w.heap.size := (Array.getElem?_eq_some_iff.1 h.endc).1

theorem EvSt.below {w w' : World} {B : Nat} {lv : Array Value} {out : List (Int × Int)} {e : Int} (h : EvSt w B lv out e) (hb : Below w.heap.size w w') : EvSt w' B lv out e := by
  have hlt := h.lt
  obtain ⟨A, c, h1, h2⟩ := h.outc
  refine ⟨(hb.block _ (by omega)).trans h.line, (hb.block _ (by omega)).trans h.endc, A, c, (hb.block _ (by omega)).trans h1, ?_⟩
  exact h2.kept (row := none) ⟨hb.os, hb.tape, hb.output, hb.size, fun i hi _ => hb.block i hi⟩ (by cases h : (Value.slice A out.length c).ownBlock <;> simp)

theorem own_below {w w' : World} {base e size n : Nat} {v : Value} {xs : List Value} (h : w.ownsRow base e size v n xs) (hb : Below w.heap.size w w') : w'.ownsRow base e size v n xs :=
  h.kept (row := none) ⟨hb.os, hb.tape, hb.output, hb.size, fun i hi _ => hb.block i hi⟩ (by cases h : v.ownBlock <;> simp)
theorem own_set {w : World} {base e size n : Nat} {v : Value} {xs : List Value} (h : w.ownsRow base e size v n xs) {g : Nat} (hg : g < base) (i : Nat) (u : Value) : (w.setCell ⟨g, i, none⟩ u).ownsRow base e size v n xs :=
  ownsRow_setCell_below h (a := ⟨g, i, none⟩) hg u
theorem block_set_same {w : World} {g : Nat} {cs : Array Value} {t : TypeId} (h : w.heap[g]? = some (.cells cs t (0, 0))) (i : Nat) (u : Value) : (w.setCell ⟨g, i, none⟩ u).heap[g]? = some (.cells (cs.setIfInBounds i u) t (0, 0)) := by
  simp [World.setCell, Array.getElem?_modify, h]
theorem block_set_other {w : World} {g k : Nat} (i : Nat) (u : Value) (h : k ≠ g) : (w.setCell ⟨g, i, none⟩ u).heap[k]? = w.heap[k]? := Below.heap_setCell _ _ _ _ h

theorem info_event : (Tryz.prog.info? 129).map (fun i => (i.zero, i.size, i.bytes)) = some (some (.agg #[.int .i64 0, .int .i64 0]), 2, 16) := by kernel_rfl

/-- Which blocks the state's own steps leave as they are. -/
def EvFrame (w w' : World) (B : Nat) (out : List (Int × Int)) : Prop :=
  ∀ k, k < w.heap.size → k ≠ B + 1 → k ≠ B + 2 → (∀ A c, w.heap[B + 1]? = some (.cells #[.slice A out.length c] 100 (0, 0)) → (Value.slice A out.length c).ownBlock ≠ some k) → w'.heap[k]? = w.heap[k]?

/-- What stop does. -/
def stopP (out : List (Int × Int)) (e far : Int) : List (Int × Int) × Int := if 0 ≤ e ∧ e ≤ far then (out ++ [(e, 0)], -1) else (out, e)

set_option maxHeartbeats 2000000 in
set_option maxRecDepth 100000 in
theorem stop_calls (far e : Int) (out : List (Int × Int)) (B : Nat) (lv : Array Value) (w : World) (h : EvSt w B lv out e) (hn : out.length ≤ 1000000000000) :
    Calls Tryz.prog 92 #[.int .i64 far, .pointer (some ⟨B + 2, 0, none⟩), .pointer (some ⟨B + 1, 0, none⟩)] w fun e' w' =>
      e' = .returned (.tuple #[]) ∧ EvSt w' B lv (stopP out e far).1 (stopP out e far).2 ∧ Below B w w' ∧ EvFrame w w' B out := by
  have hlt := h.lt
  obtain ⟨A, c, h1, h2⟩ := h.outc
  have ce := cell_of_one h.endc
  have fe := free_of_one h.endc
  have co := cell_of_one h1
  have fo := free_of_one h1
  have HH := hid h
  have HO := hid h2
  clear h h2
  obtain ⟨i0, hi, hz0, hz1, hz2⟩ := info_parts info_event
  by_cases hc : 0 ≤ e ∧ e ≤ far
  · obtain ⟨hc1, hc2⟩ := hc
    have HS := hid (show stopP out e far = (out ++ [(e, 0)], -1) from if_pos ⟨hc1, hc2⟩)
    go_enter Tryz.func92, Tryz.ntmps92
    go_wp2_with (at_builtin; refine wpList_append_own _ rfl _ _ 100 rfl (B + 3) 129 i0 (.agg #[.int .i64 0, .int .i64 0]) 2 16 Tryz.underlying100 hi hz0 hz1 hz2 rfl (by decide) _ _ _ rfl ((unhid HO).alloc _) ⟨w.heap.size, 0, none⟩ 1 1 [.int .i64 e, .int .i64 0] rfl rfl ?c1 ?c2 ?c3 ?c4 ?c5 ?_)
    case c1 =>
      intro j u hj
      match j, hj with
      | 0, hj => simp at hj; subst hj; simp [Addr.add, go_sem]
      | 1, hj => simp at hj; subst hj; simp [Addr.add, go_sem]
    case c2 => intro u hu; simp at hu; rcases hu with rfl | rfl <;> rfl
    case c3 => unfold maxLen; omega
    case c4 => omega
    case c5 => simp; omega
    intro v' w3 hown3 hg3 _
    obtain ⟨A3, c3, hv3, -⟩ := own_slice hown3
    subst hv3
    have hsz3 := hg3.size
    simp at hsz3
    have hb3 : Below w.heap.size w w3 ∨ True := Or.inr trivial
    have bk : ∀ k, k < B + 3 → w3.heap[k]? = w.heap[k]? := fun k hk => by
      rw [hg3.block k (by simp; omega) (by intro e'; exact own_ne (unhid HO) (g := k) (Or.inl hk) e'.symm)]
      exact Below.heap_alloc _ _ _ (by omega)
    have ce3 : w3.cell? ⟨B + 2, 0, none⟩ = some (.int .i64 e) := cell_of_one ((bk (B + 2) (by omega)).trans (unhid HH).endc)
    have fe3 : w3.frozen? ⟨B + 2, 0, none⟩ = false := free_of_one ((bk (B + 2) (by omega)).trans (unhid HH).endc)
    have co3 := cell_of_one ((bk (B + 1) (by omega)).trans h1)
    have fo3 := free_of_one ((bk (B + 1) (by omega)).trans h1)
    have HB := hid bk
    have HO3 := hid hown3
    have HG := hid hg3
    clear bk hown3 hg3 hb3
    go_wp2_with fail
    go_end0
    rw [unhid HS]
    have e1 : (w3.setCell ⟨B + 1, 0, none⟩ (.slice A3 (out.length + 1) c3)).heap[B + 2]? = some (.cells #[.int .i64 e] 3 (0, 0)) := by
      rw [block_set_other _ _ (by omega), unhid HB _ (by omega)]; exact (unhid HH).endc
    have e2 : w3.heap[B + 1]? = some (.cells #[.slice A out.length c] 100 (0, 0)) := (unhid HB _ (by omega)).trans h1
    refine ⟨rfl, ⟨?_, ?_, A3, c3, ?_, ?_⟩, ?_, ?_⟩
    · rw [block_set_other _ _ (by omega), block_set_other _ _ (by omega), unhid HB _ (by omega)]; exact (unhid HH).line
    · exact block_set_same e1 0 _
    · rw [block_set_other _ _ (by omega), show (out ++ [((e : Int), (0 : Int))]).length = out.length + 1 from by simp]
      exact block_set_same e2 0 _
    · have h5 := own_set (own_set (unhid HO3) (g := B + 1) (by omega) 0 (.slice A3 (out.length + 1) c3)) (g := B + 2) (by omega) 0 (.int .i64 (-1))
      rw [show (out ++ [((e : Int), (0 : Int))]).length = out.length + 1 from by simp, show evs (out ++ [((e : Int), (0 : Int))]) = evs out ++ [.int .i64 e, .int .i64 0] from by simp [evs, evC]]
      exact h5
    · refine Below.setCell (Below.setCell (Below.grown ((Below.refl B w).alloc (by omega) _) (unhid HG) (by simp; omega) (fun i hi => ?_)) (by simp) _) (by simp) _
      rcases Nat.lt_or_ge i (B + 3) with h | h
      · exact absurd hi (own_ne (unhid HO) (Or.inl h))
      · omega
    · intro k hk k1 k2 k3
      rw [block_set_other _ _ k2, block_set_other _ _ k1, (unhid HG).block k (by simp; omega) (fun e' => k3 A c h1 e'.symm)]
      exact Below.heap_alloc _ _ _ hk
  · have HS := hid (show stopP out e far = (out, e) from if_neg hc)
    have hc' : 0 ≤ e → far < e := fun h => by omega
    clear hc
    go_enter Tryz.func92, Tryz.ntmps92
    go_wp2_with fail
    all_goals (go_end0; rw [unhid HS]; exact ⟨rfl, unhid HH, Below.refl _ _, fun k _ _ _ _ => rfl⟩)

theorem EvSt.bk {w w3 : World} {B : Nat} {lv : Array Value} {out : List (Int × Int)} {e : Int} {A : Option Addr} {c : Nat} {o : Obj} (h : EvSt w B lv out e)
    (h2 : w.ownsRow (B + 3) 129 2 (.slice A out.length c) out.length (evs out)) (hg : (w.alloc o).grownBy w3 (Value.slice A out.length c).ownBlock) : ∀ k, k < B + 3 → w3.heap[k]? = w.heap[k]? := fun k hk => by
  have hlt := h.lt
  rw [hg.block k (by simp; omega) (by intro e'; exact own_ne h2 (g := k) (Or.inl hk) e'.symm)]
  exact Below.heap_alloc _ _ _ (by omega)
theorem EvSt.push {w w3 : World} {B : Nat} {lv : Array Value} {out : List (Int × Int)} {e f v : Int} {A : Option Addr} {c : Nat} {A3 : Option Addr} {c3 : Nat} {o : Obj} (h : EvSt w B lv out e)
    (h1 : w.heap[B + 1]? = some (.cells #[.slice A out.length c] 100 (0, 0))) (h2 : w.ownsRow (B + 3) 129 2 (.slice A out.length c) out.length (evs out))
    (hown : w3.ownsRow (B + 3) 129 2 (.slice A3 (out.length + 1) c3) (out.length + 1) (evs out ++ [.int .i64 f, .int .i64 v])) (hg : (w.alloc o).grownBy w3 (Value.slice A out.length c).ownBlock) :
    EvSt (w3.setCell ⟨B + 1, 0, none⟩ (.slice A3 (out.length + 1) c3)) B lv (out ++ [(f, v)]) e ∧ Below B w (w3.setCell ⟨B + 1, 0, none⟩ (.slice A3 (out.length + 1) c3)) := by
  have hlt := h.lt
  have bk : ∀ k, k < B + 3 → w3.heap[k]? = w.heap[k]? := fun k hk => by
    rw [hg.block k (by simp; omega) (by intro e'; exact own_ne h2 (g := k) (Or.inl hk) e'.symm)]
    exact Below.heap_alloc _ _ _ (by omega)
  refine ⟨⟨?_, ?_, A3, c3, ?_, ?_⟩, ?_⟩
  · rw [block_set_other _ _ (by omega), bk _ (by omega)]; exact h.line
  · rw [block_set_other _ _ (by omega), bk _ (by omega)]; exact h.endc
  · rw [show (out ++ [((f : Int), (v : Int))]).length = out.length + 1 from by simp]
    exact block_set_same ((bk _ (by omega)).trans h1) 0 _
  · rw [show (out ++ [((f : Int), (v : Int))]).length = out.length + 1 from by simp, show evs (out ++ [((f : Int), (v : Int))]) = evs out ++ [.int .i64 f, .int .i64 v] from by simp [evs, evC]]
    exact own_set hown (g := B + 1) (by omega) 0 _
  · refine Below.setCell (Below.grown ((Below.refl B w).alloc (by omega) _) hg (by simp; omega) (fun i hi => ?_)) (by simp) _
    rcases Nat.lt_or_ge i (B + 3) with h | h
    · exact absurd hi (own_ne h2 (Or.inl h))
    · omega

theorem EvSt.endSet {w : World} {B : Nat} {lv : Array Value} {out : List (Int × Int)} {e : Int} (h : EvSt w B lv out e) (x : Int) : EvSt (w.setCell ⟨B + 2, 0, none⟩ (.int .i64 x)) B lv out x ∧ Below B w (w.setCell ⟨B + 2, 0, none⟩ (.int .i64 x)) := by
  obtain ⟨A, c, h1, h2⟩ := h.outc
  refine ⟨⟨?_, block_set_same h.endc 0 _, A, c, ?_, own_set h2 (g := B + 2) (by omega) 0 _⟩, Below.setCell (Below.refl B w) (by simp) _⟩
  · rw [block_set_other _ _ (by omega)]; exact h.line
  · rw [block_set_other _ _ (by omega)]; exact h1

/-- One sign of the row. -/
def evStep (len : Int) (js : List Int) (R : List Mt) (dir topic : Int) (st : List (Int × Int) × Int) (i : Nat) : List (Int × Int) × Int :=
  match R[i]? with
  | none => st
  | some m => match saysP m.s topic with
    | none => st
    | some v => ((stopP st.1 st.2 m.far).1 ++ [(m.far, v)], if v = 0 then -1 else reachP len js R i dir)
def evRun (len : Int) (js : List Int) (R : List Mt) (dir topic : Int) (n : Nat) : List (Int × Int) × Int := (List.range n).foldl (evStep len js R dir topic) ([], -1)
def eventsP (len : Int) (js : List Int) (R : List Mt) (dir topic : Int) : List (Int × Int) := (stopP (evRun len js R dir topic R.length).1 (evRun len js R dir topic R.length).2 len).1
theorem evRun_succ (len : Int) (js : List Int) (R : List Mt) (dir topic : Int) (n : Nat) : evRun len js R dir topic (n + 1) = evStep len js R dir topic (evRun len js R dir topic n) n := by
  rw [evRun, List.range_succ, List.foldl_append]; rfl
theorem stopP_len (out : List (Int × Int)) (e far : Int) : (stopP out e far).1.length ≤ out.length + 1 := by unfold stopP; split <;> simp
theorem evRun_len (len : Int) (js : List Int) (R : List Mt) (dir topic : Int) (n : Nat) : (evRun len js R dir topic n).1.length ≤ 2 * n := by
  induction n with
  | zero => simp [evRun]
  | succ n ih =>
    rw [evRun_succ, evStep]
    split
    · omega
    · rename_i m _
      split
      · omega
      · have := stopP_len (evRun len js R dir topic n).1 (evRun len js R dir topic n).2 m.far
        simp; omega

end Go.Proofs.YtmpngoejnmlmbaaGreat
