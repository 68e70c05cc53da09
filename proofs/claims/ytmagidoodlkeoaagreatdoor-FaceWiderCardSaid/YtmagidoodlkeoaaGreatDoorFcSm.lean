/-
  Whether two faces are equal: the law's Same.
-/
import Derived.Test.YtmagidoodlkeoaaGreatDoorFcK
import Derived.Laws.StructEq
set_option linter.unusedSimpArgs false
set_option linter.unusedVariables false
namespace Go.Proofs.YtmagidoodlkeoaaGreatDoor
open Go.RowKit

open Classical in
noncomputable def eqF (f g : Fc) : Bool := decide (f = g)
theorem eqF_self (f : Fc) : eqF f f = true := by simp [eqF]
theorem eqF_iff {f g : Fc} : eqF f g = true ↔ f = g := by simp [eqF]
theorem eqF_no {f g : Fc} (h : f ≠ g) : eqF f g = false := by simp [eqF, h]
theorem eqF_head {f g : Fc} (h : (decide (f.shape = g.shape) && decide (f.size = g.size) && decide (f.height = g.height) && decide (f.items.length = g.items.length)) = false) : eqF f g = false := by
  refine eqF_no fun e => ?_
  subst e
  simp at h
theorem eqF_item {f g : Fc} {k : Nat} (hf : k < f.items.length) (hg : k < g.items.length) (h : f.items[k] ≠ g.items[k]) : eqF f g = false := by
  refine eqF_no fun e => ?_
  subst e
  exact h rfl
theorem eqF_yes {f g : Fc} (h1 : f.shape = g.shape) (h2 : f.size = g.size) (h3 : f.height = g.height) (hl : f.items.length = g.items.length) {k : Nat} (hk : f.items.length ≤ k)
    (h : ∀ j (hj : j < f.items.length) (hj2 : j < g.items.length), j < k → f.items[j] = g.items[j]) : eqF f g = true := by
  rw [eqF_iff]
  obtain ⟨a, b, c, l⟩ := f
  obtain ⟨a', b', c', l'⟩ := g
  dsimp only at h1 h2 h3 hl hk h
  subst h1 h2 h3
  rw [show l = l' from List.ext_getElem hl fun j hj hj2 => h j hj hj2 (by omega)]

/-- Two items compared, field by field. -/
def eqI (x y : It) : Bool := (x.kind == y.kind) && (x.colour == y.colour) && (x.left == y.left) && (x.low == y.low) && (x.a == y.a) && (x.b == y.b) && ((SB x.text).toList == (SB y.text).toList)
theorem eqI_iff {x y : It} : eqI x y = true ↔ x = y := by
  obtain ⟨a, b, c, d, e, f, t⟩ := x
  obtain ⟨a', b', c', d', e', f', t'⟩ := y
  simp [eqI, SB_toList, and_assoc]
theorem eqItem (x y : It) (w : World) : (Op.equalIn 10000 66 (.agg #[.int .i64 x.kind, .int .i64 x.colour, .int .i64 x.left, .int .i64 x.low, .int .i64 x.a, .int .i64 x.b, .string (SB x.text)]) (.agg #[.int .i64 y.kind, .int .i64 y.colour, .int .i64 y.left, .int .i64 y.low, .int .i64 y.a, .int .i64 y.b, .string (SB y.text)])).run Tryz.prog w = .ok (eqI x y) w := by
  rw [run_equalIn_agg w 9999 66 _ _ (by kernel_rfl) (by kernel_rfl)]
  go_light
  unfold eqI
  simp [Program.fieldsOf, Tryz.underlying66, Op.eqFields, go_sem, Tryz.underlying3, Tryz.underlying9]
  (repeat' split) <;> simp_all

set_option maxHeartbeats 4000000 in
set_option maxRecDepth 100000 in
theorem same_calls (f g : Fc) (A A2 : Option Addr) (c c2 : Nat) (w : World) (hf : ItsOk w A f.items) (hg : ItsOk w A2 g.items) :
    Calls Tryz.prog 23 #[.agg #[.int .i64 f.shape, .int .i64 f.size, .int .i64 f.height, .slice A f.items.length c], .agg #[.int .i64 g.shape, .int .i64 g.size, .int .i64 g.height, .slice A2 g.items.length c2]] w fun e w' => e = .returned (.bool (eqF f g)) ∧ Below w.heap.size w w' := by
  have hn := hf.n
  have hb0 : Below w.heap.size w ((w.alloc (.cells #[.int .i64 f.shape, .int .i64 f.size, .int .i64 f.height, .slice A f.items.length c] 25)).alloc (.cells #[.int .i64 g.shape, .int .i64 g.size, .int .i64 g.height, .slice A2 g.items.length c2] 25)) := below_alloc' (below_alloc _ _) _
  have HB := hid hb0
  by_cases e1 : f.shape = g.shape
  case neg =>
    have HFIN := hid (eqF_head (f := f) (g := g) (by simp [e1]))
    have b1 : (f.shape != g.shape) = true := by simp; omega
    clear hf hg hb0 e1
    go_enter Tryz.func23, Tryz.ntmps23
    go_wp2_with fail
    go_ret
    exact ⟨retE (unhid HFIN), unhid HB⟩
  have b1 : (f.shape != g.shape) = false := by simp [e1]
  by_cases e2 : f.size = g.size
  case neg =>
    have HFIN := hid (eqF_head (f := f) (g := g) (by simp [e2]))
    have b2 : (f.size != g.size) = true := by simp; omega
    clear hf hg hb0 e2
    clear e1
    go_enter Tryz.func23, Tryz.ntmps23
    go_wp2_with fail
    go_ret
    exact ⟨retE (unhid HFIN), unhid HB⟩
  have b2 : (f.size != g.size) = false := by simp [e2]
  by_cases e3 : f.height = g.height
  case neg =>
    have HFIN := hid (eqF_head (f := f) (g := g) (by simp [e3]))
    have b3 : (f.height != g.height) = true := by simp; omega
    clear hf hg hb0 e3
    clear e1
    clear e2
    go_enter Tryz.func23, Tryz.ntmps23
    go_wp2_with fail
    go_ret
    exact ⟨retE (unhid HFIN), unhid HB⟩
  have b3 : (f.height != g.height) = false := by simp [e3]
  by_cases e4 : f.items.length = g.items.length
  case neg =>
    have HFIN := hid (eqF_head (f := f) (g := g) (by simp [e4]))
    have b4 : ((f.items.length : Int) != (g.items.length : Int)) = true := by simp; omega
    clear hf hg hb0 e4
    clear e1
    clear e2
    clear e3
    go_enter Tryz.func23, Tryz.ntmps23
    go_wp2_with fail
    go_ret
    exact ⟨retE (unhid HFIN), unhid HB⟩
  have HY := hid (fun (k : Nat) (hk : f.items.length ≤ k) => eqF_yes (k := k) e1 e2 e3 e4 hk)
  have HN := hid (fun (k : Nat) (h1 : k < f.items.length) (h2 : k < g.items.length) => eqF_item (f := f) (g := g) h1 h2)
  have b4 : ((f.items.length : Int) != (f.items.length : Int)) = false := by simp
  have E4 := hid e4
  have HF := hid (hf.below hb0)
  have HG := hid (hg.below hb0)
  rw [← e4] at HB ⊢
  clear hf hg hb0 e1 e2 e3 e4
  go_enter Tryz.func23, Tryz.ntmps23
  go_wp2_with fail
  rw [← unhid E4] at HF HG
  obtain ⟨W, hW⟩ : ∃ W, W = ((w.alloc (.cells #[.int .i64 f.shape, .int .i64 f.size, .int .i64 f.height, .slice A f.items.length c] 25)).alloc (.cells #[.int .i64 g.shape, .int .i64 g.size, .int .i64 g.height, .slice A2 f.items.length c2] 25)) := ⟨_, rfl⟩
  have q1 : W.heap[w.heap.size]? = some (.cells #[.int .i64 f.shape, .int .i64 f.size, .int .i64 f.height, .slice A f.items.length c] 25 (0, 0)) := by
    rw [hW, Below.heap_alloc _ _ _ (by simp)]; exact heap_alloc_new w _
  have q2 : W.heap[w.heap.size + 1]? = some (.cells #[.int .i64 g.shape, .int .i64 g.size, .int .i64 g.height, .slice A2 f.items.length c2] 25 (0, 0)) := by
    have h := heap_alloc_new (w.alloc (.cells #[.int .i64 f.shape, .int .i64 f.size, .int .i64 f.height, .slice A f.items.length c] 25)) (.cells #[.int .i64 g.shape, .int .i64 g.size, .int .i64 g.height, .slice A2 f.items.length c2] 25)
    rw [hW]; simpa using h
  have hs : w.heap.size + 1 < W.heap.size := by rw [hW]; simp
  rw [← hW] at HB HF HG ⊢
  clear hW
  have x3 := cell_of_row _ w.heap.size 3 _ _ _ q1
  have y3 := cell_of_row _ (w.heap.size + 1) 3 _ _ _ q2
  simp at x3 y3
  clear q1 q2
  obtain ⟨B, hBB⟩ : ∃ B, B = w.heap.size := ⟨_, rfl⟩
  rw [← hBB] at x3 y3 hs ⊢
  have HBB := hid hBB
  clear hBB
  go_loopw [5] (fun i wr => ∃ k : Nat, k ≤ f.items.length ∧ i = .int .i64 k ∧ (∀ j (hj : j < f.items.length) (hj2 : j < g.items.length), j < k → f.items[j] = g.items[j]) ∧ Below W.heap.size W wr) (fun i _ => f.items.length - (intOf i).toNat)
  case atStart => exact ⟨0, Nat.zero_le _, rfl, fun j _ _ h => absurd h (by omega), Below.refl _ _⟩
  case round =>
    obtain ⟨k, hk, rfl, hall, hbel⟩ := hrel
    have HALL := hid hall
    have HBL := hid hbel
    have d3 := (hbel.cell (p := ⟨B, 3, none⟩) (by simp; omega)).trans x3
    have f3 := (hbel.cell (p := ⟨B + 1, 3, none⟩) (by simp; omega)).trans y3
    clear hall x3 y3
    by_cases hlt : k < f.items.length
    · have hltg : k < g.items.length := by have := unhid E4; omega
      obtain ⟨b, off, rfl, hb, hc⟩ := ((unhid HF).below hbel).rd (its_ne hlt)
      obtain ⟨b2, off2, rfl, hb2, hc2⟩ := ((unhid HG).below hbel).rd (its_ne hltg)
      obtain ⟨c0, c1, c2, c3, c4, c5, c6⟩ := its_cells hc hlt
      obtain ⟨p0, p1, p2, p3, p4, p5, p6⟩ := its_cells hc2 hltg
      clear hc hc2 hbel
      have HNN := hid ((unhid HN) k hlt hltg)
      generalize hx : f.items[k] = x at *
      generalize hy : g.items[k] = y at *
      have HXY := hid (And.intro hx hy)
      clear hx hy
      have hq := fun W => eqItem x y W
      have HQI := hid (eqI_iff (x := x) (y := y))
      generalize eqI x y = q at *
      cases q with
      | true =>
        go_wp2_with fail
        go_quiet (fail)
        go_wp2_with fail
        go_roundw
        case rel => exact ⟨k + 1, by omega, by go_num, fun j hj hj2 hjk => by
          by_cases e : j = k
          · subst e; rw [(unhid HXY).1, (unhid HXY).2]; exact (unhid HQI).1 (by simp)
          · exact (unhid HALL) j hj hj2 (by omega), by first | exact below_drewN' (unhid HBL) _ | exact Below.drew (unhid HBL)⟩
        case measure => simp [intOf]; omega
      | false =>
        go_wp2_with fail
        go_quiet (fail)
        go_wp2_with fail
        go_ret
        exact ⟨retE ((unhid HNN) fun h => by have := (unhid HQI).2 h; cases this), by have hbw := unhid HB; rw [unhid HBB] at *; exact hbw.trans ((below_drewN' (unhid HBL) _).mono (by have := hbw.size; omega))⟩
    · have HY1 := hid ((unhid HY) k (by omega) (unhid HALL))
      go_wp2_with fail
      go_ret
      exact ⟨retE (unhid HY1), by have hbw := unhid HB; exact hbw.trans ((unhid HBL).mono (by have := hbw.size; omega))⟩

end Go.Proofs.YtmagidoodlkeoaaGreatDoor
