/-
  The dots of a box, one after the other; faces that look the same, in a mirror too. No program in sight. The range over the dots of a box: package face. A region that draws its order in a round of it. Equal of package face. Mirror of package face. Equal and Mirror of the reference's pictures. The range over the dots of a box, for a body that keeps one cell alone; the body of Trim: what is seen, in a map. Trim of package face. Trim of the reference.
-/
import Derived.Test.YtmagidoodlkeoaaGreatDoorFcPaint
import Derived.RangeFuncNested
import Derived.RangeFuncCalls
import Derived.RangeFuncLeaves
import Derived.Shelf.Abstract
import Derived.Shelf.RegionOpen
import Derived.Sort.BigQuietIn
import Derived.WalkKit
import Derived.OwnWalkIn
import Derived.TacticsInMore
import Derived.LoopNIn
import Derived.LoopIn
import Derived.Maps.OwnIn
import Derived.Test.YtmagidoodlkeoaaGreatDoorFcAt
import Derived.Test.YtmagidoodlkeoaaGreatDoorFcLw
import Derived.Maps.OwnSet
import Derived.Maps.Views
import Derived.Test.YtmagidoodlkeoaaGreatDoorFcPx
import Derived.Test.YtmagidoodlkeoaaGreatDoorFcRw
import Derived.Carry
import Derived.Test.YtmagidoodlkeoaaGreatDoorAnyE
set_option linter.unusedSimpArgs false
set_option linter.unusedVariables false
namespace Go.Proofs.YtmagidoodlkeoaaGreatDoor
open Go.RowKit

section
theorem fin_take {N n : Nat} (h : n < N) : (List.finRange N).take n ++ [⟨n, h⟩] = (List.finRange N).take (n + 1) := by
  have hl : n < (List.finRange N).length := by rw [List.length_finRange]; exact h
  rw [← List.take_append_getElem hl, List.getElem_finRange]
  rfl
theorem fin_all (N : Nat) : (List.finRange N).take N = List.finRange N := by
  rw [List.take_of_length_le (by rw [List.length_finRange]; exact Nat.le_refl _)]
theorem fin_take_len {N n : Nat} (h : n ≤ N) : ((List.finRange N).take n).length = n := by
  rw [List.length_take, List.length_finRange]; omega
theorem pix_lt {f : Fc} {n : Nat} (hn : n < numD f) : ((n % f.size.toNat : Nat) : Int) < f.size ∧ ((n / f.size.toNat : Nat) : Int) < heiF f := by
  obtain ⟨a, b⟩ := pix_in hn
  generalize n % f.size.toNat = x at *
  generalize n / f.size.toNat = y at *
  constructor <;> omega
theorem look_dots {f g : Fc} : lookB f g = true ↔ f.size = g.size ∧ heiF f = heiF g ∧ ∀ n, n < numD f → dotK f f.items.length n = dotK g g.items.length n := by
  simp only [lookB, decide_eq_true_eq]
  constructor
  · rintro ⟨h1, h2, h3⟩
    refine ⟨h1, h2, fun n hn => ?_⟩
    obtain ⟨a, b⟩ := pix_lt hn
    have h := h3 ((n % f.size.toNat : Nat) : Int) ((n / f.size.toNat : Nat) : Int) (Int.natCast_nonneg _) a (Int.natCast_nonneg _) b
    unfold dotK
    rw [← h1]
    exact h
  · rintro ⟨h1, h2, h3⟩
    refine ⟨h1, h2, fun i j i0 i1 j0 j1 => ?_⟩
    obtain ⟨n, hn, e, d, -⟩ := pix_int (f := f) ⟨i0, i1⟩ ⟨j0, j1⟩
    obtain ⟨m, hm, e', d', -⟩ := pix_int (f := g) ⟨i0, by omega⟩ ⟨j0, by omega⟩
    obtain rfl : n = m := by rw [← h1] at e'; omega
    rw [← d, ← d']
    exact h3 n hn
theorem mir_dots {f : Fc} : mirB f = true ↔ ∀ n, n < numD f → dotK f f.items.length n = colI f (f.size - 1 - ((n % f.size.toNat : Nat) : Int)) ((n / f.size.toNat : Nat) : Int) := by
  simp only [mirB, decide_eq_true_eq]
  constructor
  · intro h n hn
    obtain ⟨a, b⟩ := pix_lt hn
    exact h ((n % f.size.toNat : Nat) : Int) ((n / f.size.toNat : Nat) : Int) (Int.natCast_nonneg _) a (Int.natCast_nonneg _) b
  · intro h i j i0 i1 j0 j1
    obtain ⟨a, rfl⟩ := Int.eq_ofNat_of_zero_le i0
    obtain ⟨b, rfl⟩ := Int.eq_ofNat_of_zero_le j0
    have ha : a < f.size.toNat := by omega
    have hb : b < (heiF f).toNat := by omega
    obtain ⟨p1, p2, p3⟩ := pix_at ha hb
    have := h _ p1
    rw [colI_dot ha hb, p2, p3] at this
    exact this
theorem look_true {f g : Fc} (h1 : f.size = g.size) (h2 : heiF f = heiF g) (h3 : ∀ n, n < numD f → dotK f f.items.length n = dotK g g.items.length n) : lookB f g = true := look_dots.2 ⟨h1, h2, h3⟩
theorem look_false {f g : Fc} (h : ¬ (f.size = g.size ∧ heiF f = heiF g)) : lookB f g = false := by
  cases e : lookB f g with
  | false => rfl
  | true => exact absurd ⟨(look_dots.1 e).1, (look_dots.1 e).2.1⟩ h
theorem look_dot {f g : Fc} {n : Nat} (hn : n < numD f) (h : dotK f f.items.length n ≠ dotK g g.items.length n) : lookB f g = false := by
  cases e : lookB f g with
  | false => rfl
  | true => exact absurd ((look_dots.1 e).2.2 n hn) h
theorem mir_true {f : Fc} (h : ∀ n, n < numD f → dotK f f.items.length n = colI f (f.size - 1 - ((n % f.size.toNat : Nat) : Int)) ((n / f.size.toNat : Nat) : Int)) : mirB f = true := mir_dots.2 h
theorem mir_dot {f : Fc} {n : Nat} (hn : n < numD f) (h : dotK f f.items.length n ≠ colI f (f.size - 1 - ((n % f.size.toNat : Nat) : Int)) ((n / f.size.toNat : Nat) : Int)) : mirB f = false := by
  cases e : mirB f with
  | false => rfl
  | true => exact absurd (mir_dots.1 e n hn) h
end

section
open Go.RowKit Go.Shelf

attribute [local go_sem] Oper.semAt_some

/-- In a round every operation but a defer is carried out as everywhere. -/
theorem wpAnyIn_round {F : Fence} {l n : Nat} {P : Program} {md : Region.Mode} {ops : Array Oper} {Q : Exit → Act → World → Prop} (hd : ∀ (i : Nat) (o : Oper), ops[i]? = some o → ∀ c, o.op ≠ .defer c) :
    ∀ (fuel : Nat) (listed : Array Bool) (a : Act) (w : World), wpAnyIn F n P md ops Q fuel listed a w → wpAnyIn (F.inRound l) n P md ops Q fuel listed a w := by
  have hop : ∀ (i : Nat) (K K' : Act → World → Prop) (a : Act) (w : World), (∀ a w, K a w → K' a w) → wpOpIn F n P ops Q i K a w → wpOpIn (F.inRound l) n P ops Q i K' a w := by
    intro i K K' a w hk hh
    have hh := wpOpIn_mono hk hh
    unfold wpOpIn at *
    split
    · rename_i ho; simpa [ho] using hh
    · rename_i o ho
      simp only [ho] at hh
      split
      · rename_i hw
        simp only [hw, if_true] at hh
        unfold Oper.wpIn at *
        refine ⟨hh.1, ?_⟩
        have hp := hh.2
        rw [Oper.semAt_eq _ _ _ (hd i o ho)] at hp ⊢
        exact hp
      · rename_i hw
        simp only [hw] at hh
        exact hh
  intro fuel
  induction fuel with
  | zero => intro listed a w h; exact h
  | succ fuel ih =>
    intro listed a w h
    exact ⟨h.1, fun i hi => hop i _ _ a w (fun a' w' => ih _ a' w') (h.2 i hi)⟩
theorem defer_no {l : List Oper} (h : (l.all fun o => match o.op with | .defer _ => false | _ => true) = true) : ∀ (i : Nat) (o : Oper), l.toArray[i]? = some o → ∀ c, o.op ≠ .defer c := by
  intro i o ho c e
  have hm : o ∈ l := List.mem_of_getElem? (by simpa using ho)
  have := List.all_eq_true.1 h o hm
  rw [e] at this
  cases this
/-- A region in a round: its operations only read, its callees lay blocks of their own. -/
theorem wpIn_region_below {P : Program} {id l n : Nat} {Q : Exit → Act → World → Prop} {a : Act} {w : World} {ops : List Oper} (hm : P.follows .mixedOrders = true) (hB : Region.lexB .any ops.toArray = true)
    (hd : (ops.all fun o => match o.op with | .defer _ => false | _ => true) = true)
    (h : wpQuietIn Fence.wide n P ops.toArray (fun w' => ∃ p : After w, w' = p.w) (fun a' => ∀ w', (∃ p : After w, w' = p.w) → Q .normal a' w') ops a) : (Code.region id ops.toArray true).wpIn (Fence.wide.inRound l) n P Q a w := by
  simp only [Region.lexB, Bool.and_eq_true] at hB
  refine wpIn_region_any hm (wpAnyIn_round (defer_no hd) _ _ _ _ (wpAnyIn_of_quiet (C := fun w' => ∃ p : After w, w' = p.w) (Q := fun a' => ∀ w', (∃ p : After w, w' = p.w) → Q .normal a' w') rfl (fun _ w' hw' h => h w' hw') _ _ _ _ ⟨⟨w.drew, Below.drew (Below.refl _ _)⟩, rfl⟩ ?_))
  have := wpAnyQIn_lex (F := Fence.wide) (n := n) (C := fun w' => ∃ p : After w, w' = p.w) (md := .any) (Q := fun a' => ∀ w', (∃ p : After w, w' = p.w) → Q .normal a' w') hB.1 ops 0 (Array.replicate ops.toArray.size false) a (by simp) (by simpa using hB.2) h
  simpa using this

theorem wide_fn (k : FuncId) : Fence.wide.fn k = True := rfl

def pxI (W0 n : Nat) : Int := ((n % W0 : Nat) : Int)
def pxJ (W0 n : Nat) : Int := ((n / W0 : Nat) : Int)
def pxV (W0 n : Nat) : Array Value := #[.int .i64 (pxI W0 n), .int .i64 (pxJ W0 n)]

set_option maxHeartbeats 2000000 in
set_option maxRecDepth 100000 in
theorem dots1_in (F : Fence) (n : Nat) (hF : F.fn 105) (hro : F.round = none) (hn : 1 ≤ n) (l bh bw W0 H0 N n₀ : Nat) (hN : N = W0 * H0) (hw0 : 1 ≤ W0 ∧ W0 ≤ 1000) (hh0 : H0 ≤ 1000) (J Jx : List (Fin N) → World → Prop)
    (hY : ∀ pre x W, J pre W → pre.length < N → YieldAt F (n - 1) Tryz.prog l (pxV W0 x.val) W fun e W' =>
      (e = .returned (.bool true) ∧ J (pre ++ [x]) W' ∧ Below n₀ W W') ∨ (e = .returned (.bool false) ∧ Jx (pre ++ [x]) W'))
    (W : World) (hbh : W.cell? ⟨bh, 0, none⟩ = some (.int .i64 H0)) (hbw : W.cell? ⟨bw, 0, none⟩ = some (.int .i64 W0)) (hlt : bh < n₀ ∧ bw < n₀) (h0 : J [] W) :
    CallsIn F n Tryz.prog 105 #[.func (.yield l) #[] #[], .pointer (some ⟨bh, 0, none⟩), .pointer (some ⟨bw, 0, none⟩)] W fun e W' => (∃ v, e = .returned v) ∧
      ((∃ ys, ys = List.finRange N ∧ J ys W') ∨ (∃ pre, pre <+: List.finRange N ∧ Jx pre W')) := by
  refine callsIn_of_wp Tryz.func105 rfl hF ?_ hro
  simp only [Tryz.ntmps105, List.size_toArray, List.length_cons, List.length_nil, Nat.reduceAdd, Nat.reduceSub, Array.replicate_succ, Array.replicate_zero, List.push_toArray, List.append_toArray, List.nil_append, List.cons_append]
  have HY := hid hY
  have HBW := hid hbw
  clear hY hbw
  gi_wp2
  gi_loopw [7] (fun jv wr => ∃ j : Nat, j ≤ H0 ∧ jv = .int .i64 j ∧ J ((List.finRange N).take (j * W0)) wr ∧ Below n₀ W wr) (fun jv _ => H0 - (intOf jv).toNat)
  case atStart => exact ⟨0, Nat.zero_le _, rfl, by simpa using h0, Below.refl _ _⟩
  case round =>
    obtain ⟨j, hj, rfl, hJ, hbel⟩ := hrel
    by_cases hjl : j < H0
    · have hjh : (j : Int) < (H0 : Int) := by omega
      have hbw := (hbel.cell (p := ⟨bw, 0, none⟩) hlt.2).trans (unhid HBW)
      gi_wp2
      gi_loopw [11] (fun iv wr => ∃ i : Nat, i ≤ W0 ∧ iv = .int .i64 i ∧ J ((List.finRange N).take (j * W0 + i)) wr ∧ Below n₀ W wr) (fun iv _ => W0 - (intOf iv).toNat)
      case atStart => exact ⟨0, Nat.zero_le _, rfl, hJ, hbel⟩
      case round =>
        obtain ⟨i, hi, rfl, hJ2, hbel2⟩ := hrel
        by_cases hil : i < W0
        · have hih : (i : Int) < (W0 : Int) := by omega
          have hx : j * W0 + i < N := by
            have h1 : j * W0 + W0 ≤ H0 * W0 := by rw [← Nat.succ_mul]; exact Nat.mul_le_mul_right _ hjl
            rw [hN, Nat.mul_comm W0 H0]
            omega
          have e1 : (j * W0 + i) % W0 = i := by rw [Nat.add_comm, Nat.add_mul_mod_self_right, Nat.mod_eq_of_lt hil]
          have e2 : (j * W0 + i) / W0 = j := by rw [Nat.add_comm, Nat.add_mul_div_right _ _ (by omega), Nat.div_eq_of_lt hil, Nat.zero_add]
          obtain ⟨fn, tmps, assign, body, hy, hR⟩ := (unhid HY) _ ⟨j * W0 + i, hx⟩ wr hJ2 (by rw [fin_take_len (by omega)]; exact hx)
          simp only [pxV, pxI, pxJ, e1, e2] at hy
          rw [fin_take hx] at hR
          gi_wp2
          refine hR.mono ?_
          rintro e W3 (⟨rfl, hJ3, hk3⟩ | ⟨rfl, hJx3⟩)
          · gi_wp2
            go_roundw
            case rel => exact ⟨i + 1, by omega, by go_num, by rw [← Nat.add_assoc]; exact hJ3, hbel2.trans hk3⟩
            case measure => simp [intOf]; omega
          · gi_wp2
            refine bodyPost_ret (results_none rfl _ _ _) rfl ?_
            exact ⟨⟨_, rfl⟩, .inr ⟨_, List.take_prefix _ _, hJx3⟩⟩
        · obtain rfl : i = W0 := by omega
          gi_wp2
          go_roundw
          case rel => exact ⟨j + 1, by omega, by go_num, by rw [Nat.succ_mul]; exact hJ2, hbel2⟩
          case measure => simp [intOf]; omega
    · obtain rfl : j = H0 := by omega
      gi_wp2
      go_end0
      have e : j * W0 = N := by rw [hN, Nat.mul_comm]
      rw [e, fin_all] at hJ
      exact ⟨⟨_, rfl⟩, .inl ⟨_, rfl, hJ⟩⟩

theorem dots_stops (F : Fence) (n : Nat) (hF : F.fn 105) (hro : F.round = none) (hn : 1 ≤ n) (bh bw W0 H0 N n₀ : Nat) (hN : N = W0 * H0) (hw0 : 1 ≤ W0 ∧ W0 ≤ 1000) (hh0 : H0 ≤ 1000) (w : World)
    (hn₀ : n₀ ≤ w.heap.size) (hbh : w.cell? ⟨bh, 0, none⟩ = some (.int .i64 H0)) (hbw : w.cell? ⟨bw, 0, none⟩ = some (.int .i64 W0)) (hlt : bh < n₀ ∧ bw < n₀) :
    SeqStopsK F n Tryz.prog 105 #[.pointer (some ⟨bh, 0, none⟩), .pointer (some ⟨bw, 0, none⟩)] (fun x : Fin N => pxV W0 x.val) (Below n₀) (fun ys => ys = List.finRange N) (fun pre => pre <+: List.finRange N) N w := fun l J Jx W hW _ _ hY h0 =>
  dots1_in F n hF hro hn l bh bw W0 H0 N n₀ hN hw0 hh0 J Jx hY W ((hW.cell (p := ⟨bh, 0, none⟩) (Nat.lt_of_lt_of_le hlt.1 hn₀)).trans hbh) ((hW.cell (p := ⟨bw, 0, none⟩) (Nat.lt_of_lt_of_le hlt.2 hn₀)).trans hbw) hlt h0

set_option maxHeartbeats 2000000 in
theorem pdots_calls (f : Fc) (A : Option Addr) (c : Nat) (w : World) (h0 : 0 ≤ f.size) (h1 : f.size ≤ 1000000000) :
    Calls Tryz.prog 85 #[.agg #[.int .i64 f.shape, .int .i64 f.size, .int .i64 f.height, .slice A f.items.length c]] w fun e w' => Below w.heap.size w w' ∧ ∃ bh bw : Nat, e = .returned (.func (.func 105) #[] #[.pointer (some ⟨bh, 0, none⟩), .pointer (some ⟨bw, 0, none⟩)]) ∧
      w'.cell? ⟨bh, 0, none⟩ = some (.int .i64 (heiF f)) ∧ w'.cell? ⟨bw, 0, none⟩ = some (.int .i64 f.size) ∧ bh < w'.heap.size ∧ bw < w'.heap.size := by
  have hbw1 := below_alloc w (.cells #[.int .i64 f.shape, .int .i64 f.size, .int .i64 f.height, .slice A f.items.length c] 25)
  go_enter Tryz.func85, Tryz.ntmps85
  go_wp2_with fail
  refine (extent_calls f A c _ h0 h1).mono ?_
  rintro e w1 ⟨rfl, hb⟩
  have HB := hid (hbw1.trans (hb.mono (by simp)))
  clear hb hbw1
  go_wp2_with fail
  go_ret
  have b1 := below_alloc w1 (.cells #[.int .i64 f.size] 3)
  have b2 := below_alloc (w1.alloc (.cells #[.int .i64 f.size] 3)) (.cells #[.int .i64 (heiF f)] 3)
  have n1 := heap_alloc_new w1 (.cells #[.int .i64 f.size] 3)
  have n2 := heap_alloc_new (w1.alloc (.cells #[.int .i64 f.size] 3)) (.cells #[.int .i64 (heiF f)] 3)
  have e1 : (w1.alloc (.cells #[.int .i64 f.size] 3)).heap.size = w1.heap.size + 1 := by simp
  rw [e1] at b2 n2
  have n3 := (b2.block w1.heap.size (by simp)).trans n1
  refine ⟨(unhid HB).trans ((below_alloc' b1 _).mono (unhid HB).size), w1.heap.size + 1, w1.heap.size, rfl, cell_of_row _ _ _ _ _ _ n2, cell_of_row _ _ _ _ _ _ n3, by simp, by simp; omega⟩
end

section
open Go.RowKit Go.Shelf

attribute [local go_sem] Oper.semAt_some wide_fn

theorem keepsOthers_below {W W' : World} (h : Below W.heap.size W W') : KeepsOthers W W' := ⟨h.size, fun k o hk _ => (h.block k (Array.getElem?_eq_some_iff.1 hk).1).trans hk⟩
theorem results_be {fn : Func} {p q : Tmp} (h : fn.results = #[.cell p 4, .cell q 26]) (tmps : Array Value) (w : World) (g k : Nat) (b : Bool) (n : Int)
    (hp : tmps.getD p undef = .pointer (some ⟨g, 0, none⟩)) (hq : tmps.getD q undef = .pointer (some ⟨k, 0, none⟩)) (cg : w.cell? ⟨g, 0, none⟩ = some (.bool b)) (ck : w.cell? ⟨k, 0, none⟩ = some (.int .i64 n)) :
    (results fn tmps).run Tryz.prog w = .ok (.tuple #[.bool b, .int .i64 n]) w := by
  simp only [Array.getD_eq_getD_getElem?] at hp hq
  simp [results, h, hp, hq, go_sem, cg, ck]

/-- Two cells of results. -/
structure BE (w : World) (R : Nat) (b : Bool) (n : Int) : Prop where
  b : w.heap[R]? = some (.cells #[.bool b] 4 (0, 0))
  n : w.heap[R + 1]? = some (.cells #[.int .i64 n] 26 (0, 0))
theorem BE.below {w w' : World} {R : Nat} {b : Bool} {n : Int} (h : BE w R b n) (hb : Below w.heap.size w w') : BE w' R b n :=
  ⟨(hb.block _ (Array.getElem?_eq_some_iff.1 h.b).1).trans h.b, (hb.block _ (Array.getElem?_eq_some_iff.1 h.n).1).trans h.n⟩
theorem BE.lt {w : World} {R : Nat} {b : Bool} {n : Int} (h : BE w R b n) : R + 1 < w.heap.size := (Array.getElem?_eq_some_iff.1 h.n).1
theorem BE.cells {w : World} {R : Nat} {b : Bool} {n : Int} (h : BE w R b n) : w.cell? ⟨R, 0, none⟩ = some (.bool b) ∧ w.cell? ⟨R + 1, 0, none⟩ = some (.int .i64 n) ∧ w.frozen? ⟨R, 0, none⟩ = false ∧ w.frozen? ⟨R + 1, 0, none⟩ = false :=
  ⟨cell_of_row _ _ _ _ _ _ h.b, cell_of_row _ _ _ _ _ _ h.n, by simp [World.frozen?, h.b], by simp [World.frozen?, h.n]⟩
theorem BE.set {w : World} {R : Nat} {b b' : Bool} {n n' : Int} (h : BE w R b n) : BE ((w.setCell ⟨R, 0, none⟩ (.bool b')).setCell ⟨R + 1, 0, none⟩ (.int .i64 n')) R b' n' := by
  have h1 : (w.setCell ⟨R, 0, none⟩ (.bool b')).heap[R]? = some (.cells #[.bool b'] 4 (0, 0)) := heap_setCell_same _ _ _ _ _ _ h.b
  have h2 : (w.setCell ⟨R, 0, none⟩ (.bool b')).heap[R + 1]? = some (.cells #[.int .i64 n] 26 (0, 0)) := (heap_setCell_other _ _ _ _ (by simp)).trans h.n
  exact ⟨(heap_setCell_other _ _ _ _ (by simp)).trans h1, heap_setCell_same _ _ _ _ _ _ h2⟩
theorem BE.kept {W W' : World} {row : Option Nat} {R : Nat} {b : Bool} {n : Int} (h : BE W R b n) (hg : W.grownBy W' row) (hr : ∀ r, row = some r → ∃ o : Obj, W.heap[r]? = some o ∧ o.isCells = false) : BE W' R b n :=
  ⟨(grownBy_keeps_cells hg hr h.b rfl).trans h.b, (grownBy_keeps_cells hg hr h.n rfl).trans h.n⟩

/-- Where Equal begins: two faces, two results. -/
structure EqAt (w : World) (f g : Fc) (A A2 : Option Addr) (c c2 : Nat) (B : Nat) : Prop where
  f : FaceAt w B f A c
  g : FaceAt w (B + 1) g A2 c2
  r : BE w (B + 2) false 0
theorem EqAt.below {w w' : World} {f g : Fc} {A A2 : Option Addr} {c c2 B : Nat} (h : EqAt w f g A A2 c c2 B) (hb : Below w.heap.size w w') : EqAt w' f g A A2 c c2 B := ⟨h.f.below hb, h.g.below hb, h.r.below hb⟩
theorem eq_start (w : World) {f g : Fc} {A A2 : Option Addr} (c c2 : Nat) (hf : ItsOk w A f.items) (hg : ItsOk w A2 g.items) :
    EqAt ((((w.alloc (.cells #[.int .i64 f.shape, .int .i64 f.size, .int .i64 f.height, .slice A f.items.length c] 25)).alloc (.cells #[.int .i64 g.shape, .int .i64 g.size, .int .i64 g.height, .slice A2 g.items.length c2] 25)).alloc (.cells #[.bool false] 4)).alloc (.cells #[.int .i64 0] 26)) f g A A2 c c2 w.heap.size ∧
    Below w.heap.size w ((((w.alloc (.cells #[.int .i64 f.shape, .int .i64 f.size, .int .i64 f.height, .slice A f.items.length c] 25)).alloc (.cells #[.int .i64 g.shape, .int .i64 g.size, .int .i64 g.height, .slice A2 g.items.length c2] 25)).alloc (.cells #[.bool false] 4)).alloc (.cells #[.int .i64 0] 26)) := by
  have h1 := FaceAt.new w c hf
  have hb1 := below_alloc w (.cells #[.int .i64 f.shape, .int .i64 f.size, .int .i64 f.height, .slice A f.items.length c] 25)
  have hs1 : (w.alloc (.cells #[.int .i64 f.shape, .int .i64 f.size, .int .i64 f.height, .slice A f.items.length c] 25)).heap.size = w.heap.size + 1 := by simp
  generalize w.alloc (.cells #[.int .i64 f.shape, .int .i64 f.size, .int .i64 f.height, .slice A f.items.length c] 25) = W1 at *
  have h2 := FaceAt.new W1 c2 (hg.below hb1)
  have hb2 := below_alloc W1 (.cells #[.int .i64 g.shape, .int .i64 g.size, .int .i64 g.height, .slice A2 g.items.length c2] 25)
  have hs2 : (W1.alloc (.cells #[.int .i64 g.shape, .int .i64 g.size, .int .i64 g.height, .slice A2 g.items.length c2] 25)).heap.size = W1.heap.size + 1 := by simp
  generalize W1.alloc (.cells #[.int .i64 g.shape, .int .i64 g.size, .int .i64 g.height, .slice A2 g.items.length c2] 25) = W2 at *
  have hb3 := below_alloc W2 (.cells #[.bool false] 4)
  have n3 := heap_alloc_new W2 (.cells #[.bool false] 4)
  have hs3 : (W2.alloc (.cells #[.bool false] 4)).heap.size = W2.heap.size + 1 := by simp
  generalize W2.alloc (.cells #[.bool false] 4) = W3 at *
  have hb4 := below_alloc W3 (.cells #[.int .i64 0] 26)
  have n4 := heap_alloc_new W3 (.cells #[.int .i64 0] 26)
  generalize W3.alloc (.cells #[.int .i64 0] 26) = W4 at *
  have e2 : W2.heap.size = w.heap.size + 2 := by omega
  have e3 : W3.heap.size = w.heap.size + 2 + 1 := by omega
  have b24 : Below W2.heap.size W2 W4 := hb3.trans (hb4.mono hb3.size)
  have b14 : Below W1.heap.size W1 W4 := hb2.trans (b24.mono hb2.size)
  refine ⟨⟨h1.below b14, ?_, ?_, ?_⟩, hb1.trans (b14.mono hb1.size)⟩
  · rw [← hs1]; exact h2.below b24
  · rw [← e2]; exact (hb4.block _ (by omega)).trans n3
  · rw [← e3]; exact n4

set_option maxHeartbeats 4000000 in
set_option maxRecDepth 100000 in
theorem pequal_ok (f g : Fc) (A A2 : Option Addr) (c c2 : Nat) (w : World) (hit : ItsOk w A f.items) (hit2 : ItsOk w A2 g.items) (hf : fcB f = true) (hg : fcB g = true) (h1 : f.size = g.size) (h2 : heiF f = heiF g) :
    Calls Tryz.prog 44 #[.agg #[.int .i64 f.shape, .int .i64 f.size, .int .i64 f.height, .slice A f.items.length c], .agg #[.int .i64 g.shape, .int .i64 g.size, .int .i64 g.height, .slice A2 g.items.length c2]] w fun e w' => e = .returned (.tuple #[.bool (lookB f g), .int .i64 0]) ∧ Below w.heap.size w w' := by
  obtain ⟨s0, s1⟩ := size_bounds hf
  obtain ⟨t0, t1⟩ := heiF_bounds hf
  obtain ⟨hE, hB⟩ := eq_start w c c2 hit hit2
  have HFF := hid hf
  have HGG := hid hg
  have HE := hid hE
  have HB := hid hB
  have H1 := hid h1
  have H2 := hid h2
  obtain ⟨u0, u1⟩ := size_bounds hg
  clear hE hB hit hit2 hf hg h1 h2
  refine (callsIn_wide (n := 9)).1 ?_
  refine callsIn_of_wp_marks Tryz.func44 rfl trivial ?_ rfl
  simp only [Tryz.ntmps44, List.size_toArray, List.length_cons, List.length_nil, Nat.reduceAdd, Nat.reduceSub, Array.replicate_succ, Array.replicate_zero, List.push_toArray, List.append_toArray, List.nil_append, List.cons_append]
  refine wpIn_wide.2 ?_
  go_upto_region 1 with (fail)
  generalize (((w.alloc (.cells #[.int .i64 f.shape, .int .i64 f.size, .int .i64 f.height, .slice A f.items.length c] 25)).alloc (.cells #[.int .i64 g.shape, .int .i64 g.size, .int .i64 g.height, .slice A2 g.items.length c2] 25)).alloc (.cells #[.bool false] 4)).alloc (.cells #[.int .i64 0] 26) = W at *
  obtain ⟨B, hBB⟩ : ∃ B, B = w.heap.size := ⟨_, rfl⟩
  have HBB := hid hBB
  rw [← hBB] at HE ⊢
  clear hBB
  obtain ⟨c0, c1, c2', c3⟩ := (unhid HE).f.cells
  go_wp2_with fail
  refine (valid_calls f A c W (unhid HE).f.ok).mono ?_
  rintro e w1 ⟨rfl, hb⟩
  rw [unhid HFF]
  have HE := hid ((unhid HE).below hb)
  have HB := hid ((unhid HB).trans (hb.mono (unhid HB).size))
  clear hb c0 c1 c2' c3
  obtain ⟨d0, d1, d2, d3⟩ := (unhid HE).g.cells
  go_wp2_with fail
  refine (valid_calls g A2 c2 w1 (unhid HE).g.ok).mono ?_
  rintro e w2 ⟨rfl, hb⟩
  rw [unhid HGG]
  have HE := hid ((unhid HE).below hb)
  have HB := hid ((unhid HB).trans (hb.mono (unhid HB).size))
  clear hb d0 d1 d2 d3
  obtain ⟨c0, c1, c2', c3⟩ := (unhid HE).f.cells
  go_wp2_with fail
  refine (extent_calls f A c w2 (by omega) (by omega)).mono ?_
  rintro e w3 ⟨rfl, hb⟩
  have HE := hid ((unhid HE).below hb)
  have HB := hid ((unhid HB).trans (hb.mono (unhid HB).size))
  clear hb c0 c1 c2' c3
  obtain ⟨d0, d1, d2, d3⟩ := (unhid HE).g.cells
  go_wp2_with fail
  refine (extent_calls g A2 c2 w3 (by omega) (by omega)).mono ?_
  rintro e w4 ⟨rfl, hb⟩
  rw [← unhid H1, ← unhid H2]
  have HE := hid ((unhid HE).below hb)
  have HB := hid ((unhid HB).trans (hb.mono (unhid HB).size))
  clear hb d0 d1 d2 d3
  obtain ⟨c0, c1, c2', c3⟩ := (unhid HE).f.cells
  have q1 : (f.size != f.size) = false := by simp
  have q2 : (heiF f != heiF f) = false := by simp
  go_wp2_with fail
  refine (pdots_calls f A c w4 (by omega) (by omega)).mono ?_
  rintro e w5 ⟨hb, bh, bw, rfl, cbh, cbw, lbh, lbw⟩
  have HE := hid ((unhid HE).below hb)
  have HB := hid ((unhid HB).trans (hb.mono (unhid HB).size))
  clear hb c0 c1 c2' c3 q1 q2
  obtain ⟨W0, hW0⟩ : ∃ W0 : Nat, W0 = f.size.toNat := ⟨_, rfl⟩
  obtain ⟨H0, hH0⟩ : ∃ H0 : Nat, H0 = (heiF f).toNat := ⟨_, rfl⟩
  have hWI : (W0 : Int) = f.size := by omega
  have hHI : (H0 : Int) = heiF f := by omega
  have hN : numD f = W0 * H0 := by rw [hW0, hH0]; rfl
  go_wp2_with fail
  have HWI := hid hWI
  have HHI := hid hHI
  have HN := hid hN
  rw [← hHI] at cbh
  rw [← hWI] at cbw
  have hIE : ∀ x : Fin (numD f), (pxI W0 x.val) < f.size ∧ (pxJ W0 x.val) < heiF f := fun x => by rw [hW0]; exact pix_lt x.isLt
  have HIE := hid hIE
  have hW1 : 1 ≤ W0 ∧ W0 ≤ 1000 := by omega
  have hH1 : H0 ≤ 1000 := by omega
  have hFN : ∀ n : Nat, n < numD f → (colI f (pxI W0 n) (pxJ W0 n) = dotK f f.items.length n ∧ colI g (pxI W0 n) (pxJ W0 n) = dotK g g.items.length n) := fun n hn => ⟨by rw [hW0]; rfl, by rw [hW0, unhid H1]; rfl⟩
  have HFN := hid hFN
  have hB5 : B + 3 < w5.heap.size := (unhid HE).r.lt
  have hB0 : w.heap.size ≤ B + 2 := by have := unhid HBB; omega
  have HB5 := hid hB5
  have HB0 := hid hB0
  have hws : w.heap.size ≤ w5.heap.size := (unhid HB).size
  have HWS := hid hws
  clear hIE hFN hWI hHI hN hW0 hH0 hB5 hB0 hws
  refine (wpIn_wide (n := 9)).1 ?_
  refine wpIn_rangeFunc_ownF (α := Fin (numD f)) rfl (by omega) (gf := 105) (lb := #[.pointer (some ⟨bh, 0, none⟩), .pointer (some ⟨bw, 0, none⟩)]) rfl trivial (enters_of Tryz.func105 (by kernel_rfl) rfl)
    (dots_stops Fence.wide 8 trivial rfl (by omega) bh bw W0 H0 (numD f) w5.heap.size (unhid HN) hW1 hH1 w5 (Nat.le_refl _) cbh cbw ⟨lbh, lbw⟩) belowK_t (belowK_b (Nat.le_refl _)) (Below.refl _ _) (fun _ => rfl)
    (fun pre W => (∀ x ∈ pre, colI f (pxI W0 x.val) (pxJ W0 x.val) = colI g (pxI W0 x.val) (pxJ W0 x.val)) ∧ Below w5.heap.size w5 W)
    (fun cd pre W => ((cd = .ret ∧ ∃ x ∈ pre, colI f (pxI W0 x.val) (pxJ W0 x.val) ≠ colI g (pxI W0 x.val) (pxJ W0 x.val)) ∧ BE W (B + 2) false 0) ∧ Below w.heap.size w W)
    (OwnFrom.and (ownFrom_pure _ _) (ownFrom_below (Nat.le_refl _) (Nat.le_refl _)))
    (fun cd => OwnFrom.and (OwnFrom.and (ownFrom_pure _ _) (Own.from (fun s A B row hs hg hr => hs.kept hg hr) _)) (ownFrom_below (Nat.le_refl _) (unhid HWS)))
    ⟨by simp, Below.refl _ _⟩
    ?a1 ?assign ?body ?done ?stop
  case assign =>
    intro l x W K hK
    simp only [pxV]
    gi_wp2
    exact hK
  case body =>
    rintro l pre x W ⟨hall, hbel⟩ hlt
    obtain ⟨hx1, hx2⟩ := (unhid HIE) x
    have hx0 : (0 : Int) ≤ (pxI W0 x.val) := Int.natCast_nonneg _
    have hx3 : (0 : Int) ≤ (pxJ W0 x.val) := Int.natCast_nonneg _
    have hE' := (unhid HE).below hbel
    have HFW := hid (fun p : After W => hE'.f.below p.below)
    have HGW := hid (fun p : After W => hE'.g.below p.below)
    have a0 : ∀ p : After W, p.w.cell? ⟨B, 0, none⟩ = some (.int .i64 f.shape) := fun p => ((unhid HFW) p).cells.1
    have a1 : ∀ p : After W, p.w.cell? ⟨B, 1, none⟩ = some (.int .i64 f.size) := fun p => ((unhid HFW) p).cells.2.1
    have a2 : ∀ p : After W, p.w.cell? ⟨B, 2, none⟩ = some (.int .i64 f.height) := fun p => ((unhid HFW) p).cells.2.2.1
    have a3 : ∀ p : After W, p.w.cell? ⟨B, 3, none⟩ = some (.slice A f.items.length c) := fun p => ((unhid HFW) p).cells.2.2.2
    have b0 : ∀ p : After W, p.w.cell? ⟨B + 1, 0, none⟩ = some (.int .i64 g.shape) := fun p => ((unhid HGW) p).cells.1
    have b1 : ∀ p : After W, p.w.cell? ⟨B + 1, 1, none⟩ = some (.int .i64 g.size) := fun p => ((unhid HGW) p).cells.2.1
    have b2 : ∀ p : After W, p.w.cell? ⟨B + 1, 2, none⟩ = some (.int .i64 g.height) := fun p => ((unhid HGW) p).cells.2.2.1
    have b3 : ∀ p : After W, p.w.cell? ⟨B + 1, 3, none⟩ = some (.slice A2 g.items.length c2) := fun p => ((unhid HGW) p).cells.2.2.2
    have KF := hid (fun p : After W => colour_calls f A c (pxI W0 x.val) (pxJ W0 x.val) p.w ((unhid HFW) p).ok (unhid HFF) ⟨hx0, hx1⟩ ⟨hx3, hx2⟩)
    have KG := hid (fun p : After W => colour_calls g A2 c2 (pxI W0 x.val) (pxJ W0 x.val) p.w ((unhid HGW) p).ok (unhid HGG) ⟨hx0, by rw [← unhid H1]; exact hx1⟩ ⟨hx3, by rw [← unhid H2]; exact hx2⟩)
    have HALL := hid hall
    have HBL := hid hbel
    have HR := hid hE'.r
    clear hall hbel hE' HFW HGW hx0 hx1 hx2 hx3
    have HIN := hid (show ∀ u v : Int, u = colI f (pxI W0 x.val) (pxJ W0 x.val) → v = colI g (pxI W0 x.val) (pxJ W0 x.val) → (u = v → ∀ y ∈ pre ++ [x], colI f (pxI W0 y.val) (pxJ W0 y.val) = colI g (pxI W0 y.val) (pxJ W0 y.val)) ∧ (u ≠ v → ∃ y ∈ pre ++ [x], colI f (pxI W0 y.val) (pxJ W0 y.val) ≠ colI g (pxI W0 y.val) (pxJ W0 y.val)) from fun u v hu hv =>
      ⟨fun e y hy => (List.mem_append.1 hy).elim ((unhid HALL) y) (fun h => by simp at h; subst h; rw [← hu, ← hv]; exact e), fun e => ⟨x, List.mem_append.2 (.inr (by simp)), by rw [← hu, ← hv]; exact e⟩⟩)
    obtain ⟨u, hu⟩ : ∃ u, u = colI f (pxI W0 x.val) (pxJ W0 x.val) := ⟨_, rfl⟩
    obtain ⟨v, hv⟩ : ∃ v, v = colI g (pxI W0 x.val) (pxJ W0 x.val) := ⟨_, rfl⟩
    have HIN := hid ((unhid HIN) u v hu hv)
    rw [← hu] at KF
    rw [← hv] at KG
    clear hu hv
    have tokF : True := trivial
    have tokG : True := trivial
    gi_wp2_with fail
    refine wpIn_region_below (by kernel_rfl) (by kernel_rfl) (by kernel_rfl) ?_
    gi_big_quiet_step (fail)
    gi_big_quiet_step (fail)
    gi_big_quiet_step (fail)
    gi_big_quiet_step ((gi_at_call 72; exact callsIn_wide.2 (Calls.after_of ((unhid KF) _))))
    gi_big_quiet_step (fail)
    gi_big_quiet_step (fail)
    gi_big_quiet_step (fail)
    gi_big_quiet_step ((gi_at_call 72; exact callsIn_wide.2 (Calls.after_of ((unhid KG) _))))
    gi_big_quiet_step (fail)
    refine wpQuietIn_nil ?_
    intro wq hw'
    obtain ⟨⟨wq2, hbq⟩, hw''⟩ := hw'
    dsimp only at hw''
    subst hw''
    clear a0 a1 a2 a3 b0 b1 b2 b3
    have HBQ := hid hbq
    have hr := (unhid HR).below hbq
    clear hbq
    by_cases huv : u = v
    · have hc : (u != v) = false := by simp [huv]
      have HQ := hid ((unhid HIN).1 huv)
      clear huv hr
      gi_wp2
      exact ⟨keepsOthers_below (unhid HBQ), (unhid HBQ).mono (unhid HBL).size, unhid HQ, (unhid HBL).trans ((unhid HBQ).mono (unhid HBL).size)⟩
    · have hc : (u != v) = true := by simp [huv]
      have HQ := hid ((unhid HIN).2 huv)
      obtain ⟨m0, m1, m2, m3⟩ := hr.cells
      have HR2 := hid hr
      clear huv hr
      gi_wp2
      have hb2 := (unhid HB).trans (((unhid HBL).trans ((unhid HBQ).mono (unhid HBL).size)).mono (unhid HWS))
      exact ⟨(keepsOthers_below (unhid HBQ)).trans ((KeepsOthers.setCell _ _ _).trans (KeepsOthers.setCell _ _ _)), ⟨⟨rfl, unhid HQ⟩, BE.set (unhid HR2)⟩, Below.setCell (Below.setCell hb2 (unhid HB0) _) (Nat.le_succ_of_le (unhid HB0)) _⟩
  case done =>
    rintro D ys W hD rfl ⟨hall, hbel⟩ hK
    have hbe := (unhid HE).r.below hbel
    obtain ⟨m0, m1, m2, m3⟩ := hbe.cells
    have HR := hid hbe
    have HQ := hid (look_true (unhid H1) (unhid H2) (fun n hn => by
      obtain ⟨e1, e2⟩ := (unhid HFN) n hn
      rw [← e1, ← e2]
      exact hall ⟨n, hn⟩ (List.mem_finRange _)))
    have HBL := hid hbel
    have HD := hid hD
    clear hall hbel hbe hD
    go_wp2_with fail
    have hK' := ((KeepsOthers.setCell W ⟨B + 2, 0, none⟩ (.bool true)).trans (KeepsOthers.setCell _ ⟨B + 2 + 1, 0, none⟩ (.int .i64 0))).same D _ hK rfl
    have hbe2 := (BE.set (b' := true) (n' := 0) (unhid HR)).kept (grownBy_putObj' _ D (.deferred none)) (fun r e => by cases e; exact ⟨_, hK', rfl⟩)
    have hb2 := Below.setCell (p := ⟨B + 2 + 1, 0, none⟩) (Below.setCell (p := ⟨B + 2, 0, none⟩) ((unhid HB).trans ((unhid HBL).mono (unhid HWS))) (unhid HB0) (.bool true)) (Nat.le_succ_of_le (unhid HB0)) (.int .i64 0)
    refine ⟨by simp, .inl ⟨_, _, rfl, run_takeDeferred hK', ?_⟩⟩
    exact ⟨_, results_be rfl _ _ (B + 2) (B + 2 + 1) true 0 rfl rfl hbe2.cells.1 hbe2.cells.2.1, by rw [unhid HQ], hb2.trans (belowK_b (w := w) (Nat.le_refl _) _ D _ _ (Nat.le_trans (unhid HWS) (unhid HD)) hK' rfl rfl)⟩
  case stop =>
    rintro D cd pre W hD hpre ⟨⟨⟨rfl, x, hx, hne⟩, hbe⟩, hbel⟩ hK
    have HQ := hid (look_dot x.isLt (show dotK f f.items.length x.val ≠ dotK g g.items.length x.val by
      obtain ⟨e1, e2⟩ := (unhid HFN) x.val x.isLt
      rw [← e1, ← e2]
      exact hne))
    refine (wpIn_wide (n := 9)).2 ?_
    go_wp2_with fail
    have hbe2 := hbe.kept (grownBy_putObj' _ D (.deferred none)) (fun r e => by cases e; exact ⟨_, hK, rfl⟩)
    refine ⟨by simp, .inl ⟨_, _, rfl, run_takeDeferred hK, ?_⟩⟩
    exact ⟨_, results_be rfl _ _ (B + 2) (B + 2 + 1) false 0 rfl rfl hbe2.cells.1 hbe2.cells.2.1, by rw [unhid HQ], hbel.trans (belowK_b (w := w) (Nat.le_refl _) _ D _ _ (Nat.le_trans (unhid HWS) hD) hK rfl rfl)⟩

set_option maxHeartbeats 4000000 in
set_option maxRecDepth 100000 in
theorem pequal_no (f g : Fc) (A A2 : Option Addr) (c c2 : Nat) (w : World) (hit : ItsOk w A f.items) (hit2 : ItsOk w A2 g.items) (hv : ¬ (fcB f = true ∧ fcB g = true)) :
    Calls Tryz.prog 44 #[.agg #[.int .i64 f.shape, .int .i64 f.size, .int .i64 f.height, .slice A f.items.length c], .agg #[.int .i64 g.shape, .int .i64 g.size, .int .i64 g.height, .slice A2 g.items.length c2]] w fun e w' => e = .returned (.tuple #[.bool false, .int .i64 10]) ∧ Below w.heap.size w w' := by
  obtain ⟨hE, hB⟩ := eq_start w c c2 hit hit2
  have HE := hid hE
  have HB := hid hB
  have HV := hid hv
  clear hE hB hit hit2 hv
  go_enter Tryz.func44, Tryz.ntmps44
  go_upto_region 1 with (fail)
  generalize (((w.alloc (.cells #[.int .i64 f.shape, .int .i64 f.size, .int .i64 f.height, .slice A f.items.length c] 25)).alloc (.cells #[.int .i64 g.shape, .int .i64 g.size, .int .i64 g.height, .slice A2 g.items.length c2] 25)).alloc (.cells #[.bool false] 4)).alloc (.cells #[.int .i64 0] 26) = W at *
  obtain ⟨B, hBB⟩ : ∃ B, B = w.heap.size := ⟨_, rfl⟩
  have HBB := hid (show w.heap.size ≤ B + 2 by omega)
  rw [← hBB] at HE ⊢
  clear hBB
  obtain ⟨c0, c1, c2', c3⟩ := (unhid HE).f.cells
  go_wp2_with fail
  refine (valid_calls f A c W (unhid HE).f.ok).mono ?_
  rintro e w1 ⟨rfl, hb⟩
  have HE := hid ((unhid HE).below hb)
  have HB := hid ((unhid HB).trans (hb.mono (unhid HB).size))
  clear hb c0 c1 c2' c3
  cases hf : fcB f with
  | false =>
    obtain ⟨m0, m1, m2, m3⟩ := (unhid HE).r.cells
    have HS := hid (BE.set (b' := false) (n' := 10) (unhid HE).r).cells
    have HB2 := hid (Below.setCell (p := ⟨B + 2 + 1, 0, none⟩) (Below.setCell (p := ⟨B + 2, 0, none⟩) (unhid HB) (unhid HBB) (.bool false)) (Nat.le_succ_of_le (unhid HBB)) (.int .i64 10))
    clear hf
    go_wp2_with fail
    refine bodyPost_ret_by (v := .tuple #[.bool false, .int .i64 10]) (results_be Tryz.results44 _ _ (B + 2) (B + 2 + 1) false 10 rfl rfl (unhid HS).1 (unhid HS).2.1) rfl ?_
    exact ⟨rfl, unhid HB2⟩
  | true =>
    have hg : fcB g = false := by
      cases e : fcB g with
      | false => rfl
      | true => exact absurd ⟨hf, e⟩ (unhid HV)
    have HG := hid hg
    clear hf hg
    obtain ⟨d0, d1, d2, d3⟩ := (unhid HE).g.cells
    go_wp2_with fail
    refine (valid_calls g A2 c2 w1 (unhid HE).g.ok).mono ?_
    rintro e w2 ⟨rfl, hb⟩
    rw [unhid HG]
    have HE := hid ((unhid HE).below hb)
    have HB := hid ((unhid HB).trans (hb.mono (unhid HB).size))
    clear hb d0 d1 d2 d3
    obtain ⟨m0, m1, m2, m3⟩ := (unhid HE).r.cells
    have HS := hid (BE.set (b' := false) (n' := 10) (unhid HE).r).cells
    have HB2 := hid (Below.setCell (p := ⟨B + 2 + 1, 0, none⟩) (Below.setCell (p := ⟨B + 2, 0, none⟩) (unhid HB) (unhid HBB) (.bool false)) (Nat.le_succ_of_le (unhid HBB)) (.int .i64 10))
    go_wp2_with fail
    refine bodyPost_ret_by (v := .tuple #[.bool false, .int .i64 10]) (results_be Tryz.results44 _ _ (B + 2) (B + 2 + 1) false 10 rfl rfl (unhid HS).1 (unhid HS).2.1) rfl ?_
    exact ⟨rfl, unhid HB2⟩

set_option maxHeartbeats 4000000 in
set_option maxRecDepth 100000 in
theorem pequal_ext (f g : Fc) (A A2 : Option Addr) (c c2 : Nat) (w : World) (hit : ItsOk w A f.items) (hit2 : ItsOk w A2 g.items) (hf : fcB f = true) (hg : fcB g = true) (hv : ¬ (f.size = g.size ∧ heiF f = heiF g)) :
    Calls Tryz.prog 44 #[.agg #[.int .i64 f.shape, .int .i64 f.size, .int .i64 f.height, .slice A f.items.length c], .agg #[.int .i64 g.shape, .int .i64 g.size, .int .i64 g.height, .slice A2 g.items.length c2]] w fun e w' => e = .returned (.tuple #[.bool (lookB f g), .int .i64 0]) ∧ Below w.heap.size w w' := by
  obtain ⟨s0, s1⟩ := size_bounds hf
  obtain ⟨u0, u1⟩ := size_bounds hg
  obtain ⟨hE, hB⟩ := eq_start w c c2 hit hit2
  have HFF := hid hf
  have HGG := hid hg
  have HE := hid hE
  have HB := hid hB
  have HV := hid hv
  have HQ := hid (look_false hv)
  clear hE hB hit hit2 hv hf hg
  go_enter Tryz.func44, Tryz.ntmps44
  go_upto_region 1 with (fail)
  generalize (((w.alloc (.cells #[.int .i64 f.shape, .int .i64 f.size, .int .i64 f.height, .slice A f.items.length c] 25)).alloc (.cells #[.int .i64 g.shape, .int .i64 g.size, .int .i64 g.height, .slice A2 g.items.length c2] 25)).alloc (.cells #[.bool false] 4)).alloc (.cells #[.int .i64 0] 26) = W at *
  obtain ⟨B, hBB⟩ : ∃ B, B = w.heap.size := ⟨_, rfl⟩
  have HBB := hid (show w.heap.size ≤ B + 2 by omega)
  rw [← hBB] at HE ⊢
  clear hBB
  obtain ⟨c0, c1, c2', c3⟩ := (unhid HE).f.cells
  go_wp2_with fail
  refine (valid_calls f A c W (unhid HE).f.ok).mono ?_
  rintro e w1 ⟨rfl, hb⟩
  rw [unhid HFF]
  have HE := hid ((unhid HE).below hb)
  have HB := hid ((unhid HB).trans (hb.mono (unhid HB).size))
  clear hb c0 c1 c2' c3
  obtain ⟨d0, d1, d2, d3⟩ := (unhid HE).g.cells
  go_wp2_with fail
  refine (valid_calls g A2 c2 w1 (unhid HE).g.ok).mono ?_
  rintro e w2 ⟨rfl, hb⟩
  rw [unhid HGG]
  have HE := hid ((unhid HE).below hb)
  have HB := hid ((unhid HB).trans (hb.mono (unhid HB).size))
  clear hb d0 d1 d2 d3
  obtain ⟨c0, c1, c2', c3⟩ := (unhid HE).f.cells
  go_wp2_with fail
  refine (extent_calls f A c w2 (by omega) (by omega)).mono ?_
  rintro e w3 ⟨rfl, hb⟩
  have HE := hid ((unhid HE).below hb)
  have HB := hid ((unhid HB).trans (hb.mono (unhid HB).size))
  clear hb c0 c1 c2' c3
  obtain ⟨d0, d1, d2, d3⟩ := (unhid HE).g.cells
  go_wp2_with fail
  refine (extent_calls g A2 c2 w3 (by omega) (by omega)).mono ?_
  rintro e w4 ⟨rfl, hb⟩
  have HE := hid ((unhid HE).below hb)
  have HB := hid ((unhid HB).trans (hb.mono (unhid HB).size))
  clear hb d0 d1 d2 d3
  obtain ⟨m0, m1, m2, m3⟩ := (unhid HE).r.cells
  have HS := hid (BE.set (b' := false) (n' := 0) (unhid HE).r).cells
  have HB2 := hid (Below.setCell (p := ⟨B + 2 + 1, 0, none⟩) (Below.setCell (p := ⟨B + 2, 0, none⟩) (unhid HB) (unhid HBB) (.bool false)) (Nat.le_succ_of_le (unhid HBB)) (.int .i64 0))
  by_cases h1 : f.size = g.size
  · have h2 : ¬ heiF f = heiF g := fun e => (unhid HV) ⟨h1, e⟩
    have q1 : (f.size != g.size) = false := by simp [h1]
    have q2 : (heiF f != heiF g) = true := by simp [h2]
    clear h1 h2
    go_wp2_with fail
    refine bodyPost_ret_by (v := .tuple #[.bool false, .int .i64 0]) (results_be Tryz.results44 _ _ (B + 2) (B + 2 + 1) false 0 rfl rfl (unhid HS).1 (unhid HS).2.1) rfl ?_
    exact ⟨by rw [unhid HQ], unhid HB2⟩
  · have q1 : (f.size != g.size) = true := by simp [h1]
    clear h1
    go_wp2_with fail
    refine bodyPost_ret_by (v := .tuple #[.bool false, .int .i64 0]) (results_be Tryz.results44 _ _ (B + 2) (B + 2 + 1) false 0 rfl rfl (unhid HS).1 (unhid HS).2.1) rfl ?_
    exact ⟨by rw [unhid HQ], unhid HB2⟩

/-- What Equal returns. -/
noncomputable def equalR (f g : Fc) : Value := if fcB f = true ∧ fcB g = true then .tuple #[.bool (lookB f g), .int .i64 0] else .tuple #[.bool false, .int .i64 10]
theorem pequal_calls (f g : Fc) (A A2 : Option Addr) (c c2 : Nat) (w : World) (hit : ItsOk w A f.items) (hit2 : ItsOk w A2 g.items) :
    Calls Tryz.prog 44 #[.agg #[.int .i64 f.shape, .int .i64 f.size, .int .i64 f.height, .slice A f.items.length c], .agg #[.int .i64 g.shape, .int .i64 g.size, .int .i64 g.height, .slice A2 g.items.length c2]] w fun e w' => e = .returned (equalR f g) ∧ Below w.heap.size w w' := by
  unfold equalR
  by_cases hv : fcB f = true ∧ fcB g = true
  · rw [if_pos hv]
    by_cases h : f.size = g.size ∧ heiF f = heiF g
    · exact pequal_ok f g A A2 c c2 w hit hit2 hv.1 hv.2 h.1 h.2
    · exact pequal_ext f g A A2 c c2 w hit hit2 hv.1 hv.2 h
  · rw [if_neg hv]
    exact pequal_no f g A A2 c c2 w hit hit2 hv
end

section
open Go.RowKit Go.Shelf

attribute [local go_sem] Oper.semAt_some wide_fn

/-- Where Mirror begins: a face, two results. -/
structure MrAt (w : World) (f : Fc) (A : Option Addr) (c : Nat) (B : Nat) : Prop where
  f : FaceAt w B f A c
  r : BE w (B + 1) false 0
theorem MrAt.below {w w' : World} {f : Fc} {A : Option Addr} {c B : Nat} (h : MrAt w f A c B) (hb : Below w.heap.size w w') : MrAt w' f A c B := ⟨h.f.below hb, h.r.below hb⟩
theorem mr_start (w : World) {f : Fc} {A : Option Addr} (c : Nat) (hf : ItsOk w A f.items) :
    MrAt (((w.alloc (.cells #[.int .i64 f.shape, .int .i64 f.size, .int .i64 f.height, .slice A f.items.length c] 25)).alloc (.cells #[.bool false] 4)).alloc (.cells #[.int .i64 0] 26)) f A c w.heap.size ∧
    Below w.heap.size w (((w.alloc (.cells #[.int .i64 f.shape, .int .i64 f.size, .int .i64 f.height, .slice A f.items.length c] 25)).alloc (.cells #[.bool false] 4)).alloc (.cells #[.int .i64 0] 26)) := by
  have h1 := FaceAt.new w c hf
  have hb1 := below_alloc w (.cells #[.int .i64 f.shape, .int .i64 f.size, .int .i64 f.height, .slice A f.items.length c] 25)
  have hs1 : (w.alloc (.cells #[.int .i64 f.shape, .int .i64 f.size, .int .i64 f.height, .slice A f.items.length c] 25)).heap.size = w.heap.size + 1 := by simp
  generalize w.alloc (.cells #[.int .i64 f.shape, .int .i64 f.size, .int .i64 f.height, .slice A f.items.length c] 25) = W2 at *
  have hb3 := below_alloc W2 (.cells #[.bool false] 4)
  have n3 := heap_alloc_new W2 (.cells #[.bool false] 4)
  have hs3 : (W2.alloc (.cells #[.bool false] 4)).heap.size = W2.heap.size + 1 := by simp
  generalize W2.alloc (.cells #[.bool false] 4) = W3 at *
  have hb4 := below_alloc W3 (.cells #[.int .i64 0] 26)
  have n4 := heap_alloc_new W3 (.cells #[.int .i64 0] 26)
  generalize W3.alloc (.cells #[.int .i64 0] 26) = W4 at *
  have e3 : W3.heap.size = w.heap.size + 1 + 1 := by omega
  have b24 : Below W2.heap.size W2 W4 := hb3.trans (hb4.mono hb3.size)
  refine ⟨⟨h1.below b24, ?_, ?_⟩, hb1.trans (b24.mono hb1.size)⟩
  · rw [← hs1]; exact (hb4.block _ (by omega)).trans n3
  · rw [← e3]; exact n4

set_option maxHeartbeats 4000000 in
set_option maxRecDepth 100000 in
theorem pmirror_no (f : Fc) (A : Option Addr) (c : Nat) (w : World) (hit : ItsOk w A f.items) (hf : fcB f = false) :
    Calls Tryz.prog 51 #[.agg #[.int .i64 f.shape, .int .i64 f.size, .int .i64 f.height, .slice A f.items.length c]] w fun e w' => e = .returned (.tuple #[.bool false, .int .i64 10]) ∧ Below w.heap.size w w' := by
  obtain ⟨hE, hB⟩ := mr_start w c hit
  have HE := hid hE
  have HB := hid hB
  have HFF := hid hf
  clear hE hB hit hf
  go_enter Tryz.func51, Tryz.ntmps51
  go_upto_region 1 with (fail)
  generalize ((w.alloc (.cells #[.int .i64 f.shape, .int .i64 f.size, .int .i64 f.height, .slice A f.items.length c] 25)).alloc (.cells #[.bool false] 4)).alloc (.cells #[.int .i64 0] 26) = W at *
  obtain ⟨B, hBB⟩ : ∃ B, B = w.heap.size := ⟨_, rfl⟩
  have HBB := hid (show w.heap.size ≤ B + 1 by omega)
  rw [← hBB] at HE ⊢
  clear hBB
  obtain ⟨c0, c1, c2', c3⟩ := (unhid HE).f.cells
  go_wp2_with fail
  refine (valid_calls f A c W (unhid HE).f.ok).mono ?_
  rintro e w1 ⟨rfl, hb⟩
  rw [unhid HFF]
  have HE := hid ((unhid HE).below hb)
  have HB := hid ((unhid HB).trans (hb.mono (unhid HB).size))
  clear hb c0 c1 c2' c3
  obtain ⟨m0, m1, m2, m3⟩ := (unhid HE).r.cells
  have HS := hid (BE.set (b' := false) (n' := 10) (unhid HE).r).cells
  have HB2 := hid (Below.setCell (p := ⟨B + 1 + 1, 0, none⟩) (Below.setCell (p := ⟨B + 1, 0, none⟩) (unhid HB) (unhid HBB) (.bool false)) (Nat.le_succ_of_le (unhid HBB)) (.int .i64 10))
  go_wp2_with fail
  refine bodyPost_ret_by (v := .tuple #[.bool false, .int .i64 10]) (results_be Tryz.results51 _ _ (B + 1) (B + 1 + 1) false 10 rfl rfl (unhid HS).1 (unhid HS).2.1) rfl ?_
  exact ⟨rfl, unhid HB2⟩

set_option maxHeartbeats 4000000 in
set_option maxRecDepth 100000 in
theorem pmirror_ok (f : Fc) (A : Option Addr) (c : Nat) (w : World) (hit : ItsOk w A f.items) (hf : fcB f = true) :
    Calls Tryz.prog 51 #[.agg #[.int .i64 f.shape, .int .i64 f.size, .int .i64 f.height, .slice A f.items.length c]] w fun e w' => e = .returned (.tuple #[.bool (mirB f), .int .i64 0]) ∧ Below w.heap.size w w' := by
  obtain ⟨s0, s1⟩ := size_bounds hf
  obtain ⟨t0, t1⟩ := heiF_bounds hf
  obtain ⟨hE, hB⟩ := mr_start w c hit
  have HFF := hid hf
  have HE := hid hE
  have HB := hid hB
  clear hE hB hit hf
  refine (callsIn_wide (n := 9)).1 ?_
  refine callsIn_of_wp_marks Tryz.func51 rfl trivial ?_ rfl
  simp only [Tryz.ntmps51, List.size_toArray, List.length_cons, List.length_nil, Nat.reduceAdd, Nat.reduceSub, Array.replicate_succ, Array.replicate_zero, List.push_toArray, List.append_toArray, List.nil_append, List.cons_append]
  refine wpIn_wide.2 ?_
  go_upto_region 1 with (fail)
  generalize ((w.alloc (.cells #[.int .i64 f.shape, .int .i64 f.size, .int .i64 f.height, .slice A f.items.length c] 25)).alloc (.cells #[.bool false] 4)).alloc (.cells #[.int .i64 0] 26) = W at *
  obtain ⟨B, hBB⟩ : ∃ B, B = w.heap.size := ⟨_, rfl⟩
  have HB0 := hid (show w.heap.size ≤ B + 1 by omega)
  rw [← hBB] at HE ⊢
  clear hBB
  obtain ⟨c0, c1, c2', c3⟩ := (unhid HE).f.cells
  go_wp2_with fail
  refine (valid_calls f A c W (unhid HE).f.ok).mono ?_
  rintro e w1 ⟨rfl, hb⟩
  rw [unhid HFF]
  have HE := hid ((unhid HE).below hb)
  have HB := hid ((unhid HB).trans (hb.mono (unhid HB).size))
  clear hb c0 c1 c2' c3
  obtain ⟨c0, c1, c2', c3⟩ := (unhid HE).f.cells
  go_wp2_with fail
  refine (extent_calls f A c w1 (by omega) (by omega)).mono ?_
  rintro e w2 ⟨rfl, hb⟩
  have hb := hb.trans ((below_alloc w2 (.cells #[.int .i64 f.size] 3)).mono hb.size)
  have HM := hid (heap_alloc_new w2 (.cells #[.int .i64 f.size] 3))
  clear c0 c1 c2' c3
  go_upto_region 4 with (fail)
  generalize w2.alloc (.cells #[.int .i64 f.size] 3) = w3 at *
  generalize w2.heap.size = M at *
  have HE := hid ((unhid HE).below hb)
  have HB := hid ((unhid HB).trans (hb.mono (unhid HB).size))
  clear hb
  obtain ⟨c0, c1, c2', c3⟩ := (unhid HE).f.cells
  go_wp2_with fail
  refine (pdots_calls f A c w3 (by omega) (by omega)).mono ?_
  rintro e w5 ⟨hb, bh, bw, rfl, cbh, cbw, lbh, lbw⟩
  have HE := hid ((unhid HE).below hb)
  have HB := hid ((unhid HB).trans (hb.mono (unhid HB).size))
  have HM := hid ((hb.block M (Array.getElem?_eq_some_iff.1 (unhid HM)).1).trans (unhid HM))
  clear hb c0 c1 c2' c3
  obtain ⟨W0, hW0⟩ : ∃ W0 : Nat, W0 = f.size.toNat := ⟨_, rfl⟩
  obtain ⟨H0, hH0⟩ : ∃ H0 : Nat, H0 = (heiF f).toNat := ⟨_, rfl⟩
  have hWI : (W0 : Int) = f.size := by omega
  have hHI : (H0 : Int) = heiF f := by omega
  have hN : numD f = W0 * H0 := by rw [hW0, hH0]; rfl
  go_wp2_with fail
  have HWI := hid hWI
  have HHI := hid hHI
  have HN := hid hN
  rw [← hHI] at cbh
  rw [← hWI] at cbw
  have hIE : ∀ x : Fin (numD f), (pxI W0 x.val) < f.size ∧ (pxJ W0 x.val) < heiF f := fun x => by rw [hW0]; exact pix_lt x.isLt
  have HIE := hid hIE
  have hW1 : 1 ≤ W0 ∧ W0 ≤ 1000 := by omega
  have hH1 : H0 ≤ 1000 := by omega
  have hFN : ∀ n : Nat, n < numD f → (colI f (pxI W0 n) (pxJ W0 n) = dotK f f.items.length n ∧ colI f (f.size - 1 - pxI W0 n) (pxJ W0 n) = colI f (f.size - 1 - ((n % f.size.toNat : Nat) : Int)) ((n / f.size.toNat : Nat) : Int)) := fun n hn => ⟨by rw [hW0]; rfl, by rw [hW0]; rfl⟩
  have HFN := hid hFN
  have hws : w.heap.size ≤ w5.heap.size := (unhid HB).size
  have HWS := hid hws
  clear hIE hFN hWI hHI hN hW0 hH0 hws
  refine (wpIn_wide (n := 9)).1 ?_
  refine wpIn_rangeFunc_ownF (α := Fin (numD f)) rfl (by omega) (gf := 105) (lb := #[.pointer (some ⟨bh, 0, none⟩), .pointer (some ⟨bw, 0, none⟩)]) rfl trivial (enters_of Tryz.func105 (by kernel_rfl) rfl)
    (dots_stops Fence.wide 8 trivial rfl (by omega) bh bw W0 H0 (numD f) w5.heap.size (unhid HN) hW1 hH1 w5 (Nat.le_refl _) cbh cbw ⟨lbh, lbw⟩) belowK_t (belowK_b (Nat.le_refl _)) (Below.refl _ _) (fun _ => rfl)
    (fun pre W => (∀ x ∈ pre, colI f (pxI W0 x.val) (pxJ W0 x.val) = colI f (f.size - 1 - pxI W0 x.val) (pxJ W0 x.val)) ∧ Below w5.heap.size w5 W)
    (fun cd pre W => ((cd = .ret ∧ ∃ x ∈ pre, colI f (pxI W0 x.val) (pxJ W0 x.val) ≠ colI f (f.size - 1 - pxI W0 x.val) (pxJ W0 x.val)) ∧ BE W (B + 1) false 0) ∧ Below w.heap.size w W)
    (OwnFrom.and (ownFrom_pure _ _) (ownFrom_below (Nat.le_refl _) (Nat.le_refl _)))
    (fun cd => OwnFrom.and (OwnFrom.and (ownFrom_pure _ _) (Own.from (fun s A B row hs hg hr => hs.kept hg hr) _)) (ownFrom_below (Nat.le_refl _) (unhid HWS)))
    ⟨by simp, Below.refl _ _⟩
    ?a1 ?assign ?body ?done ?stop
  case assign =>
    intro l x W K hK
    simp only [pxV]
    gi_wp2
    exact hK
  case body =>
    rintro l pre x W ⟨hall, hbel⟩ hlt
    obtain ⟨hx1, hx2⟩ := (unhid HIE) x
    have hx0 : (0 : Int) ≤ (pxI W0 x.val) := Int.natCast_nonneg _
    have hx3 : (0 : Int) ≤ (pxJ W0 x.val) := Int.natCast_nonneg _
    have hE' := (unhid HE).below hbel
    have HFW := hid (fun p : After W => hE'.f.below p.below)
    have a0 : ∀ p : After W, p.w.cell? ⟨B, 0, none⟩ = some (.int .i64 f.shape) := fun p => ((unhid HFW) p).cells.1
    have a1 : ∀ p : After W, p.w.cell? ⟨B, 1, none⟩ = some (.int .i64 f.size) := fun p => ((unhid HFW) p).cells.2.1
    have a2 : ∀ p : After W, p.w.cell? ⟨B, 2, none⟩ = some (.int .i64 f.height) := fun p => ((unhid HFW) p).cells.2.2.1
    have a3 : ∀ p : After W, p.w.cell? ⟨B, 3, none⟩ = some (.slice A f.items.length c) := fun p => ((unhid HFW) p).cells.2.2.2
    have hm := (hbel.block M (Array.getElem?_eq_some_iff.1 (unhid HM)).1).trans (unhid HM)
    have b0 : ∀ p : After W, p.w.cell? ⟨M, 0, none⟩ = some (.int .i64 f.size) := fun p => cell_of_row _ _ _ _ _ _ ((p.below.block M (Array.getElem?_eq_some_iff.1 hm).1).trans hm)
    have KF := hid (fun p : After W => colour_calls f A c (pxI W0 x.val) (pxJ W0 x.val) p.w ((unhid HFW) p).ok (unhid HFF) ⟨hx0, hx1⟩ ⟨hx3, hx2⟩)
    have KG := hid (fun p : After W => colour_calls f A c (f.size - 1 - pxI W0 x.val) (pxJ W0 x.val) p.w ((unhid HFW) p).ok (unhid HFF) ⟨by omega, by omega⟩ ⟨hx3, hx2⟩)
    have HALL := hid hall
    have HBL := hid hbel
    have HR := hid hE'.r
    have HIN := hid (show ∀ u v : Int, u = colI f (pxI W0 x.val) (pxJ W0 x.val) → v = colI f (f.size - 1 - pxI W0 x.val) (pxJ W0 x.val) → (u = v → ∀ y ∈ pre ++ [x], colI f (pxI W0 y.val) (pxJ W0 y.val) = colI f (f.size - 1 - pxI W0 y.val) (pxJ W0 y.val)) ∧ (u ≠ v → ∃ y ∈ pre ++ [x], colI f (pxI W0 y.val) (pxJ W0 y.val) ≠ colI f (f.size - 1 - pxI W0 y.val) (pxJ W0 y.val)) from fun u v hu hv =>
      ⟨fun e y hy => (List.mem_append.1 hy).elim ((unhid HALL) y) (fun h => by simp at h; subst h; rw [← hu, ← hv]; exact e), fun e => ⟨x, List.mem_append.2 (.inr (by simp)), by rw [← hu, ← hv]; exact e⟩⟩)
    obtain ⟨u, hu⟩ : ∃ u, u = colI f (pxI W0 x.val) (pxJ W0 x.val) := ⟨_, rfl⟩
    obtain ⟨v, hv⟩ : ∃ v, v = colI f (f.size - 1 - pxI W0 x.val) (pxJ W0 x.val) := ⟨_, rfl⟩
    have HIN := hid ((unhid HIN) u v hu hv)
    rw [← hu] at KF
    rw [← hv] at KG
    clear hu hv
    obtain ⟨y0, y0'⟩ := w64 (n := f.size - 1) (by omega) (by omega)
    obtain ⟨y1, y1'⟩ := w64 (n := f.size - 1 - pxI W0 x.val) (by omega) (by omega)
    clear hall hbel hE' HFW hx0 hx1 hx2 hx3 hm
    gi_wp2_with fail
    refine wpIn_region_below (by kernel_rfl) (by kernel_rfl) (by kernel_rfl) ?_
    gi_big_quiet_step (fail)
    gi_big_quiet_step (fail)
    gi_big_quiet_step (fail)
    gi_big_quiet_step ((gi_at_call 72; exact callsIn_wide.2 (Calls.after_of ((unhid KF) _))))
    gi_big_quiet_step (fail)
    gi_big_quiet_step (fail)
    gi_big_quiet_step (fail)
    gi_big_quiet_step (fail)
    gi_big_quiet_step (fail)
    gi_big_quiet_step (fail)
    gi_big_quiet_step ((gi_at_call 72; exact callsIn_wide.2 (Calls.after_of ((unhid KG) _))))
    gi_big_quiet_step (fail)
    refine wpQuietIn_nil ?_
    intro wq hw'
    obtain ⟨⟨wq2, hbq⟩, hw''⟩ := hw'
    dsimp only at hw''
    subst hw''
    clear a0 a1 a2 a3 b0
    have HBQ := hid hbq
    have hr := (unhid HR).below hbq
    clear hbq y0 y0' y1 y1'
    by_cases huv : u = v
    · have hc : (u != v) = false := by simp [huv]
      have HQ := hid ((unhid HIN).1 huv)
      clear huv hr
      gi_wp2
      exact ⟨keepsOthers_below (unhid HBQ), (unhid HBQ).mono (unhid HBL).size, unhid HQ, (unhid HBL).trans ((unhid HBQ).mono (unhid HBL).size)⟩
    · have hc : (u != v) = true := by simp [huv]
      have HQ := hid ((unhid HIN).2 huv)
      obtain ⟨m0, m1, m2, m3⟩ := hr.cells
      have HR2 := hid hr
      clear huv hr
      gi_wp2
      have hb2 := (unhid HB).trans (((unhid HBL).trans ((unhid HBQ).mono (unhid HBL).size)).mono (unhid HWS))
      exact ⟨(keepsOthers_below (unhid HBQ)).trans ((KeepsOthers.setCell _ _ _).trans (KeepsOthers.setCell _ _ _)), ⟨⟨rfl, unhid HQ⟩, BE.set (unhid HR2)⟩, Below.setCell (Below.setCell hb2 (unhid HB0) _) (Nat.le_succ_of_le (unhid HB0)) _⟩
  case done =>
    rintro D ys W hD rfl ⟨hall, hbel⟩ hK
    have hbe := (unhid HE).r.below hbel
    obtain ⟨m0, m1, m2, m3⟩ := hbe.cells
    have HR := hid hbe
    have HQ := hid (mir_true (f := f) (fun n hn => by
      obtain ⟨e1, e2⟩ := (unhid HFN) n hn
      rw [← e1, ← e2]
      exact hall ⟨n, hn⟩ (List.mem_finRange _)))
    have HBL := hid hbel
    have HD := hid hD
    clear hall hbel hbe hD
    go_wp2_with fail
    have hK' := ((KeepsOthers.setCell W ⟨B + 1, 0, none⟩ (.bool true)).trans (KeepsOthers.setCell _ ⟨B + 1 + 1, 0, none⟩ (.int .i64 0))).same D _ hK rfl
    have hbe2 := (BE.set (b' := true) (n' := 0) (unhid HR)).kept (grownBy_putObj' _ D (.deferred none)) (fun r e => by cases e; exact ⟨_, hK', rfl⟩)
    have hb2 := Below.setCell (p := ⟨B + 1 + 1, 0, none⟩) (Below.setCell (p := ⟨B + 1, 0, none⟩) ((unhid HB).trans ((unhid HBL).mono (unhid HWS))) (unhid HB0) (.bool true)) (Nat.le_succ_of_le (unhid HB0)) (.int .i64 0)
    refine ⟨by simp, .inl ⟨_, _, rfl, run_takeDeferred hK', ?_⟩⟩
    exact ⟨_, results_be rfl _ _ (B + 1) (B + 1 + 1) true 0 rfl rfl hbe2.cells.1 hbe2.cells.2.1, by rw [unhid HQ], hb2.trans (belowK_b (w := w) (Nat.le_refl _) _ D _ _ (Nat.le_trans (unhid HWS) (unhid HD)) hK' rfl rfl)⟩
  case stop =>
    rintro D cd pre W hD hpre ⟨⟨⟨rfl, x, hx, hne⟩, hbe⟩, hbel⟩ hK
    have HQ := hid (mir_dot (f := f) x.isLt (by
      obtain ⟨e1, e2⟩ := (unhid HFN) x.val x.isLt
      rw [← e1, ← e2]
      exact hne))
    refine (wpIn_wide (n := 9)).2 ?_
    go_wp2_with fail
    have hbe2 := hbe.kept (grownBy_putObj' _ D (.deferred none)) (fun r e => by cases e; exact ⟨_, hK, rfl⟩)
    refine ⟨by simp, .inl ⟨_, _, rfl, run_takeDeferred hK, ?_⟩⟩
    exact ⟨_, results_be rfl _ _ (B + 1) (B + 1 + 1) false 0 rfl rfl hbe2.cells.1 hbe2.cells.2.1, by rw [unhid HQ], hbel.trans (belowK_b (w := w) (Nat.le_refl _) _ D _ _ (Nat.le_trans (unhid HWS) hD) hK rfl rfl)⟩
end

section
theorem dotL_at {f : Fc} {k n : Nat} (h : n < numD f) : (dotL f k)[n]? = some (dotK f k n) := by simp [dotL, h]

set_option maxHeartbeats 4000000 in
set_option maxRecDepth 100000 in
theorem requal_calls (f g : Fc) (A1 A2 A3 A4 : Option Addr) (c1 c2 c3 c4 : Nat) (w : World) (hf : fcB f = true) (hg : fcB g = true) (hr : Rd w A1 (ints (dotL f f.items.length))) (hr2 : Rd w A3 (ints (dotL g g.items.length))) :
    Calls Tryz.prog 45 #[.agg #[.int .i64 f.size, .int .i64 (heiF f), .slice A1 (numD f) c1, .slice A2 (numD f) c2], .agg #[.int .i64 g.size, .int .i64 (heiF g), .slice A3 (numD g) c3, .slice A4 (numD g) c4]] w fun e w' => e = .returned (.bool (lookB f g)) ∧ Below w.heap.size w w' := by
  obtain ⟨n0, n1⟩ := numD_bounds hf
  have hb1 := below_alloc w (.cells #[.int .i64 f.size, .int .i64 (heiF f), .slice A1 (numD f) c1, .slice A2 (numD f) c2] 36)
  have hn1 := heap_alloc_new w (.cells #[.int .i64 f.size, .int .i64 (heiF f), .slice A1 (numD f) c1, .slice A2 (numD f) c2] 36)
  have hs1 : (w.alloc (.cells #[.int .i64 f.size, .int .i64 (heiF f), .slice A1 (numD f) c1, .slice A2 (numD f) c2] 36)).heap.size = w.heap.size + 1 := by simp
  have hb2 := below_alloc (w.alloc (.cells #[.int .i64 f.size, .int .i64 (heiF f), .slice A1 (numD f) c1, .slice A2 (numD f) c2] 36)) (.cells #[.int .i64 g.size, .int .i64 (heiF g), .slice A3 (numD g) c3, .slice A4 (numD g) c4] 36)
  have hn2 := heap_alloc_new (w.alloc (.cells #[.int .i64 f.size, .int .i64 (heiF f), .slice A1 (numD f) c1, .slice A2 (numD f) c2] 36)) (.cells #[.int .i64 g.size, .int .i64 (heiF g), .slice A3 (numD g) c3, .slice A4 (numD g) c4] 36)
  rw [hs1] at hn2
  have hn1' := (hb2.block w.heap.size (by rw [hs1]; omega)).trans hn1
  have hbb := hb1.trans (hb2.mono hb1.size)
  have HR1 := hid (hr.below hbb)
  have HR2 := hid (hr2.below hbb)
  have HBB := hid hbb
  have HN1 := hid hn1'
  have HN2 := hid hn2
  clear hb1 hb2 hn1 hn1' hn2 hs1 hbb hr hr2
  go_enter Tryz.func45, Tryz.ntmps45
  go_upto_region 1 with (fail)
  generalize (w.alloc (.cells #[.int .i64 f.size, .int .i64 (heiF f), .slice A1 (numD f) c1, .slice A2 (numD f) c2] 36)).alloc (.cells #[.int .i64 g.size, .int .i64 (heiF g), .slice A3 (numD g) c3, .slice A4 (numD g) c4] 36) = W at *
  obtain ⟨B, hB⟩ : ∃ B, B = w.heap.size := ⟨_, rfl⟩
  rw [← hB] at HN1 HN2 ⊢
  have HBW := hid hB
  clear hB
  have p0 := cell_of_row _ B 0 _ _ _ (unhid HN1)
  have p1 := cell_of_row _ B 1 _ _ _ (unhid HN1)
  have p2 := cell_of_row _ B 2 _ _ _ (unhid HN1)
  have q0 := cell_of_row _ (B + 1) 0 _ _ _ (unhid HN2)
  have q1 := cell_of_row _ (B + 1) 1 _ _ _ (unhid HN2)
  have q2 := cell_of_row _ (B + 1) 2 _ _ _ (unhid HN2)
  simp at p0 p1 p2 q0 q1 q2
  by_cases he : f.size = g.size ∧ heiF f = heiF g
  · obtain ⟨h1, h2⟩ := he
    have hN : numD g = numD f := by unfold numD; rw [h1, h2]
    have x1 : (f.size != g.size) = false := by simp [h1]
    have x2 : (heiF f != heiF g) = false := by simp [h2]
    have HE := hid (And.intro h1 h2)
    have HNN := hid hN
    clear h1 h2 hN
    go_wp2_with fail
    go_loopw [5] (fun iv wr => ∃ n : Nat, n ≤ numD f ∧ iv = .int .i64 n ∧ (∀ m, m < n → dotK f f.items.length m = dotK g g.items.length m) ∧ Below W.heap.size W wr) (fun iv _ => numD f - (intOf iv).toNat)
    case atStart => exact ⟨0, Nat.zero_le _, rfl, fun m hm => by omega, Below.refl _ _⟩
    case round =>
      obtain ⟨n, hn, rfl, hall, hbel⟩ := hrel
      have HALL := hid hall
      have HBL := hid hbel
      have hP := (hbel.block B (Array.getElem?_eq_some_iff.1 (unhid HN1)).1).trans (unhid HN1)
      have hQ := (hbel.block (B + 1) (Array.getElem?_eq_some_iff.1 (unhid HN2)).1).trans (unhid HN2)
      have r2 := cell_of_row _ B 2 _ _ _ hP
      have s2 := cell_of_row _ (B + 1) 2 _ _ _ hQ
      simp at r2 s2
      by_cases hnl : n < numD f
      · have hne : ints (dotL f f.items.length) ≠ [] := ints_ne (k := n) (by rw [dotL_len]; exact hnl)
        have hne2 : ints (dotL g g.items.length) ≠ [] := ints_ne (k := n) (by rw [dotL_len, unhid HNN]; exact hnl)
        obtain ⟨b, off, rfl, hb, hc⟩ := ((unhid HR1).below hbel) hne
        obtain ⟨b2, off2, rfl, hb2, hc2⟩ := ((unhid HR2).below hbel) hne2
        have m0 := hc n (.int .i64 (dotK f f.items.length n)) (by simp [ints, dotL_at hnl])
        have m1 := hc2 n (.int .i64 (dotK g g.items.length n)) (by simp [ints, dotL_at (f := g) (show n < numD g by rw [unhid HNN]; exact hnl)])
        rw [unhid HNN] at s2
        have hni : (n : Int) < (numD f : Int) := by omega
        have HOK := hid (show ∀ u v, u = dotK f f.items.length n → v = dotK g g.items.length n → (u = v → ∀ m, m < n + 1 → dotK f f.items.length m = dotK g g.items.length m) ∧ (u ≠ v → lookB f g = false) from fun u v hu hv =>
          ⟨fun e m hm => by
            by_cases em : m = n
            · subst em; rw [← hu, ← hv]; exact e
            · exact hall m (by omega), fun e => look_dot hnl (by rw [← hu, ← hv]; exact e)⟩)
        obtain ⟨u, hu⟩ : ∃ u, u = dotK f f.items.length n := ⟨_, rfl⟩
        obtain ⟨v, hv⟩ : ∃ v, v = dotK g g.items.length n := ⟨_, rfl⟩
        have HOK := hid ((unhid HOK) u v hu hv)
        rw [← hu] at m0
        rw [← hv] at m1
        clear hu hv hc hc2 hne hne2 hall hbel hP hQ
        by_cases huv : u = v
        · have hx : (u != v) = false := by simp [huv]
          have HQ := hid ((unhid HOK).1 huv)
          clear huv
          go_wp2_with fail
          go_quiet (fail)
          go_wp2_with fail
          go_roundw
          case rel => exact ⟨n + 1, by omega, by go_num, unhid HQ, by first | exact below_drewN' (unhid HBL) _ | exact Below.drew (unhid HBL)⟩
          case measure => simp [intOf]; omega
        · have hx : (u != v) = true := by simp [huv]
          have HQ := hid ((unhid HOK).2 huv)
          clear huv
          go_wp2_with fail
          go_quiet (fail)
          have HBF := hid (unhid HBL)
          go_wp2_with fail
          go_ret
          refine ⟨retb (by rw [unhid HQ]), ?_⟩
          first | exact below_drewN' ((unhid HBB).trans ((unhid HBL).mono (unhid HBB).size)) _ | exact Below.drew ((unhid HBB).trans ((unhid HBL).mono (unhid HBB).size))
      · obtain rfl : n = numD f := by omega
        have HQ := hid (look_true (unhid HE).1 (unhid HE).2 hall)
        clear hall hbel hP hQ
        have hni : ¬ (numD f : Int) < (numD f : Int) := by omega
        go_wp2_with fail
        go_ret
        exact ⟨retb (by rw [unhid HQ]), (unhid HBB).trans ((unhid HBL).mono (unhid HBB).size)⟩
  · have HQ := hid (look_false he)
    by_cases h1 : f.size = g.size
    · have h2 : ¬ heiF f = heiF g := fun e => he ⟨h1, e⟩
      have x1 : (f.size != g.size) = false := by simp [h1]
      have x2 : (heiF f != heiF g) = true := by simp [h2]
      clear h1 h2 he
      go_wp2_with fail
      go_ret
      exact ⟨retb (by rw [unhid HQ]), unhid HBB⟩
    · have x1 : (f.size != g.size) = true := by simp [h1]
      clear h1 he
      go_wp2_with fail
      go_ret
      exact ⟨retb (by rw [unhid HQ]), unhid HBB⟩

set_option maxHeartbeats 4000000 in
set_option maxRecDepth 100000 in
theorem rmirror_calls (f : Fc) (A1 A2 : Option Addr) (c1 c2 : Nat) (w : World) (hf : fcB f = true) (hr : Rd w A1 (ints (dotL f f.items.length))) :
    Calls Tryz.prog 53 #[.agg #[.int .i64 f.size, .int .i64 (heiF f), .slice A1 (numD f) c1, .slice A2 (numD f) c2]] w fun e w' => e = .returned (.bool (mirB f)) ∧ Below w.heap.size w w' := by
  obtain ⟨s0, s1⟩ := size_bounds hf
  obtain ⟨h0, h1⟩ := heiF_bounds hf
  have HFF := hid hf
  have hb1 := below_alloc w (.cells #[.int .i64 f.size, .int .i64 (heiF f), .slice A1 (numD f) c1, .slice A2 (numD f) c2] 36)
  have HN1 := hid (heap_alloc_new w (.cells #[.int .i64 f.size, .int .i64 (heiF f), .slice A1 (numD f) c1, .slice A2 (numD f) c2] 36))
  have HR1 := hid (hr.below hb1)
  have HBB := hid hb1
  have hTR : (∀ m, m < numD f → colAt f ((m % f.size.toNat : Nat) : Int) ((m / f.size.toNat : Nat) : Int) = colAt f (f.size - 1 - ((m % f.size.toNat : Nat) : Int)) ((m / f.size.toNat : Nat) : Int)) → mirB f = true := fun h => mir_true (fun n hn => by
    obtain ⟨a, b⟩ := pix_lt hn
    have h := h n hn
    unfold colAt at h
    have p0 := Int.natCast_nonneg (n % f.size.toNat)
    have p1 := Int.natCast_nonneg (n / f.size.toNat)
    rw [if_pos ⟨p0, a, p1, b⟩, if_pos ⟨by omega, by omega, p1, b⟩] at h
    exact h)
  have HTR := hid hTR
  clear hb1 hr hTR hf
  obtain ⟨sz, hsz⟩ : ∃ sz : Nat, sz = f.size.toNat := ⟨_, rfl⟩
  obtain ⟨hh, hhh⟩ : ∃ hh : Nat, hh = (heiF f).toNat := ⟨_, rfl⟩
  have HSZ := hid (show (sz : Int) = f.size by omega)
  have HHH := hid (show (hh : Int) = heiF f by omega)
  have HSN := hid hsz
  have HHN := hid hhh
  clear hsz hhh
  go_enter Tryz.func53, Tryz.ntmps53
  go_upto_region 1 with (fail)
  generalize w.alloc (.cells #[.int .i64 f.size, .int .i64 (heiF f), .slice A1 (numD f) c1, .slice A2 (numD f) c2] 36) = W at *
  go_wp2_with fail
  go_loopw [3] (fun jv wr => ∃ j : Nat, j ≤ hh ∧ jv = .int .i64 j ∧ (∀ m, m < j * sz → colAt f ((m % sz : Nat) : Int) ((m / sz : Nat) : Int) = colAt f (f.size - 1 - ((m % sz : Nat) : Int)) ((m / sz : Nat) : Int)) ∧ Below W.heap.size W wr) (fun jv _ => hh - (intOf jv).toNat)
  case atStart => exact ⟨0, Nat.zero_le _, rfl, fun m hm => by omega, Below.refl _ _⟩
  case round =>
    obtain ⟨j, hj, rfl, hall, hbel⟩ := hrel
    have HALL := hid hall
    have HBL := hid hbel
    have hP := (hbel.block w.heap.size (Array.getElem?_eq_some_iff.1 (unhid HN1)).1).trans (unhid HN1)
    have p1 := cell_of_row _ w.heap.size 1 _ _ _ hP
    simp at p1
    clear hall hbel hP
    by_cases hjl : j < hh
    · have hji : (j : Int) < heiF f := by have := unhid HHH; omega
      go_wp2_with fail
      go_loopw [4] (fun iv wr => ∃ i : Nat, i ≤ sz ∧ iv = .int .i64 i ∧ (∀ m, m < j * sz + i → colAt f ((m % sz : Nat) : Int) ((m / sz : Nat) : Int) = colAt f (f.size - 1 - ((m % sz : Nat) : Int)) ((m / sz : Nat) : Int)) ∧ Below W.heap.size W wr) (fun iv _ => sz - (intOf iv).toNat)
      case atStart => exact ⟨0, Nat.zero_le _, rfl, unhid HALL, unhid HBL⟩
      case round =>
        obtain ⟨i, hi, rfl, hall, hbel⟩ := hrel
        have HALL2 := hid hall
        have HBL2 := hid hbel
        have hP := (hbel.block w.heap.size (Array.getElem?_eq_some_iff.1 (unhid HN1)).1).trans (unhid HN1)
        have r0 := cell_of_row _ w.heap.size 0 _ _ _ hP
        simp at r0
        clear hall
        by_cases hil : i < sz
        · have hii : (i : Int) < f.size := by have := unhid HSZ; omega
          have e1 : (j * sz + i) % sz = i := by rw [Nat.add_comm, Nat.add_mul_mod_self_right, Nat.mod_eq_of_lt hil]
          have e2 : (j * sz + i) / sz = j := by rw [Nat.add_comm, Nat.add_mul_div_right _ _ (by omega), Nat.div_eq_of_lt hil, Nat.zero_add]
          have hx : j * sz + i < numD f := by
            have h1 : j * sz + sz ≤ hh * sz := by rw [← Nat.succ_mul]; exact Nat.mul_le_mul_right _ hjl
            have h2 : numD f = hh * sz := by unfold numD; rw [← unhid HSN, ← unhid HHN, Nat.mul_comm]
            omega
          have KF := hid (fun p : After wr => rat_calls f A1 A2 c1 c2 (i : Int) (j : Int) p.w (unhid HFF) (((unhid HR1).below hbel).below p.below))
          have KG := hid (fun p : After wr => rat_calls f A1 A2 c1 c2 (f.size - 1 - (i : Int)) (j : Int) p.w (unhid HFF) (((unhid HR1).below hbel).below p.below))
          have a0 : ∀ p : After wr, p.w.cell? ⟨w.heap.size, 0, none⟩ = some (.int .i64 f.size) := fun p => cell_of_row _ _ _ _ _ _ ((p.below.block _ (Array.getElem?_eq_some_iff.1 hP).1).trans hP)
          have a1 : ∀ p : After wr, p.w.cell? ⟨w.heap.size, 1, none⟩ = some (.int .i64 (heiF f)) := fun p => cell_of_row _ _ _ _ _ _ ((p.below.block _ (Array.getElem?_eq_some_iff.1 hP).1).trans hP)
          have a2 : ∀ p : After wr, p.w.cell? ⟨w.heap.size, 2, none⟩ = some (.slice A1 (numD f) c1) := fun p => cell_of_row _ _ _ _ _ _ ((p.below.block _ (Array.getElem?_eq_some_iff.1 hP).1).trans hP)
          have a3 : ∀ p : After wr, p.w.cell? ⟨w.heap.size, 3, none⟩ = some (.slice A2 (numD f) c2) := fun p => cell_of_row _ _ _ _ _ _ ((p.below.block _ (Array.getElem?_eq_some_iff.1 hP).1).trans hP)
          have HOK := hid (show ∀ u v, u = colAt f (i : Int) (j : Int) → v = colAt f (f.size - 1 - (i : Int)) (j : Int) → (u = v → ∀ m, m < j * sz + (i + 1) → colAt f ((m % sz : Nat) : Int) ((m / sz : Nat) : Int) = colAt f (f.size - 1 - ((m % sz : Nat) : Int)) ((m / sz : Nat) : Int)) ∧ (u ≠ v → mirB f = false) from fun u v hu hv =>
            ⟨fun e m hm => by
              by_cases em : m = j * sz + i
              · subst em; rw [e1, e2, ← hu, ← hv]; exact e
              · exact (unhid HALL2) m (by omega), fun e => mir_dot hx (by
                unfold dotK
                rw [← unhid HSN, e1, e2]
                intro h
                apply e
                rw [hu, hv]
                unfold colAt
                have p0 := Int.natCast_nonneg i
                have p1 := Int.natCast_nonneg j
                rw [if_pos ⟨p0, hii, p1, hji⟩, if_pos ⟨by omega, by omega, p1, hji⟩]
                exact h)⟩)
          obtain ⟨u, hu⟩ : ∃ u, u = colAt f (i : Int) (j : Int) := ⟨_, rfl⟩
          obtain ⟨v, hv⟩ : ∃ v, v = colAt f (f.size - 1 - (i : Int)) (j : Int) := ⟨_, rfl⟩
          have HOK := hid ((unhid HOK) u v hu hv)
          rw [← hu] at KF
          rw [← hv] at KG
          clear hu hv e1 e2 hx hbel hP
          obtain ⟨y0, y0'⟩ := w64 (n := f.size - 1) (by omega) (by omega)
          obtain ⟨y1, y1'⟩ := w64 (n := f.size - 1 - (i : Int)) (by omega) (by omega)
          go_wp2_with fail
          refine wp_region_below (by kernel_rfl) (by kernel_rfl) ?_
          go_big_quiet_step (fail)
          go_big_quiet_step (fail)
          go_big_quiet_step (fail)
          go_big_quiet_step ((go_at_call 28; exact Calls.after_of ((unhid KF) _)))
          go_big_quiet_step (fail)
          go_big_quiet_step (fail)
          go_big_quiet_step (fail)
          go_big_quiet_step (fail)
          go_big_quiet_step (fail)
          go_big_quiet_step (fail)
          go_big_quiet_step (fail)
          go_big_quiet_step ((go_at_call 28; exact Calls.after_of ((unhid KG) _)))
          go_big_quiet_step (fail)
          refine wpQuiet_nil ?_
          intro wq hw'
          obtain ⟨⟨wq2, hbq⟩, hw''⟩ := hw'
          dsimp only at hw''
          subst hw''
          have HB3 := hid ((unhid HBL2).trans (hbq.mono (unhid HBL2).size))
          clear a0 a1 a2 a3 y0 y0' y1 y1' hbq
          by_cases huv : u = v
          · have hxx : (u != v) = false := by simp [huv]
            have HQ := hid ((unhid HOK).1 huv)
            clear huv
            go_wp2_with fail
            go_roundw
            case rel => exact ⟨i + 1, by omega, by go_num, unhid HQ, unhid HB3⟩
            case measure => simp [intOf]; omega
          · have hxx : (u != v) = true := by simp [huv]
            have HQ := hid ((unhid HOK).2 huv)
            clear huv
            go_wp2_with fail
            go_ret
            exact ⟨retb (by rw [unhid HQ]), (unhid HBB).trans ((unhid HB3).mono (unhid HBB).size)⟩
        · obtain rfl : i = sz := by omega
          have hii : ¬ (i : Int) < f.size := by have := unhid HSZ; omega
          clear hbel hP
          go_wp2_with fail
          go_roundw
          case rel => exact ⟨j + 1, by omega, by go_num, fun m hm => (unhid HALL2) m (by rw [Nat.succ_mul] at hm; exact hm), unhid HBL2⟩
          case measure => simp [intOf]; omega
    · obtain rfl : j = hh := by omega
      have hji : ¬ (j : Int) < heiF f := by have := unhid HHH; omega
      have HQ := hid ((unhid HTR) (fun m hm => by
        have h := (unhid HALL) m (by
          have h2 : numD f = j * sz := by unfold numD; rw [← unhid HSN, ← unhid HHN, Nat.mul_comm]
          omega)
        rw [← unhid HSN]
        exact h))
      go_wp2_with fail
      go_ret
      exact ⟨retb (by rw [unhid HQ]), (unhid HBB).trans ((unhid HBL).mono (unhid HBB).size)⟩
end

section
open Go.RowKit Go.Shelf

attribute [local go_sem] Oper.semAt_some

/-- The cell at the head of a block stays. -/
def CellK (b : Nat) (A B : World) : Prop := ∀ v, A.cell? ⟨b, 0, none⟩ = some v → B.cell? ⟨b, 0, none⟩ = some v
theorem CellK.trans {b : Nat} {A B C : World} (h : CellK b A B) (k : CellK b B C) : CellK b A C := fun v hv => k v (h v hv)
theorem CellK.put {b : Nat} (W : World) (l : Nat) (o o' : Obj) (h : W.heap[l]? = some o) (hc : o.isCells = false) : CellK b W (W.putObj l o') := fun v hv =>
  cell_kept hv (grownBy_putObj' W l o') (fun r e => by cases e; exact ⟨o, h, hc⟩)

set_option maxHeartbeats 2000000 in
set_option maxRecDepth 100000 in
theorem dots1K_in (F : Fence) (n : Nat) (hF : F.fn 105) (hro : F.round = none) (hn : 1 ≤ n) (l bh bw W0 H0 N : Nat) (hN : N = W0 * H0) (hw0 : 1 ≤ W0 ∧ W0 ≤ 1000) (hh0 : H0 ≤ 1000) (J Jx : List (Fin N) → World → Prop)
    (hY : ∀ pre x W, J pre W → pre.length < N → YieldAt F (n - 1) Tryz.prog l (pxV W0 x.val) W fun e W' =>
      (e = .returned (.bool true) ∧ J (pre ++ [x]) W' ∧ CellK bw W W') ∨ (e = .returned (.bool false) ∧ Jx (pre ++ [x]) W'))
    (W : World) (hbh : W.cell? ⟨bh, 0, none⟩ = some (.int .i64 H0)) (hbw : W.cell? ⟨bw, 0, none⟩ = some (.int .i64 W0)) (h0 : J [] W) :
    CallsIn F n Tryz.prog 105 #[.func (.yield l) #[] #[], .pointer (some ⟨bh, 0, none⟩), .pointer (some ⟨bw, 0, none⟩)] W fun e W' => (∃ v, e = .returned v) ∧
      ((∃ ys, ys = List.finRange N ∧ J ys W') ∨ (∃ pre, pre <+: List.finRange N ∧ Jx pre W')) := by
  refine callsIn_of_wp Tryz.func105 rfl hF ?_ hro
  simp only [Tryz.ntmps105, List.size_toArray, List.length_cons, List.length_nil, Nat.reduceAdd, Nat.reduceSub, Array.replicate_succ, Array.replicate_zero, List.push_toArray, List.append_toArray, List.nil_append, List.cons_append]
  have HY := hid hY
  have HBW := hid hbw
  clear hY hbw
  gi_wp2
  gi_loopw [7] (fun jv wr => ∃ j : Nat, j ≤ H0 ∧ jv = .int .i64 j ∧ J ((List.finRange N).take (j * W0)) wr ∧ wr.cell? ⟨bw, 0, none⟩ = some (.int .i64 W0)) (fun jv _ => H0 - (intOf jv).toNat)
  case atStart => exact ⟨0, Nat.zero_le _, rfl, by simpa using h0, unhid HBW⟩
  case round =>
    obtain ⟨j, hj, rfl, hJ, hbw⟩ := hrel
    by_cases hjl : j < H0
    · have hjh : (j : Int) < (H0 : Int) := by omega
      gi_wp2
      gi_loopw [11] (fun iv wr => ∃ i : Nat, i ≤ W0 ∧ iv = .int .i64 i ∧ J ((List.finRange N).take (j * W0 + i)) wr ∧ wr.cell? ⟨bw, 0, none⟩ = some (.int .i64 W0)) (fun iv _ => W0 - (intOf iv).toNat)
      case atStart => exact ⟨0, Nat.zero_le _, rfl, hJ, hbw⟩
      case round =>
        obtain ⟨i, hi, rfl, hJ2, hbw2⟩ := hrel
        by_cases hil : i < W0
        · have hih : (i : Int) < (W0 : Int) := by omega
          have hx : j * W0 + i < N := by
            have h1 : j * W0 + W0 ≤ H0 * W0 := by rw [← Nat.succ_mul]; exact Nat.mul_le_mul_right _ hjl
            rw [hN, Nat.mul_comm W0 H0]
            omega
          have e1 : (j * W0 + i) % W0 = i := by rw [Nat.add_comm, Nat.add_mul_mod_self_right, Nat.mod_eq_of_lt hil]
          have e2 : (j * W0 + i) / W0 = j := by rw [Nat.add_comm, Nat.add_mul_div_right _ _ (by omega), Nat.div_eq_of_lt hil, Nat.zero_add]
          obtain ⟨fn, tmps, assign, body, hy, hR⟩ := (unhid HY) _ ⟨j * W0 + i, hx⟩ wr hJ2 (by rw [fin_take_len (by omega)]; exact hx)
          simp only [pxV, pxI, pxJ, e1, e2] at hy
          rw [fin_take hx] at hR
          gi_wp2
          refine hR.mono ?_
          rintro e W3 (⟨rfl, hJ3, hk3⟩ | ⟨rfl, hJx3⟩)
          · gi_wp2
            go_roundw
            case rel => exact ⟨i + 1, by omega, by go_num, by rw [← Nat.add_assoc]; exact hJ3, hk3 _ hbw2⟩
            case measure => simp [intOf]; omega
          · gi_wp2
            refine bodyPost_ret (results_none rfl _ _ _) rfl ?_
            exact ⟨⟨_, rfl⟩, .inr ⟨_, List.take_prefix _ _, hJx3⟩⟩
        · obtain rfl : i = W0 := by omega
          gi_wp2
          go_roundw
          case rel => exact ⟨j + 1, by omega, by go_num, by rw [Nat.succ_mul]; exact hJ2, hbw2⟩
          case measure => simp [intOf]; omega
    · obtain rfl : j = H0 := by omega
      gi_wp2
      go_end0
      have e : j * W0 = N := by rw [hN, Nat.mul_comm]
      rw [e, fin_all] at hJ
      exact ⟨⟨_, rfl⟩, .inl ⟨_, rfl, hJ⟩⟩

theorem dots_stopsK (F : Fence) (n : Nat) (hF : F.fn 105) (hro : F.round = none) (hn : 1 ≤ n) (bh bw W0 H0 N : Nat) (hN : N = W0 * H0) (hw0 : 1 ≤ W0 ∧ W0 ≤ 1000) (hh0 : H0 ≤ 1000) (w : World)
    (hbh : w.cell? ⟨bh, 0, none⟩ = some (.int .i64 H0)) (hbw : w.cell? ⟨bw, 0, none⟩ = some (.int .i64 W0)) (hlt : bh < w.heap.size ∧ bw < w.heap.size) :
    SeqStopsK F n Tryz.prog 105 #[.pointer (some ⟨bh, 0, none⟩), .pointer (some ⟨bw, 0, none⟩)] (fun x : Fin N => pxV W0 x.val) (CellK bw) (fun ys => ys = List.finRange N) (fun pre => pre <+: List.finRange N) N w := fun l J Jx W hW _ _ hY h0 =>
  dots1K_in F n hF hro hn l bh bw W0 H0 N hN hw0 hh0 J Jx hY W ((hW.cell (p := ⟨bh, 0, none⟩) hlt.1).trans hbh) ((hW.cell (p := ⟨bw, 0, none⟩) hlt.2).trans hbw) h0

/-! ### What is seen -/
/-- The map D names just the items that are seen at the dots pre. -/
structure SeenOk (f : Fc) (pre : List (Fin (numD f))) (D : DataW Unit) : Prop where
  map : Maps.IsMap D
  at' : ∀ k : Nat, D.atKey (.int .i64 k) (.lit (.bool false)) = .lit (.bool (pre.any fun x => decide (ownN f f.items.length x.val = k)))
theorem SeenOk.nil (f : Fc) : SeenOk f [] (.map []) := ⟨⟨[], rfl⟩, fun k => rfl⟩
theorem SeenOk.skip {f : Fc} {pre : List (Fin (numD f))} {D : DataW Unit} (h : SeenOk f pre D) {x : Fin (numD f)} (hx : ownN f f.items.length x.val = -1) : SeenOk f (pre ++ [x]) D := by
  refine ⟨h.map, fun k => ?_⟩
  rw [h.at', List.any_append]
  have : decide (ownN f f.items.length x.val = (k : Int)) = false := by rw [hx]; exact decide_eq_false (by omega)
  simp [this]
theorem SeenOk.put {f : Fc} {pre : List (Fin (numD f))} {D : DataW Unit} (h : SeenOk f pre D) {n : Nat} (hm : Maps.IsMap (D.put (.int .i64 (n : Int)) (.lit (.bool true)))) {x : Fin (numD f)} (hx : ownN f f.items.length x.val = n) : SeenOk f (pre ++ [x]) (D.put (.int .i64 (n : Int)) (.lit (.bool true))) := by
  have hkl : WideAt.IsKeyLit (.int .i64 (n : Int)) := trivial
  refine ⟨hm, fun k => ?_⟩
  rw [List.any_append]
  by_cases e : k = n
  · subst e
    rw [Maps.atKey_put_same h.map hkl]
    simp [hx]
  · rw [Maps.atKey_put_other (by simp; omega), h.at']
    have : decide (ownN f f.items.length x.val = (k : Int)) = false := by rw [hx]; exact decide_eq_false (by omega)
    simp [this]
theorem SeenOk.all {f : Fc} {D : DataW Unit} (h : SeenOk f (List.finRange (numD f)) D) (k : Nat) : D.atKey (.int .i64 k) (.lit (.bool false)) = .lit (.bool (seenF f k)) := by
  rw [h.at']
  congr 2
  rw [Bool.eq_iff_iff, seen_own, List.any_eq_true]
  constructor
  · rintro ⟨x, -, hx⟩
    exact ⟨x.val, x.isLt, by simpa using hx⟩
  · rintro ⟨n, hn, hx⟩
    exact ⟨⟨n, hn⟩, List.mem_finRange _, by simpa using hx⟩
set_option maxRecDepth 100000 in
theorem plain_bool {v : Value} {b : Bool} {ps : List MemPlace} (h : plainElem (H := Unit) Tryz.prog 4 v = some (.lit (.bool b), ps)) : v = .bool b := by
  cases v <;> simp [plainElem, Tryz.underlying4] at h
  rw [h.1]
theorem wf_small {n : Nat} (h : n ≤ 1000000) : (Lit.int .i64 (n : Int)).wf = true := by
  simp [Lit.wf, IntKind.min, IntKind.max, IntKind.signed, IntKind.bits]
  omega
/-- 'seen[k]'. -/
theorem seen_look {w : World} {M n : Nat} {D : DataW Unit} {k : Nat} {b : Bool} (h : w.ownsMap Tryz.prog 3 (plainElem Tryz.prog 4) M n D) (hk : k ≤ 1000000) (hb : D.atKey (.int .i64 k) (.lit (.bool false)) = .lit (.bool b)) :
    (Instr.lookup 113 (.map (some M)) (.int .i64 k) false).run Tryz.prog w = .ok (.bool b) w := by
  obtain ⟨v, ps, hrun, hv⟩ := h.lookup (Maps.int_keyed Tryz.underlying3) Tryz.underlying113 (Tryz.zeroValue4 w) (plainElem_bool Tryz.underlying4 false) (Maps.keyOf_int_mk Tryz.underlying3 (wf_small hk))
  rw [hb] at hv
  rw [hrun, plain_bool hv]

/-- All blocks but one lie as they lay. -/
structure But (M : Nat) (w W : World) : Prop where
  os : W.os = w.os
  tape : W.tape = w.tape
  output : W.output = w.output
  size : w.heap.size ≤ W.heap.size
  block : ∀ k, k < w.heap.size → k ≠ M → W.heap[k]? = w.heap[k]?
theorem But.refl (M : Nat) (w : World) : But M w w := ⟨rfl, rfl, rfl, Nat.le_refl _, fun _ _ _ => rfl⟩
theorem But.after {M : Nat} {w W W' : World} (h : But M w W) (hb : Below W.heap.size W W') : But M w W' :=
  ⟨hb.os.trans h.os, hb.tape.trans h.tape, hb.output.trans h.output, Nat.le_trans h.size hb.size, fun k hk hn => (hb.block k (Nat.lt_of_lt_of_le hk h.size)).trans (h.block k hk hn)⟩
theorem But.grown {M : Nat} {w W W' : World} (h : But M w W) {row : Option Nat} (hg : W.grownBy W' row) (hr : ∀ r, row = some r → r = M ∨ w.heap.size ≤ r) : But M w W' := by
  refine ⟨hg.os.trans h.os, hg.tape.trans h.tape, hg.output.trans h.output, Nat.le_trans h.size hg.size, fun k hk hn => (hg.block k (Nat.lt_of_lt_of_le hk h.size) (fun e => ?_)).trans (h.block k hk hn)⟩
  rcases hr k e.symm with h' | h'
  · exact hn h'
  · omega
theorem But.below {M B : Nat} {w W : World} (h : But M w W) (hB : B ≤ M) (hw : B ≤ w.heap.size) : Below B w W := ⟨h.os, h.tape, h.output, h.size, fun k hk => h.block k (by omega) (by omega)⟩
theorem but_own {β : Type} {M : Nat} {w : World} : OwnFrom w.heap.size (fun (_ : β) W => But M w W) := fun _ _ _ _ hs hg hr => hs.grown hg (fun r e => .inr (hr r e).1)
end

section
open Go.RowKit Go.Shelf

attribute [local go_sem] Oper.semAt_some wide_fn

theorem keepsFrom_below {B : Nat} {W W' : World} (h : Below W.heap.size W W') : KeepsFrom B W W' := (keepsOthers_below h).from B

theorem map_below {W W' : World} {k : TypeId} {R : Value → Option (DataW Unit × List MemPlace)} {M n : Nat} {D : DataW Unit} (h : W.ownsMap Tryz.prog k R M n D) (hb : Below W.heap.size W W') : W'.ownsMap Tryz.prog k R M n D := by
  obtain ⟨es, ck, hh, r⟩ := h
  exact ⟨es, ck, (hb.block M (Array.getElem?_eq_some_iff.1 hh).1).trans hh, r⟩
theorem CellK.below {b : Nat} {W W' : World} (h : Below W.heap.size W W') : CellK b W W' := fun v hv => by
  obtain ⟨o, ho, -⟩ := cells_of_cell hv
  exact (h.cell (p := ⟨b, 0, none⟩) (Array.getElem?_eq_some_iff.1 ho).1).trans hv
theorem rd_put {W : World} {D : Nat} {o : Obj} {A : Option Addr} {xs : List Value} (h : Rd W A xs) (hK : W.heap[D]? = some o) (ho : o.isCells = false) (o' : Obj) : Rd (W.putObj D o') A xs := fun hx => by
  obtain ⟨b, off, rfl, hb, hc⟩ := h hx
  exact ⟨b, off, rfl, by simpa using hb, fun j u hj => cell_kept (hc j u hj) (grownBy_putObj' W D o') (fun r e => by cases e; exact ⟨_, hK, ho⟩)⟩

/-- Where Trim begins: a face, the result. -/
structure TrAt (w : World) (f : Fc) (A : Option Addr) (c : Nat) (B : Nat) : Prop where
  f : FaceAt w B f A c
  r : w.heap[B + 1]? = some (.cells (fi 0 0 0 (.slice none 0 0)) 25 (0, 0))
theorem TrAt.below {w w' : World} {f : Fc} {A : Option Addr} {c B : Nat} (h : TrAt w f A c B) (hb : Below w.heap.size w w') : TrAt w' f A c B := ⟨h.f.below hb, (hb.block _ (Array.getElem?_eq_some_iff.1 h.r).1).trans h.r⟩
theorem TrAt.lt {w : World} {f : Fc} {A : Option Addr} {c B : Nat} (h : TrAt w f A c B) : B + 1 < w.heap.size := (Array.getElem?_eq_some_iff.1 h.r).1
theorem tr_start (w : World) {f : Fc} {A : Option Addr} (c : Nat) (hf : ItsOk w A f.items) :
    TrAt ((w.alloc (.cells #[.int .i64 f.shape, .int .i64 f.size, .int .i64 f.height, .slice A f.items.length c] 25)).alloc (.cells (fi 0 0 0 (.slice none 0 0)) 25)) f A c w.heap.size ∧
    Below w.heap.size w ((w.alloc (.cells #[.int .i64 f.shape, .int .i64 f.size, .int .i64 f.height, .slice A f.items.length c] 25)).alloc (.cells (fi 0 0 0 (.slice none 0 0)) 25)) := by
  have h1 := FaceAt.new w c hf
  have hb1 := below_alloc w (.cells #[.int .i64 f.shape, .int .i64 f.size, .int .i64 f.height, .slice A f.items.length c] 25)
  have hs1 : (w.alloc (.cells #[.int .i64 f.shape, .int .i64 f.size, .int .i64 f.height, .slice A f.items.length c] 25)).heap.size = w.heap.size + 1 := by simp
  generalize w.alloc (.cells #[.int .i64 f.shape, .int .i64 f.size, .int .i64 f.height, .slice A f.items.length c] 25) = W2 at *
  have hb3 := below_alloc W2 (.cells (fi 0 0 0 (.slice none 0 0)) 25)
  have n3 := heap_alloc_new W2 (.cells (fi 0 0 0 (.slice none 0 0)) 25)
  refine ⟨⟨h1.below hb3, ?_⟩, hb1.trans (hb3.mono hb1.size)⟩
  rw [← hs1]; exact n3

set_option maxHeartbeats 4000000 in
set_option maxRecDepth 100000 in
theorem ptrim_no (f : Fc) (A : Option Addr) (c : Nat) (w : World) (hit : ItsOk w A f.items) (hf : fcB f = false) :
    Calls Tryz.prog 50 #[.agg #[.int .i64 f.shape, .int .i64 f.size, .int .i64 f.height, .slice A f.items.length c]] w fun e w' => e = .returned (.tuple #[.agg (fi 0 0 0 (.slice none 0 0)), .int .i64 10]) ∧ Below w.heap.size w w' := by
  obtain ⟨hE, hB⟩ := tr_start w c hit
  have HE := hid hE
  have HB := hid hB
  have HFF := hid hf
  clear hE hB hit hf
  go_enter Tryz.func50, Tryz.ntmps50
  go_upto_region 1 with (fail)
  change Code.wp _ _ _ _ ((w.alloc (.cells #[.int .i64 f.shape, .int .i64 f.size, .int .i64 f.height, .slice A f.items.length c] 25)).alloc (.cells (fi 0 0 0 (.slice none 0 0)) 25))
  generalize (w.alloc (.cells #[.int .i64 f.shape, .int .i64 f.size, .int .i64 f.height, .slice A f.items.length c] 25)).alloc (.cells (fi 0 0 0 (.slice none 0 0)) 25) = W at *
  obtain ⟨B, hBB⟩ : ∃ B, B = w.heap.size := ⟨_, rfl⟩
  have HBB := hid (show w.heap.size ≤ B + 1 by omega)
  rw [← hBB] at HE ⊢
  clear hBB
  obtain ⟨c0, c1, c2', c3⟩ := (unhid HE).f.cells
  go_wp2_with fail
  refine (valid_calls f A c W (unhid HE).f.ok).mono ?_
  rintro e w1 ⟨rfl, hb⟩
  rw [unhid HFF]
  have HE := hid ((unhid HE).below hb)
  have HB := hid ((unhid HB).trans (hb.mono (unhid HB).size))
  clear hb c0 c1 c2' c3
  go_wp2_with (refine wpList_store_row rfl 25 (.tmp 2) (.tmp 15) rfl (B + 1) (fi 0 0 0 (.slice none 0 0)) rfl rfl 25 _ (unhid HE).r (fi_size _ _ _ _) rfl (fi_one _ _ _ _ _ _) ?_)
  (try simp only [Exit.inBlock, Exit.then])
  refine bodyPost_ret_by (v := .tuple #[.agg (fi 0 0 0 (.slice none 0 0)), .int .i64 10]) (results_cell_row_tmp Tryz.results50 _ _ (B + 1) 25 (fi 0 0 0 (.slice none 0 0)) (0, 0) _ _ rfl rfl (setRow_heap _ _ _ _ _ _ (unhid HE).r) Tryz.underlying25 rfl (fi_size _ _ _ _)) rfl ?_
  exact ⟨rfl, below_setRow (unhid HB) (unhid HBB) _⟩

set_option maxHeartbeats 4000000 in
set_option maxRecDepth 100000 in
theorem ptrim_ok (f : Fc) (A : Option Addr) (c : Nat) (w : World) (hit : ItsOk w A f.items) (hf : fcB f = true) :
    Calls Tryz.prog 50 #[.agg #[.int .i64 f.shape, .int .i64 f.size, .int .i64 f.height, .slice A f.items.length c]] w fun e w' => Below w.heap.size w w' ∧ ∃ (A' : Option Addr) (c' : Nat), e = .returned (.tuple #[.agg (fi f.shape f.size f.height (.slice A' (trimF f).items.length c')), .int .i64 0]) ∧ ItsOk w' A' (trimF f).items ∧ ∀ a, A' = some a → w.heap.size ≤ a.block := by
  obtain ⟨s0, s1⟩ := size_bounds hf
  obtain ⟨t0, t1⟩ := heiF_bounds hf
  have hl16 : f.items.length ≤ 16 := by simp only [fcB, Bool.and_eq_true, decide_eq_true_eq] at hf; exact hf.1.1.2
  obtain ⟨hE, hB⟩ := tr_start w c hit
  have hmm := @run_makeMap Tryz.prog
  have HFF := hid hf
  have HE := hid hE
  have HB := hid hB
  have HIT := hid hit
  clear hE hB hit hf
  refine (callsIn_wide (n := 9)).1 ?_
  refine callsIn_of_wp_marks Tryz.func50 rfl trivial ?_ rfl
  simp only [Tryz.ntmps50, List.size_toArray, List.length_cons, List.length_nil, Nat.reduceAdd, Nat.reduceSub, Array.replicate_succ, Array.replicate_zero, List.push_toArray, List.append_toArray, List.nil_append, List.cons_append]
  refine wpIn_wide.2 ?_
  go_upto_region 1 with (fail)
  change Code.wp _ _ _ _ ((w.alloc (.cells #[.int .i64 f.shape, .int .i64 f.size, .int .i64 f.height, .slice A f.items.length c] 25)).alloc (.cells (fi 0 0 0 (.slice none 0 0)) 25))
  generalize (w.alloc (.cells #[.int .i64 f.shape, .int .i64 f.size, .int .i64 f.height, .slice A f.items.length c] 25)).alloc (.cells (fi 0 0 0 (.slice none 0 0)) 25) = W at *
  obtain ⟨B, hBB⟩ : ∃ B, B = w.heap.size := ⟨_, rfl⟩
  have HB0 := hid (show w.heap.size ≤ B + 1 by omega)
  rw [← hBB] at HE ⊢
  clear hBB
  obtain ⟨c0, c1, c2', c3⟩ := (unhid HE).f.cells
  go_wp2_with fail
  refine (valid_calls f A c W (unhid HE).f.ok).mono ?_
  rintro e w1 ⟨rfl, hb⟩
  rw [unhid HFF]
  have HE := hid ((unhid HE).below hb)
  have HB := hid ((unhid HB).trans (hb.mono (unhid HB).size))
  clear hb c0 c1 c2' c3
  have hBM := (unhid HE).lt
  have hwM := (unhid HB).size
  have hbm := below_alloc' (below_alloc w1 (.map #[] 0)) (.cells #[.map (some w1.heap.size)] 113)
  have hM1 := (World.ownsMap_made w1 Tryz.prog 3 (plainElem (H := Unit) Tryz.prog 4)).alloc (.cells #[.map (some w1.heap.size)] 113)
  have hM2 : ((w1.alloc (.map #[] 0)).alloc (.cells #[.map (some w1.heap.size)] 113)).heap[w1.heap.size + 1]? = some (.cells #[.map (some w1.heap.size)] 113 (0, 0)) := by
    have h := heap_alloc_new (w1.alloc (.map #[] 0)) (.cells #[.map (some w1.heap.size)] 113)
    simpa using h
  go_upto_region 4 with (fail)
  generalize (w1.alloc (.map #[] 0)).alloc (.cells #[.map (some w1.heap.size)] 113) = w3 at *
  have HE := hid ((unhid HE).below hbm)
  have HB := hid ((unhid HB).trans (hbm.mono (unhid HB).size))
  clear hbm
  obtain ⟨M, hM⟩ : ∃ M, M = w1.heap.size := ⟨_, rfl⟩
  rw [← hM] at hM1 hM2 hBM hwM ⊢
  clear hM
  have HM1 := hid hM1
  have HM2 := hid hM2
  clear hM1 hM2
  obtain ⟨c0, c1, c2', c3⟩ := (unhid HE).f.cells
  go_wp2_with fail
  refine (pdots_calls f A c w3 (by omega) (by omega)).mono ?_
  rintro e w5 ⟨hb, bh, bw, rfl, cbh, cbw, lbh, lbw⟩
  have HE := hid ((unhid HE).below hb)
  have HB := hid ((unhid HB).trans (hb.mono (unhid HB).size))
  have HM1 := hid (map_below (unhid HM1) hb)
  have HM2 := hid ((hb.block _ (Array.getElem?_eq_some_iff.1 (unhid HM2)).1).trans (unhid HM2))
  have hM5 := (Array.getElem?_eq_some_iff.1 (unhid HM2)).1
  clear hb c0 c1 c2' c3
  obtain ⟨W0, hW0⟩ : ∃ W0 : Nat, W0 = f.size.toNat := ⟨_, rfl⟩
  obtain ⟨H0, hH0⟩ : ∃ H0 : Nat, H0 = (heiF f).toNat := ⟨_, rfl⟩
  have hWI : (W0 : Int) = f.size := by omega
  have hHI : (H0 : Int) = heiF f := by omega
  have hN : numD f = W0 * H0 := by rw [hW0, hH0]; rfl
  have hN4 : numD f ≤ 40000 := (numD_bounds (unhid HFF)).2
  go_wp2_with fail
  have HN := hid hN
  rw [← hHI] at cbh
  rw [← hWI] at cbw
  have hIE : ∀ x : Fin (numD f), (pxI W0 x.val) < f.size ∧ (pxJ W0 x.val) < heiF f := fun x => by rw [hW0]; exact pix_lt x.isLt
  have HIE := hid hIE
  have hW1 : 1 ≤ W0 ∧ W0 ≤ 1000 := by omega
  have hH1 : H0 ≤ 1000 := by omega
  have HON := hid (show ∀ n : Nat, ownN f f.items.length n = ownK f (pxI W0 n) (pxJ W0 n) f.items.length from fun n => by rw [hW0]; rfl)
  clear hIE hWI hHI hN hW0 hH0
  refine (wpIn_wide (n := 9)).1 ?_
  refine wpIn_rangeFunc_ownG (α := Fin (numD f)) rfl (by omega) (gf := 105) (lb := #[.pointer (some ⟨bh, 0, none⟩), .pointer (some ⟨bw, 0, none⟩)]) rfl trivial (enters_of Tryz.func105 (by kernel_rfl) rfl)
    (dots_stopsK Fence.wide 8 trivial rfl (by omega) bh bw W0 H0 (numD f) (unhid HN) hW1 hH1 w5 cbh cbw ⟨lbh, lbw⟩) CellK.trans (fun W l o o' _ h hc _ => CellK.put W l o o' h hc) (Below.refl _ _) (fun _ => rfl)
    (fun pre W => (∃ D, W.ownsMap Tryz.prog 3 (plainElem (H := Unit) Tryz.prog 4) M pre.length D ∧ SeenOk f pre D) ∧ But M w5 W)
    (fun _ _ _ => False)
    (OwnFrom.and (fun s A B row hs hg hr => by
      obtain ⟨D, h1, h2⟩ := hs
      exact ⟨D, h1.kept hg (fun e => by have := (hr _ e.symm).1; omega), h2⟩) but_own)
    (fun _ _ _ _ _ hs _ _ => hs)
    ⟨⟨_, unhid HM1, SeenOk.nil f⟩, But.refl _ _⟩
    ?a1 ?assign ?body ?done ?stop
  case assign =>
    intro l x W K hK
    simp only [pxV]
    gi_wp2
    exact hK
  case body =>
    rintro l pre x W ⟨⟨D, hown, hsn⟩, hbut⟩ hlt
    obtain ⟨hx1, hx2⟩ := (unhid HIE) x
    have hx0 : (0 : Int) ≤ (pxI W0 x.val) := Int.natCast_nonneg _
    have hx3 : (0 : Int) ≤ (pxJ W0 x.val) := Int.natCast_nonneg _
    have hB' := (unhid HB).trans (hbut.below hwM (unhid HB).size)
    have hE' : FaceAt W B f A c := ⟨(hbut.block B (by omega) (by omega)).trans (unhid HE).f.heap, (unhid HIT).below hB'⟩
    have hm := cell_of_row _ (M + 1) 0 _ _ _ ((hbut.block (M + 1) hM5 (by omega)).trans (unhid HM2))
    simp at hm
    obtain ⟨c0, c1, c2', c3⟩ := hE'.cells
    have hON := (unhid HON) x.val
    have HTC := hid (top_calls f A c (pxI W0 x.val) (pxJ W0 x.val) W hE'.ok (unhid HFF) ⟨hx0, hx1⟩ ⟨hx3, hx2⟩)
    have HOWN := hid hown
    have HSN := hid hsn
    have HBUT := hid hbut
    obtain ⟨bt1, bt2⟩ := topK_bounds (fun t => paintB f t (pxI W0 x.val) (pxJ W0 x.val)) f.items f.items.length
    have htop : topI f (pxI W0 x.val) (pxJ W0 x.val) = topK (fun t => paintB f t (pxI W0 x.val) (pxJ W0 x.val)) f.items f.items.length := rfl
    rw [← htop] at bt1 bt2
    clear hown hsn hE' hB' hx0 hx1 hx2 hx3 htop
    by_cases hp : partB f (2 * pxI W0 x.val + 1 - f.size) (2 * pxJ W0 x.val + 1 - heiF f) = true
    · have hT : topR f (pxI W0 x.val) (pxJ W0 x.val) = .tuple #[.int .i64 (topI f (pxI W0 x.val) (pxJ W0 x.val)), .bool true] := if_pos hp
      have hO : ownK f (pxI W0 x.val) (pxJ W0 x.val) f.items.length = topI f (pxI W0 x.val) (pxJ W0 x.val) := if_pos hp
      rw [hT] at HTC
      rw [hO] at hON
      clear hT hO hp
      obtain ⟨tp, htp⟩ : ∃ tp, tp = topI f (pxI W0 x.val) (pxJ W0 x.val) := ⟨_, rfl⟩
      rw [← htp] at HTC hON bt1 bt2
      clear htp
      by_cases hq : tp < 0
      · have HSN2 := hid ((unhid HSN).skip (x := x) (by rw [hON]; omega))
        have hq0 : ¬ 0 ≤ tp := by omega
        clear hON bt1 bt2
        gi_wp2_with fail
        refine (CallsIn.inRound l (callsIn_wide.2 (unhid HTC))).mono ?_
        rintro e w6 ⟨rfl, hb6⟩
        have HB6 := hid hb6
        clear hb6
        gi_wp2
        exact ⟨keepsFrom_below (unhid HB6), CellK.below (unhid HB6), ⟨D, (map_below (unhid HOWN) (unhid HB6)).mono (by simp), unhid HSN2⟩, (unhid HBUT).after (unhid HB6)⟩
      · obtain ⟨q, rfl⟩ := Int.eq_ofNat_of_zero_le (show 0 ≤ tp by omega)
        have hq0 : (0 : Int) ≤ (q : Int) := Int.natCast_nonneg _
        have hq6 : q ≤ 1000000 := by omega
        have HOX := hid hON
        clear hON bt1 bt2 hq
        gi_wp2_with fail
        refine (CallsIn.inRound l (callsIn_wide.2 (unhid HTC))).mono ?_
        rintro e w6 ⟨rfl, hb6⟩
        have hm6 := (hb6.cell (p := ⟨M + 1, 0, none⟩) (Nat.lt_of_lt_of_le hM5 (unhid HBUT).size)).trans hm
        have hown6 := map_below (unhid HOWN) hb6
        have hmap := hown6
        obtain ⟨es, ck, hh, -⟩ := hmap
        have HB6 := hid hb6
        have HH := hid hh
        clear hb6 hh hm c0 c1 c2' c3
        gi_wp2_with (gi_at_mapUpdate; refine wpListIn_mapUpdate_own _ rfl _ _ _ 113 rfl 3 4 (Maps.int_keyed Tryz.underlying3) Tryz.underlying113 _ M pre.length _ rfl hown6 (by unfold maxLen; omega) _ _ _ rfl rfl (Maps.keyOf_int_mk Tryz.underlying3 (wf_small hq6)) _ [] (plainElem_bool Tryz.underlying4 true) ?_; intro w7 hown7 hgrow7)
        exact ⟨(keepsFrom_below (unhid HB6)).trans (KeepsFrom.of_grownBy hgrow7 (fun j e => by cases e; omega)),
          (CellK.below (unhid HB6)).trans (fun v hv => cell_kept hv hgrow7 (fun r e => by cases e; exact ⟨_, unhid HH, rfl⟩)),
          ⟨_, by rw [List.length_append, List.length_singleton]; exact hown7, (unhid HSN).put hown7.isMap (unhid HOX)⟩,
          ((unhid HBUT).after (unhid HB6)).grown hgrow7 (fun r e => by cases e; exact .inl rfl)⟩
    · have hT : topR f (pxI W0 x.val) (pxJ W0 x.val) = .tuple #[.int .i64 (-1), .bool false] := if_neg hp
      have hO : ownK f (pxI W0 x.val) (pxJ W0 x.val) f.items.length = -1 := if_neg hp
      rw [hT] at HTC
      rw [hO] at hON
      have HSN2 := hid ((unhid HSN).skip (x := x) hON)
      clear hT hO hp hON bt1 bt2
      gi_wp2_with fail
      refine (CallsIn.inRound l (callsIn_wide.2 (unhid HTC))).mono ?_
      rintro e w6 ⟨rfl, hb6⟩
      have HB6 := hid hb6
      clear hb6
      gi_wp2
      exact ⟨keepsFrom_below (unhid HB6), CellK.below (unhid HB6), ⟨D, (map_below (unhid HOWN) (unhid HB6)).mono (by simp), unhid HSN2⟩, (unhid HBUT).after (unhid HB6)⟩
  case stop =>
    rintro D cd pre W hD hpre h hK
    exact h.elim
  case done =>
    rintro D ys W hD rfl ⟨⟨Dm, hown, hsn⟩, hbut⟩ hK
    have HLK := hid (fun k => hsn.all k)
    have HOWN := hid hown
    have hbw' := (unhid HB).trans (hbut.below hwM (unhid HB).size)
    have HBW := hid hbw'
    have HFA := hid (show FaceAt W B f A c from ⟨(hbut.block B (by omega) (by omega)).trans (unhid HE).f.heap, (unhid HIT).below hbw'⟩)
    have HMB := hid ((hbut.block (M + 1) hM5 (by omega)).trans (unhid HM2))
    have HRES := hid ((hbut.block (B + 1) (by omega) (by omega)).trans (unhid HE).r)
    have HKD := hid hK
    have hWs := hbut.size
    have hDl := (Array.getElem?_eq_some_iff.1 hK).1
    clear hown hsn hbut hbw' hK
    obtain ⟨i0, hi, hz0, hz1, hz2⟩ := info_parts info_item
    obtain ⟨c0, c1, c2', c3⟩ := (unhid HFA).cells
    go_upto_region 11 with (fail)
    have HX := hid (heap_alloc_new W (.cells (fi f.shape f.size f.height (.slice none 0 0)) 25))
    have hbo := below_alloc W (.cells (fi f.shape f.size f.height (.slice none 0 0)) 25)
    have hFA6 := (unhid HFA).below hbo
    change Code.wp _ _ _ _ (W.alloc (.cells (fi f.shape f.size f.height (.slice none 0 0)) 25))
    generalize W.alloc (.cells (fi f.shape f.size f.height (.slice none 0 0)) 25) = W6 at *
    have HBO := hid hbo
    clear hbo c0 c1 c2' c3
    obtain ⟨c0, c1, c2', c3⟩ := hFA6.cells
    clear hFA6
    obtain ⟨O, hO⟩ : ∃ O, O = W.heap.size := ⟨_, rfl⟩
    rw [← hO] at HX HBO hDl hWs ⊢
    have HOO := hid hO
    clear hO
    go_wp2_with fail
    go_loopw [45] (fun iv wr => ∃ (k : Nat) (v : Value), k ≤ f.items.length ∧ iv = .int .i64 k ∧ wr.heap[O]? = some (.cells (fi f.shape f.size f.height v) 25 (0, 0)) ∧ wr.ownsRow (O + 1) 66 7 v (keepK (seenF f) f.items k).length (its (keepK (seenF f) f.items k)) ∧ Below O W wr) (fun iv _ => f.items.length - (intOf iv).toNat)
    case atStart => exact ⟨0, _, Nat.zero_le _, rfl, unhid HX, World.ownsRow_nil _ _ _ _, unhid HBO⟩
    case round =>
      obtain ⟨k, v, hk, rfl, hx, hrow, hbel⟩ := hrel
      have HX2 := hid hx
      have HROW := hid hrow
      have HBL := hid hbel
      have hOl := (Array.getElem?_eq_some_iff.1 hx).1
      have hkl := keepK_len (seenF f) f.items k
      clear hx hrow hbel c0 c1 c2' c3
      have hbelW : Below W.heap.size W wr := by rw [← unhid HOO]; exact unhid HBL
      by_cases hlt : k < f.items.length
      · have hit2 := (unhid HFA).below hbelW
        obtain ⟨b, off, hAb, hb, hc⟩ := hit2.ok.rd (its_ne hlt)
        obtain ⟨d0, d1, d2, d3, d4, d5, d6⟩ := its_cells hc hlt
        rw [hAb]
        have HKY := hid (fun hs : seenF f k = true => keepK_yes hlt hs)
        have HKN := hid (fun hs : seenF f k = false => keepK_no hlt hs)
        obtain ⟨x, hx⟩ : ∃ x, x = f.items[k] := ⟨_, rfl⟩
        rw [← hx] at d0 d1 d2 d3 d4 d5 d6 HKY
        clear hx hc hit2 hAb
        have hlk := (unhid HLK) k
        have hmap := map_below (unhid HOWN) hbelW
        have hbox := (hbelW.block (M + 1) (by rw [← unhid HOO]; omega)).trans (unhid HMB)
        obtain ⟨A0, c1, rfl, -⟩ := own_slice (unhid HROW)
        have hki : (k : Int) < (f.items.length : Int) := by omega
        clear hbelW
        go_upto_region 14 with (fail)
        have hbn := below_alloc wr (.cells #[.int .i64 x.kind, .int .i64 x.colour, .int .i64 x.left, .int .i64 x.low, .int .i64 x.a, .int .i64 x.b, .string (SB x.text)] 66)
        have hE := heap_alloc_new wr (.cells #[.int .i64 x.kind, .int .i64 x.colour, .int .i64 x.left, .int .i64 x.low, .int .i64 x.a, .int .i64 x.b, .string (SB x.text)] 66)
        have hmap7 := map_below hmap hbn
        have hbox7 := (hbn.block (M + 1) (Array.getElem?_eq_some_iff.1 hbox).1).trans hbox
        have HX7 := hid ((hbn.block O hOl).trans (unhid HX2))
        have HB7 := hid ((unhid HBL).trans (hbn.mono (Nat.le_of_lt hOl)))
        have HR7 := hid (own_below (unhid HROW) hbn)
        have hO7 : O < wr.heap.size + 1 := Nat.lt_succ_of_lt hOl
        have hW7 : (wr.alloc (.cells #[.int .i64 x.kind, .int .i64 x.colour, .int .i64 x.left, .int .i64 x.low, .int .i64 x.a, .int .i64 x.b, .string (SB x.text)] 66)).heap.size = wr.heap.size + 1 := by simp
        generalize wr.alloc (.cells #[.int .i64 x.kind, .int .i64 x.colour, .int .i64 x.left, .int .i64 x.low, .int .i64 x.a, .int .i64 x.b, .string (SB x.text)] 66) = W7 at *
        obtain ⟨E, hEE⟩ : ∃ E, E = wr.heap.size := ⟨_, rfl⟩
        rw [← hEE] at hE hO7 hW7 ⊢
        have HW7 := hid hW7
        clear hW7
        have g0 := cell_of_row _ E 0 _ _ _ hE
        have g1 := cell_of_row _ E 1 _ _ _ hE
        have g2 := cell_of_row _ E 2 _ _ _ hE
        have g3 := cell_of_row _ E 3 _ _ _ hE
        have g4 := cell_of_row _ E 4 _ _ _ hE
        have g5 := cell_of_row _ E 5 _ _ _ hE
        have g6 := cell_of_row _ E 6 _ _ _ hE
        have g8 := cell_of_row _ (M + 1) 0 _ _ _ hbox7
        simp at g0 g1 g2 g3 g4 g5 g6 g8
        have hrun := seen_look hmap7 (by omega) hlk
        have c33 : W7.cell? ⟨O, 3, none⟩ = some (.slice A0 (keepK (seenF f) f.items k).length c1) := cell_of_row _ _ _ _ _ _ (unhid HX7)
        clear d0 d1 d2 d3 d4 d5 d6 hE hmap hmap7 hbox hbox7 hlk hEE hbn hb
        cases hs : seenF f k with
        | false =>
          rw [hs] at hrun
          have HKK := hid ((unhid HKN) hs)
          clear hs
          go_wp2_with fail
          go_roundw
          case rel => exact ⟨k + 1, _, by omega, by go_num, unhid HX7, by rw [unhid HKK]; exact unhid HR7, unhid HB7⟩
          case measure => simp [intOf]; omega
        | true =>
          rw [hs] at hrun
          have HKK := hid ((unhid HKY) hs)
          clear hs
          obtain ⟨L, hL⟩ : ∃ L, L = keepK (seenF f) f.items k := ⟨_, rfl⟩
          rw [← hL] at HR7 HX7 HKK hkl c33
          clear hL HROW HX2
          go_wp2_with (at_builtin; refine wpList_append_own _ rfl _ _ 23 rfl (O + 1) 66 i0 _ 7 64 Tryz.underlying23 hi hz0 hz1 hz2 rfl (by decide) _ _ _ rfl ((unhid HR7).alloc _) ⟨W7.heap.size, 0, none⟩ 1 1 (itC x) rfl rfl ?c1 ?c2 ?c3 ?c4 ?c5 ?_)
          case c1 => exact World.news_of_block (cs := (itC x).toArray) (t := 66) (fr := (0, 0)) (by simpa [itC] using heap_alloc_new W7 (.cells (itC x).toArray 66))
          case c2 => intro u hu; simp [itC] at hu; rcases hu with rfl | rfl | rfl | rfl | rfl | rfl | rfl <;> rfl
          case c3 => unfold maxLen; omega
          case c4 => omega
          case c5 => have := unhid HW7; simp; omega
          intro v' w4 hown4 hg4 _
          obtain ⟨A3, c3', rfl, -⟩ := own_slice hown4
          have hrow4 : ∀ q, (Value.slice A0 L.length c1).ownBlock = some q → O + 1 ≤ q := fun q hq => by
            rcases Nat.lt_or_ge q (O + 1) with h' | h'
            · exact absurd hq (own_ne (unhid HR7) (Or.inl h'))
            · exact h'
          have hW7 := unhid HW7
          have hx4 := (hg4.block O (by simp; omega) (fun e => by have := hrow4 O e.symm; omega)).trans (((below_alloc W7 (.cells (itC x).toArray 66)).block O (by omega)).trans (unhid HX7))
          have hb4 : Below O W w4 := Below.grown ((unhid HB7).alloc (by rw [hW7]; omega) _) hg4 (by simp; omega) (fun q hq => by have := hrow4 q hq; omega)
          have c34 : w4.cell? ⟨O, 3, none⟩ = some (.slice A0 L.length c1) := cell_of_row _ _ _ _ _ _ hx4
          have f34 : w4.frozen? ⟨O, 3, none⟩ = false := frozen_of_row _ _ _ _ _ hx4
          have HX4 := hid hx4
          have HB4 := hid hb4
          have HO4 := hid hown4
          clear hx4 hb4 hown4 hg4 hrow4 c33 hW7
          go_wp2_with fail
          go_roundw
          case rel =>
            refine ⟨k + 1, .slice A3 (L.length + 1) c3', by omega, by go_num, heap_setCell_same _ _ _ _ _ _ (unhid HX4), ?_, Below.setCell (unhid HB4) (Nat.le_refl _) _⟩
            have ho := own_setCell (unhid HO4) (a := ⟨O, 3, none⟩) (by dsimp only; omega) (.slice A3 (L.length + 1) c3')
            rw [unhid HKK, List.length_append, List.length_singleton, show its (L ++ [x]) = its L ++ itC x by simp [its]]
            exact ho
          case measure => simp [intOf]; omega
      · obtain rfl : k = f.items.length := by omega
        obtain ⟨A0, c1, rfl, hrd, hob⟩ := own_slice (unhid HROW)
        have hx9 := unhid HX2
        have c0' := cell_of_row _ O 0 _ _ _ hx9
        have c1' := cell_of_row _ O 1 _ _ _ hx9
        have c2' := cell_of_row _ O 2 _ _ _ hx9
        have c3' := cell_of_row _ O 3 _ _ _ hx9
        simp [fi] at c0' c1' c2' c3'
        have hres := (hbelW.block (B + 1) (by rw [← unhid HOO]; omega)).trans (unhid HRES)
        have hK9 := (hbelW.block D (by rw [← unhid HOO]; omega)).trans (unhid HKD)
        have HRD := hid hrd
        have HOB := hid hob
        have HK9 := hid hK9
        have HRES9 := hid hres
        clear hrd hob hx9 hres hK9 hbelW
        go_wp2_with (refine wpList_store_row rfl 25 (.tmp 2) (.tmp 60) rfl (B + 1) (fi f.shape f.size f.height (.slice A0 (keepK (seenF f) f.items f.items.length).length c1)) rfl rfl 25 _ (unhid HRES9) (fi_size _ _ _ _) rfl (fi_one _ _ _ _ _ _) ?_)
        (try simp only [Exit.inBlock, Exit.then])
        have hK' := (setRow_other wr (B + 1) D (fi f.shape f.size f.height (.slice A0 (keepK (seenF f) f.items f.items.length).length c1)) (by omega)).trans (unhid HK9)
        have hr9 := setRow_heap wr (B + 1) (fi 0 0 0 (.slice none 0 0)) (fi f.shape f.size f.height (.slice A0 (keepK (seenF f) f.items f.items.length).length c1)) 25 (0, 0) (unhid HRES9)
        have hr10 := ((grownBy_putObj' (wr.setRow (B + 1) (fi f.shape f.size f.height (.slice A0 (keepK (seenF f) f.items f.items.length).length c1))) D (.deferred none)).block (B + 1) (Array.getElem?_eq_some_iff.1 hr9).1 (fun e => by injection e with e; omega)).trans hr9
        have hits : ItsOk wr A0 (trimF f).items := ⟨by show (keepK (seenF f) f.items f.items.length).length ≤ _; omega, unhid HRD, fun x hx => (unhid HIT).txt x (keepK_mem _ x hx)⟩
        have hit9 := itsOk_setRow (B := B + 1) hits (fun a ha => by subst ha; have := (unhid HOB) a.block rfl; omega) (fi f.shape f.size f.height (.slice A0 (keepK (seenF f) f.items f.items.length).length c1))
        have hbw9 := below_setRow ((unhid HBW).trans ((unhid HBL).mono (by have := (unhid HBW).size; have := unhid HOO; omega))) (unhid HB0) (fi f.shape f.size f.height (.slice A0 (keepK (seenF f) f.items f.items.length).length c1))
        refine ⟨by simp, .inl ⟨_, _, rfl, run_takeDeferred hK', ?_⟩⟩
        exact ⟨_, results_cell_row_tmp rfl _ _ (B + 1) 25 _ (0, 0) _ _ rfl rfl hr10 Tryz.underlying25 rfl (fi_size _ _ _ _),
          hbw9.trans (belowK_b (w := w) (Nat.le_refl _) _ D _ _ (by have := (unhid HB).size; omega) hK' rfl rfl),
          A0, c1, rfl, ⟨hit9.n, rd_put hit9.rd hK' rfl _, hit9.txt⟩, fun a ha => by subst ha; have := (unhid HOB) a.block rfl; have := (unhid HBW).size; have := unhid HOO; omega⟩
end

section
/-- The item k is the owner of one of the first m dots. -/
def ownAny (f : Fc) (k : Nat) : Nat → Bool
  | 0 => false
  | m + 1 => ownAny f k m || decide (ownN f f.items.length m = k)
theorem ownAny_all (f : Fc) (k : Nat) : ownAny f k (numD f) = seenF f k := by
  have h : ∀ m, ownAny f k m = true ↔ ∃ n, n < m ∧ ownN f f.items.length n = k := by
    intro m
    induction m with
    | zero => simp [ownAny]
    | succ m ih =>
      rw [ownAny, Bool.or_eq_true, ih, decide_eq_true_eq]
      constructor
      · rintro (⟨n, h1, h2⟩ | h1)
        · exact ⟨n, by omega, h2⟩
        · exact ⟨m, by omega, h1⟩
      · rintro ⟨n, h1, h2⟩
        by_cases e : n = m
        · subst e; exact .inr h2
        · exact .inl ⟨n, by omega, h2⟩
  rw [Bool.eq_iff_iff, h, seen_own]
theorem ownL_at {f : Fc} {k n : Nat} (h : n < numD f) : (ownL f k)[n]? = some (ownN f k n) := by simp [ownL, h]

set_option maxHeartbeats 8000000 in
set_option maxRecDepth 100000 in
theorem rtrim_calls (f : Fc) (A : Option Addr) (c : Nat) (w : World) (hit : ItsOk w A f.items) (hf : fcB f = true) :
    Calls Tryz.prog 52 #[.agg #[.int .i64 f.shape, .int .i64 f.size, .int .i64 f.height, .slice A f.items.length c]] w fun e w' => Below w.heap.size w w' ∧ ∃ (A' : Option Addr) (c' : Nat), e = .returned (.agg (fi f.shape f.size f.height (.slice A' (trimF f).items.length c'))) ∧ ItsOk w' A' (trimF f).items := by
  have hl16 : f.items.length ≤ 16 := by simp only [fcB, Bool.and_eq_true, decide_eq_true_eq] at hf; exact hf.1.1.2
  obtain ⟨n0, n1⟩ := numD_bounds hf
  obtain ⟨hE, hB⟩ := tr_start w c hit
  obtain ⟨i0, hi, hz0, hz1, hz2⟩ := info_parts info_item
  have HFF := hid hf
  have HE := hid hE
  have HB := hid hB
  have HIT := hid hit
  clear hE hB hit hf
  go_enter Tryz.func52, Tryz.ntmps52
  go_upto_region 1 with (fail)
  change Code.wp _ _ _ _ ((w.alloc (.cells #[.int .i64 f.shape, .int .i64 f.size, .int .i64 f.height, .slice A f.items.length c] 25)).alloc (.cells (fi 0 0 0 (.slice none 0 0)) 25))
  generalize (w.alloc (.cells #[.int .i64 f.shape, .int .i64 f.size, .int .i64 f.height, .slice A f.items.length c] 25)).alloc (.cells (fi 0 0 0 (.slice none 0 0)) 25) = W at *
  obtain ⟨B, hBB⟩ : ∃ B, B = w.heap.size := ⟨_, rfl⟩
  have HB0 := hid (show w.heap.size ≤ B + 1 by omega)
  have HBB := hid hBB
  rw [← hBB] at HE ⊢
  clear hBB
  obtain ⟨c0, c1, c2', c3⟩ := (unhid HE).f.cells
  go_wp2_with fail
  refine (paint_calls f A c W (unhid HE).f.ok (unhid HFF)).mono ?_
  rintro e w1 ⟨hb, A2, A3, k2, k3, rfl, -, hr3⟩
  have hbp := below_alloc w1 (.cells #[.int .i64 f.size, .int .i64 (heiF f), .slice A2 (numD f) k2, .slice A3 (numD f) k3] 36)
  have HP := hid (heap_alloc_new w1 (.cells #[.int .i64 f.size, .int .i64 (heiF f), .slice A2 (numD f) k2, .slice A3 (numD f) k3] 36))
  have HR3 := hid (hr3.below hbp)
  have hb := hb.trans (hbp.mono hb.size)
  clear hr3 hbp c0 c1 c2' c3
  go_upto_region 2 with (fail)
  generalize w1.alloc (.cells #[.int .i64 f.size, .int .i64 (heiF f), .slice A2 (numD f) k2, .slice A3 (numD f) k3] 36) = W2 at *
  generalize w1.heap.size = P at *
  have HE := hid ((unhid HE).below hb)
  have HB := hid ((unhid HB).trans (hb.mono (unhid HB).size))
  clear hb
  have hPl := (Array.getElem?_eq_some_iff.1 (unhid HP)).1
  obtain ⟨c0, c1, c2', c3⟩ := (unhid HE).f.cells
  go_upto_region 3 with (fail)
  have HX := hid (heap_alloc_new W2 (.cells (fi f.shape f.size f.height (.slice none 0 0)) 25))
  have hbo := below_alloc W2 (.cells (fi f.shape f.size f.height (.slice none 0 0)) 25)
  change Code.wp _ _ _ _ (W2.alloc (.cells (fi f.shape f.size f.height (.slice none 0 0)) 25))
  generalize W2.alloc (.cells (fi f.shape f.size f.height (.slice none 0 0)) 25) = W6 at *
  have HBO := hid hbo
  clear hbo c0 c1 c2' c3
  have hBl := (unhid HE).lt
  obtain ⟨O, hO⟩ : ∃ O, O = W2.heap.size := ⟨_, rfl⟩
  rw [← hO] at HX HBO hPl hBl ⊢
  have HOO := hid hO
  clear hO
  go_wp2_with fail
  go_loopw [5] (fun iv wr => ∃ (k : Nat) (v : Value), k ≤ f.items.length ∧ iv = .int .i64 k ∧ wr.heap[O]? = some (.cells (fi f.shape f.size f.height v) 25 (0, 0)) ∧ wr.ownsRow (O + 1) 66 7 v (keepK (seenF f) f.items k).length (its (keepK (seenF f) f.items k)) ∧ Below O W2 wr) (fun iv _ => f.items.length - (intOf iv).toNat)
  case atStart => exact ⟨0, _, Nat.zero_le _, rfl, unhid HX, World.ownsRow_nil _ _ _ _, unhid HBO⟩
  case round =>
    obtain ⟨k, v, hk, rfl, hx, hrow, hbel⟩ := hrel
    have HX2 := hid hx
    have HROW := hid hrow
    have HBL := hid hbel
    have hOl := (Array.getElem?_eq_some_iff.1 hx).1
    have hkl := keepK_len (seenF f) f.items k
    clear hx hrow hbel
    have hbelW : Below W2.heap.size W2 wr := by rw [← unhid HOO]; exact unhid HBL
    have HFA := hid ((unhid HE).f.below hbelW)
    obtain ⟨c0, c1, c2', c3⟩ := (unhid HFA).cells
    by_cases hlt : k < f.items.length
    · have hki : (k : Int) < (f.items.length : Int) := by omega
      have hpic := (hbelW.block P (by rw [← unhid HOO]; exact hPl)).trans (unhid HP)
      have p3 := cell_of_row _ P 3 _ _ _ hpic
      simp at p3
      have HRD3 := hid ((unhid HR3).below hbelW)
      have HSEE := hid (ownAny_all f k)
      clear hpic hbelW
      go_wp2_with fail
      go_loopw [6, 7] (fun sv nv wn => ∃ m : Nat, m ≤ numD f ∧ sv = .bool (ownAny f k m) ∧ nv = .int .i64 m ∧ wn = wr) (fun _ nv _ => numD f - (intOf nv).toNat)
      case atStart => exact ⟨0, Nat.zero_le _, rfl, rfl, rfl⟩
      case round =>
        obtain ⟨m, hm, rfl, rfl, rfl⟩ := hrel
        by_cases hml : m < numD f
        · have hmi : (m : Int) < (numD f : Int) := by omega
          obtain ⟨b, off, hAb, hb, hc⟩ := (unhid HRD3) (ints_ne (k := m) (by rw [ownL_len]; exact hml))
          have m0 := hc m (.int .i64 (ownN f f.items.length m)) (by simp [ints, ownL_at hml])
          rw [hAb] at p3
          have hst : ownAny f k (m + 1) = (ownAny f k m || decide (ownN f f.items.length m = k)) := rfl
          have HST := hid hst
          clear hc hAb hst hb
          obtain ⟨u, hu⟩ : ∃ u, u = ownN f f.items.length m := ⟨_, rfl⟩
          rw [← hu] at m0 HST
          clear hu
          cases hs : ownAny f k m with
          | true =>
            rw [hs] at HST
            clear hs
            go_wp2_with fail
            go_roundw
            case rel => exact ⟨m + 1, by omega, by rw [unhid HST]; rfl, by go_num, by first | rfl | trivial⟩
            case measure => simp [intOf]; omega
          | false =>
            rw [hs] at HST
            clear hs
            have hqq : (u == (k : Int)) = decide (u = (k : Int)) := rfl
            go_wp2_with fail
            go_roundw
            case rel => exact ⟨m + 1, by omega, by rw [unhid HST]; simp, by go_num, by first | rfl | trivial⟩
            case measure => simp [intOf]; omega
        · obtain rfl : m = numD f := by omega
          have hmi : ¬ (numD f : Int) < (numD f : Int) := by omega
          rw [unhid HSEE]
          obtain ⟨A0, c1', rfl, -⟩ := own_slice (unhid HROW)
          cases hs : seenF f k with
          | false =>
            have HKK := hid (keepK_no hlt hs)
            clear hs
            go_wp2_with fail
            go_roundw
            case rel => exact ⟨k + 1, _, by omega, by go_num, unhid HX2, by rw [unhid HKK]; exact unhid HROW, unhid HBL⟩
            case measure => simp [intOf]; omega
          | true =>
            have HKK := hid (keepK_yes hlt hs)
            clear hs
            obtain ⟨b, off, hAb, hb, hc⟩ := (unhid HFA).ok.rd (its_ne hlt)
            have hbB : b < B := by
              obtain ⟨b', off', e, hb', -⟩ := (unhid HIT).rd (its_ne hlt)
              rw [hAb] at e
              injection e with e
              injection e with e
              have := unhid HBB
              omega
            obtain ⟨d0, d1, d2, d3, d4, d5, d6⟩ := its_cells hc hlt
            rw [hAb] at c3
            obtain ⟨x, hxe⟩ : ∃ x, x = f.items[k] := ⟨_, rfl⟩
            rw [← hxe] at d0 d1 d2 d3 d4 d5 d6 HKK
            clear hxe hc hAb hb
            obtain ⟨L, hL⟩ : ∃ L, L = keepK (seenF f) f.items k := ⟨_, rfl⟩
            rw [← hL] at HROW HX2 HKK hkl
            clear hL
            have c33 : wr.cell? ⟨O, 3, none⟩ = some (.slice A0 L.length c1') := cell_of_row _ _ _ _ _ _ (unhid HX2)
            have hSF : ∀ w' : World, w'.cell? ⟨O, 3, none⟩ = some (.slice A0 L.length c1') → (∀ a : Addr, a.block < O → w'.cell? a = wr.cell? a) → (w'.cell? ⟨O, 3, none⟩ = some (.slice A0 L.length c1') ∧ w'.cell? ⟨B, 3, none⟩ = some (.slice (some ⟨b, off, none⟩) f.items.length c) ∧ w'.cell? ⟨b, off + k * 7, none⟩ = some (.int .i64 x.kind) ∧ w'.cell? ⟨b, off + k * 7 + 1, none⟩ = some (.int .i64 x.colour) ∧ w'.cell? ⟨b, off + k * 7 + 2, none⟩ = some (.int .i64 x.left) ∧ w'.cell? ⟨b, off + k * 7 + 3, none⟩ = some (.int .i64 x.low) ∧ w'.cell? ⟨b, off + k * 7 + 4, none⟩ = some (.int .i64 x.a) ∧ w'.cell? ⟨b, off + k * 7 + 5, none⟩ = some (.int .i64 x.b) ∧ w'.cell? ⟨b, off + k * 7 + 6, none⟩ = some (.string (SB x.text))) := fun w' h1 h2 =>
              ⟨h1, (h2 _ (by dsimp only; omega)).trans c3, (h2 _ (by dsimp only; omega)).trans d0, (h2 _ (by dsimp only; omega)).trans d1, (h2 _ (by dsimp only; omega)).trans d2, (h2 _ (by dsimp only; omega)).trans d3, (h2 _ (by dsimp only; omega)).trans d4, (h2 _ (by dsimp only; omega)).trans d5, (h2 _ (by dsimp only; omega)).trans d6⟩
            have HSF := hid hSF
            have hdb : Below wr.heap.size wr wr.drew := Below.drew (Below.refl _ _)
            have HROWd := hid (own_below (unhid HROW) hdb)
            have HX2d := hid (show wr.drew.heap[O]? = some (.cells (fi f.shape f.size f.height (.slice A0 L.length c1')) 25 (0, 0)) from unhid HX2)
            have HBLd := hid (show Below O W2 wr.drew from Below.drew (unhid HBL))
            have hcd : ∀ a : Addr, wr.drew.cell? a = wr.cell? a := fun a => rfl
            have c33d : wr.drew.cell? ⟨O, 3, none⟩ = some (.slice A0 L.length c1') := c33
            have hOld : O < wr.drew.heap.size := hOl
            clear d0 d1 d2 d3 d4 d5 d6 c0 c1 c2' c3 hSF c33 hdb
            go_wp2_with fail
            clear p3
            refine wp_region_noPanic ?_
            refine wp_region_E (S := fun w' => w'.cell? ⟨O, 3, none⟩ = some (.slice A0 L.length c1') ∧ w'.cell? ⟨B, 3, none⟩ = some (.slice (some ⟨b, off, none⟩) f.items.length c) ∧ w'.cell? ⟨b, off + k * 7, none⟩ = some (.int .i64 x.kind) ∧ w'.cell? ⟨b, off + k * 7 + 1, none⟩ = some (.int .i64 x.colour) ∧ w'.cell? ⟨b, off + k * 7 + 2, none⟩ = some (.int .i64 x.left) ∧ w'.cell? ⟨b, off + k * 7 + 3, none⟩ = some (.int .i64 x.low) ∧ w'.cell? ⟨b, off + k * 7 + 4, none⟩ = some (.int .i64 x.a) ∧ w'.cell? ⟨b, off + k * 7 + 5, none⟩ = some (.int .i64 x.b) ∧ w'.cell? ⟨b, off + k * 7 + 6, none⟩ = some (.string (SB x.text))) 10 11 rfl (by kernel_rfl) (by kernel_rfl) ((unhid HSF) _ c33d (fun a _ => hcd a)) ?_
            intro hSE
            generalize wr.drew = Wd at *
            (refine WE_take (i := 0) (v := ?_) rfl (by kernel_rfl) (by decide) (by kernel_rfl) (by kernel_rfl) (fun _ _ _ h => h) (by rfl) hSE ?_ ?_; rotate_left; (focus (intro w hSw; (try dsimp only at hSw); go_simp; (try with_reducible rfl))); simp only [Act.put, List.setIfInBounds_toArray, List.set_cons_zero, List.set_cons_succ])
            (refine WE_take (i := 1) (v := ?_) rfl (by kernel_rfl) (by decide) (by kernel_rfl) (by kernel_rfl) (fun _ _ _ h => h) (by rfl) hSE ?_ ?_; rotate_left; (focus (intro w hSw; (try dsimp only at hSw); go_simp; (try with_reducible rfl))); simp only [Act.put, List.setIfInBounds_toArray, List.set_cons_zero, List.set_cons_succ])
            (refine WE_take (i := 2) (v := ?_) rfl (by kernel_rfl) (by decide) (by kernel_rfl) (by kernel_rfl) (fun _ _ _ h => h) (by rfl) hSE ?_ ?_; rotate_left; (focus (intro w hSw; (try dsimp only at hSw); go_simp; (try with_reducible rfl))); simp only [Act.put, List.setIfInBounds_toArray, List.set_cons_zero, List.set_cons_succ])
            (refine WE_take (i := 3) (v := ?_) rfl (by kernel_rfl) (by decide) (by kernel_rfl) (by kernel_rfl) (fun _ _ _ h => h) (by rfl) hSE ?_ ?_; rotate_left; (focus (intro w hSw; (try dsimp only at hSw); go_simp; (try with_reducible rfl))); simp only [Act.put, List.setIfInBounds_toArray, List.set_cons_zero, List.set_cons_succ])
            (refine WE_take (i := 4) (v := ?_) rfl (by kernel_rfl) (by decide) (by kernel_rfl) (by kernel_rfl) (fun _ _ _ h => h) (by rfl) hSE ?_ ?_; rotate_left; (focus (intro w hSw; (try dsimp only at hSw); go_simp; (try with_reducible rfl))); simp only [Act.put, List.setIfInBounds_toArray, List.set_cons_zero, List.set_cons_succ])
            (refine WE_take (i := 5) (v := ?_) rfl (by kernel_rfl) (by decide) (by kernel_rfl) (by kernel_rfl) (fun _ _ _ h => h) (by rfl) hSE ?_ ?_; rotate_left; (focus (intro w hSw; (try dsimp only at hSw); go_simp; (try with_reducible rfl))); simp only [Act.put, List.setIfInBounds_toArray, List.set_cons_zero, List.set_cons_succ])
            (refine WE_take (i := 6) (v := ?_) rfl (by kernel_rfl) (by decide) (by kernel_rfl) (by kernel_rfl) (fun _ _ _ h => h) (by rfl) hSE ?_ ?_; rotate_left; (focus (intro w hSw; (try dsimp only at hSw); go_simp; (try with_reducible rfl))); simp only [Act.put, List.setIfInBounds_toArray, List.set_cons_zero, List.set_cons_succ])
            (refine WE_one (i := 7) rfl (by decide) (by kernel_rfl) ?_; intro K hK)
            go_simp
            refine hK.out _ _ ((unhid HSF) _ ((World.cell?_alloc_lt Wd _ ⟨O, 3, none⟩ hOld).trans c33d) (fun a ha => (World.cell?_alloc_lt Wd _ a (by omega)).trans (hcd a))) ?_
            clear hSE hK K
            intro hSE
            (try simp only [Act.put, List.setIfInBounds_toArray, List.set_cons_zero, List.set_cons_succ])
            (refine WE_one (i := 8) rfl (by decide) (by kernel_rfl) ?_; intro K hK)
            refine step_append_lies _ (by rfl) _ _ _ (by rfl) (O + 1) 66 i0 _ 7 64 Tryz.underlying23 hi hz0 hz1 hz2 rfl (by omega) (.slice A0 L.length c1') L.length (its L) (by rfl) ((unhid HROWd).alloc (.cells (itC x).toArray 66)) ⟨Wd.heap.size, 0, none⟩ 1 1 (itC x) (by rfl) (by rfl) (World.news_of_block (cs := (itC x).toArray) (t := 66) (fr := (0, 0)) (heap_alloc_new Wd _)) (by simp [itC, Value.oneCell']) (by omega) (by unfold maxLen; omega) (by omega) (by simp; omega) (Wd.heap.size + 1) (by simp) ?_
            intro g3 cap3 w7 hown hg hat hlt3
            have hrow7 : ∀ q, (Value.slice A0 L.length c1').ownBlock = some q → O + 1 ≤ q := fun q hq => by
              rcases Nat.lt_or_ge q (O + 1) with h' | h'
              · exact absurd hq (own_ne (unhid HROWd) (Or.inl h'))
              · exact h'
            have hx7 := (hg.block O (by simp; omega) (fun e => by have := hrow7 O e.symm; omega)).trans (((below_alloc Wd (.cells (itC x).toArray 66)).block O hOld).trans (unhid HX2d))
            have hb7 : Below O W2 w7 := Below.grown ((unhid HBLd).alloc (Nat.le_of_lt hOld) _) hg (by simp; omega) (fun q hq => by have := hrow7 q hq; omega)
            have c37 : w7.cell? ⟨O, 3, none⟩ = some (.slice A0 L.length c1') := cell_of_row _ _ _ _ _ _ hx7
            have f37 : w7.frozen? ⟨O, 3, none⟩ = false := frozen_of_row _ _ _ _ _ hx7
            have hcd7 : ∀ a : Addr, a.block < O → w7.cell? a = wr.cell? a := fun a ha => (World.cell?_of_block ((hg.block a.block (by simp; omega) (fun e => by have := hrow7 _ e.symm; omega)).trans ((below_alloc Wd (.cells (itC x).toArray 66)).block a.block (by omega)))).trans (hcd a)
            refine hK.out _ _ ((unhid HSF) _ c37 hcd7) ?_
            clear hSE hK K
            intro hSE
            (try simp only [Act.put, List.setIfInBounds_toArray, List.set_cons_zero, List.set_cons_succ])
            (refine WE_take (i := 9) (v := ?_) rfl (by kernel_rfl) (by decide) (by kernel_rfl) (by kernel_rfl) (fun _ _ _ h => h) (by rfl) hSE ?_ ?_; rotate_left; (focus (intro w hSw; (try dsimp only at hSw); go_simp; (try with_reducible rfl))); simp only [Act.put, List.setIfInBounds_toArray, List.set_cons_zero, List.set_cons_succ])
            (refine WE_last rfl (by kernel_rfl) (by kernel_rfl) (by kernel_rfl) ?_; intro K hK; go_simp; refine hK.out _ _ (NoPanic.normal ?_); clear hK K)
            have HX7 := hid (show (w7.setCell ⟨O, 3, none⟩ (.slice (some ⟨g3, 0, none⟩) (L.length + 1) cap3)).heap[O]? = some (.cells (fi f.shape f.size f.height (.slice (some ⟨g3, 0, none⟩) (L.length + 1) cap3)) 25 (0, 0)) from heap_setCell_same _ _ _ _ _ _ hx7)
            have ho := own_setCell hown (a := ⟨O, 3, none⟩) (by dsimp only; omega) (.slice (some ⟨g3, 0, none⟩) (L.length + 1) cap3)
            have HO7 := hid ho
            have HB8 := hid (Below.setCell (p := ⟨O, 3, none⟩) hb7 (Nat.le_refl _) (.slice (some ⟨g3, 0, none⟩) (L.length + 1) cap3))
            clear hx7 hb7 c37 f37 hcd7 ho hown hg hat hlt3 hrow7 hcd c33d
            go_wp2_with fail
            go_roundw
            case rel =>
              refine ⟨k + 1, .slice (some ⟨g3, 0, none⟩) (L.length + 1) cap3, by omega, by go_num, unhid HX7, ?_, unhid HB8⟩
              rw [unhid HKK, List.length_append, List.length_singleton, show its (L ++ [x]) = its L ++ itC x by simp [its]]
              exact unhid HO7
            case measure => simp [intOf]; omega
    · obtain rfl : k = f.items.length := by omega
      have hki : ¬ (f.items.length : Int) < (f.items.length : Int) := by omega
      obtain ⟨A0, c1', rfl, hrd, hob⟩ := own_slice (unhid HROW)
      have hx9 := unhid HX2
      have e0' := cell_of_row _ O 0 _ _ _ hx9
      have e1' := cell_of_row _ O 1 _ _ _ hx9
      have e2' := cell_of_row _ O 2 _ _ _ hx9
      have e3' := cell_of_row _ O 3 _ _ _ hx9
      simp [fi] at e0' e1' e2' e3'
      have hres := (hbelW.block (B + 1) (by rw [← unhid HOO]; omega)).trans (unhid HE).r
      have HRD := hid hrd
      have HOB := hid hob
      have HRES9 := hid hres
      clear hrd hob hx9 hres hbelW
      go_wp2_with (refine wpList_store_row rfl 25 (.tmp 2) (.tmp 52) rfl (B + 1) (fi f.shape f.size f.height (.slice A0 (keepK (seenF f) f.items f.items.length).length c1')) rfl rfl 25 _ (unhid HRES9) (fi_size _ _ _ _) rfl (fi_one _ _ _ _ _ _) ?_)
      (try simp only [Exit.inBlock, Exit.then])
      refine bodyPost_ret_by (v := .agg (fi f.shape f.size f.height (.slice A0 (keepK (seenF f) f.items f.items.length).length c1'))) (results_cell_row Tryz.results52 _ _ (B + 1) 25 (fi f.shape f.size f.height (.slice A0 (keepK (seenF f) f.items f.items.length).length c1')) (0, 0) _ rfl (setRow_heap _ _ _ _ _ _ (unhid HRES9)) Tryz.underlying25 rfl (fi_size _ _ _ _)) rfl ?_
      have hits : ItsOk wr A0 (trimF f).items := ⟨by show (keepK (seenF f) f.items f.items.length).length ≤ _; omega, unhid HRD, fun x hx => (unhid HIT).txt x (keepK_mem _ x hx)⟩
      refine ⟨below_setRow ((unhid HB).trans ((unhid HBL).mono (by have := (unhid HB).size; have := unhid HOO; omega))) (unhid HB0) _, A0, ⟨c1', rfl⟩, itsOk_setRow (B := B + 1) hits (fun a ha => by subst ha; have := (unhid HOB) a.block rfl; omega) _⟩
end

end Go.Proofs.YtmagidoodlkeoaaGreatDoor
