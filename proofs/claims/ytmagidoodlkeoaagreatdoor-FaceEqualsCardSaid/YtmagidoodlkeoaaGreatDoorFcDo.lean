/-
  The range over the dots of a box: package face. A region that draws its order in a round of it.
-/
import Derived.RangeFuncNested
import Derived.RangeFuncCalls
import Derived.RangeFuncLeaves
import Derived.Shelf.Abstract
import Derived.Shelf.RegionOpen
import Derived.Sort.BigQuietIn
import Derived.WalkKit
import Derived.OwnWalkIn
import Derived.TacticsInMore
import Derived.LoopNIn
import Derived.LoopIn
import Derived.Maps.OwnIn
import Derived.Test.YtmagidoodlkeoaaGreatDoorFcAt
import Derived.Test.YtmagidoodlkeoaaGreatDoorFcBx
set_option linter.unusedSimpArgs false
set_option linter.unusedVariables false
namespace Go.Proofs.YtmagidoodlkeoaaGreatDoor
open Go.RowKit Go.Shelf

attribute [local go_sem] Oper.semAt_some

/-- In a round every operation but a defer is carried out as everywhere. -/
theorem wpAnyIn_round {F : Fence} {l n : Nat} {P : Program} {md : Region.Mode} {ops : Array Oper} {Q : Exit → Act → World → Prop} (hd : ∀ (i : Nat) (o : Oper), ops[i]? = some o → ∀ c, o.op ≠ .defer c) :
    ∀ (fuel : Nat) (listed : Array Bool) (a : Act) (w : World), wpAnyIn F n P md ops Q fuel listed a w → wpAnyIn (F.inRound l) n P md ops Q fuel listed a w := by
  have hop : ∀ (i : Nat) (K K' : Act → World → Prop) (a : Act) (w : World), (∀ a w, K a w → K' a w) → wpOpIn F n P ops Q i K a w → wpOpIn (F.inRound l) n P ops Q i K' a w := by
    intro i K K' a w hk hh
    have hh := wpOpIn_mono hk hh
    unfold wpOpIn at *
    split
    · rename_i ho; simpa [ho] using hh
    · rename_i o ho
      simp only [ho] at hh
      split
      · rename_i hw
        simp only [hw, if_true] at hh
        unfold Oper.wpIn at *
        refine ⟨hh.1, ?_⟩
        have hp := hh.2
        rw [Oper.semAt_eq _ _ _ (hd i o ho)] at hp ⊢
        exact hp
      · rename_i hw
        simp only [hw] at hh
        exact hh
  intro fuel
  induction fuel with
  | zero => intro listed a w h; exact h
  | succ fuel ih =>
    intro listed a w h
    exact ⟨h.1, fun i hi => hop i _ _ a w (fun a' w' => ih _ a' w') (h.2 i hi)⟩
theorem defer_no {l : List Oper} (h : (l.all fun o => match o.op with | .defer _ => false | _ => true) = true) : ∀ (i : Nat) (o : Oper), l.toArray[i]? = some o → ∀ c, o.op ≠ .defer c := by
  intro i o ho c e
  have hm : o ∈ l := List.mem_of_getElem? (by simpa using ho)
  have := List.all_eq_true.1 h o hm
  rw [e] at this
  cases this
/-- A region in a round: its operations only read, its callees lay blocks of their own. -/
theorem wpIn_region_below {P : Program} {id l n : Nat} {Q : Exit → Act → World → Prop} {a : Act} {w : World} {ops : List Oper} (hm : P.follows .mixedOrders = true) (hB : Region.lexB .any ops.toArray = true)
    (hd : (ops.all fun o => match o.op with | .defer _ => false | _ => true) = true)
    (h : wpQuietIn Fence.wide n P ops.toArray (fun w' => ∃ p : After w, w' = p.w) (fun a' => ∀ w', (∃ p : After w, w' = p.w) → Q .normal a' w') ops a) : (Code.region id ops.toArray true).wpIn (Fence.wide.inRound l) n P Q a w := by
  simp only [Region.lexB, Bool.and_eq_true] at hB
  refine wpIn_region_any hm (wpAnyIn_round (defer_no hd) _ _ _ _ (wpAnyIn_of_quiet (C := fun w' => ∃ p : After w, w' = p.w) (Q := fun a' => ∀ w', (∃ p : After w, w' = p.w) → Q .normal a' w') rfl (fun _ w' hw' h => h w' hw') _ _ _ _ ⟨⟨w.drew, Below.drew (Below.refl _ _)⟩, rfl⟩ ?_))
  have := wpAnyQIn_lex (F := Fence.wide) (n := n) (C := fun w' => ∃ p : After w, w' = p.w) (md := .any) (Q := fun a' => ∀ w', (∃ p : After w, w' = p.w) → Q .normal a' w') hB.1 ops 0 (Array.replicate ops.toArray.size false) a (by simp) (by simpa using hB.2) h
  simpa using this

theorem wide_fn (k : FuncId) : Fence.wide.fn k = True := rfl

def pxI (W0 n : Nat) : Int := ((n % W0 : Nat) : Int)
def pxJ (W0 n : Nat) : Int := ((n / W0 : Nat) : Int)
def pxV (W0 n : Nat) : Array Value := #[.int .i64 (pxI W0 n), .int .i64 (pxJ W0 n)]

set_option maxHeartbeats 2000000 in
set_option maxRecDepth 100000 in
theorem dots1_in (F : Fence) (n : Nat) (hF : F.fn 105) (hro : F.round = none) (hn : 1 ≤ n) (l bh bw W0 H0 N n₀ : Nat) (hN : N = W0 * H0) (hw0 : 1 ≤ W0 ∧ W0 ≤ 1000) (hh0 : H0 ≤ 1000) (J Jx : List (Fin N) → World → Prop)
    (hY : ∀ pre x W, J pre W → pre.length < N → YieldAt F (n - 1) Tryz.prog l (pxV W0 x.val) W fun e W' =>
      (e = .returned (.bool true) ∧ J (pre ++ [x]) W' ∧ Below n₀ W W') ∨ (e = .returned (.bool false) ∧ Jx (pre ++ [x]) W'))
    (W : World) (hbh : W.cell? ⟨bh, 0, none⟩ = some (.int .i64 H0)) (hbw : W.cell? ⟨bw, 0, none⟩ = some (.int .i64 W0)) (hlt : bh < n₀ ∧ bw < n₀) (h0 : J [] W) :
    CallsIn F n Tryz.prog 105 #[.func (.yield l) #[] #[], .pointer (some ⟨bh, 0, none⟩), .pointer (some ⟨bw, 0, none⟩)] W fun e W' => (∃ v, e = .returned v) ∧
      ((∃ ys, ys = List.finRange N ∧ J ys W') ∨ (∃ pre, pre <+: List.finRange N ∧ Jx pre W')) := by
  refine callsIn_of_wp Tryz.func105 rfl hF ?_ hro
  simp only [Tryz.ntmps105, List.size_toArray, List.length_cons, List.length_nil, Nat.reduceAdd, Nat.reduceSub, Array.replicate_succ, Array.replicate_zero, List.push_toArray, List.append_toArray, List.nil_append, List.cons_append]
  have HY := hid hY
  have HBW := hid hbw
  clear hY hbw
  gi_wp2
  gi_loopw [7] (fun jv wr => ∃ j : Nat, j ≤ H0 ∧ jv = .int .i64 j ∧ J ((List.finRange N).take (j * W0)) wr ∧ Below n₀ W wr) (fun jv _ => H0 - (intOf jv).toNat)
  case atStart => exact ⟨0, Nat.zero_le _, rfl, by simpa using h0, Below.refl _ _⟩
  case round =>
    obtain ⟨j, hj, rfl, hJ, hbel⟩ := hrel
    by_cases hjl : j < H0
    · have hjh : (j : Int) < (H0 : Int) := by omega
      have hbw := (hbel.cell (p := ⟨bw, 0, none⟩) hlt.2).trans (unhid HBW)
      gi_wp2
      gi_loopw [11] (fun iv wr => ∃ i : Nat, i ≤ W0 ∧ iv = .int .i64 i ∧ J ((List.finRange N).take (j * W0 + i)) wr ∧ Below n₀ W wr) (fun iv _ => W0 - (intOf iv).toNat)
      case atStart => exact ⟨0, Nat.zero_le _, rfl, hJ, hbel⟩
      case round =>
        obtain ⟨i, hi, rfl, hJ2, hbel2⟩ := hrel
        by_cases hil : i < W0
        · have hih : (i : Int) < (W0 : Int) := by omega
          have hx : j * W0 + i < N := by
            have h1 : j * W0 + W0 ≤ H0 * W0 := by rw [← Nat.succ_mul]; exact Nat.mul_le_mul_right _ hjl
            rw [hN, Nat.mul_comm W0 H0]
            omega
          have e1 : (j * W0 + i) % W0 = i := by rw [Nat.add_comm, Nat.add_mul_mod_self_right, Nat.mod_eq_of_lt hil]
          have e2 : (j * W0 + i) / W0 = j := by rw [Nat.add_comm, Nat.add_mul_div_right _ _ (by omega), Nat.div_eq_of_lt hil, Nat.zero_add]
          obtain ⟨fn, tmps, assign, body, hy, hR⟩ := (unhid HY) _ ⟨j * W0 + i, hx⟩ wr hJ2 (by rw [fin_take_len (by omega)]; exact hx)
          simp only [pxV, pxI, pxJ, e1, e2] at hy
          rw [fin_take hx] at hR
          gi_wp2
          refine hR.mono ?_
          rintro e W3 (⟨rfl, hJ3, hk3⟩ | ⟨rfl, hJx3⟩)
          · gi_wp2
            go_roundw
            case rel => exact ⟨i + 1, by omega, by go_num, by rw [← Nat.add_assoc]; exact hJ3, hbel2.trans hk3⟩
            case measure => simp [intOf]; omega
          · gi_wp2
            refine bodyPost_ret (results_none rfl _ _ _) rfl ?_
            exact ⟨⟨_, rfl⟩, .inr ⟨_, List.take_prefix _ _, hJx3⟩⟩
        · obtain rfl : i = W0 := by omega
          gi_wp2
          go_roundw
          case rel => exact ⟨j + 1, by omega, by go_num, by rw [Nat.succ_mul]; exact hJ2, hbel2⟩
          case measure => simp [intOf]; omega
    · obtain rfl : j = H0 := by omega
      gi_wp2
      go_end0
      have e : j * W0 = N := by rw [hN, Nat.mul_comm]
      rw [e, fin_all] at hJ
      exact ⟨⟨_, rfl⟩, .inl ⟨_, rfl, hJ⟩⟩

theorem dots_stops (F : Fence) (n : Nat) (hF : F.fn 105) (hro : F.round = none) (hn : 1 ≤ n) (bh bw W0 H0 N n₀ : Nat) (hN : N = W0 * H0) (hw0 : 1 ≤ W0 ∧ W0 ≤ 1000) (hh0 : H0 ≤ 1000) (w : World)
    (hn₀ : n₀ ≤ w.heap.size) (hbh : w.cell? ⟨bh, 0, none⟩ = some (.int .i64 H0)) (hbw : w.cell? ⟨bw, 0, none⟩ = some (.int .i64 W0)) (hlt : bh < n₀ ∧ bw < n₀) :
    SeqStopsK F n Tryz.prog 105 #[.pointer (some ⟨bh, 0, none⟩), .pointer (some ⟨bw, 0, none⟩)] (fun x : Fin N => pxV W0 x.val) (Below n₀) (fun ys => ys = List.finRange N) (fun pre => pre <+: List.finRange N) N w := fun l J Jx W hW _ _ hY h0 =>
  dots1_in F n hF hro hn l bh bw W0 H0 N n₀ hN hw0 hh0 J Jx hY W ((hW.cell (p := ⟨bh, 0, none⟩) (Nat.lt_of_lt_of_le hlt.1 hn₀)).trans hbh) ((hW.cell (p := ⟨bw, 0, none⟩) (Nat.lt_of_lt_of_le hlt.2 hn₀)).trans hbw) hlt h0

set_option maxHeartbeats 2000000 in
theorem pdots_calls (f : Fc) (A : Option Addr) (c : Nat) (w : World) (h0 : 0 ≤ f.size) (h1 : f.size ≤ 1000000000) :
    Calls Tryz.prog 85 #[.agg #[.int .i64 f.shape, .int .i64 f.size, .int .i64 f.height, .slice A f.items.length c]] w fun e w' => Below w.heap.size w w' ∧ ∃ bh bw : Nat, e = .returned (.func (.func 105) #[] #[.pointer (some ⟨bh, 0, none⟩), .pointer (some ⟨bw, 0, none⟩)]) ∧
      w'.cell? ⟨bh, 0, none⟩ = some (.int .i64 (heiF f)) ∧ w'.cell? ⟨bw, 0, none⟩ = some (.int .i64 f.size) ∧ bh < w'.heap.size ∧ bw < w'.heap.size := by
  have hbw1 := below_alloc w (.cells #[.int .i64 f.shape, .int .i64 f.size, .int .i64 f.height, .slice A f.items.length c] 25)
  go_enter Tryz.func85, Tryz.ntmps85
  go_wp2_with fail
  refine (extent_calls f A c _ h0 h1).mono ?_
  rintro e w1 ⟨rfl, hb⟩
  have HB := hid (hbw1.trans (hb.mono (by simp)))
  clear hb hbw1
  go_wp2_with fail
  go_ret
  have b1 := below_alloc w1 (.cells #[.int .i64 f.size] 3)
  have b2 := below_alloc (w1.alloc (.cells #[.int .i64 f.size] 3)) (.cells #[.int .i64 (heiF f)] 3)
  have n1 := heap_alloc_new w1 (.cells #[.int .i64 f.size] 3)
  have n2 := heap_alloc_new (w1.alloc (.cells #[.int .i64 f.size] 3)) (.cells #[.int .i64 (heiF f)] 3)
  have e1 : (w1.alloc (.cells #[.int .i64 f.size] 3)).heap.size = w1.heap.size + 1 := by simp
  rw [e1] at b2 n2
  have n3 := (b2.block w1.heap.size (by simp)).trans n1
  refine ⟨(unhid HB).trans ((below_alloc' b1 _).mono (unhid HB).size), w1.heap.size + 1, w1.heap.size, rfl, cell_of_row _ _ _ _ _ _ n2, cell_of_row _ _ _ _ _ _ n3, by simp, by simp; omega⟩

end Go.Proofs.YtmagidoodlkeoaaGreatDoor
