/-
  What a sign says, metre, plated, reach: package rule.
-/
import Derived.Test.YtmpngoejnmlmbaaGreatRowR
import Derived.Test.YtmpngoejnmlmbaaGreatKit2
set_option linter.unusedSimpArgs false
set_option linter.unusedVariables false
namespace Go.Proofs.YtmpngoejnmlmbaaGreat
open Go.RowKit

def saysP (s : Sg) (topic : Int) : Option Int :=
  if s.kind = 5 then some 0 else if topic = 1 ∧ (s.kind = 1 ∨ s.kind = 2) then some s.val else if topic = 2 ∧ s.kind = 3 then some 1 else if topic = 2 ∧ s.kind = 4 then some 0 else none

set_option maxHeartbeats 1000000 in
theorem says_calls (s : Sg) (topic : Int) (w : World) :
    Calls Tryz.prog 93 #[.agg #[.int .i64 s.num, .int .i64 s.kind, .int .i64 s.val, .int .i64 s.chain, .int .i64 s.dir, .int .i64 s.rank, .int .i64 s.up, .int .i64 s.down, .slice s.cA s.cov.length s.cc], .int .i64 topic] w fun e w' =>
      e = .returned (.tuple #[.int .i64 ((saysP s topic).getD 0), .bool (saysP s topic).isSome]) ∧ Below w.heap.size w w' := by
  go_enter Tryz.func93, Tryz.ntmps93
  go_wp2
  all_goals
    go_ret2
    refine ⟨?_, below_alloc _ _⟩
    go_light
    (try simp only [beq_iff_eq, beq_eq_false_iff_ne, ne_eq, bne_iff_ne, bne_eq_false_iff_eq, decide_eq_true_eq, decide_eq_false_iff_not, Bool.and_eq_true, Bool.or_eq_true, Bool.and_eq_false_iff, Bool.or_eq_false_iff, Bool.not_eq_true', Bool.not_eq_false', Bool.not_eq_true] at *)
    unfold saysP
    first
      | (rw [if_pos (by omega)]; rfl)
      | (rw [if_neg (by omega), if_pos (by omega)]; rfl)
      | (rw [if_neg (by omega), if_neg (by omega), if_pos (by omega)]; rfl)
      | (rw [if_neg (by omega), if_neg (by omega), if_neg (by omega), if_pos (by omega)]; rfl)
      | (rw [if_neg (by omega), if_neg (by omega), if_neg (by omega), if_neg (by omega)]; rfl)
      | simp [*]
      | grind

def metreI (len dir k : Int) : Int := if dir = 1 then k else len - 1 - k
theorem metre_calls (len : Int) (A : Option Addr) (n c : Nat) (dir k : Int) (w : World) (h0 : 0 ≤ k) (h1 : k ≤ len) (h2 : len ≤ 100000) :
    Calls Tryz.prog 53 #[.agg #[.int .i64 len, .slice A n c], .int .i64 dir, .int .i64 k] w fun e w' =>
      e = .returned (.int .i64 (metreI len dir k)) ∧ w' = w.alloc (.cells #[.int .i64 len, .slice A n c] 24) := by
  by_cases hd : dir = 1
  · subst hd
    go_enter Tryz.func53, Tryz.ntmps53
    go_wp2_with fail
    go_ret
    exact ⟨rfl, rfl⟩
  · have hd' : (dir == 1) = false := by simpa using hd
    go_enter Tryz.func53, Tryz.ntmps53
    go_wp2_with fail
    go_ret
    exact ⟨by rw [metreI, if_neg hd]; rfl, rfl⟩

def platedP (R : List Mt) (i : Nat) : Bool := match R[i]?, R[i + 1]? with
  | some a, some b => decide (b.s.kind = 7) && decide (b.s.chain = a.s.chain)
  | _, _ => false
theorem platedP_eq {R : List Mt} {i : Nat} (h : i + 1 < R.length) : platedP R i = (decide (R[i + 1].s.kind = 7) && decide (R[i + 1].s.chain = R[i].s.chain)) := by
  rw [platedP, List.getElem?_eq_getElem h, List.getElem?_eq_getElem (show i < R.length by omega)]
theorem platedP_no {R : List Mt} {i : Nat} (h : ¬ i + 1 < R.length) : platedP R i = false := by
  rw [platedP, List.getElem?_eq_none (show R.length ≤ i + 1 by omega)]; split <;> simp_all

set_option maxHeartbeats 2000000 in
set_option maxRecDepth 100000 in
theorem plated_calls (A : Option Addr) (R : List Mt) (c : Nat) (i : Nat) (hi : i < R.length) (w : World) (hr : Rd w A (mts R)) (hn : R.length ≤ 100000000000) :
    Calls Tryz.prog 96 #[.slice A R.length c, .int .i64 i] w fun e w' => e = .returned (.bool (platedP R i)) ∧ ∃ n, w' = w.drewN n := by
  obtain ⟨b, off, rfl, hb, hc⟩ := hr (mts_ne hi)
  obtain ⟨m0, m1, m2, m3, -⟩ := mts_cells hc hi
  by_cases h1 : i + 1 < R.length
  · obtain ⟨n0, n1, n2, n3, -⟩ := mts_cells hc h1
    clear hc
    have hp := platedP_eq h1
    generalize hx : R[i] = x at *
    generalize hy : R[i + 1] = y at *
    have HX := hid hx
    have HY := hid hy
    clear hx hy
    have e1 : ((i : Int) + 1) < (R.length : Int) := by omega
    have := decide_eq_true (show ((i : Int) + 1) < (R.length : Int) by omega)
    rcases (show (¬ y.s.kind = 7) ∨ (y.s.kind = 7 ∧ ¬ y.s.chain = x.s.chain) ∨ (y.s.kind = 7 ∧ y.s.chain = x.s.chain) by omega) with g | ⟨g, g2⟩ | ⟨g, g2⟩
    · have g' : (y.s.kind == 7) = false := by simpa using g
      have HP := hid (show platedP R i = false by rw [hp]; simp [g])
      clear g hp
      go_enter Tryz.func96, Tryz.ntmps96
      go_wp2_with fail
      go_quiet (fail)
      go_wp2_with fail
      go_ret
      exact ⟨by rw [unhid HP]; rfl, _, rfl⟩
    · have g' : (y.s.kind == 7) = true := by simpa using g
      have g2' : (y.s.chain == x.s.chain) = false := by simpa using g2
      have HP := hid (show platedP R i = false by rw [hp]; simp [g2])
      clear g g2 hp
      go_enter Tryz.func96, Tryz.ntmps96
      go_wp2_with fail
      go_quiet (fail)
      go_wp2_with fail
      go_ret
      exact ⟨by rw [unhid HP]; rfl, _, rfl⟩
    · have g' : (y.s.kind == 7) = true := by simpa using g
      have g2' : (y.s.chain == x.s.chain) = true := by simpa using g2
      have HP := hid (show platedP R i = true by rw [hp]; simp [g, g2])
      clear g g2 hp
      go_enter Tryz.func96, Tryz.ntmps96
      go_wp2_with fail
      go_quiet (fail)
      go_wp2_with fail
      go_ret
      exact ⟨by rw [unhid HP]; rfl, _, rfl⟩
  · have HP := hid (platedP_no h1)
    clear hc
    have := decide_eq_false (show ¬ (((i : Int) + 1) < (R.length : Int)) by omega)
    go_enter Tryz.func96, Tryz.ntmps96
    go_wp2_with fail
    go_quiet (fail)
    go_wp2_with fail
    go_ret
    exact ⟨by rw [unhid HP]; rfl, _, rfl⟩

end Go.Proofs.YtmpngoejnmlmbaaGreat
