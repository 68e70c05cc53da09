/-
  The reference's small functions: start, end, Beginning, plated.
-/
import Derived.Test.YtmpngoejnmlmbaaGreatKitB
import Derived.Test.YtmpngoejnmlmbaaGreatAhead
import Derived.Test.YtmpngoejnmlmbaaGreatHoldP
set_option linter.unusedSimpArgs false
set_option linter.unusedVariables false
namespace Go.Proofs.YtmpngoejnmlmbaaGreat
open Go.RowKit
theorem start_calls (s : Sg) (topic : Int) (w : World) :
    Calls Tryz.prog 114 #[.agg #[.int .i64 s.num, .int .i64 s.kind, .int .i64 s.val, .int .i64 s.chain, .int .i64 s.dir, .int .i64 s.rank, .int .i64 s.up, .int .i64 s.down, .slice s.cA s.cov.length s.cc], .int .i64 topic] w fun e w' =>
      e = .returned (.int .i64 (startP s topic)) ∧ Below w.heap.size w w' := by
  go_enter Tryz.func114, Tryz.ntmps114
  go_wp2_with fail
  all_goals
    go_ret
    refine ⟨reti ?_, below_alloc _ _⟩
    go_light
    (try simp only [beq_iff_eq, beq_eq_false_iff_ne, ne_eq, bne_iff_ne, bne_eq_false_iff_eq, decide_eq_true_eq, decide_eq_false_iff_not, Bool.and_eq_true, Bool.or_eq_true, Bool.and_eq_false_iff, Bool.or_eq_false_iff, Bool.not_eq_true', Bool.not_eq_false', Bool.not_eq_true] at *)
    unfold startP
    first
      | (rw [if_pos (by omega)]; done)
      | (rw [if_neg (by omega), if_pos (by omega)]; done)
      | (rw [if_neg (by omega), if_neg (by omega)]; done)
theorem end_calls (s : Sg) (topic : Int) (w : World) :
    Calls Tryz.prog 115 #[.agg #[.int .i64 s.num, .int .i64 s.kind, .int .i64 s.val, .int .i64 s.chain, .int .i64 s.dir, .int .i64 s.rank, .int .i64 s.up, .int .i64 s.down, .slice s.cA s.cov.length s.cc], .int .i64 topic] w fun e w' =>
      e = .returned (.bool (endB s topic)) ∧ Below w.heap.size w w' := by
  go_enter Tryz.func115, Tryz.ntmps115
  go_wp2_with fail
  all_goals (go_ret; refine ⟨retb ?_, (by first | exact Below.refl _ _ | (repeat (first | exact below_alloc _ _ | exact Below.refl _ _ | assumption | apply below_drewN' | apply Below.drew | apply below_alloc')))⟩; go_light; (try simp only [beq_iff_eq, beq_eq_false_iff_ne, ne_eq, bne_iff_ne, bne_eq_false_iff_eq, decide_eq_true_eq, decide_eq_false_iff_not, Bool.and_eq_true, Bool.or_eq_true, Bool.and_eq_false_iff, Bool.or_eq_false_iff, Bool.not_eq_true', Bool.not_eq_false', Bool.not_eq_true] at *); (try unfold endB); (repeat' split) <;> (try simp) <;> (try omega))
theorem beginning_calls (len : Int) (A : Option Addr) (n c : Nat) (dir k : Int) (w : World) (h0 : 0 ≤ k) (h1 : k ≤ len) (h2 : len ≤ 100000) :
    Calls Tryz.prog 66 #[.agg #[.int .i64 len, .slice A n c], .int .i64 dir, .int .i64 k] w fun e w' =>
      e = .returned (.int .i64 (metreI len dir k)) ∧ w' = w.alloc (.cells #[.int .i64 len, .slice A n c] 24) := by
  by_cases hd : dir = 1
  · subst hd
    go_enter Tryz.func66, Tryz.ntmps66
    go_wp2_with fail
    go_ret
    exact ⟨rfl, rfl⟩
  · have hd' : (dir == 1) = false := by simpa using hd
    go_enter Tryz.func66, Tryz.ntmps66
    go_wp2_with fail
    go_ret
    exact ⟨by rw [metreI, if_neg hd]; rfl, rfl⟩

def mtl (len dir : Int) (R : List Sg) : List Mt := R.map fun s => ⟨s, distI len dir s.chain⟩
@[simp] theorem mtl_len (len dir : Int) (R : List Sg) : (mtl len dir R).length = R.length := by simp [mtl]
theorem mtl_at {len dir : Int} {R : List Sg} {i : Nat} (h : i < R.length) : (mtl len dir R)[i]? = some ⟨R[i], distI len dir R[i].chain⟩ := by simp [mtl, h]
theorem mtl_get {len dir : Int} {R : List Sg} {i : Nat} (h : i < (mtl len dir R).length) : (mtl len dir R)[i] = ⟨R[i]'(by simpa using h), distI len dir (R[i]'(by simpa using h)).chain⟩ := by simp [mtl]

set_option maxHeartbeats 2000000 in
set_option maxRecDepth 100000 in
theorem rplated_calls (len dir : Int) (A : Option Addr) (R : List Sg) (c : Nat) (i : Nat) (hi : i < R.length) (w : World) (hr : Rd w A (signs R)) (hn : R.length ≤ 100000000000) :
    Calls Tryz.prog 116 #[.slice A R.length c, .int .i64 i] w fun e w' => e = .returned (.bool (platedP (mtl len dir R) i)) ∧ ∃ n, w' = w.drewN n := by
  obtain ⟨b, off, rfl, hb, hc⟩ := hr (signs_ne hi)
  obtain ⟨m0, m1, m2, m3, -⟩ := signs_cells hc hi
  by_cases h1 : i + 1 < R.length
  · obtain ⟨n0, n1, n2, n3, -⟩ := signs_cells hc h1
    clear hc
    have hp : platedP (mtl len dir R) i = (decide (R[i + 1].kind = 7) && decide (R[i + 1].chain = R[i].chain)) := by
      rw [platedP_eq (by simpa using h1), mtl_get, mtl_get]
    generalize hx : R[i] = x at *
    generalize hy : R[i + 1] = y at *
    have HX := hid hx
    have HY := hid hy
    clear hx hy
    have e1 : ((i : Int) + 1) < (R.length : Int) := by omega
    have := decide_eq_true (show ((i : Int) + 1) < (R.length : Int) by omega)
    rcases (show (¬ y.kind = 7) ∨ (y.kind = 7 ∧ ¬ y.chain = x.chain) ∨ (y.kind = 7 ∧ y.chain = x.chain) by omega) with g | ⟨g, g2⟩ | ⟨g, g2⟩
    · have g' : (y.kind == 7) = false := by simpa using g
      have HP := hid (show platedP (mtl len dir R) i = false by rw [hp]; simp [g])
      clear g hp
      go_enter Tryz.func116, Tryz.ntmps116
      go_wp2_with fail
      go_quiet (fail)
      go_wp2_with fail
      go_ret
      exact ⟨by rw [unhid HP]; rfl, _, rfl⟩
    · have g' : (y.kind == 7) = true := by simpa using g
      have g2' : (y.chain == x.chain) = false := by simpa using g2
      have HP := hid (show platedP (mtl len dir R) i = false by rw [hp]; simp [g2])
      clear g g2 hp
      go_enter Tryz.func116, Tryz.ntmps116
      go_wp2_with fail
      go_quiet (fail)
      go_wp2_with fail
      go_ret
      exact ⟨by rw [unhid HP]; rfl, _, rfl⟩
    · have g' : (y.kind == 7) = true := by simpa using g
      have g2' : (y.chain == x.chain) = true := by simpa using g2
      have HP := hid (show platedP (mtl len dir R) i = true by rw [hp]; simp [g, g2])
      clear g g2 hp
      go_enter Tryz.func116, Tryz.ntmps116
      go_wp2_with fail
      go_quiet (fail)
      go_wp2_with fail
      go_ret
      exact ⟨by rw [unhid HP]; rfl, _, rfl⟩
  · have HP := hid (platedP_no (R := mtl len dir R) (i := i) (by simpa using h1))
    clear hc
    have := decide_eq_false (show ¬ (((i : Int) + 1) < (R.length : Int)) by omega)
    go_enter Tryz.func116, Tryz.ntmps116
    go_wp2_with fail
    go_quiet (fail)
    go_wp2_with fail
    go_ret
    exact ⟨by rw [unhid HP]; rfl, _, rfl⟩

end Go.Proofs.YtmpngoejnmlmbaaGreat
