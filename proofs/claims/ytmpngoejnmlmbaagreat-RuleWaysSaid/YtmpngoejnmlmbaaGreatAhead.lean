/-
  The reference's Distance and ahead.
-/
import Derived.Test.YtmpngoejnmlmbaaGreatRow
set_option linter.unusedSimpArgs false
set_option linter.unusedVariables false
namespace Go.Proofs.YtmpngoejnmlmbaaGreat
open Go.RowKit Go.Shelf Go.Sort

set_option maxHeartbeats 400000 in
theorem rdistance_calls (len : Int) (A : Option Addr) (n c : Nat) (dir chain : Int) (w : World) (h0 : 0 ≤ chain) (h1 : chain ≤ len) (h2 : len ≤ 100000) :
    Calls Tryz.prog 67 #[.agg #[.int .i64 len, .slice A n c], .int .i64 dir, .int .i64 chain] w fun e w' =>
      e = .returned (.int .i64 (distI len dir chain)) ∧ w' = w.alloc (.cells #[.int .i64 len, .slice A n c] 24) := by
  by_cases hd : dir = 1
  · subst hd
    go_enter Tryz.func67, Tryz.ntmps67
    go_wp2_with fail
    go_ret
    exact ⟨rfl, rfl⟩
  · have hd' : (dir == 1) = false := by simpa using hd
    go_enter Tryz.func67, Tryz.ntmps67
    go_wp2_with fail
    go_ret
    exact ⟨by rw [distI, if_neg hd]; rfl, rfl⟩

/-- A sign with its distance in its own direction. -/
def mtOf (len : Int) (s : Sg) : Mt := ⟨s, distI len s.dir s.chain⟩
instance (a b : Mt) : Decidable (mtLt a b) := by unfold mtLt; infer_instance

set_option maxHeartbeats 2000000 in
set_option maxRecDepth 100000 in
theorem ahead_calls (len : Int) (A : Option Addr) (n c : Nat) (a b : Sg) (w : World) (ha : 0 ≤ a.chain ∧ a.chain ≤ len) (hb : 0 ≤ b.chain ∧ b.chain ≤ len) (h2 : len ≤ 100000) :
    Calls Tryz.prog 113 #[.agg #[.int .i64 len, .slice A n c],
      .agg #[.int .i64 a.num, .int .i64 a.kind, .int .i64 a.val, .int .i64 a.chain, .int .i64 a.dir, .int .i64 a.rank, .int .i64 a.up, .int .i64 a.down, .slice a.cA a.cov.length a.cc],
      .agg #[.int .i64 b.num, .int .i64 b.kind, .int .i64 b.val, .int .i64 b.chain, .int .i64 b.dir, .int .i64 b.rank, .int .i64 b.up, .int .i64 b.down, .slice b.cA b.cov.length b.cc]] w fun e w' =>
      e = .returned (.bool (decide (mtLt (mtOf len a) (mtOf len b)))) ∧ Below w.heap.size w w' := by
  go_enter Tryz.func113, Tryz.ntmps113
  go_wp2_with fail
  generalize hW : (World.alloc (World.alloc (World.alloc w _) _) _) = W
  have l0 : W.cell? ⟨w.heap.size, 0, none⟩ = some (.int .i64 len) := by rw [← hW]; simp [go_sem]
  have l1 : W.cell? ⟨w.heap.size, 1, none⟩ = some (.slice A n c) := by rw [← hW]; simp [go_sem]
  have a3 : W.cell? ⟨w.heap.size + 1, 3, none⟩ = some (.int .i64 a.chain) := by rw [← hW]; simp [go_sem]
  have a4 : W.cell? ⟨w.heap.size + 1, 4, none⟩ = some (.int .i64 a.dir) := by rw [← hW]; simp [go_sem]
  have a5 : W.cell? ⟨w.heap.size + 1, 5, none⟩ = some (.int .i64 a.rank) := by rw [← hW]; simp [go_sem]
  have a0 : W.cell? ⟨w.heap.size + 1, 0, none⟩ = some (.int .i64 a.num) := by rw [← hW]; simp [go_sem]
  have b3 : W.cell? ⟨w.heap.size + 2, 3, none⟩ = some (.int .i64 b.chain) := by rw [← hW]; simp [go_sem]
  have b4 : W.cell? ⟨w.heap.size + 2, 4, none⟩ = some (.int .i64 b.dir) := by rw [← hW]; simp [go_sem]
  have b5 : W.cell? ⟨w.heap.size + 2, 5, none⟩ = some (.int .i64 b.rank) := by rw [← hW]; simp [go_sem]
  have b0 : W.cell? ⟨w.heap.size + 2, 0, none⟩ = some (.int .i64 b.num) := by rw [← hW]; simp [go_sem]
  have hsz : W.heap.size = w.heap.size + 3 := by rw [← hW]; simp
  have hbl : Below w.heap.size w W := by rw [← hW]; exact below_alloc' (below_alloc' (below_alloc _ _) _) _
  have hz2 : w.heap.size + 2 < W.heap.size := by omega
  have hz1 : w.heap.size + 1 < W.heap.size := by omega
  have hz0 : w.heap.size < W.heap.size := by omega
  have HZ := hid hsz
  clear hW hsz
  go_region_held3 (fun w' => w'.cell? ⟨w.heap.size, 0, none⟩ = some (.int .i64 len) ∧ w'.cell? ⟨w.heap.size, 1, none⟩ = some (.slice A n c) ∧ w'.cell? ⟨w.heap.size + 1, 3, none⟩ = some (.int .i64 a.chain) ∧ w'.cell? ⟨w.heap.size + 1, 4, none⟩ = some (.int .i64 a.dir) ∧
      w'.cell? ⟨w.heap.size + 2, 3, none⟩ = some (.int .i64 b.chain) ∧ w'.cell? ⟨w.heap.size + 2, 4, none⟩ = some (.int .i64 b.dir))
    (go_keep)
    (first
      | (go_at_call_of 67 (Value.int IntKind.i64 a.chain); refine (rdistance_calls len A n c a.dir a.chain _ ha.1 ha.2 h2).mono ?_; rintro e w2 ⟨rfl, rfl⟩)
      | (go_at_call_of 67 (Value.int IntKind.i64 b.chain); refine (rdistance_calls len A n c b.dir b.chain _ hb.1 hb.2 h2).mono ?_; rintro e w2 ⟨rfl, rfl⟩))
  have hm : mtLt (mtOf len a) (mtOf len b) ↔ (distI len a.dir a.chain < distI len b.dir b.chain ∨ (distI len a.dir a.chain = distI len b.dir b.chain ∧ (a.rank < b.rank ∨ (a.rank = b.rank ∧ a.num < b.num)))) := Iff.rfl
  have HM := hid hm
  clear hm
  generalize distI len a.dir a.chain = x at *
  generalize distI len b.dir b.chain = y at *
  go_wp2_with fail
  all_goals
    go_ret
    refine ⟨retb ?_, by first | exact below_drewN' (below_alloc' (below_alloc' hbl _) _) 1 | exact Below.drew (below_alloc' (below_alloc' hbl _) _)⟩
    simp only [decide_eq_true_eq]
    rw [unhid HM]
    go_light
    (try simp only [beq_iff_eq, beq_eq_false_iff_ne, ne_eq, bne_iff_ne, bne_eq_false_iff_eq, decide_eq_true_eq, decide_eq_false_iff_not, Bool.and_eq_true, Bool.or_eq_true, Bool.and_eq_false_iff, Bool.or_eq_false_iff, Bool.not_eq_true', Bool.not_eq_false', Bool.not_eq_true] at *)
    (try simp)
    first | omega | grind

end Go.Proofs.YtmpngoejnmlmbaaGreat
