/-
  Which faces are too long or too heavy: the law's own measures.
-/
import Derived.Test.YtmagidoodlkeoaaGreatDoorFcVal
set_option linter.unusedSimpArgs false
set_option linter.unusedVariables false
namespace Go.Proofs.YtmagidoodlkeoaaGreatDoor
open Go.RowKit

def longB (f : Fc) : Bool := decide (40 < f.items.length) || f.items.any fun x => decide (100 < x.text.length)
def heavyF (f : Fc) : Bool := longB f || (fcB f && (decide (50 < f.size) || decide (50 < f.height) || decide (8 < f.items.length)))
theorem long_many {f : Fc} (h : 40 < f.items.length) : longB f = true := by simp [longB, h]
theorem long_text {f : Fc} {k : Nat} (hk : k < f.items.length) (h : 100 < f.items[k].text.length) : longB f = true := by
  simp only [longB, Bool.or_eq_true, List.any_eq_true, decide_eq_true_eq]
  exact .inr ⟨f.items[k], List.getElem_mem hk, h⟩
theorem long_no {f : Fc} {k : Nat} (hk : f.items.length ≤ k) (h0 : ¬ 40 < f.items.length) (h : ∀ j (hj : j < f.items.length), j < k → ¬ 100 < f.items[j].text.length) : longB f = false := by
  simp only [longB, Bool.or_eq_false_iff, List.any_eq_false, decide_eq_true_eq, decide_eq_false_iff_not]
  refine ⟨h0, fun x hx => ?_⟩
  obtain ⟨j, hj, rfl⟩ := List.mem_iff_getElem.1 hx
  exact h j hj (by omega)

set_option maxHeartbeats 2000000 in
set_option maxRecDepth 100000 in
theorem long_calls (f : Fc) (A : Option Addr) (c : Nat) (w : World) (hf : ItsOk w A f.items) :
    Calls Tryz.prog 33 #[.agg #[.int .i64 f.shape, .int .i64 f.size, .int .i64 f.height, .slice A f.items.length c]] w fun e w' => e = .returned (.bool (longB f)) ∧ w' = w.alloc (.cells #[.int .i64 f.shape, .int .i64 f.size, .int .i64 f.height, .slice A f.items.length c] 25) := by
  have hn := hf.n
  have zsb : ∀ l : List UInt8, (SB l).size = l.length := fun _ => rfl
  by_cases h40 : 40 < f.items.length
  · have HFIN := hid (long_many h40)
    have h40' : (40 : Int) < f.items.length := by omega
    clear hf
    go_enter Tryz.func33, Tryz.ntmps33
    go_wp2_with fail
    go_ret
    exact ⟨retE (unhid HFIN), rfl⟩
  · have h40' : ¬ (40 : Int) < f.items.length := by omega
    have HNO := hid (fun (k : Nat) (hk : f.items.length ≤ k) => long_no hk h40)
    have HYES := hid (fun (k : Nat) (hk : k < f.items.length) => long_text hk)
    have HF := hid (hf.below (below_alloc w (.cells #[.int .i64 f.shape, .int .i64 f.size, .int .i64 f.height, .slice A f.items.length c] 25)))
    clear hf
    go_enter Tryz.func33, Tryz.ntmps33
    go_wp2_with fail
    go_loop [3] (fun i => ∃ k : Nat, k ≤ f.items.length ∧ i = .int .i64 k ∧ (∀ j (hj : j < f.items.length), j < k → ¬ 100 < f.items[j].text.length)) (fun i => f.items.length - (intOf i).toNat)
    case atStart => exact ⟨0, Nat.zero_le _, rfl, fun j _ h => absurd h (by omega)⟩
    case round =>
      obtain ⟨k, hk, rfl, hall⟩ := hrel
      have HALL := hid hall
      clear hall
      by_cases hlt : k < f.items.length
      · obtain ⟨b, off, rfl, hb, hc⟩ := (unhid HF).rd (its_ne hlt)
        obtain ⟨-, -, -, -, -, -, c6⟩ := its_cells hc hlt
        clear hc
        have htx := (unhid HF).txt f.items[k] (List.getElem_mem hlt)
        by_cases h100 : 100 < f.items[k].text.length
        · have HFIN := hid ((unhid HYES) k hlt h100)
          generalize f.items[k] = x at *
          have h100' : (100 : Int) < x.text.length := by omega
          go_wp2_with fail
          go_ret
          exact ⟨retE (unhid HFIN), rfl⟩
        · have HX := hid h100
          have h100' : ¬ (100 : Int) < f.items[k].text.length := by omega
          clear h100
          generalize hx : f.items[k] = x at *
          have HXX := hid hx
          clear hx
          go_wp2_with fail
          go_round
          case rel =>
            refine ⟨k + 1, by omega, by go_num, fun j hj hjk => ?_⟩
            by_cases e : j = k
            · subst e; rw [unhid HXX]; exact unhid HX
            · exact (unhid HALL) j hj (by omega)
          case measure => simp [intOf]; omega
      · go_wp2_with fail
        go_ret
        exact ⟨retE ((unhid HNO) k (by omega) (unhid HALL)), rfl⟩

set_option maxHeartbeats 2000000 in
set_option maxRecDepth 100000 in
theorem heavy_calls (f : Fc) (A : Option Addr) (c : Nat) (w : World) (hf : ItsOk w A f.items) :
    Calls Tryz.prog 24 #[.agg #[.int .i64 f.shape, .int .i64 f.size, .int .i64 f.height, .slice A f.items.length c]] w fun e w' => e = .returned (.bool (heavyF f)) ∧ Below w.heap.size w w' := by
  have HF := hid (hf.below (below_alloc w (.cells #[.int .i64 f.shape, .int .i64 f.size, .int .i64 f.height, .slice A f.items.length c] 25)))
  have HFIN := hid (show heavyF f = (longB f || (fcB f && (decide (50 < f.size) || decide (50 < f.height) || decide ((8 : Int) < f.items.length)))) by unfold heavyF; congr 3; simp; omega)
  have hn := hf.n
  clear hf
  go_enter Tryz.func24, Tryz.ntmps24
  go_wp2_with fail
  refine (long_calls f A c _ (unhid HF)).mono ?_
  rintro e w1 ⟨rfl, rfl⟩
  cases hl : longB f with
  | true =>
    rw [hl] at HFIN
    go_wp2_with fail
    go_ret
    exact ⟨retE (unhid HFIN), below_alloc' (below_alloc _ _) _⟩
  | false =>
    rw [hl] at HFIN
    go_wp2_with fail
    refine (rvalid_calls f A c _ ((unhid HF).below (below_alloc _ _))).mono ?_
    rintro e w2 ⟨rfl, hb2⟩
    have g1 : ∀ n, w2.cell? ⟨w.heap.size, n, none⟩ = #[Value.int .i64 f.shape, .int .i64 f.size, .int .i64 f.height, .slice A f.items.length c][n]? := fun n => by rw [hb2.cell (p := ⟨w.heap.size, n, none⟩) (by simp; omega), World.cell?_alloc_lt _ _ _ (by simp), World.cell?_alloc_new]
    have c0 := g1 0
    have c1 := g1 1
    have c2 := g1 2
    have c3 := g1 3
    simp at c0 c1 c2 c3
    have HB := hid ((below_alloc' (below_alloc w (.cells #[.int .i64 f.shape, .int .i64 f.size, .int .i64 f.height, .slice A f.items.length c] 25)) (.cells #[.int .i64 f.shape, .int .i64 f.size, .int .i64 f.height, .slice A f.items.length c] 25)).trans (hb2.mono (by simp; omega)))
    clear g1 hb2
    cases hv : fcB f with
    | false =>
      rw [hv] at HFIN
      go_wp2_with fail
      go_ret
      exact ⟨retE (unhid HFIN), unhid HB⟩
    | true =>
      rw [hv] at HFIN
      go_wp2_with fail
      all_goals
        go_ret
        refine ⟨retE ?_, unhid HB⟩
        rw [unhid HFIN]
        go_light
        simp_all

end Go.Proofs.YtmagidoodlkeoaaGreatDoor
