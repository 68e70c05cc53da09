/-
  Which price lists are valid, both sides.
-/
import Derived.Test.YtfklckjfbnaoeaaGreatDoorWaL
import Derived.Test.YtfklckjfbnaoeaaGreatDoorWoI
import Derived.StillTailTactics
import Derived.Deep.RegionLawGrows
set_option linter.unusedSimpArgs false
set_option linter.unusedVariables false
namespace Go.Proofs.YtfklckjfbnaoeaaGreatDoor
open Go.RowKit

/-- A price list in a block. -/
structure PrAt (w : World) (B : Nat) (p : Prc) (A : Option Addr) (c : Nat) : Prop where
  heap : w.heap[B]? = some (.cells #[.int .i64 p.dot, .int .i64 p.scr, .slice A p.steps.length c] 72 (0, 0))
  ok : StpsOk w A p.steps
theorem PrAt.lt {w : World} {B : Nat} {p : Prc} {A : Option Addr} {c : Nat} (h : PrAt w B p A c) : B < w.heap.size := (Array.getElem?_eq_some_iff.1 h.heap).1
theorem PrAt.below {w w' : World} {B : Nat} {p : Prc} {A : Option Addr} {c : Nat} (h : PrAt w B p A c) (hb : Below w.heap.size w w') : PrAt w' B p A c := ⟨(hb.block B h.lt).trans h.heap, h.ok.below hb⟩
theorem PrAt.new (w : World) {p : Prc} {A : Option Addr} (c : Nat) (h : StpsOk w A p.steps) : PrAt (w.alloc (.cells #[.int .i64 p.dot, .int .i64 p.scr, .slice A p.steps.length c] 72)) w.heap.size p A c := ⟨heap_alloc_new _ _, h.below (below_alloc _ _)⟩
theorem PrAt.cells {w : World} {B : Nat} {p : Prc} {A : Option Addr} {c : Nat} (h : PrAt w B p A c) :
    w.cell? ⟨B, 0, none⟩ = some (.int .i64 p.dot) ∧ w.cell? ⟨B, 1, none⟩ = some (.int .i64 p.scr) ∧ w.cell? ⟨B, 2, none⟩ = some (.slice A p.steps.length c) :=
  ⟨cell_of_row _ B 0 _ _ _ h.heap, cell_of_row _ B 1 _ _ _ h.heap, cell_of_row _ B 2 _ _ _ h.heap⟩
theorem prc_no0 {p : Prc} (h : ¬ (0 ≤ p.dot ∧ p.dot ≤ 1000000)) : prcB p = false := by simp only [prcB, decide_eq_false h, Bool.false_and]
theorem prc_no1 {p : Prc} (h : ¬ (0 ≤ p.scr ∧ p.scr ≤ 1000000)) : prcB p = false := by simp only [prcB, decide_eq_false h, Bool.and_false, Bool.false_and]
theorem prc_no2 {p : Prc} (h : 10 < p.steps.length) : prcB p = false := by
  have : ¬ p.steps.length ≤ 10 := by omega
  simp only [prcB, decide_eq_false this, Bool.and_false, Bool.false_and]
theorem step_no {l : List Stp} {k : Nat} (h : ¬ ((1 ≤ (l.getD k ⟨0, 0⟩).count ∧ (l.getD k ⟨0, 0⟩).count ≤ 10000) ∧ (0 ≤ (l.getD k ⟨0, 0⟩).mille ∧ (l.getD k ⟨0, 0⟩).mille ≤ 1000) ∧ (k = 0 ∨ (l.getD (k - 1) ⟨0, 0⟩).count < (l.getD k ⟨0, 0⟩).count ∧ (l.getD (k - 1) ⟨0, 0⟩).mille < (l.getD k ⟨0, 0⟩).mille))) : stepB l k = false := by
  rw [Bool.eq_false_iff]
  intro hs
  simp only [stepB, Bool.and_eq_true, Bool.or_eq_true, decide_eq_true_eq] at hs
  exact h ⟨hs.1.1, hs.1.2, hs.2⟩
theorem step_yes {l : List Stp} {k : Nat} (h : (1 ≤ (l.getD k ⟨0, 0⟩).count ∧ (l.getD k ⟨0, 0⟩).count ≤ 10000) ∧ (0 ≤ (l.getD k ⟨0, 0⟩).mille ∧ (l.getD k ⟨0, 0⟩).mille ≤ 1000) ∧ (k = 0 ∨ (l.getD (k - 1) ⟨0, 0⟩).count < (l.getD k ⟨0, 0⟩).count ∧ (l.getD (k - 1) ⟨0, 0⟩).mille < (l.getD k ⟨0, 0⟩).mille)) : stepB l k = true := by
  simp only [stepB, Bool.and_eq_true, Bool.or_eq_true, decide_eq_true_eq]
  exact ⟨⟨h.1, h.2.1⟩, h.2.2⟩

set_option maxHeartbeats 4000000 in
set_option maxRecDepth 100000 in
theorem validPrices_calls (p : Prc) (A : Option Addr) (c : Nat) (w : World) (hst : StpsOk w A p.steps) :
    Calls Tryz.prog 81 #[.agg #[.int .i64 p.dot, .int .i64 p.scr, .slice A p.steps.length c]] w fun e w' => e = .returned (.bool (prcB p)) ∧ Below w.heap.size w w' := by
  have HP := hid (PrAt.new w c hst)
  have HB := hid (below_alloc w (.cells #[.int .i64 p.dot, .int .i64 p.scr, .slice A p.steps.length c] 72))
  clear hst
  go_enter Tryz.func81, Tryz.ntmps81
  go_upto_region 1 with (fail)
  change Code.wp _ _ _ _ (w.alloc (.cells #[.int .i64 p.dot, .int .i64 p.scr, .slice A p.steps.length c] 72))
  generalize w.alloc (.cells #[.int .i64 p.dot, .int .i64 p.scr, .slice A p.steps.length c] 72) = W at *
  obtain ⟨s0, s1, s2⟩ := (unhid HP).cells
  by_cases q0 : 0 ≤ p.dot ∧ p.dot ≤ 1000000
  rotate_left
  · have HN := hid (prc_no0 q0)
    have d0 : decide (0 ≤ p.dot ∧ p.dot ≤ 1000000) = false := decide_eq_false q0
    clear q0
    go_wp2_with (go_at_call 31; refine (wwithin_calls _ _ _ _).mono ?_; rintro e w' ⟨rfl, rfl⟩)
    go_ret
    exact ⟨retb (by rw [unhid HN]), unhid HB⟩
  have d0 : decide (0 ≤ p.dot ∧ p.dot ≤ 1000000) = true := decide_eq_true q0
  by_cases q1 : 0 ≤ p.scr ∧ p.scr ≤ 1000000
  rotate_left
  · have HN := hid (prc_no1 q1)
    have d1 : decide (0 ≤ p.scr ∧ p.scr ≤ 1000000) = false := decide_eq_false q1
    clear q0 q1
    go_wp2_with (go_at_call 31; refine (wwithin_calls _ _ _ _).mono ?_; rintro e w' ⟨rfl, rfl⟩)
    go_ret
    exact ⟨retb (by rw [unhid HN]), unhid HB⟩
  have d1 : decide (0 ≤ p.scr ∧ p.scr ≤ 1000000) = true := decide_eq_true q1
  by_cases q2 : 10 < p.steps.length
  · have HN := hid (prc_no2 q2)
    have d2 : (10 : Int) < (p.steps.length : Int) := by omega
    clear q0 q1
    go_wp2_with (go_at_call 31; refine (wwithin_calls _ _ _ _).mono ?_; rintro e w' ⟨rfl, rfl⟩)
    go_ret
    exact ⟨retb (by rw [unhid HN]), unhid HB⟩
  have d2 : ¬ (10 : Int) < (p.steps.length : Int) := by omega
  have HQ0 := hid q0
  have HQ1 := hid q1
  clear q0 q1
  go_wp2_with (go_at_call 31; refine (wwithin_calls _ _ _ _).mono ?_; rintro e w' ⟨rfl, rfl⟩)
  clear d0 d1 s0 s1
  go_loopw [24] (fun iv wr => ∃ k : Nat, k ≤ p.steps.length ∧ iv = .int .i64 k ∧ (∀ j, j < k → stepB p.steps j = true) ∧ PrAt wr w.heap.size p A c ∧ Below w.heap.size w wr) (fun iv _ => p.steps.length - (intOf iv).toNat)
  case atStart => exact ⟨0, Nat.zero_le _, rfl, fun j h => absurd h (by omega), unhid HP, unhid HB⟩
  case round =>
    obtain ⟨k, hk, rfl, hall, hp, hb⟩ := hrel
    have HALL := hid hall
    have HP := hid hp
    have HB := hid hb
    clear hall hp hb
    obtain ⟨s0, s1, s2⟩ := (unhid HP).cells
    by_cases hlt : k < p.steps.length
    · obtain ⟨b, off, rfl, hb, hc⟩ := (unhid HP).ok.rd (stps_ne hlt)
      obtain ⟨m0, m1⟩ := stps_cells hc hlt
      have hki : (k : Int) < (p.steps.length : Int) := by omega
      have HNO := hid (fun h => prcB_step hlt (step_no (l := p.steps) (k := k) h))
      have HYES := hid (fun h => step_yes (l := p.steps) (k := k) h)
      have hprev : k = 0 ∨ ∃ j, k = j + 1 := by cases k with | zero => exact .inl rfl | succ j => exact .inr ⟨j, rfl⟩
      clear hc hb
      obtain ⟨cn, hcn⟩ : ∃ x, x = (p.steps.getD k ⟨0, 0⟩).count := ⟨_, rfl⟩
      obtain ⟨ml, hml⟩ : ∃ x, x = (p.steps.getD k ⟨0, 0⟩).mille := ⟨_, rfl⟩
      rw [← hcn] at m0 HNO HYES
      rw [← hml] at m1 HNO HYES
      clear hcn hml
      go_upto_region 6 with (fail)
      change Code.wp _ _ _ _ (wr.alloc (.cells #[.int .i64 cn, .int .i64 ml] 69))
      have hb1 := below_alloc wr (.cells #[.int .i64 cn, .int .i64 ml] 69)
      have HP := hid ((unhid HP).below hb1)
      have HB := hid ((unhid HB).trans (hb1.mono (unhid HB).size))
      have hn := heap_alloc_new wr (.cells #[.int .i64 cn, .int .i64 ml] 69)
      generalize wr.alloc (.cells #[.int .i64 cn, .int .i64 ml] 69) = w2 at *
      generalize wr.heap.size = IB at *
      have t0 := cell_of_row _ IB 0 _ _ _ hn
      have t1 := cell_of_row _ IB 1 _ _ _ hn
      simp at t0 t1
      clear hb1 hn m0 m1 s0 s1 s2
      obtain ⟨s0, s1, s2⟩ := (unhid HP).cells
      obtain ⟨b2, off2, he2, -, hc⟩ := (unhid HP).ok.rd (stps_ne hlt)
      injection he2 with he2
      injection he2 with he2 he3
      subst he2 he3
      have HPREV := hid (fun j (hj : j + 1 = k) => stps_cells hc (k := j) (by omega))
      clear hc
      by_cases c1 : 1 ≤ cn ∧ cn ≤ 10000
      rotate_left
      · have HN := hid ((unhid HNO) (fun h => c1 h.1))
        have d1 : decide (1 ≤ cn ∧ cn ≤ 10000) = false := decide_eq_false c1
        have b1 : wiB 1 cn 10000 = false := d1
        clear c1
        go_wp2_with (go_at_call 31; refine (wwithin_calls _ _ _ _).mono ?_; rintro e w' ⟨rfl, rfl⟩)
        go_ret
        exact ⟨retb (by rw [unhid HN]), (by first | exact unhid HB | exact below_drewN' (unhid HB) _)⟩
      have d1 : decide (1 ≤ cn ∧ cn ≤ 10000) = true := decide_eq_true c1
      have b1 : wiB 1 cn 10000 = true := d1
      by_cases c2 : 0 ≤ ml ∧ ml ≤ 1000
      rotate_left
      · have HN := hid ((unhid HNO) (fun h => c2 h.2.1))
        have d2 : decide (0 ≤ ml ∧ ml ≤ 1000) = false := decide_eq_false c2
        have b2 : wiB 0 ml 1000 = false := d2
        clear c1 c2
        go_wp2_with (go_at_call 31; refine (wwithin_calls _ _ _ _).mono ?_; rintro e w' ⟨rfl, rfl⟩)
        go_ret
        exact ⟨retb (by rw [unhid HN]), (by first | exact unhid HB | exact below_drewN' (unhid HB) _)⟩
      have d2 : decide (0 ≤ ml ∧ ml ≤ 1000) = true := decide_eq_true c2
      have b2 : wiB 0 ml 1000 = true := d2
      rcases hprev with h0 | ⟨j, hj⟩
      · have HS := hid ((unhid HYES) ⟨c1, c2, .inl h0⟩)
        subst h0
        clear c1 c2
        go_upto_region 8 with (go_at_call 31; refine (wwithin_calls _ _ _ _).mono ?_; rintro e w' ⟨rfl, rfl⟩); go_quiet (fail)
        go_wp2_with (go_at_call 31; refine (wwithin_calls _ _ _ _).mono ?_; rintro e w' ⟨rfl, rfl⟩)
        go_roundw
        case rel => exact ⟨0 + 1, by omega, by go_num, fun i hi => by
          rcases Nat.lt_succ_iff_lt_or_eq.1 hi with h | rfl
          · exact (unhid HALL) i h
          · exact unhid HS, (by first | exact unhid HP | exact (unhid HP).below (below_drewN' (Below.refl _ _) _)), (by first | exact unhid HB | exact below_drewN' (unhid HB) _)⟩
        case measure => simp [intOf]; omega
      · subst hj
        have hk0 : (0 : Int) < ((j + 1 : Nat) : Int) := by omega
        have dk := decide_eq_true hk0
        obtain ⟨q0, q1⟩ := (unhid HPREV) j rfl
        rw [show j + 1 - 1 = j from rfl] at HNO HYES
        obtain ⟨pc, hpc⟩ : ∃ x, x = (p.steps.getD j ⟨0, 0⟩).count := ⟨_, rfl⟩
        obtain ⟨pm, hpm⟩ : ∃ x, x = (p.steps.getD j ⟨0, 0⟩).mille := ⟨_, rfl⟩
        rw [← hpc] at q0 HNO HYES
        rw [← hpm] at q1 HNO HYES
        clear hpc hpm
        by_cases c3 : pc < cn
        rotate_left
        · have HN := hid ((unhid HNO) (fun h => by rcases h.2.2 with h | h <;> omega))
          have c3' : cn ≤ pc := by omega
          have e3 := decide_eq_true c3'
          clear c1 c2 c3
          go_upto_region 8 with (go_at_call 31; refine (wwithin_calls _ _ _ _).mono ?_; rintro e w' ⟨rfl, rfl⟩); go_quiet (fail)
          go_wp2_with (go_at_call 31; refine (wwithin_calls _ _ _ _).mono ?_; rintro e w' ⟨rfl, rfl⟩)
          go_ret
          exact ⟨retb (by rw [unhid HN]), (by first | exact unhid HB | exact below_drewN' (unhid HB) _)⟩
        have c3' : ¬ cn ≤ pc := by omega
        have e3 := decide_eq_false c3'
        by_cases c4 : pm < ml
        rotate_left
        · have HN := hid ((unhid HNO) (fun h => by rcases h.2.2 with h | h <;> omega))
          have c4' : ml ≤ pm := by omega
          have e4 := decide_eq_true c4'
          clear c1 c2 c3 c4
          go_upto_region 8 with (go_at_call 31; refine (wwithin_calls _ _ _ _).mono ?_; rintro e w' ⟨rfl, rfl⟩); go_quiet (fail)
          go_wp2_with (go_at_call 31; refine (wwithin_calls _ _ _ _).mono ?_; rintro e w' ⟨rfl, rfl⟩)
          go_ret
          exact ⟨retb (by rw [unhid HN]), (by first | exact unhid HB | exact below_drewN' (unhid HB) _)⟩
        have c4' : ¬ ml ≤ pm := by omega
        have e4 := decide_eq_false c4'
        have HS := hid ((unhid HYES) ⟨c1, c2, .inr ⟨c3, c4⟩⟩)
        clear c1 c2 c3 c4
        go_upto_region 8 with (go_at_call 31; refine (wwithin_calls _ _ _ _).mono ?_; rintro e w' ⟨rfl, rfl⟩); go_quiet (fail)
        go_wp2_with (go_at_call 31; refine (wwithin_calls _ _ _ _).mono ?_; rintro e w' ⟨rfl, rfl⟩)
        go_roundw
        case rel => exact ⟨j + 1 + 1, by omega, by go_num, fun i hi => by
          rcases Nat.lt_succ_iff_lt_or_eq.1 hi with h | rfl
          · exact (unhid HALL) i h
          · exact unhid HS, (by first | exact unhid HP | exact (unhid HP).below (below_drewN' (Below.refl _ _) _)), (by first | exact unhid HB | exact below_drewN' (unhid HB) _)⟩
        case measure => simp [intOf]; omega
    · obtain rfl : k = p.steps.length := by omega
      have HN := hid (prcB_of (unhid HQ0) (unhid HQ1) (by omega) (unhid HALL))
      go_wp2_with (go_at_call 31; refine (wwithin_calls _ _ _ _).mono ?_; rintro e w' ⟨rfl, rfl⟩)
      go_ret
      exact ⟨retb (by rw [unhid HN]), unhid HB⟩

end Go.Proofs.YtfklckjfbnaoeaaGreatDoor
