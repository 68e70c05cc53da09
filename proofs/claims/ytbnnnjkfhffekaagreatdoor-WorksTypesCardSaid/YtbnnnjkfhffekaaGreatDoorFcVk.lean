/-
  Which items are valid: the reference.
-/
import Derived.Test.YtbnnnjkfhffekaaGreatDoorFcN
set_option linter.unusedSimpArgs false
set_option linter.unusedVariables false
namespace Go.Proofs.YtbnnnjkfhffekaaGreatDoor
open Go.RowKit

def wiB (lo n hi : Int) : Bool := decide (lo ≤ n ∧ n ≤ hi)
theorem rwithin_b (n lo hi : Int) (w : World) :
    Calls Tryz.prog 44 #[.int .i64 n, .int .i64 lo, .int .i64 hi] w fun e w' => e = .returned (.bool (wiB lo n hi)) ∧ w = w' := rwithin_calls n lo hi w
theorem within_b (n lo hi : Int) (w : World) :
    Calls Tryz.prog 59 #[.int .i64 lo, .int .i64 n, .int .i64 hi] w fun e w' => e = .returned (.bool (wiB lo n hi)) ∧ w = w' := within_calls lo n hi w
theorem quiet_same' {P : Program} {f : FuncId} {args : Array Value} {w : World} {n : Nat} {v : Value}
    (h : Calls P f args (w.drewN n) fun e w' => e = .returned v ∧ w.drewN n = w') : Calls P f args (w.drewN n) fun e w'' => e = .returned v ∧ ∃ m, w'' = w.drewN m :=
  h.mono fun _ _ ⟨he, hm⟩ => ⟨he, n, hm.symm⟩
set_option maxHeartbeats 1000000 in
theorem ritem_0 (k : Int) (hk : ¬ (1 ≤ k ∧ k ≤ 6)) (c l lo a b : Int) (t : List UInt8) (w : World) (ht : t.length ≤ 140737488355328) :
    Calls Tryz.prog 73 #[.agg #[.int .i64 k, .int .i64 c, .int .i64 l, .int .i64 lo, .int .i64 a, .int .i64 b, .string (SB t)]] w fun e w' => e = .returned (.bool (itB ⟨k, c, l, lo, a, b, t⟩)) ∧ Below w.heap.size w w' := by
  have hfin : itB ⟨k, c, l, lo, a, b, t⟩ = (wiB 1 c 8 && (false)) := by
    unfold itB; simp only [decide_eq_false hk, Bool.false_and, Bool.and_false]
  have HFIN := hid hfin
  clear hfin
  have k1 : (k == 1) = false := by simp; omega
  have k2 : (k == 2) = false := by simp; omega
  have k3 : (k == 3) = false := by simp; omega
  have k4 : (k == 4) = false := by simp; omega
  have k5 : (k == 5) = false := by simp; omega
  have k6 : (k == 6) = false := by simp; omega
  clear hk
  obtain ⟨S, hS⟩ : ∃ S, S = SB t := ⟨_, rfl⟩
  have HSP := hid (show ∀ w0, Calls Tryz.prog 91 #[.string S] w0 fun e w' => e = .returned (.bool (spellB t)) ∧ Below w0.heap.size w0 w' from by rw [hS]; exact fun w0 => spelt_calls t w0 ht)
  have HSL := hid (show S.toList = t from by rw [hS, SB_toList])
  rw [← hS]
  clear hS ht
  go_enter Tryz.func73, Tryz.ntmps73
  go_wp2_with (go_at_call 44; refine (rwithin_b _ _ _ _).mono ?_; rintro e w' ⟨rfl, rfl⟩)
  all_goals (try (go_quiet ((go_at_call 44; exact quiet_same' (rwithin_b _ _ _ _)))))
  all_goals (go_wp2_with (first | (go_at_call 44; refine (rwithin_b _ _ _ _).mono ?_; rintro e w' ⟨rfl, rfl⟩) | (go_at_call 91; refine ((unhid HSP) _).mono ?_; rintro e w' ⟨rfl, hbs⟩)))
  all_goals
    go_ret
    refine ⟨retE ?_, ?_⟩
    · rw [unhid HFIN]
      go_light
      have hsl := unhid HSL
      subst hsl
      simp_all [List.isEmpty_iff]
    · first | exact below_alloc _ _ | exact below_drewN' (below_alloc _ _) _ | exact (below_drewN' (below_alloc _ _) _).trans (Below.mono (by assumption) (by simp))

set_option maxHeartbeats 1000000 in
theorem ritem_1 (c l lo a b : Int) (t : List UInt8) (w : World) (ht : t.length ≤ 140737488355328) :
    Calls Tryz.prog 73 #[.agg #[.int .i64 1, .int .i64 c, .int .i64 l, .int .i64 lo, .int .i64 a, .int .i64 b, .string (SB t)]] w fun e w' => e = .returned (.bool (itB ⟨1, c, l, lo, a, b, t⟩)) ∧ Below w.heap.size w w' := by
  have hfin : itB ⟨1, c, l, lo, a, b, t⟩ = (wiB 1 c 8 && (decide (l = 0) && decide (lo = 0) && decide (a = 0) && decide (b = 0) && t.isEmpty)) := by
    simp [itB, useB, wiB, Bool.and_assoc]
  have HFIN := hid hfin
  clear hfin
  obtain ⟨S, hS⟩ : ∃ S, S = SB t := ⟨_, rfl⟩
  have HSP := hid (show ∀ w0, Calls Tryz.prog 91 #[.string S] w0 fun e w' => e = .returned (.bool (spellB t)) ∧ Below w0.heap.size w0 w' from by rw [hS]; exact fun w0 => spelt_calls t w0 ht)
  have HSL := hid (show S.toList = t from by rw [hS, SB_toList])
  rw [← hS]
  clear hS ht
  go_enter Tryz.func73, Tryz.ntmps73
  go_wp2_with (go_at_call 44; refine (rwithin_b _ _ _ _).mono ?_; rintro e w' ⟨rfl, rfl⟩)
  all_goals (try (go_quiet ((go_at_call 44; exact quiet_same' (rwithin_b _ _ _ _)))))
  all_goals (go_wp2_with (first | (go_at_call 44; refine (rwithin_b _ _ _ _).mono ?_; rintro e w' ⟨rfl, rfl⟩) | (go_at_call 91; refine ((unhid HSP) _).mono ?_; rintro e w' ⟨rfl, hbs⟩)))
  all_goals
    go_ret
    refine ⟨retE ?_, ?_⟩
    · rw [unhid HFIN]
      go_light
      have hsl := unhid HSL
      subst hsl
      simp_all [List.isEmpty_iff]
    · first | exact below_alloc _ _ | exact below_drewN' (below_alloc _ _) _ | exact (below_drewN' (below_alloc _ _) _).trans (Below.mono (by assumption) (by simp))

set_option maxHeartbeats 1000000 in
theorem ritem_2 (c l lo a b : Int) (t : List UInt8) (w : World) (ht : t.length ≤ 140737488355328) :
    Calls Tryz.prog 73 #[.agg #[.int .i64 2, .int .i64 c, .int .i64 l, .int .i64 lo, .int .i64 a, .int .i64 b, .string (SB t)]] w fun e w' => e = .returned (.bool (itB ⟨2, c, l, lo, a, b, t⟩)) ∧ Below w.heap.size w w' := by
  have hfin : itB ⟨2, c, l, lo, a, b, t⟩ = (wiB 1 c 8 && (decide (l = 0) && decide (lo = 0) && wiB 1 a 200 && decide (b = 0) && t.isEmpty)) := by
    simp [itB, useB, wiB, Bool.and_assoc]
  have HFIN := hid hfin
  clear hfin
  obtain ⟨S, hS⟩ : ∃ S, S = SB t := ⟨_, rfl⟩
  have HSP := hid (show ∀ w0, Calls Tryz.prog 91 #[.string S] w0 fun e w' => e = .returned (.bool (spellB t)) ∧ Below w0.heap.size w0 w' from by rw [hS]; exact fun w0 => spelt_calls t w0 ht)
  have HSL := hid (show S.toList = t from by rw [hS, SB_toList])
  rw [← hS]
  clear hS ht
  go_enter Tryz.func73, Tryz.ntmps73
  go_wp2_with (go_at_call 44; refine (rwithin_b _ _ _ _).mono ?_; rintro e w' ⟨rfl, rfl⟩)
  all_goals (try (go_quiet ((go_at_call 44; exact quiet_same' (rwithin_b _ _ _ _)))))
  all_goals (go_wp2_with (first | (go_at_call 44; refine (rwithin_b _ _ _ _).mono ?_; rintro e w' ⟨rfl, rfl⟩) | (go_at_call 91; refine ((unhid HSP) _).mono ?_; rintro e w' ⟨rfl, hbs⟩)))
  all_goals
    go_ret
    refine ⟨retE ?_, ?_⟩
    · rw [unhid HFIN]
      go_light
      have hsl := unhid HSL
      subst hsl
      simp_all [List.isEmpty_iff]
    · first | exact below_alloc _ _ | exact below_drewN' (below_alloc _ _) _ | exact (below_drewN' (below_alloc _ _) _).trans (Below.mono (by assumption) (by simp))

set_option maxHeartbeats 1000000 in
theorem ritem_3 (c l lo a b : Int) (t : List UInt8) (w : World) (ht : t.length ≤ 140737488355328) :
    Calls Tryz.prog 73 #[.agg #[.int .i64 3, .int .i64 c, .int .i64 l, .int .i64 lo, .int .i64 a, .int .i64 b, .string (SB t)]] w fun e w' => e = .returned (.bool (itB ⟨3, c, l, lo, a, b, t⟩)) ∧ Below w.heap.size w w' := by
  have hfin : itB ⟨3, c, l, lo, a, b, t⟩ = (wiB 1 c 8 && (wiB 0 l 200 && wiB 0 lo 200 && wiB 1 a 200 && wiB 1 b 200 && t.isEmpty)) := by
    simp [itB, useB, wiB, Bool.and_assoc]
  have HFIN := hid hfin
  clear hfin
  obtain ⟨S, hS⟩ : ∃ S, S = SB t := ⟨_, rfl⟩
  have HSP := hid (show ∀ w0, Calls Tryz.prog 91 #[.string S] w0 fun e w' => e = .returned (.bool (spellB t)) ∧ Below w0.heap.size w0 w' from by rw [hS]; exact fun w0 => spelt_calls t w0 ht)
  have HSL := hid (show S.toList = t from by rw [hS, SB_toList])
  rw [← hS]
  clear hS ht
  go_enter Tryz.func73, Tryz.ntmps73
  go_wp2_with (go_at_call 44; refine (rwithin_b _ _ _ _).mono ?_; rintro e w' ⟨rfl, rfl⟩)
  all_goals (try (go_quiet ((go_at_call 44; exact quiet_same' (rwithin_b _ _ _ _)))))
  all_goals (go_wp2_with (first | (go_at_call 44; refine (rwithin_b _ _ _ _).mono ?_; rintro e w' ⟨rfl, rfl⟩) | (go_at_call 91; refine ((unhid HSP) _).mono ?_; rintro e w' ⟨rfl, hbs⟩)))
  all_goals
    go_ret
    refine ⟨retE ?_, ?_⟩
    · rw [unhid HFIN]
      go_light
      have hsl := unhid HSL
      subst hsl
      simp_all [List.isEmpty_iff]
    · first | exact below_alloc _ _ | exact below_drewN' (below_alloc _ _) _ | exact (below_drewN' (below_alloc _ _) _).trans (Below.mono (by assumption) (by simp))

set_option maxHeartbeats 1000000 in
theorem ritem_4 (c l lo a b : Int) (t : List UInt8) (w : World) (ht : t.length ≤ 140737488355328) :
    Calls Tryz.prog 73 #[.agg #[.int .i64 4, .int .i64 c, .int .i64 l, .int .i64 lo, .int .i64 a, .int .i64 b, .string (SB t)]] w fun e w' => e = .returned (.bool (itB ⟨4, c, l, lo, a, b, t⟩)) ∧ Below w.heap.size w w' := by
  have hfin : itB ⟨4, c, l, lo, a, b, t⟩ = (wiB 1 c 8 && (wiB 0 l 200 && wiB 0 lo 200 && wiB 1 a 200 && decide (b = 0) && t.isEmpty)) := by
    simp [itB, useB, wiB, Bool.and_assoc]
  have HFIN := hid hfin
  clear hfin
  obtain ⟨S, hS⟩ : ∃ S, S = SB t := ⟨_, rfl⟩
  have HSP := hid (show ∀ w0, Calls Tryz.prog 91 #[.string S] w0 fun e w' => e = .returned (.bool (spellB t)) ∧ Below w0.heap.size w0 w' from by rw [hS]; exact fun w0 => spelt_calls t w0 ht)
  have HSL := hid (show S.toList = t from by rw [hS, SB_toList])
  rw [← hS]
  clear hS ht
  go_enter Tryz.func73, Tryz.ntmps73
  go_wp2_with (go_at_call 44; refine (rwithin_b _ _ _ _).mono ?_; rintro e w' ⟨rfl, rfl⟩)
  all_goals (try (go_quiet ((go_at_call 44; exact quiet_same' (rwithin_b _ _ _ _)))))
  all_goals (go_wp2_with (first | (go_at_call 44; refine (rwithin_b _ _ _ _).mono ?_; rintro e w' ⟨rfl, rfl⟩) | (go_at_call 91; refine ((unhid HSP) _).mono ?_; rintro e w' ⟨rfl, hbs⟩)))
  all_goals
    go_ret
    refine ⟨retE ?_, ?_⟩
    · rw [unhid HFIN]
      go_light
      have hsl := unhid HSL
      subst hsl
      simp_all [List.isEmpty_iff]
    · first | exact below_alloc _ _ | exact below_drewN' (below_alloc _ _) _ | exact (below_drewN' (below_alloc _ _) _).trans (Below.mono (by assumption) (by simp))

set_option maxHeartbeats 1000000 in
theorem ritem_5 (c l lo a b : Int) (t : List UInt8) (w : World) (ht : t.length ≤ 140737488355328) :
    Calls Tryz.prog 73 #[.agg #[.int .i64 5, .int .i64 c, .int .i64 l, .int .i64 lo, .int .i64 a, .int .i64 b, .string (SB t)]] w fun e w' => e = .returned (.bool (itB ⟨5, c, l, lo, a, b, t⟩)) ∧ Below w.heap.size w w' := by
  have hfin : itB ⟨5, c, l, lo, a, b, t⟩ = (wiB 1 c 8 && (decide (l = 0) && decide (lo = 0) && wiB 1 a 200 && decide (b = 0) && t.isEmpty)) := by
    simp [itB, useB, wiB, Bool.and_assoc]
  have HFIN := hid hfin
  clear hfin
  obtain ⟨S, hS⟩ : ∃ S, S = SB t := ⟨_, rfl⟩
  have HSP := hid (show ∀ w0, Calls Tryz.prog 91 #[.string S] w0 fun e w' => e = .returned (.bool (spellB t)) ∧ Below w0.heap.size w0 w' from by rw [hS]; exact fun w0 => spelt_calls t w0 ht)
  have HSL := hid (show S.toList = t from by rw [hS, SB_toList])
  rw [← hS]
  clear hS ht
  go_enter Tryz.func73, Tryz.ntmps73
  go_wp2_with (go_at_call 44; refine (rwithin_b _ _ _ _).mono ?_; rintro e w' ⟨rfl, rfl⟩)
  all_goals (try (go_quiet ((go_at_call 44; exact quiet_same' (rwithin_b _ _ _ _)))))
  all_goals (go_wp2_with (first | (go_at_call 44; refine (rwithin_b _ _ _ _).mono ?_; rintro e w' ⟨rfl, rfl⟩) | (go_at_call 91; refine ((unhid HSP) _).mono ?_; rintro e w' ⟨rfl, hbs⟩)))
  all_goals
    go_ret
    refine ⟨retE ?_, ?_⟩
    · rw [unhid HFIN]
      go_light
      have hsl := unhid HSL
      subst hsl
      simp_all [List.isEmpty_iff]
    · first | exact below_alloc _ _ | exact below_drewN' (below_alloc _ _) _ | exact (below_drewN' (below_alloc _ _) _).trans (Below.mono (by assumption) (by simp))

set_option maxHeartbeats 1000000 in
theorem ritem_6 (c l lo a b : Int) (t : List UInt8) (w : World) (ht : t.length ≤ 140737488355328) :
    Calls Tryz.prog 73 #[.agg #[.int .i64 6, .int .i64 c, .int .i64 l, .int .i64 lo, .int .i64 a, .int .i64 b, .string (SB t)]] w fun e w' => e = .returned (.bool (itB ⟨6, c, l, lo, a, b, t⟩)) ∧ Below w.heap.size w w' := by
  have hfin : itB ⟨6, c, l, lo, a, b, t⟩ = (wiB 1 c 8 && (wiB 0 l 200 && wiB 0 lo 200 && wiB 1 a 200 && decide (b = 0) && spellB t)) := by
    simp [itB, useB, wiB, Bool.and_assoc]
  have HFIN := hid hfin
  clear hfin
  obtain ⟨S, hS⟩ : ∃ S, S = SB t := ⟨_, rfl⟩
  have HSP := hid (show ∀ w0, Calls Tryz.prog 91 #[.string S] w0 fun e w' => e = .returned (.bool (spellB t)) ∧ Below w0.heap.size w0 w' from by rw [hS]; exact fun w0 => spelt_calls t w0 ht)
  have HSL := hid (show S.toList = t from by rw [hS, SB_toList])
  rw [← hS]
  clear hS ht
  go_enter Tryz.func73, Tryz.ntmps73
  go_wp2_with (go_at_call 44; refine (rwithin_b _ _ _ _).mono ?_; rintro e w' ⟨rfl, rfl⟩)
  all_goals (try (go_quiet ((go_at_call 44; exact quiet_same' (rwithin_b _ _ _ _)))))
  all_goals (go_wp2_with (first | (go_at_call 44; refine (rwithin_b _ _ _ _).mono ?_; rintro e w' ⟨rfl, rfl⟩) | (go_at_call 91; refine ((unhid HSP) _).mono ?_; rintro e w' ⟨rfl, hbs⟩)))
  all_goals
    go_ret
    refine ⟨retE ?_, ?_⟩
    · rw [unhid HFIN]
      go_light
      have hsl := unhid HSL
      subst hsl
      simp_all [List.isEmpty_iff]
    · first | exact below_alloc _ _ | exact below_drewN' (below_alloc _ _) _ | exact (below_drewN' (below_alloc _ _) _).trans (Below.mono (by assumption) (by simp))

theorem ritem_calls (x : It) (w : World) (ht : x.text.length ≤ 140737488355328) :
    Calls Tryz.prog 73 #[.agg #[.int .i64 x.kind, .int .i64 x.colour, .int .i64 x.left, .int .i64 x.low, .int .i64 x.a, .int .i64 x.b, .string (SB x.text)]] w fun e w' => e = .returned (.bool (itB x)) ∧ Below w.heap.size w w' := by
  obtain ⟨k, c, l, lo, a, b, t⟩ := x
  by_cases hk : 1 ≤ k ∧ k ≤ 6
  · have hk' : k = 1 ∨ k = 2 ∨ k = 3 ∨ k = 4 ∨ k = 5 ∨ k = 6 := by omega
    rcases hk' with rfl | rfl | rfl | rfl | rfl | rfl
    · exact ritem_1 c l lo a b t w ht
    · exact ritem_2 c l lo a b t w ht
    · exact ritem_3 c l lo a b t w ht
    · exact ritem_4 c l lo a b t w ht
    · exact ritem_5 c l lo a b t w ht
    · exact ritem_6 c l lo a b t w ht
  · exact ritem_0 k hk c l lo a b t w ht

end Go.Proofs.YtbnnnjkfhffekaaGreatDoor
