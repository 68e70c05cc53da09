/-
  Which types are valid, both sides; the reference's picture of a type and its ground.
-/
import Derived.Test.YtfklckjfbnaoeaaGreatDoorWoA
import Derived.Test.YtfklckjfbnaoeaaGreatDoorFcPz
import Derived.Test.YtfklckjfbnaoeaaGreatDoorWaS
set_option linter.unusedSimpArgs false
set_option linter.unusedVariables false
namespace Go.Proofs.YtfklckjfbnaoeaaGreatDoor
open Go.RowKit Go.Deep

theorem tyR_iff (t : Ty) : tyR t = true ↔ ((1 ≤ t.code ∧ t.code ≤ 1000000) ∧ (1 ≤ t.grade ∧ t.grade ≤ 3) ∧ (0 ≤ t.frm ∧ t.frm ≤ 100000) ∧ (t.frm + 1 ≤ t.to ∧ t.to ≤ 100001)) := by
  simp only [tyR, Bool.and_eq_true, decide_eq_true_eq]
  constructor
  · rintro ⟨⟨⟨h1, h2⟩, h3⟩, h4⟩; exact ⟨h1, h2, h3, h4⟩
  · rintro ⟨h1, h2, h3, h4⟩; exact ⟨⟨⟨h1, h2⟩, h3⟩, h4⟩
theorem tyB_no {t : Ty} (h : ¬ ((1 ≤ t.code ∧ t.code ≤ 1000000) ∧ (1 ≤ t.grade ∧ t.grade ≤ 3) ∧ (0 ≤ t.frm ∧ t.frm ≤ 100000) ∧ (t.frm + 1 ≤ t.to ∧ t.to ≤ 100001))) : tyB t = false := by
  have : tyR t = false := by rw [Bool.eq_false_iff]; exact fun e => h ((tyR_iff t).1 e)
  unfold tyB
  rw [this]
  rfl
theorem tyB_yes {t : Ty} (h : (1 ≤ t.code ∧ t.code ≤ 1000000) ∧ (1 ≤ t.grade ∧ t.grade ≤ 3) ∧ (0 ≤ t.frm ∧ t.frm ≤ 100000) ∧ (t.frm + 1 ≤ t.to ∧ t.to ≤ 100001)) : tyB t = (faceE t).2 := by
  unfold tyB
  rw [(tyR_iff t).2 h]
  rfl

set_option maxHeartbeats 2000000 in
set_option maxRecDepth 100000 in
theorem validType_calls (t : Ty) (w : World) (hg : Gl w) :
    Calls Tryz.prog 82 #[.agg #[.int .i64 t.code, .int .i64 t.grade, .int .i64 t.frm, .int .i64 t.to, .string (SB t.text)]] w fun e w' => e = .returned (.bool (tyB t)) ∧ Below w.heap.size w w' := by
  have hb0 := below_alloc w (.cells #[.int .i64 t.code, .int .i64 t.grade, .int .i64 t.frm, .int .i64 t.to, .string (SB t.text)] 67)
  have HT := hid (TyAt.new w t)
  have HB := hid hb0
  have HG := hid (hg.below hb0)
  clear hg hb0
  go_enter Tryz.func82, Tryz.ntmps82
  go_upto_region 1 with (fail)
  change Code.wp _ _ _ _ (w.alloc (.cells #[.int .i64 t.code, .int .i64 t.grade, .int .i64 t.frm, .int .i64 t.to, .string (SB t.text)] 67))
  generalize w.alloc (.cells #[.int .i64 t.code, .int .i64 t.grade, .int .i64 t.frm, .int .i64 t.to, .string (SB t.text)] 67) = W at *
  obtain ⟨s0, s1, s2, s3, s4⟩ := (unhid HT).cells
  by_cases c1 : 1 ≤ t.code ∧ t.code ≤ 1000000
  rotate_left
  · have HN := hid (tyB_no (t := t) (fun h => c1 h.1))
    have d1 : decide (1 ≤ t.code ∧ t.code ≤ 1000000) = false := decide_eq_false c1
    clear c1
    go_wp2_with (go_at_call 31; refine (wwithin_calls _ _ _ _).mono ?_; rintro e w' ⟨rfl, rfl⟩)
    go_ret
    exact ⟨retb (by rw [unhid HN]), unhid HB⟩
  have d1 : decide (1 ≤ t.code ∧ t.code ≤ 1000000) = true := decide_eq_true c1
  by_cases c2 : 1 ≤ t.grade ∧ t.grade ≤ 3
  rotate_left
  · have HN := hid (tyB_no (t := t) (fun h => c2 h.2.1))
    have d2 : decide (1 ≤ t.grade ∧ t.grade ≤ 3) = false := decide_eq_false c2
    clear c2
    go_wp2_with (go_at_call 31; refine (wwithin_calls _ _ _ _).mono ?_; rintro e w' ⟨rfl, rfl⟩)
    go_ret
    exact ⟨retb (by rw [unhid HN]), unhid HB⟩
  have d2 : decide (1 ≤ t.grade ∧ t.grade ≤ 3) = true := decide_eq_true c2
  by_cases c3 : 0 ≤ t.frm ∧ t.frm ≤ 100000
  rotate_left
  · have HN := hid (tyB_no (t := t) (fun h => c3 h.2.2.1))
    have d3 : decide (0 ≤ t.frm ∧ t.frm ≤ 100000) = false := decide_eq_false c3
    clear c3
    go_wp2_with (go_at_call 31; refine (wwithin_calls _ _ _ _).mono ?_; rintro e w' ⟨rfl, rfl⟩)
    go_ret
    exact ⟨retb (by rw [unhid HN]), unhid HB⟩
  have d3 : decide (0 ≤ t.frm ∧ t.frm ≤ 100000) = true := decide_eq_true c3
  have f0 := c3.1
  have f1 := c3.2
  by_cases c4 : t.frm + 1 ≤ t.to ∧ t.to ≤ 100001
  rotate_left
  · have HN := hid (tyB_no (t := t) (fun h => c4 h.2.2.2))
    have d4 : decide (t.frm + 1 ≤ t.to ∧ t.to ≤ 100001) = false := decide_eq_false c4
    go_wp2_with (go_at_call 31; refine (wwithin_calls _ _ _ _).mono ?_; rintro e w' ⟨rfl, rfl⟩)
    go_ret
    exact ⟨retb (by rw [unhid HN]), unhid HB⟩
  have d4 : decide (t.frm + 1 ≤ t.to ∧ t.to ≤ 100001) = true := decide_eq_true c4
  have HY := hid (tyB_yes ⟨c1, c2, c3, c4⟩)
  clear c1 c2 c3 c4
  go_wp2_with (go_at_call 31; refine (wwithin_calls _ _ _ _).mono ?_; rintro e w' ⟨rfl, rfl⟩)
  refine (faceOf_calls t W (unhid HG)).mono ?_
  rintro e w1 ⟨hb, A, c, rfl, -⟩
  have HB1 := hid ((unhid HB).trans (hb.mono (unhid HB).size))
  clear hb s0 s1 s2 s3 s4 HT HG
  go_wp2_with fail
  go_ret
  exact ⟨retb (by rw [unhid HY]), below_alloc' (unhid HB1) _⟩

end Go.Proofs.YtfklckjfbnaoeaaGreatDoor
