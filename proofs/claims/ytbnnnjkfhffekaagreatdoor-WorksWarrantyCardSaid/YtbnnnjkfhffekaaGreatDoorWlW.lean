/-
  The law WorksWarranty.
-/
import Derived.Test.YtbnnnjkfhffekaaGreatDoorWoX
set_option linter.unusedSimpArgs false
set_option linter.unusedVariables false
namespace Go.Proofs.YtbnnnjkfhffekaaGreatDoor
open Go.RowKit

/-- A claim in a block. -/
structure ClAt (w : World) (B : Nat) (a b c d : Int) : Prop where
  heap : w.heap[B]? = some (.cells #[.int .i64 a, .int .i64 b, .int .i64 c, .int .i64 d] 42 (0, 0))
theorem ClAt.below {w w' : World} {B : Nat} {a b c d : Int} (h : ClAt w B a b c d) (hb : Below w.heap.size w w') : ClAt w' B a b c d := ⟨(hb.block B (Array.getElem?_eq_some_iff.1 h.heap).1).trans h.heap⟩
theorem ClAt.cells {w : World} {B : Nat} {a b c d : Int} (h : ClAt w B a b c d) : w.cell? ⟨B, 0, none⟩ = some (.int .i64 a) ∧ w.cell? ⟨B, 1, none⟩ = some (.int .i64 b) ∧ w.cell? ⟨B, 2, none⟩ = some (.int .i64 c) ∧ w.cell? ⟨B, 3, none⟩ = some (.int .i64 d) :=
  ⟨cell_of_row _ B 0 _ _ _ h.heap, cell_of_row _ B 1 _ _ _ h.heap, cell_of_row _ B 2 _ _ _ h.heap, cell_of_row _ B 3 _ _ _ h.heap⟩
theorem warE_cases (a b c d : Int) : warE a b c d = 0 ∨ warE a b c d = 2 := by
  unfold warE
  split
  · exact .inl rfl
  · exact .inr rfl
theorem warR_bad {a b c d : Int} (h : warE a b c d = 2) : warR a b c d = .tuple #[.int .i64 0, .int .i64 2] := by
  unfold warR
  rw [h]
  rfl
theorem warR_good {a b c d : Int} (h : warE a b c d = 0) : warR a b c d = .tuple #[.int .i64 (warV a b c d), .int .i64 0] := by
  unfold warR
  rw [h]
  rfl
theorem warE_age {a b c d : Int} (h : warE a b c d = 0) : 0 ≤ b ∧ b ≤ 100000 := by
  unfold warE at h
  split at h
  · rename_i h2
    exact h2.2.1
  · cases h

set_option maxHeartbeats 4000000 in
set_option maxRecDepth 100000 in
theorem lwarranty_calls (a b c d : Int) (w : World) (hg : Gl w) :
    Calls Tryz.prog 6 #[.agg #[.int .i64 a, .int .i64 b, .int .i64 c, .int .i64 d]] w fun e w' => e = .returned (.bool true) ∧ Below w.heap.size w w' := by
  have HO := hid ((On.start hg).lay (.cells #[.int .i64 a, .int .i64 b, .int .i64 c, .int .i64 d] 42))
  have HC := hid (⟨heap_alloc_new w (.cells #[.int .i64 a, .int .i64 b, .int .i64 c, .int .i64 d] 42)⟩ : ClAt (w.alloc (.cells #[.int .i64 a, .int .i64 b, .int .i64 c, .int .i64 d] 42)) w.heap.size a b c d)
  have HW := hid (fun W => warranty_calls a b c d W)
  have HR := hid (fun W => rwarranty_calls a b c d W)
  clear hg
  go_enter Tryz.func6, Tryz.ntmps6
  go_upto_region 1 with (fail)
  change Code.wp _ _ _ _ (w.alloc (.cells #[.int .i64 a, .int .i64 b, .int .i64 c, .int .i64 d] 42))
  generalize w.alloc (.cells #[.int .i64 a, .int .i64 b, .int .i64 c, .int .i64 d] 42) = W at *
  obtain ⟨c0, c1, c2, c3⟩ := (unhid HC).cells
  rcases warE_cases a b c d with h0 | h0
  · have hage := warE_age h0
    have HLAT := hid (fun h => war_later h0 h)
    rw [warR_good h0] at HW HR
    obtain ⟨v, hv⟩ : ∃ v, v = warV a b c d := ⟨_, rfl⟩
    rw [← hv] at HW HR HLAT
    clear hv h0
    have dv : (v != v) = false := by simp
    go_wp2_with fail
    refine ((unhid HW) W).mono ?_
    rintro e w1 ⟨rfl, rfl⟩
    go_wp2_with fail
    refine ((unhid HR) W).mono ?_
    rintro e w1 ⟨rfl, rfl⟩
    by_cases hm : b = 100000
    · have dm : (b == 100000) = true := by simp [hm]
      clear hm hage
      go_wp2_with fail
      refine (unhid HO).awake.mono ?_
      rintro e w9 ⟨rfl, hb2⟩
      have HB2 := hid hb2
      clear hb2
      go_wp2_with fail
      go_ret
      exact ⟨rfl, unhid HB2⟩
    · have dm : (b == 100000) = false := by simp [hm]
      obtain ⟨g1, g2⟩ := (unhid HLAT) hm
      have HW2 := hid (fun W => warranty_calls a (b + 1) c d W)
      rw [warR_good g1] at HW2
      obtain ⟨u, hu⟩ : ∃ u, u = warV a (b + 1) c d := ⟨_, rfl⟩
      rw [← hu] at HW2 g2
      clear hu g1 hm
      obtain ⟨b0, b1⟩ := hage
      go_wp2_with fail
      refine ((unhid HW2) W).mono ?_
      rintro e w1 ⟨rfl, rfl⟩
      go_wp2_with fail
      refine (unhid HO).awake.mono ?_
      rintro e w9 ⟨rfl, hb2⟩
      have HB2 := hid hb2
      clear hb2
      go_wp2_with fail
      go_ret
      exact ⟨rfl, unhid HB2⟩
  · rw [warR_bad h0] at HW HR
    clear h0
    go_wp2_with fail
    refine ((unhid HW) W).mono ?_
    rintro e w1 ⟨rfl, rfl⟩
    go_wp2_with fail
    refine ((unhid HR) W).mono ?_
    rintro e w1 ⟨rfl, rfl⟩
    go_wp2_with fail
    refine (unhid HO).awake.mono ?_
    rintro e w9 ⟨rfl, hb2⟩
    have HB2 := hid hb2
    clear hb2
    go_wp2_with fail
    go_ret
    exact ⟨rfl, unhid HB2⟩

end Go.Proofs.YtbnnnjkfhffekaaGreatDoor
