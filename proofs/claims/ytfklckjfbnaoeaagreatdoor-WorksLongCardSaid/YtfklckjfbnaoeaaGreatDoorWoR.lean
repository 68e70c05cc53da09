/-
  The price of a line: the reference.
-/
import Derived.Test.YtfklckjfbnaoeaaGreatDoorWoG
import Derived.Test.YtfklckjfbnaoeaaGreatDoorWoQ
set_option linter.unusedSimpArgs false
set_option linter.unusedVariables false
namespace Go.Proofs.YtfklckjfbnaoeaaGreatDoor
open Go.RowKit Go.Deep

/-- The number of the mistake of a line. -/
def quoE (p : Prc) (t : Ty) (n : Int) : Int := if prcB p = true then if tyB t = true then if 1 ≤ n ∧ n ≤ 10000 then 0 else 2 else 101 else 103
def quoR (p : Prc) (t : Ty) (n : Int) : Value := .tuple #[.int .i64 (if quoE p t n = 0 then quoP p (facP t) n else 0), .int .i64 (quoE p t n)]
theorem quoR_1 {p : Prc} {t : Ty} {n : Int} (h : prcB p = false) : quoR p t n = .tuple #[.int .i64 0, .int .i64 103] := by
  have e : quoE p t n = 103 := if_neg (by simp [h])
  unfold quoR
  rw [e]
  rfl
theorem quoR_2 {p : Prc} {t : Ty} {n : Int} (h : prcB p = true) (h2 : tyB t = false) : quoR p t n = .tuple #[.int .i64 0, .int .i64 101] := by
  have e : quoE p t n = 101 := (if_pos h).trans (if_neg (by simp [h2]))
  unfold quoR
  rw [e]
  rfl
theorem quoR_3 {p : Prc} {t : Ty} {n : Int} (h : prcB p = true) (h2 : tyB t = true) (h3 : ¬ (1 ≤ n ∧ n ≤ 10000)) : quoR p t n = .tuple #[.int .i64 0, .int .i64 2] := by
  have e : quoE p t n = 2 := ((if_pos h).trans (if_pos h2)).trans (if_neg h3)
  unfold quoR
  rw [e]
  rfl
theorem quoR_4 {p : Prc} {t : Ty} {n : Int} (h : prcB p = true) (h2 : tyB t = true) (h3 : 1 ≤ n ∧ n ≤ 10000) : quoR p t n = .tuple #[.int .i64 (quoP p (facP t) n), .int .i64 0] := by
  have e : quoE p t n = 0 := ((if_pos h).trans (if_pos h2)).trans (if_pos h3)
  unfold quoR
  rw [e]
  rfl
theorem mul_in3 {a b A B : Int} (h1 : 0 ≤ a) (h2 : a ≤ A) (h3 : 0 ≤ b) (h4 : b ≤ B) : 0 ≤ a * b ∧ a * b ≤ A * B :=
  ⟨Int.mul_nonneg h1 h3, Int.mul_le_mul h2 h4 h3 (by omega)⟩
theorem wraps_quote {n d s ov res one pd ps : Int} (h1 : d * pd + s * ps = one) (h2 : 0 ≤ d * pd ∧ d * pd ≤ 360000000000) (h3 : 0 ≤ s * ps ∧ s * ps ≤ 8000000) (h4 : 0 ≤ n * one ∧ n * one ≤ 3600080000000000) (h5 : 0 ≤ n * one * (1000 - ov) ∧ n * one * (1000 - ov) ≤ 3600080000000000000) (h6 : 0 ≤ ov ∧ ov ≤ 1000) (h7 : n * one * (1000 - ov) / 1000 = res) :
    IntKind.i64.wrap ((IntKind.i64.wrap (IntKind.i64.wrap (n * IntKind.i64.wrap (IntKind.i64.wrap (pd * d) + IntKind.i64.wrap (ps * s))) * IntKind.i64.wrap (1000 - ov))).tdiv 1000) = res := by
  rw [Int.mul_comm pd d, Int.mul_comm ps s, IntWalk.i64_in (d * pd) (by omega), IntWalk.i64_in (s * ps) (by omega), IntWalk.i64_in (d * pd + s * ps) (by omega), h1, IntWalk.i64_in (n * one) (by omega), IntWalk.i64_in (1000 - ov) (by omega), IntWalk.i64_in (n * one * (1000 - ov)) (by omega), Int.tdiv_eq_ediv_of_nonneg h5.1, h7]
  exact IntWalk.i64_in _ (by omega)
theorem areas_lit (g : Fc) : (ints (areasL g)).toArray = #[.int .i64 (areaP g 0), .int .i64 (areaP g 1), .int .i64 (areaP g 2), .int .i64 (areaP g 3), .int .i64 (areaP g 4), .int .i64 (areaP g 5), .int .i64 (areaP g 6), .int .i64 (areaP g 7), .int .i64 (areaP g 8), .int .i64 (areaP g 9)] := by
  simp [areasL, ints, List.range_succ]

end Go.Proofs.YtfklckjfbnaoeaaGreatDoor
