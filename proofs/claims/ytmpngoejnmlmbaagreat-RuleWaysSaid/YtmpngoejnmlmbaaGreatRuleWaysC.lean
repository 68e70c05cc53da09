/-
  Held says for each metre what Holds says, Wanted what Must says, Compare where they differ, and History what Holds says at the hour.
-/
import Derived.Test.YtmpngoejnmlmbaaGreatRows
import Derived.Test.YtmpngoejnmlmbaaGreatOpen
import Derived.Test.YtmpngoejnmlmbaaGreatWaysM
import Derived.ProofKit
import Derived.OpenShut
import Derived.ChangeOld
import Derived.Below
set_option linter.unusedSimpArgs false
set_option linter.unusedVariables false
namespace Go.Proofs.YtmpngoejnmlmbaaGreat.ruleWays
open Go.ChangeShapes Go.WideShapes Go.ChangeAt Go.RowKit

theorem own : ownKnob Tryz.prog.godebug = none := by kernel_rfl
theorem laidOut : laidOutB Tryz.prog = true := by kernel_rfl

set_option maxRecDepth 100000 in
theorem lifted (os : Os) (started : os.Started) (H : Type) (enc : TypeId × Value → H) :
    ReturnsInHanded {} Tryz.checked os 8 .any (Rows.ruleWaysSpec.pre6 enc Tryz.prog Tryz.f8 Rows.ruleWaysRow.domain false) (Rows.ruleWaysSpec.post enc Tryz.prog Tryz.f8 false true false false) := by
  refine returnsInHanded_of_change_sized (C := Tryz.checked) own started (by kernel_rfl) Tryz.func8
    (ChangeSpec.witness6 (enc := enc) (C := Tryz.checked) false ⟨#[], #[.agg #[.int .i64 0, .slice none 0 0, .slice none 0 0, .slice none 0 0, .int .i64 0, .int .i64 0, .int .i64 0, .int .i64 0]], []⟩ 8 (by kernel_rfl) (by kernel_rfl) (by kernel_rfl) (by kernel_rfl)) ?_
  intro W base args ds gs before hval0 hW hcnd hsz _
  have hval : ∀ (j : Nat) t v, Tryz.f8.params[j]? = some t → args[j]? = some v → Value.okWide Tryz.prog W .any base t v := hval0
  have hW' := hW
  obtain ⟨p, q, hA0, hV, rfl, hfz, hnd⟩ := hW
  have hA : DataW.TrodAll enc Tryz.prog W 0 (fun _ => true) true Tryz.f8.params.toList args.toList ds p := hA0
  rw [Tryz.params8] at hA hval
  obtain ⟨v0, vs0, d0, ds0, p0, q0, hargs, rfl, rfl, h0, r0⟩ := trodAll_cons hA
  obtain ⟨rfl, rfl, rfl⟩ := trodAll_nil r0
  obtain rfl : args = #[v0] := by cases args; simp_all
  obtain ⟨rfl, rfl⟩ := trodVars_none hV
  obtain ⟨cs, rfl, hcs⟩ := okWide_struct Tryz.underlying28 (hval 0 _ v0 rfl rfl)
  have k0 := h0
  have lt0 : ∀ x ∈ p0, x.block < W.heap.size := by obtain ⟨m, hm⟩ := k0; exact DataW.trod_lt m _ _ _ hm
  have fit : Fit Tryz.prog 28 d0 := fun n hn => by
    have := List.all_eq_true.1 hsz n (DataW.weights_mem_each (j := 0) (t := 28) (d := d0) rfl rfl n hn); simpa using this
  obtain ⟨fuel, hf⟩ := h0
  obtain ⟨len, A, js, c, A2, l, c2, A3, ed, c3, hour, dir, topic, metre, hcs', hl, hs, hed, i0, i1, i2, i3, i4⟩ := open_ask hf fit
  have hcs2 : cs.toList = [.int .i64 len, .slice A js.length c, .slice A2 l.length c2, .slice A3 ed.length c3, .int .i64 hour, .int .i64 dir, .int .i64 topic, .int .i64 metre] := hcs'
  obtain rfl : cs = #[.int .i64 len, .slice A js.length c, .slice A2 l.length c2, .slice A3 ed.length c3, .int .i64 hour, .int .i64 dir, .int .i64 topic, .int .i64 metre] := by cases cs; simp_all
  clear hA0 hval0
  refine (waysL_calls len A js c A2 l c2 A3 ed c3 hour dir topic metre W hl hs hed i0 i1 i2 i3 i4).mono fun e W' ⟨he, bel⟩ => ?_
  subst he
  exact ⟨_, rfl, _, _, _, [], _, [], hW', trodAll_mk1 (shut_bool Tryz.underlying4 _), (trodAll_cons_mk (Below.trod laidOut (by kernel_rfl) (of_decide_eq_true (by kernel_rfl)) k0 bel lt0) trodAll_mk0), rfl, bel.frame _, fun h => by cases h⟩

theorem over : Rows.ruleWaysRow.holds Tryz.pinned (OpenSpec.ofChange Rows.ruleWaysSpec) :=
  OpenClaim.holds_of_wide 8 Tryz.f8 rfl rfl rfl rfl rfl rfl rfl ⟨rfl, rfl, rfl, rfl, rfl⟩ rfl rfl rfl rfl rfl (by kernel_rfl) Tryz.func8 (by kernel_rfl)
    (of_decide_eq_true (by kernel_rfl)) (by unfold Func.isWrapper; first | (rw [if_pos (by decide +kernel)]; kernel_rfl) | (rw [if_neg (by decide +kernel)]; exact ⟨rfl, rfl⟩))
    (fun os started H enc _ => lifted os started H enc)

theorem proved : Rows.RuleWaysSaid := over
#print axioms proved
end Go.Proofs.YtmpngoejnmlmbaaGreat.ruleWays
