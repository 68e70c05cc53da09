/-
  The law BookDecides: its claim
-/
import Derived.Test.YtegghimjmbgghaaRows
import Derived.Test.YtegghimjmbgghaaBkOr
import Derived.Test.YtegghimjmbgghaaBkNt
import Derived.Test.YtegghimjmbgghaaBkDcM
import Derived.ProofKit
import Derived.OpenShut
import Derived.ChangeOld
import Derived.Below
set_option linter.unusedSimpArgs false
set_option linter.unusedVariables false
namespace Go.Proofs.Ytegghimjmbgghaa.bookDecides
open Go.ChangeShapes Go.WideShapes Go.ChangeAt Go.RowKit

theorem own : ownKnob Try.prog.godebug = none := by kernel_rfl
theorem laidOut : laidOutB Try.prog = true := by kernel_rfl

set_option maxRecDepth 100000 in
theorem lifted (os : Os) (started : os.Started) (H : Type) (enc : TypeId × Value → H) :
    ReturnsInHanded {} Try.checked os 10 .any (Rows.bookDecidesSpec.pre6 enc Try.prog Try.f10 Rows.bookDecidesRow.domain false) (Rows.bookDecidesSpec.post enc Try.prog Try.f10 false true false false) := by
  refine returnsInHanded_of_change_sized (C := Try.checked) own started (by kernel_rfl) Try.func10
    (ChangeSpec.witness6 (enc := enc) (C := Try.checked) false ⟨#[], #[.slice none 0 0, .agg #[.int .i64 0, .int .i64 0, .int .i64 0, .int .i64 0, .int .i64 0], .agg #[.int .i64 0, .int .i64 0, .int .i64 0, .int .i64 0, .int .i64 0]], []⟩ 8 (by kernel_rfl) (by kernel_rfl) (by kernel_rfl) (by kernel_rfl)) ?_
  intro W base args ds gs before hval0 hW hcnd hsz _
  have hval : ∀ (j : Nat) t v, Try.f10.params[j]? = some t → args[j]? = some v → Value.okWide Try.prog W .any base t v := hval0
  have hW' := hW
  obtain ⟨p, q, hA0, hV, rfl, hfz, hnd⟩ := hW
  have hA : DataW.TrodAll enc Try.prog W 0 (fun _ => true) true Try.f10.params.toList args.toList ds p := hA0
  rw [Try.params10] at hA hval
  obtain ⟨v0, vs0, d0, ds0, p0, q0, hargs, rfl, rfl, h0, r0⟩ := trodAll_cons hA
  obtain ⟨v1, vs1, d1, ds1, p1, q1, rfl, rfl, rfl, h1, r1⟩ := trodAll_cons r0
  obtain ⟨v2, vs2, d2, ds2, p2, q2, rfl, rfl, rfl, h2, r2⟩ := trodAll_cons r1
  obtain ⟨rfl, rfl, rfl⟩ := trodAll_nil r2
  obtain rfl : args = #[v0, v1, v2] := by cases args; simp_all
  obtain ⟨rfl, rfl⟩ := trodVars_none hV
  obtain ⟨aa0, ll0, cc0, rfl⟩ := okWide_slice Try.underlying23 (hval 0 _ v0 rfl rfl)
  have k0 := h0
  have lt0 : ∀ x ∈ p0, x.block < W.heap.size := by obtain ⟨m, hm⟩ := k0; exact DataW.trod_lt m _ _ _ hm
  have fit0 : Fit Try.prog 23 d0 := fun n hn => by
    have := List.all_eq_true.1 hsz n (DataW.weights_mem_each (j := 0) (t := 23) (d := d0) rfl rfl n hn); simpa using this
  obtain ⟨fuel0, hf0⟩ := h0
  obtain ⟨A0, l0, c0, hcs0', hit0⟩ := open_notes hf0 fit0
  have hv0 : Value.slice aa0 ll0 cc0 = .slice A0 l0.length c0 := (List.cons.inj hcs0').1
  injection hv0 with e01 e02 e03
  subst e01 e02 e03
  obtain ⟨cs1, rfl, hcs1⟩ := okWide_struct Try.underlying30 (hval 1 _ v1 rfl rfl)
  have k1 := h1
  have lt1 : ∀ x ∈ p1, x.block < W.heap.size := by obtain ⟨m, hm⟩ := k1; exact DataW.trod_lt m _ _ _ hm
  have fit1 : Fit Try.prog 30 d1 := fun n hn => by
    have := List.all_eq_true.1 hsz n (DataW.weights_mem_each (j := 1) (t := 30) (d := d1) rfl rfl n hn); simpa using this
  obtain ⟨fuel1, hf1⟩ := h1
  obtain ⟨n1x, hcs1', hit1⟩ := open_note hf1
  have hcs12 : cs1.toList = [.int .i64 n1x.tab, .int .i64 n1x.hour, .int .i64 n1x.sign, .int .i64 n1x.fld, .int .i64 n1x.val] := hcs1'
  obtain rfl : cs1 = #[.int .i64 n1x.tab, .int .i64 n1x.hour, .int .i64 n1x.sign, .int .i64 n1x.fld, .int .i64 n1x.val] := by cases cs1; simp_all
  obtain ⟨cs2, rfl, hcs2⟩ := okWide_struct Try.underlying30 (hval 2 _ v2 rfl rfl)
  have k2 := h2
  have lt2 : ∀ x ∈ p2, x.block < W.heap.size := by obtain ⟨m, hm⟩ := k2; exact DataW.trod_lt m _ _ _ hm
  have fit2 : Fit Try.prog 30 d2 := fun n hn => by
    have := List.all_eq_true.1 hsz n (DataW.weights_mem_each (j := 2) (t := 30) (d := d2) rfl rfl n hn); simpa using this
  obtain ⟨fuel2, hf2⟩ := h2
  obtain ⟨n2x, hcs2', hit2⟩ := open_note hf2
  have hcs22 : cs2.toList = [.int .i64 n2x.tab, .int .i64 n2x.hour, .int .i64 n2x.sign, .int .i64 n2x.fld, .int .i64 n2x.val] := hcs2'
  obtain rfl : cs2 = #[.int .i64 n2x.tab, .int .i64 n2x.hour, .int .i64 n2x.sign, .int .i64 n2x.fld, .int .i64 n2x.val] := by cases cs2; simp_all
  clear hA0 hval0
  refine (ldecides_calls l0 aa0 cc0 n1x n2x W hit0 hit1 hit2).mono fun e W' ⟨he, bel⟩ => ?_
  subst he
  exact ⟨_, rfl, _, _, _, [], _, [], hW', trodAll_mk1 (shut_bool Try.underlying4 _), (trodAll_cons_mk (Below.trod laidOut (by kernel_rfl) (of_decide_eq_true (by kernel_rfl)) k0 bel lt0) (trodAll_cons_mk (Below.trod laidOut (by kernel_rfl) (of_decide_eq_true (by kernel_rfl)) k1 bel lt1) (trodAll_cons_mk (Below.trod laidOut (by kernel_rfl) (of_decide_eq_true (by kernel_rfl)) k2 bel lt2) trodAll_mk0))), rfl, bel.frame _, fun h => by cases h⟩

theorem over : Rows.bookDecidesRow.holds Try.pinned (OpenSpec.ofChange Rows.bookDecidesSpec) :=
  OpenClaim.holds_of_wide 10 Try.f10 rfl rfl rfl rfl rfl rfl rfl ⟨rfl, rfl, rfl, rfl, rfl⟩ rfl rfl rfl rfl rfl (by kernel_rfl) Try.func10 (by kernel_rfl)
    (of_decide_eq_true (by kernel_rfl)) (by unfold Func.isWrapper; first | (rw [if_pos (by decide +kernel)]; kernel_rfl) | (rw [if_neg (by decide +kernel)]; exact ⟨rfl, rfl⟩))
    (fun os started H enc _ => lifted os started H enc)

theorem proved : Rows.BookDecidesSaid := over
#print axioms proved
end Go.Proofs.Ytegghimjmbgghaa.bookDecides
