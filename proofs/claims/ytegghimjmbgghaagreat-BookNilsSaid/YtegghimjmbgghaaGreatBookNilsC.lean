/-
  The law BookNils: its claim
-/
import Derived.Test.YtegghimjmbgghaaGreatRows
import Derived.Test.YtegghimjmbgghaaGreatBkOr
import Derived.Test.YtegghimjmbgghaaGreatBkNlL
import Derived.ProofKit
import Derived.OpenShut
import Derived.ChangeOld
import Derived.Below
set_option linter.unusedSimpArgs false
set_option linter.unusedVariables false
namespace Go.Proofs.YtegghimjmbgghaaGreat.bookNils
open Go.ChangeShapes Go.WideShapes Go.ChangeAt Go.RowKit

theorem own : ownKnob Tryz.prog.godebug = none := by kernel_rfl
theorem laidOut : laidOutB Tryz.prog = true := by kernel_rfl

set_option maxRecDepth 100000 in
theorem lifted (os : Os) (started : os.Started) (H : Type) (enc : TypeId × Value → H) :
    ReturnsInHanded {} Tryz.checked os 6 .any (Rows.bookNilsSpec.pre6 enc Tryz.prog Tryz.f6 Rows.bookNilsRow.domain false) (Rows.bookNilsSpec.post enc Tryz.prog Tryz.f6 false true false false) := by
  refine returnsInHanded_of_change_sized (C := Tryz.checked) own started (by kernel_rfl) Tryz.func6
    (ChangeSpec.witness6 (enc := enc) (C := Tryz.checked) false ⟨#[], #[.agg #[.int .i64 0, .int .i64 0, .int .i64 0, .int .i64 0, .int .i64 0, .int .i64 0, .int .i64 0, .int .i64 0, .int .i64 0, .int .i64 0, .int .i64 0, .int .i64 0, .int .i64 0, .int .i64 0], .slice none 0 0, .int .i64 0], []⟩ 8 (by kernel_rfl) (by kernel_rfl) (by kernel_rfl) (by kernel_rfl)) ?_
  intro W base args ds gs before hval0 hW hcnd hsz _
  have hval : ∀ (j : Nat) t v, Tryz.f6.params[j]? = some t → args[j]? = some v → Value.okWide Tryz.prog W .any base t v := hval0
  have hW' := hW
  obtain ⟨p, q, hA0, hV, rfl, hfz, hnd⟩ := hW
  have hA : DataW.TrodAll enc Tryz.prog W 0 (fun _ => true) true Tryz.f6.params.toList args.toList ds p := hA0
  rw [Tryz.params6] at hA hval
  obtain ⟨v0, vs0, d0, ds0, p0, q0, hargs, rfl, rfl, h0, r0⟩ := trodAll_cons hA
  obtain ⟨v1, vs1, d1, ds1, p1, q1, rfl, rfl, rfl, h1, r1⟩ := trodAll_cons r0
  obtain ⟨v2, vs2, d2, ds2, p2, q2, rfl, rfl, rfl, h2, r2⟩ := trodAll_cons r1
  obtain ⟨rfl, rfl, rfl⟩ := trodAll_nil r2
  obtain rfl : args = #[v0, v1, v2] := by cases args; simp_all
  obtain ⟨rfl, rfl⟩ := trodVars_none hV
  obtain ⟨cs0, rfl, hcs0⟩ := okWide_struct Tryz.underlying82 (hval 0 _ v0 rfl rfl)
  have k0 := h0
  have lt0 : ∀ x ∈ p0, x.block < W.heap.size := by obtain ⟨m, hm⟩ := k0; exact DataW.trod_lt m _ _ _ hm
  have fit0 : Fit Tryz.prog 82 d0 := fun n hn => by
    have := List.all_eq_true.1 hsz n (DataW.weights_mem_each (j := 0) (t := 82) (d := d0) rfl rfl n hn); simpa using this
  obtain ⟨fuel0, hf0⟩ := h0
  obtain ⟨r0x, hcs0', hit0⟩ := open_rec hf0 fit0
  have hcs02 : cs0.toList = [.int .i64 r0x.tab, .int .i64 r0x.num, .int .i64 r0x.hour, .int .i64 r0x.sign, .int .i64 r0x.fld, .int .i64 r0x.val, .int .i64 r0x.s0, .int .i64 r0x.s1, .int .i64 r0x.s2, .int .i64 r0x.s3, .int .i64 r0x.s4, .int .i64 r0x.s5, .int .i64 r0x.s6, .int .i64 r0x.s7] := hcs0'
  obtain rfl : cs0 = #[.int .i64 r0x.tab, .int .i64 r0x.num, .int .i64 r0x.hour, .int .i64 r0x.sign, .int .i64 r0x.fld, .int .i64 r0x.val, .int .i64 r0x.s0, .int .i64 r0x.s1, .int .i64 r0x.s2, .int .i64 r0x.s3, .int .i64 r0x.s4, .int .i64 r0x.s5, .int .i64 r0x.s6, .int .i64 r0x.s7] := by cases cs0; simp_all
  obtain ⟨aa1, ll1, cc1, rfl⟩ := okWide_slice Tryz.underlying52 (hval 1 _ v1 rfl rfl)
  have k1 := h1
  have lt1 : ∀ x ∈ p1, x.block < W.heap.size := by obtain ⟨m, hm⟩ := k1; exact DataW.trod_lt m _ _ _ hm
  have fit1 : Fit Tryz.prog 52 d1 := fun n hn => by
    have := List.all_eq_true.1 hsz n (DataW.weights_mem_each (j := 1) (t := 52) (d := d1) rfl rfl n hn); simpa using this
  obtain ⟨fuel1, hf1⟩ := h1
  obtain ⟨A1, l1, c1, hcs1', hit1⟩ := open_bytes hf1 fit1
  have hv1 : Value.slice aa1 ll1 cc1 = .slice A1 l1.length c1 := (List.cons.inj hcs1').1
  injection hv1 with e11 e12 e13
  subst e11 e12 e13
  obtain ⟨a2, rfl, rfl, rfl, w2⟩ := open_int Tryz.underlying3 (hval 2 _ v2 rfl rfl) h2
  clear hA0 hval0
  refine (lnils_calls r0x l1 aa1 cc1 a2 W hit0 hit1 (wf_in w2)).mono fun e W' ⟨he, bel⟩ => ?_
  subst he
  exact ⟨_, rfl, _, _, _, [], _, [], hW', trodAll_mk1 (shut_bool Tryz.underlying4 _), (trodAll_cons_mk (Below.trod laidOut (by kernel_rfl) (of_decide_eq_true (by kernel_rfl)) k0 bel lt0) (trodAll_cons_mk (Below.trod laidOut (by kernel_rfl) (of_decide_eq_true (by kernel_rfl)) k1 bel lt1) (trodAll_cons_mk (shut_int Tryz.underlying3 w2) trodAll_mk0))), rfl, bel.frame _, fun h => by cases h⟩

theorem over : Rows.bookNilsRow.holds Tryz.pinned (OpenSpec.ofChange Rows.bookNilsSpec) :=
  OpenClaim.holds_of_wide 6 Tryz.f6 rfl rfl rfl rfl rfl rfl rfl ⟨rfl, rfl, rfl, rfl, rfl⟩ rfl rfl rfl rfl rfl (by kernel_rfl) Tryz.func6 (by kernel_rfl)
    (of_decide_eq_true (by kernel_rfl)) (by unfold Func.isWrapper; first | (rw [if_pos (by decide +kernel)]; kernel_rfl) | (rw [if_neg (by decide +kernel)]; exact ⟨rfl, rfl⟩))
    (fun os started H enc _ => lifted os started H enc)

theorem proved : Rows.BookNilsSaid := over
#print axioms proved
end Go.Proofs.YtegghimjmbgghaaGreat.bookNils
