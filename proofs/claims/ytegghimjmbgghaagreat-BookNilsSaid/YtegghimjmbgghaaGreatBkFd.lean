/-
  The reference's fields of a record.
-/
import Derived.Test.YtegghimjmbgghaaGreatBkL
set_option linter.unusedSimpArgs false
set_option linter.unusedVariables false
namespace Go.Proofs.YtegghimjmbgghaaGreat
open Go.RowKit Go.Shelf

def FieldsPost (w : World) (r : Rc) (e : Ending) (w' : World) : Prop := ∃ v, e = .returned v ∧ w'.ownsRow w.heap.size 3 1 v 14 (ints r.flds) ∧ Below w.heap.size w w'

set_option maxHeartbeats 4000000 in
set_option maxRecDepth 100000 in
theorem fields_calls (r : Rc) (w : World) : Calls Tryz.prog 159 #[rcV r] w fun e w' => FieldsPost w r e w' := by
  obtain ⟨i0, hi, hz0, hz1, hz2⟩ := info_parts info_int
  have HB := hid (below_alloc w (.cells (rcA r) 82))
  have HX := hid (RcAt.new w r)
  show Calls Tryz.prog 159 #[.agg #[.int .i64 r.tab, .int .i64 r.num, .int .i64 r.hour, .int .i64 r.sign, .int .i64 r.fld, .int .i64 r.val, .int .i64 r.s0, .int .i64 r.s1, .int .i64 r.s2, .int .i64 r.s3, .int .i64 r.s4, .int .i64 r.s5, .int .i64 r.s6, .int .i64 r.s7]] w _
  go_enter Tryz.func159, Tryz.ntmps159
  go_upto_region 1 with (fail)
  change Code.wp _ _ _ _ (w.alloc (.cells (rcA r) 82))
  obtain ⟨X, hX⟩ : ∃ X, X = w.heap.size := ⟨_, rfl⟩
  rw [← hX] at HX ⊢
  have HXE := hid hX
  clear hX
  generalize w.alloc (.cells (rcA r) 82) = W at *
  have HSF := hid (show ∀ w', Below W.heap.size W w' → (w'.cell? ⟨X, 0, none⟩ = some (.int .i64 r.tab) ∧ w'.cell? ⟨X, 1, none⟩ = some (.int .i64 r.num) ∧ w'.cell? ⟨X, 2, none⟩ = some (.int .i64 r.hour) ∧ w'.cell? ⟨X, 3, none⟩ = some (.int .i64 r.sign) ∧ w'.cell? ⟨X, 4, none⟩ = some (.int .i64 r.fld) ∧ w'.cell? ⟨X, 5, none⟩ = some (.int .i64 r.val)) from fun w' hb => ((unhid HX).below hb (unhid HX).lt).cells)
  refine wp_region_noPanic ?_
  refine wp_region_E (S := fun w' => (w'.cell? ⟨X, 0, none⟩ = some (.int .i64 r.tab) ∧ w'.cell? ⟨X, 1, none⟩ = some (.int .i64 r.num) ∧ w'.cell? ⟨X, 2, none⟩ = some (.int .i64 r.hour) ∧ w'.cell? ⟨X, 3, none⟩ = some (.int .i64 r.sign) ∧ w'.cell? ⟨X, 4, none⟩ = some (.int .i64 r.fld) ∧ w'.cell? ⟨X, 5, none⟩ = some (.int .i64 r.val))) 16 17 rfl (by kernel_rfl) (by kernel_rfl) ((unhid HSF) _ (Below.drew (Below.refl _ _))) ?_
  intro hSE
  have HBe := hid (Below.drew (Below.refl W.heap.size W))
  generalize W.drew = Wd at *
  (refine WE_take (i := 0) (v := ?_) rfl (by kernel_rfl) (by decide) (by kernel_rfl) (by kernel_rfl) (fun _ _ _ h => h) (by rfl) hSE ?_ ?_; rotate_left; (focus (intro w hSw; (try dsimp only at hSw); go_simp; (try with_reducible rfl))); simp only [Act.put, List.setIfInBounds_toArray, List.set_cons_zero, List.set_cons_succ])
  (refine WE_take (i := 1) (v := ?_) rfl (by kernel_rfl) (by decide) (by kernel_rfl) (by kernel_rfl) (fun _ _ _ h => h) (by rfl) hSE ?_ ?_; rotate_left; (focus (intro w hSw; (try dsimp only at hSw); go_simp; (try with_reducible rfl))); simp only [Act.put, List.setIfInBounds_toArray, List.set_cons_zero, List.set_cons_succ])
  (refine WE_take (i := 2) (v := ?_) rfl (by kernel_rfl) (by decide) (by kernel_rfl) (by kernel_rfl) (fun _ _ _ h => h) (by rfl) hSE ?_ ?_; rotate_left; (focus (intro w hSw; (try dsimp only at hSw); go_simp; (try with_reducible rfl))); simp only [Act.put, List.setIfInBounds_toArray, List.set_cons_zero, List.set_cons_succ])
  (refine WE_take (i := 3) (v := ?_) rfl (by kernel_rfl) (by decide) (by kernel_rfl) (by kernel_rfl) (fun _ _ _ h => h) (by rfl) hSE ?_ ?_; rotate_left; (focus (intro w hSw; (try dsimp only at hSw); go_simp; (try with_reducible rfl))); simp only [Act.put, List.setIfInBounds_toArray, List.set_cons_zero, List.set_cons_succ])
  (refine WE_take (i := 4) (v := ?_) rfl (by kernel_rfl) (by decide) (by kernel_rfl) (by kernel_rfl) (fun _ _ _ h => h) (by rfl) hSE ?_ ?_; rotate_left; (focus (intro w hSw; (try dsimp only at hSw); go_simp; (try with_reducible rfl))); simp only [Act.put, List.setIfInBounds_toArray, List.set_cons_zero, List.set_cons_succ])
  (refine WE_take (i := 5) (v := ?_) rfl (by kernel_rfl) (by decide) (by kernel_rfl) (by kernel_rfl) (fun _ _ _ h => h) (by rfl) hSE ?_ ?_; rotate_left; (focus (intro w hSw; (try dsimp only at hSw); go_simp; (try with_reducible rfl))); simp only [Act.put, List.setIfInBounds_toArray, List.set_cons_zero, List.set_cons_succ])
  (refine WE_take (i := 6) (v := ?_) rfl (by kernel_rfl) (by decide) (by kernel_rfl) (by kernel_rfl) (fun _ _ _ h => h) (by rfl) hSE ?_ ?_; rotate_left; (focus (intro w hSw; (try dsimp only at hSw); go_simp; (try with_reducible rfl))); simp only [Act.put, List.setIfInBounds_toArray, List.set_cons_zero, List.set_cons_succ])
  (refine WE_take (i := 7) (v := ?_) rfl (by kernel_rfl) (by decide) (by kernel_rfl) (by kernel_rfl) (fun _ _ _ h => h) (by rfl) hSE ?_ ?_; rotate_left; (focus (intro w hSw; (try dsimp only at hSw); go_simp; (try with_reducible rfl))); simp only [Act.put, List.setIfInBounds_toArray, List.set_cons_zero, List.set_cons_succ])
  (refine WE_take (i := 8) (v := ?_) rfl (by kernel_rfl) (by decide) (by kernel_rfl) (by kernel_rfl) (fun _ _ _ h => h) (by rfl) hSE ?_ ?_; rotate_left; (focus (intro w hSw; (try dsimp only at hSw); go_simp; (try with_reducible rfl))); simp only [Act.put, List.setIfInBounds_toArray, List.set_cons_zero, List.set_cons_succ])
  (refine WE_take (i := 9) (v := ?_) rfl (by kernel_rfl) (by decide) (by kernel_rfl) (by kernel_rfl) (fun _ _ _ h => h) (by rfl) hSE ?_ ?_; rotate_left; (focus (intro w hSw; (try dsimp only at hSw); go_simp; (try with_reducible rfl))); simp only [Act.put, List.setIfInBounds_toArray, List.set_cons_zero, List.set_cons_succ])
  (refine WE_take (i := 10) (v := ?_) rfl (by kernel_rfl) (by decide) (by kernel_rfl) (by kernel_rfl) (fun _ _ _ h => h) (by rfl) hSE ?_ ?_; rotate_left; (focus (intro w hSw; (try dsimp only at hSw); go_simp; (try with_reducible rfl))); simp only [Act.put, List.setIfInBounds_toArray, List.set_cons_zero, List.set_cons_succ])
  (refine WE_take (i := 11) (v := ?_) rfl (by kernel_rfl) (by decide) (by kernel_rfl) (by kernel_rfl) (fun _ _ _ h => h) (by rfl) hSE ?_ ?_; rotate_left; (focus (intro w hSw; (try dsimp only at hSw); go_simp; (try with_reducible rfl))); simp only [Act.put, List.setIfInBounds_toArray, List.set_cons_zero, List.set_cons_succ])
  (refine WE_take (i := 13) (v := ?_) rfl (by kernel_rfl) (by decide) (by kernel_rfl) (by kernel_rfl) (fun _ _ _ h => h) (by rfl) hSE ?_ ?_; rotate_left; (focus (intro w hSw; (try dsimp only at hSw); go_simp; (try with_reducible rfl))); simp only [Act.put, List.setIfInBounds_toArray, List.set_cons_zero, List.set_cons_succ])
  (refine WE_take (i := 14) (v := ?_) rfl (by kernel_rfl) (by decide) (by kernel_rfl) (by kernel_rfl) (fun _ _ _ h => h) (by rfl) hSE ?_ ?_; rotate_left; (focus (intro w hSw; (try dsimp only at hSw); go_simp; (try with_reducible rfl))); simp only [Act.put, List.setIfInBounds_toArray, List.set_cons_zero, List.set_cons_succ])
  (refine WE_one (i := 12) rfl (by decide) (by kernel_rfl) ?_; intro K hK)
  go_simp
  have HO := hid (show (Wd.alloc (.cells #[.int .i64 r.tab, .int .i64 r.num, .int .i64 r.hour, .int .i64 r.sign, .int .i64 r.fld, .int .i64 r.val] 3)).ownsRow W.heap.size 3 1 (.slice (some ⟨Wd.heap.size, 0, none⟩) 6 6) 6 [.int .i64 r.tab, .int .i64 r.num, .int .i64 r.hour, .int .i64 r.sign, .int .i64 r.fld, .int .i64 r.val] from
    ⟨rfl, Or.inr ⟨Wd.heap.size, 6, #[.int .i64 r.tab, .int .i64 r.num, .int .i64 r.hour, .int .i64 r.sign, .int .i64 r.fld, .int .i64 r.val], rfl, (unhid HBe).size, heap_alloc_new _ _, Nat.le_refl _, by unfold maxLen; omega, rfl, rfl⟩⟩)
  obtain ⟨Bn, hBn⟩ : ∃ Bn, Bn = Wd.heap.size := ⟨_, rfl⟩
  rw [← hBn] at HO ⊢
  have HBe := hid ((unhid HBe).alloc (unhid HBe).size (.cells #[.int .i64 r.tab, .int .i64 r.num, .int .i64 r.hour, .int .i64 r.sign, .int .i64 r.fld, .int .i64 r.val] 3))
  refine hK.out _ _ ((unhid HSF) _ (unhid HBe)) ?_
  clear hSE hK K hBn
  intro hSE
  (try simp only [Act.put, List.setIfInBounds_toArray, List.set_cons_zero, List.set_cons_succ])
  generalize Wd.alloc (.cells #[.int .i64 r.tab, .int .i64 r.num, .int .i64 r.hour, .int .i64 r.sign, .int .i64 r.fld, .int .i64 r.val] 3) = Wb at *
  have HNW := hid (show ∀ j u, ([.int .i64 r.s0, .int .i64 r.s1, .int .i64 r.s2, .int .i64 r.s3, .int .i64 r.s4, .int .i64 r.s5, .int .i64 r.s6, .int .i64 r.s7] : List Value)[j]? = some u → Wb.cell? ((⟨X, 6, none⟩ : Addr).add j) = some u from fun j u hu => by
    have hh := (unhid HX).below (unhid HBe) (unhid HX).lt
    have hj : j < 8 := by have := (List.getElem?_eq_some_iff.1 hu).1; simpa using this
    rw [add_at, hh.seen hj]
    rcases lt8 hj with rfl | rfl | rfl | rfl | rfl | rfl | rfl | rfl <;> simpa [Rc.sn] using hu)
  (refine WE_one (i := 15) rfl (by decide) (by kernel_rfl) ?_; intro K hK)
  refine step_append_lies _ (by rfl) _ _ _ (by rfl) W.heap.size 3 i0 _ 1 8 Tryz.underlying43 hi hz0 hz1 hz2 rfl (by omega) _ 6 [.int .i64 r.tab, .int .i64 r.num, .int .i64 r.hour, .int .i64 r.sign, .int .i64 r.fld, .int .i64 r.val] (by rfl) (unhid HO) ⟨X, 6, none⟩ 8 8 [.int .i64 r.s0, .int .i64 r.s1, .int .i64 r.s2, .int .i64 r.s3, .int .i64 r.s4, .int .i64 r.s5, .int .i64 r.s6, .int .i64 r.s7] (by rfl) (by rfl) (unhid HNW) (by simp [Value.oneCell']) (by omega) (by unfold maxLen; omega) (by omega) (unhid HBe).size Wb.heap.size rfl ?_
  intro g3 cap3 w9 hown hg hat hltg
  have HB9 := hid (Below.grown (unhid HBe) hg (unhid HBe).size (fun q hq => (own_block_lt (unhid HO) hq).1))
  refine hK.out _ _ ((unhid HSF) _ (unhid HB9)) ?_
  clear hSE hK K
  intro hSE
  (try simp only [Act.put, List.setIfInBounds_toArray, List.set_cons_zero, List.set_cons_succ])
  (refine WE_last rfl (by kernel_rfl) (by kernel_rfl) (by kernel_rfl) ?_; intro K hK; go_simp; refine hK.out _ _ (NoPanic.normal ?_); clear hK K)
  have HP := hid (show FieldsPost w r (.returned (.slice (some ⟨g3, 0, none⟩) 14 cap3)) w9 from ⟨_, rfl, own_base hown (unhid HB).size, (unhid HB).trans ((unhid HB9).mono (unhid HB).size)⟩)
  clear hown hg hat hltg hSE
  go_wp2_with fail
  go_ret
  exact unhid HP

end Go.Proofs.YtegghimjmbgghaaGreat
