/-
  The law FaceTrims.
-/
import Derived.Test.YtmagidoodlkeoaaGreatDoorFcLw
import Derived.Test.YtmagidoodlkeoaaGreatDoorFcSm
import Derived.Test.YtmagidoodlkeoaaGreatDoorFcLk
set_option linter.unusedSimpArgs false
set_option linter.unusedVariables false
namespace Go.Proofs.YtmagidoodlkeoaaGreatDoor
open Go.RowKit

theorem same_trim (f : Fc) (A A2 : Option Addr) (c c2 : Nat) (w : World) (h1 : ItsOk w A (trimF f).items) (h2 : ItsOk w A2 (trimF f).items) :
    Calls Tryz.prog 23 #[.agg #[.int .i64 f.shape, .int .i64 f.size, .int .i64 f.height, .slice A (trimF f).items.length c], .agg #[.int .i64 f.shape, .int .i64 f.size, .int .i64 f.height, .slice A2 (trimF f).items.length c2]] w fun e w' => e = .returned (.bool true) ∧ Below w.heap.size w w' := by
  have h := same_calls (trimF f) (trimF f) A A2 c c2 w h1 h2
  rw [eqF_self] at h
  exact h
theorem same_zero (w : World) :
    Calls Tryz.prog 23 #[.agg #[.int .i64 0, .int .i64 0, .int .i64 0, .slice none 0 0], .agg #[.int .i64 0, .int .i64 0, .int .i64 0, .slice none 0 0]] w fun e w' => e = .returned (.bool true) ∧ Below w.heap.size w w' := by
  have h := same_calls ⟨0, 0, 0, []⟩ ⟨0, 0, 0, []⟩ none none 0 0 w (ItsOk.nil w none) (ItsOk.nil w none)
  rw [eqF_self] at h
  exact h
theorem ptrim_no' (f : Fc) (A : Option Addr) (c : Nat) (w : World) (hit : ItsOk w A f.items) (hf : fcB f = false) :
    Calls Tryz.prog 50 #[.agg #[.int .i64 f.shape, .int .i64 f.size, .int .i64 f.height, .slice A f.items.length c]] w fun e w' => e = .returned (.tuple #[.agg #[.int .i64 0, .int .i64 0, .int .i64 0, .slice none 0 0], .int .i64 10]) ∧ Below w.heap.size w w' := ptrim_no f A c w hit hf
theorem ptrim_ok' (f : Fc) (A : Option Addr) (c : Nat) (w : World) (hit : ItsOk w A f.items) (hf : fcB f = true) :
    Calls Tryz.prog 50 #[.agg #[.int .i64 f.shape, .int .i64 f.size, .int .i64 f.height, .slice A f.items.length c]] w fun e w' => Below w.heap.size w w' ∧ ∃ (A1 : Option Addr) (k1 : Nat), e = .returned (.tuple #[.agg #[.int .i64 f.shape, .int .i64 f.size, .int .i64 f.height, .slice A1 (trimF f).items.length k1], .int .i64 0]) ∧ ItsOk w' A1 (trimF f).items := ptrim_ok f A c w hit hf
theorem rtrim_ok' (f : Fc) (A : Option Addr) (c : Nat) (w : World) (hit : ItsOk w A f.items) (hf : fcB f = true) :
    Calls Tryz.prog 52 #[.agg #[.int .i64 f.shape, .int .i64 f.size, .int .i64 f.height, .slice A f.items.length c]] w fun e w' => Below w.heap.size w w' ∧ ∃ (A1 : Option Addr) (k1 : Nat), e = .returned (.agg #[.int .i64 f.shape, .int .i64 f.size, .int .i64 f.height, .slice A1 (trimF f).items.length k1]) ∧ ItsOk w' A1 (trimF f).items := rtrim_calls f A c w hit hf

set_option maxHeartbeats 8000000 in
set_option maxRecDepth 100000 in
theorem ftrims_calls (f : Fc) (A : Option Addr) (c : Nat) (w : World) (hg : Gl w) (hit : ItsOk w A f.items) :
    Calls Tryz.prog 15 #[.agg #[.int .i64 f.shape, .int .i64 f.size, .int .i64 f.height, .slice A f.items.length c]] w fun e w' => e = .returned (.bool true) ∧ Below w.heap.size w w' := by
  have HF := hid (FaceAt.new w c hit)
  have HO := hid ((On.start hg).lay (.cells #[.int .i64 f.shape, .int .i64 f.size, .int .i64 f.height, .slice A f.items.length c] 25))
  clear hg hit
  go_enter Tryz.func15, Tryz.ntmps15
  go_wp2_with fail
  generalize w.alloc (.cells #[.int .i64 f.shape, .int .i64 f.size, .int .i64 f.height, .slice A f.items.length c] 25) = W at *
  refine (heavy_calls f A c W (unhid HF).ok).mono ?_
  rintro e w1 ⟨rfl, hb⟩
  have HF := hid ((unhid HF).below hb)
  have HO := hid ((unhid HO).next hb)
  clear hb
  cases hl : heavyF f with
  | true =>
    go_wp2_with fail
    refine (unhid HO).first.mono ?_
    rintro e w9 ⟨rfl, hb2⟩
    have HB2 := hid hb2
    clear hb2
    go_wp2_with fail
    go_ret
    exact ⟨rfl, unhid HB2⟩
  | false =>
    obtain ⟨c0, c1, c2, c3⟩ := (unhid HF).cells
    cases hf : fcB f with
    | false =>
      have HFF := hid hf
      go_wp2_with fail
      refine (ptrim_no' f A c w1 (unhid HF).ok (unhid HFF)).mono ?_
      rintro e w2 ⟨rfl, hb⟩
      have hbn := below_alloc w2 (.cells #[.int .i64 0, .int .i64 0, .int .i64 0, .slice none 0 0] 25)
      have HT := hid (heap_alloc_new w2 (.cells #[.int .i64 0, .int .i64 0, .int .i64 0, .slice none 0 0] 25))
      have hb := hb.trans (hbn.mono hb.size)
      clear hbn
      go_upto_region 4 with (fail)
      generalize w2.alloc (.cells #[.int .i64 0, .int .i64 0, .int .i64 0, .slice none 0 0] 25) = W2 at *
      have HF := hid ((unhid HF).below hb)
      have HO := hid ((unhid HO).next hb)
      clear hb c0 c1 c2 c3
      obtain ⟨c0, c1, c2, c3⟩ := (unhid HF).cells

      generalize w2.heap.size = T at *
      go_wp2_with fail
      refine (pmirror_no f A c W2 (unhid HF).ok (unhid HFF)).mono ?_
      rintro e w3 ⟨rfl, hb⟩
      have HT := hid ((hb.block T (Array.getElem?_eq_some_iff.1 (unhid HT)).1).trans (unhid HT))
      have HF := hid ((unhid HF).below hb)
      have HO := hid ((unhid HO).next hb)
      clear hb c0 c1 c2 c3
      obtain ⟨c0, c1, c2, c3⟩ := (unhid HF).cells

      go_wp2_with fail
      refine (rvalid_calls f A c w3 (unhid HF).ok).mono ?_
      rintro e w4 ⟨rfl, hb⟩
      rw [unhid HFF]
      have HT := hid ((hb.block T (Array.getElem?_eq_some_iff.1 (unhid HT)).1).trans (unhid HT))
      have HF := hid ((unhid HF).below hb)
      have HO := hid ((unhid HO).next hb)
      clear hb c0 c1 c2 c3
      obtain ⟨c0, c1, c2, c3⟩ := (unhid HF).cells

      have e0 := cell_of_row _ T 0 _ _ _ (unhid HT)
      have e1 := cell_of_row _ T 1 _ _ _ (unhid HT)
      have e2 := cell_of_row _ T 2 _ _ _ (unhid HT)
      have e3 := cell_of_row _ T 3 _ _ _ (unhid HT)
      simp at e0 e1 e2 e3
      go_wp2_with fail
      refine (same_zero w4).mono ?_
      rintro e w5 ⟨rfl, hb⟩
      have HF := hid ((unhid HF).below hb)
      have HO := hid ((unhid HO).next hb)
      clear hb c0 c1 c2 c3 e0 e1 e2 e3
      obtain ⟨c0, c1, c2, c3⟩ := (unhid HF).cells

      go_wp2_with fail
      refine (unhid HO).first.mono ?_
      rintro e w9 ⟨rfl, hb2⟩
      have HB2 := hid hb2
      clear hb2
      go_wp2_with fail
      go_ret
      exact ⟨rfl, unhid HB2⟩

    | true =>
      have HFF := hid hf
      go_wp2_with fail
      refine (ptrim_ok' f A c w1 (unhid HF).ok (unhid HFF)).mono ?_
      rintro e w2 ⟨hb, A1, k1, rfl, hi1⟩
      have hbn := below_alloc w2 (.cells #[.int .i64 f.shape, .int .i64 f.size, .int .i64 f.height, .slice A1 (trimF f).items.length k1] 25)
      have HT := hid (heap_alloc_new w2 (.cells #[.int .i64 f.shape, .int .i64 f.size, .int .i64 f.height, .slice A1 (trimF f).items.length k1] 25))
      have HI1 := hid (hi1.below hbn)
      have hb := hb.trans (hbn.mono hb.size)
      clear hbn hi1 hf
      go_upto_region 4 with (fail)
      generalize w2.alloc (.cells #[.int .i64 f.shape, .int .i64 f.size, .int .i64 f.height, .slice A1 (trimF f).items.length k1] 25) = W2 at *
      have HF := hid ((unhid HF).below hb)
      have HO := hid ((unhid HO).next hb)
      clear hb c0 c1 c2 c3
      obtain ⟨c0, c1, c2, c3⟩ := (unhid HF).cells

      generalize w2.heap.size = T at *
      go_wp2_with fail
      refine (pmirror_ok f A c W2 (unhid HF).ok (unhid HFF)).mono ?_
      rintro e w3 ⟨rfl, hb⟩
      have HT := hid ((hb.block T (Array.getElem?_eq_some_iff.1 (unhid HT)).1).trans (unhid HT))
      have HI1 := hid ((unhid HI1).below hb)
      have HF := hid ((unhid HF).below hb)
      have HO := hid ((unhid HO).next hb)
      clear hb c0 c1 c2 c3
      obtain ⟨c0, c1, c2, c3⟩ := (unhid HF).cells

      go_wp2_with fail
      refine (rvalid_calls f A c w3 (unhid HF).ok).mono ?_
      rintro e w4 ⟨rfl, hb⟩
      rw [unhid HFF]
      have HT := hid ((hb.block T (Array.getElem?_eq_some_iff.1 (unhid HT)).1).trans (unhid HT))
      have HI1 := hid ((unhid HI1).below hb)
      have HF := hid ((unhid HF).below hb)
      have HO := hid ((unhid HO).next hb)
      clear hb c0 c1 c2 c3
      obtain ⟨c0, c1, c2, c3⟩ := (unhid HF).cells

      have HF4 := HF
      have HT4 := HT
      have hSF : ∀ w' : World, Below w4.heap.size w4 w' → (w'.cell? ⟨w.heap.size, 0, none⟩ = some (.int .i64 f.shape) ∧ w'.cell? ⟨w.heap.size, 1, none⟩ = some (.int .i64 f.size) ∧ w'.cell? ⟨w.heap.size, 2, none⟩ = some (.int .i64 f.height) ∧ w'.cell? ⟨w.heap.size, 3, none⟩ = some (.slice A f.items.length c) ∧ w'.cell? ⟨T, 0, none⟩ = some (.int .i64 f.shape) ∧ w'.cell? ⟨T, 1, none⟩ = some (.int .i64 f.size) ∧ w'.cell? ⟨T, 2, none⟩ = some (.int .i64 f.height) ∧ w'.cell? ⟨T, 3, none⟩ = some (.slice A1 (trimF f).items.length k1)) := fun w' hb => by
        have h := (unhid HF4).below hb
        have ht := (hb.block T (Array.getElem?_eq_some_iff.1 (unhid HT4)).1).trans (unhid HT4)
        exact ⟨h.cells.1, h.cells.2.1, h.cells.2.2.1, h.cells.2.2.2, cell_of_row _ _ _ _ _ _ ht, cell_of_row _ _ _ _ _ _ ht, cell_of_row _ _ _ _ _ _ ht, cell_of_row _ _ _ _ _ _ ht⟩
      have HSF := hid hSF
      clear hSF c0 c1 c2 c3
      have HMR := hid (fun (A3 A4 : Option Addr) (k3 k4 : Nat) (W : World) h1 => rmirror_calls f A3 A4 k3 k4 W (unhid HFF) h1)
      have HST := hid (fun (A2 : Option Addr) (k2 : Nat) (W : World) h1 h2 => same_trim f A1 A2 k1 k2 W h1 h2)
      have HRT := hid (fun (W : World) h => rtrim_ok' f A c W h (unhid HFF))
      obtain ⟨q, hq⟩ : ∃ q, q = mirB f := ⟨_, rfl⟩
      rw [← hq] at HMR ⊢
      clear hq
      have hqq : (q == q) = true := by simp
      obtain ⟨m, hm⟩ : ∃ m, m = (trimF f).items.length := ⟨_, rfl⟩
      rw [← hm] at HST HRT HSF
      clear hm
      go_wp2_with fail
      refine wp_region_noPanic ?_
      refine wp_region_E (S := fun w' => w'.cell? ⟨w.heap.size, 0, none⟩ = some (.int .i64 f.shape) ∧ w'.cell? ⟨w.heap.size, 1, none⟩ = some (.int .i64 f.size) ∧ w'.cell? ⟨w.heap.size, 2, none⟩ = some (.int .i64 f.height) ∧ w'.cell? ⟨w.heap.size, 3, none⟩ = some (.slice A f.items.length c) ∧ w'.cell? ⟨T, 0, none⟩ = some (.int .i64 f.shape) ∧ w'.cell? ⟨T, 1, none⟩ = some (.int .i64 f.size) ∧ w'.cell? ⟨T, 2, none⟩ = some (.int .i64 f.height) ∧ w'.cell? ⟨T, 3, none⟩ = some (.slice A1 m k1)) 22 23 rfl (by kernel_rfl) (by kernel_rfl) ((unhid HSF) _ (Below.drew (Below.refl _ _))) ?_
      intro hSE
      (refine WE_take (i := 0) (v := ?_) rfl (by kernel_rfl) (by decide) (by kernel_rfl) (by kernel_rfl) (fun _ _ _ h => h) (by rfl) hSE ?_ ?_; rotate_left; (focus (intro w hSw; (try dsimp only at hSw); go_simp; (try with_reducible rfl))); simp only [Act.put, List.setIfInBounds_toArray, List.set_cons_zero, List.set_cons_succ])
      (refine WE_take (i := 1) (v := ?_) rfl (by kernel_rfl) (by decide) (by kernel_rfl) (by kernel_rfl) (fun _ _ _ h => h) (by rfl) hSE ?_ ?_; rotate_left; (focus (intro w hSw; (try dsimp only at hSw); go_simp; (try with_reducible rfl))); simp only [Act.put, List.setIfInBounds_toArray, List.set_cons_zero, List.set_cons_succ])
      (refine WE_take (i := 2) (v := ?_) rfl (by kernel_rfl) (by decide) (by kernel_rfl) (by kernel_rfl) (fun _ _ _ h => h) (by rfl) hSE ?_ ?_; rotate_left; (focus (intro w hSw; (try dsimp only at hSw); go_simp; (try with_reducible rfl))); simp only [Act.put, List.setIfInBounds_toArray, List.set_cons_zero, List.set_cons_succ])
      (refine WE_take (i := 3) (v := ?_) rfl (by kernel_rfl) (by decide) (by kernel_rfl) (by kernel_rfl) (fun _ _ _ h => h) (by rfl) hSE ?_ ?_; rotate_left; (focus (intro w hSw; (try dsimp only at hSw); go_simp; (try with_reducible rfl))); simp only [Act.put, List.setIfInBounds_toArray, List.set_cons_zero, List.set_cons_succ])
      (refine WE_take (i := 4) (v := ?_) rfl (by kernel_rfl) (by decide) (by kernel_rfl) (by kernel_rfl) (fun _ _ _ h => h) (by rfl) hSE ?_ ?_; rotate_left; (focus (intro w hSw; (try dsimp only at hSw); go_simp; (try with_reducible rfl))); simp only [Act.put, List.setIfInBounds_toArray, List.set_cons_zero, List.set_cons_succ])
      (refine WE_take (i := 5) (v := ?_) rfl (by kernel_rfl) (by decide) (by kernel_rfl) (by kernel_rfl) (fun _ _ _ h => h) (by rfl) hSE ?_ ?_; rotate_left; (focus (intro w hSw; (try dsimp only at hSw); go_simp; (try with_reducible rfl))); simp only [Act.put, List.setIfInBounds_toArray, List.set_cons_zero, List.set_cons_succ])
      (refine WE_take (i := 6) (v := ?_) rfl (by kernel_rfl) (by decide) (by kernel_rfl) (by kernel_rfl) (fun _ _ _ h => h) (by rfl) hSE ?_ ?_; rotate_left; (focus (intro w hSw; (try dsimp only at hSw); go_simp; (try with_reducible rfl))); simp only [Act.put, List.setIfInBounds_toArray, List.set_cons_zero, List.set_cons_succ])
      (refine WE_take (i := 7) (v := ?_) rfl (by kernel_rfl) (by decide) (by kernel_rfl) (by kernel_rfl) (fun _ _ _ h => h) (by rfl) hSE ?_ ?_; rotate_left; (focus (intro w hSw; (try dsimp only at hSw); go_simp; (try with_reducible rfl))); simp only [Act.put, List.setIfInBounds_toArray, List.set_cons_zero, List.set_cons_succ])
      (refine WE_take (i := 8) (v := ?_) rfl (by kernel_rfl) (by decide) (by kernel_rfl) (by kernel_rfl) (fun _ _ _ h => h) (by rfl) hSE ?_ ?_; rotate_left; (focus (intro w hSw; (try dsimp only at hSw); go_simp; (try with_reducible rfl))); simp only [Act.put, List.setIfInBounds_toArray, List.set_cons_zero, List.set_cons_succ])
      (refine WE_one (i := 9) rfl (by decide) (by kernel_rfl) ?_; intro K hK)
      go_simp
      go_at_call 52
      refine ((unhid HRT) _ ((unhid HF).ok.below (Below.drew (Below.refl _ _)))).mono ?_
      rintro e w5 ⟨hb5, A2, k2, rfl, hi2⟩
      have hb45 : Below w4.heap.size w4 w5 := (Below.drew (Below.refl _ _)).trans hb5
      refine hK.out _ _ ((unhid HSF) _ hb45) ?_
      clear hSE hK K
      intro hSE
      (try simp only [Act.put, List.setIfInBounds_toArray, List.set_cons_zero, List.set_cons_succ])
      (refine WE_one (i := 10) rfl (by decide) (by kernel_rfl) ?_; intro K hK)
      go_simp
      go_at_call 23
      refine ((unhid HST) A2 k2 w5 ((unhid HI1).below hb45) hi2).mono ?_
      rintro e w6 ⟨rfl, hb6⟩
      have hb46 := hb45.trans (hb6.mono hb45.size)
      refine hK.out _ _ ((unhid HSF) _ hb46) ?_
      clear hSE hK K
      intro hSE
      (try simp only [Act.put, List.setIfInBounds_toArray, List.set_cons_zero, List.set_cons_succ])
      (refine WE_take (i := 11) (v := ?_) rfl (by kernel_rfl) (by decide) (by kernel_rfl) (by kernel_rfl) (fun _ _ _ h => h) (by rfl) hSE ?_ ?_; rotate_left; (focus (intro w hSw; (try dsimp only at hSw); go_simp; (try with_reducible rfl))); simp only [Act.put, List.setIfInBounds_toArray, List.set_cons_zero, List.set_cons_succ])
      (refine WE_take (i := 12) (v := ?_) rfl (by kernel_rfl) (by decide) (by kernel_rfl) (by kernel_rfl) (fun _ _ _ h => h) (by rfl) hSE ?_ ?_; rotate_left; (focus (intro w hSw; (try dsimp only at hSw); go_simp; (try with_reducible rfl))); simp only [Act.put, List.setIfInBounds_toArray, List.set_cons_zero, List.set_cons_succ])
      (refine WE_take (i := 13) (v := ?_) rfl (by kernel_rfl) (by decide) (by kernel_rfl) (by kernel_rfl) (fun _ _ _ h => h) (by rfl) hSE ?_ ?_; rotate_left; (focus (intro w hSw; (try dsimp only at hSw); go_simp; (try with_reducible rfl))); simp only [Act.put, List.setIfInBounds_toArray, List.set_cons_zero, List.set_cons_succ])
      (refine WE_take (i := 14) (v := ?_) rfl (by kernel_rfl) (by decide) (by kernel_rfl) (by kernel_rfl) (fun _ _ _ h => h) (by rfl) hSE ?_ ?_; rotate_left; (focus (intro w hSw; (try dsimp only at hSw); go_simp; (try with_reducible rfl))); simp only [Act.put, List.setIfInBounds_toArray, List.set_cons_zero, List.set_cons_succ])
      (refine WE_one (i := 15) rfl (by decide) (by kernel_rfl) ?_; intro K hK)
      go_simp
      go_at_call 27
      refine (paint_calls f A c w6 ((unhid HF).ok.below hb46) (unhid HFF)).mono ?_
      rintro e w7 ⟨hb7, A3, A4, k3, k4, rfl, hr3, -⟩
      have hb47 := hb46.trans (hb7.mono hb46.size)
      refine hK.out _ _ ((unhid HSF) _ hb47) ?_
      clear hSE hK K
      intro hSE
      (try simp only [Act.put, List.setIfInBounds_toArray, List.set_cons_zero, List.set_cons_succ])
      (refine WE_one (i := 16) rfl (by decide) (by kernel_rfl) ?_; intro K hK)
      go_simp
      go_at_call 53
      refine ((unhid HMR) A3 A4 k3 k4 w7 hr3).mono ?_
      rintro e w8 ⟨rfl, hb8⟩
      have hb48 := hb47.trans (hb8.mono hb47.size)
      refine hK.out _ _ ((unhid HSF) _ hb48) ?_
      clear hSE hK K
      intro hSE
      (try simp only [Act.put, List.setIfInBounds_toArray, List.set_cons_zero, List.set_cons_succ])
      (refine WE_take (i := 17) (v := ?_) rfl (by kernel_rfl) (by decide) (by kernel_rfl) (by kernel_rfl) (fun _ _ _ h => h) (by rfl) hSE ?_ ?_; rotate_left; (focus (intro w hSw; (try dsimp only at hSw); go_simp; (try with_reducible rfl))); simp only [Act.put, List.setIfInBounds_toArray, List.set_cons_zero, List.set_cons_succ])
      (refine WE_take (i := 18) (v := ?_) rfl (by kernel_rfl) (by decide) (by kernel_rfl) (by kernel_rfl) (fun _ _ _ h => h) (by rfl) hSE ?_ ?_; rotate_left; (focus (intro w hSw; (try dsimp only at hSw); go_simp; (try with_reducible rfl))); simp only [Act.put, List.setIfInBounds_toArray, List.set_cons_zero, List.set_cons_succ])
      (refine WE_take (i := 19) (v := ?_) rfl (by kernel_rfl) (by decide) (by kernel_rfl) (by kernel_rfl) (fun _ _ _ h => h) (by rfl) hSE ?_ ?_; rotate_left; (focus (intro w hSw; (try dsimp only at hSw); go_simp; (try with_reducible rfl))); simp only [Act.put, List.setIfInBounds_toArray, List.set_cons_zero, List.set_cons_succ])
      (refine WE_one (i := 20) rfl (by decide) (by kernel_rfl) ?_; intro K hK)
      go_simp
      go_at_call 20
      refine (first_calls w8 ((unhid HO).next hb48).gl).mono ?_
      rintro e w9 ⟨rfl, hb9⟩
      have hb49 := hb48.trans (hb9.mono hb48.size)
      refine hK.out _ _ ((unhid HSF) _ hb49) ?_
      clear hSE hK K
      intro hSE
      (try simp only [Act.put, List.setIfInBounds_toArray, List.set_cons_zero, List.set_cons_succ])
      (refine WE_take (i := 21) (v := ?_) rfl (by kernel_rfl) (by decide) (by kernel_rfl) (by kernel_rfl) (fun _ _ _ h => h) (by rfl) hSE ?_ ?_; rotate_left; (focus (intro w hSw; (try dsimp only at hSw); go_simp; (try with_reducible rfl))); simp only [Act.put, List.setIfInBounds_toArray, List.set_cons_zero, List.set_cons_succ])
      (refine WE_last rfl (by kernel_rfl) (by kernel_rfl) (by kernel_rfl) ?_; intro K hK; go_simp; refine hK.out _ _ (NoPanic.normal ?_); clear hK K)
      have HB9 := hid ((unhid HO).next hb49).bel
      clear hb9
      go_wp2_with fail
      go_ret
      exact ⟨rfl, unhid HB9⟩

end Go.Proofs.YtmagidoodlkeoaaGreatDoor
