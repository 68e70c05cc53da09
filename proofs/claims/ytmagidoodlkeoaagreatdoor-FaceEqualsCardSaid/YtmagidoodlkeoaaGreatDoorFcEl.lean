/-
  The law FaceEquals.
-/
import Derived.Test.YtmagidoodlkeoaaGreatDoorFcLw
import Derived.Test.YtmagidoodlkeoaaGreatDoorFcEq
import Derived.Test.YtmagidoodlkeoaaGreatDoorFcRe
set_option linter.unusedSimpArgs false
set_option linter.unusedVariables false
namespace Go.Proofs.YtmagidoodlkeoaaGreatDoor
open Go.RowKit

structure TwoAt (w : World) (f g : Fc) (A A2 : Option Addr) (c c2 : Nat) (B : Nat) : Prop where
  f : FaceAt w B f A c
  g : FaceAt w (B + 1) g A2 c2
theorem TwoAt.below {w w' : World} {f g : Fc} {A A2 : Option Addr} {c c2 B : Nat} (h : TwoAt w f g A A2 c c2 B) (hb : Below w.heap.size w w') : TwoAt w' f g A A2 c c2 B := ⟨h.f.below hb, h.g.below hb⟩
theorem two_start (w : World) {f g : Fc} {A A2 : Option Addr} (c c2 : Nat) (hf : ItsOk w A f.items) (hg : ItsOk w A2 g.items) : TwoAt ((w.alloc (.cells #[.int .i64 f.shape, .int .i64 f.size, .int .i64 f.height, .slice A f.items.length c] 25)).alloc (.cells #[.int .i64 g.shape, .int .i64 g.size, .int .i64 g.height, .slice A2 g.items.length c2] 25)) f g A A2 c c2 w.heap.size := by
  have h1 := FaceAt.new w c hf
  have hb1 := below_alloc w (.cells #[.int .i64 f.shape, .int .i64 f.size, .int .i64 f.height, .slice A f.items.length c] 25)
  have hs1 : (w.alloc (.cells #[.int .i64 f.shape, .int .i64 f.size, .int .i64 f.height, .slice A f.items.length c] 25)).heap.size = w.heap.size + 1 := by simp
  generalize w.alloc (.cells #[.int .i64 f.shape, .int .i64 f.size, .int .i64 f.height, .slice A f.items.length c] 25) = W1 at *
  have h2 := FaceAt.new W1 c2 (hg.below hb1)
  have hb2 := below_alloc W1 (.cells #[.int .i64 g.shape, .int .i64 g.size, .int .i64 g.height, .slice A2 g.items.length c2] 25)
  refine ⟨h1.below hb2, ?_⟩
  rw [← hs1]
  exact h2

set_option maxHeartbeats 8000000 in
set_option maxRecDepth 100000 in
theorem fequals_calls (f : Fc) (A : Option Addr) (c : Nat) (g : Fc) (A2 : Option Addr) (c2 : Nat) (w : World) (hg : Gl w) (hit : ItsOk w A f.items) (hit2 : ItsOk w A2 g.items) :
    Calls Tryz.prog 12 #[.agg #[.int .i64 f.shape, .int .i64 f.size, .int .i64 f.height, .slice A f.items.length c], .agg #[.int .i64 g.shape, .int .i64 g.size, .int .i64 g.height, .slice A2 g.items.length c2]] w fun e w' => e = .returned (.bool true) ∧ Below w.heap.size w w' := by
  have HT := hid (two_start w c c2 hit hit2)
  have HO := hid (((On.start hg).lay (.cells #[.int .i64 f.shape, .int .i64 f.size, .int .i64 f.height, .slice A f.items.length c] 25)).lay (.cells #[.int .i64 g.shape, .int .i64 g.size, .int .i64 g.height, .slice A2 g.items.length c2] 25))
  clear hg hit hit2
  go_enter Tryz.func12, Tryz.ntmps12
  go_upto_region 1 with (fail)
  generalize (w.alloc (.cells #[.int .i64 f.shape, .int .i64 f.size, .int .i64 f.height, .slice A f.items.length c] 25)).alloc (.cells #[.int .i64 g.shape, .int .i64 g.size, .int .i64 g.height, .slice A2 g.items.length c2] 25) = W at *
  obtain ⟨B, hBB⟩ : ∃ B, B = w.heap.size := ⟨_, rfl⟩
  rw [← hBB] at HT ⊢
  clear hBB
  obtain ⟨c0, c1, c2', c3⟩ := (unhid HT).f.cells
  go_wp2_with fail
  refine (heavy_calls f A c W (unhid HT).f.ok).mono ?_
  rintro e w1 ⟨rfl, hb⟩
  have HT := hid ((unhid HT).below hb)
  have HO := hid ((unhid HO).next hb)
  clear hb c0 c1 c2' c3
  cases hl : heavyF f with
  | true =>
    clear hl
    go_wp2_with fail
    refine (unhid HO).first.mono ?_
    rintro e w9 ⟨rfl, hb2⟩
    have HB2 := hid hb2
    clear hb2
    go_wp2_with fail
    go_ret
    exact ⟨rfl, unhid HB2⟩

  | false =>
    obtain ⟨d0, d1, d2, d3⟩ := (unhid HT).g.cells
    go_wp2_with fail
    refine (heavy_calls g A2 c2 w1 (unhid HT).g.ok).mono ?_
    rintro e w2 ⟨rfl, hb⟩
    have HT := hid ((unhid HT).below hb)
    have HO := hid ((unhid HO).next hb)
    clear hb d0 d1 d2 d3
    cases hl2 : heavyF g with
    | true =>
      clear hl hl2
      go_wp2_with fail
      refine (unhid HO).first.mono ?_
      rintro e w9 ⟨rfl, hb2⟩
      have HB2 := hid hb2
      clear hb2
      go_wp2_with fail
      go_ret
      exact ⟨rfl, unhid HB2⟩

    | false =>
      clear hl hl2
      obtain ⟨c0, c1, c2', c3⟩ := (unhid HT).f.cells
      obtain ⟨d0, d1, d2, d3⟩ := (unhid HT).g.cells
      go_wp2_with fail
      refine (pequal_calls f g A A2 c c2 w2 (unhid HT).f.ok (unhid HT).g.ok).mono ?_
      rintro e w3 ⟨rfl, hb⟩
      have HT := hid ((unhid HT).below hb)
      have HO := hid ((unhid HO).next hb)
      clear hb c0 c1 c2' c3 d0 d1 d2 d3
      cases hf : fcB f with
      | false =>
        have HFF := hid hf
        have he : equalR f g = .tuple #[.bool false, .int .i64 10] := by simp [equalR, hf]
        rw [he]
        clear he hf
        obtain ⟨c0, c1, c2', c3⟩ := (unhid HT).f.cells
        go_wp2_with fail
        refine (rvalid_calls f A c w3 (unhid HT).f.ok).mono ?_
        rintro e w4 ⟨rfl, hb⟩
        rw [unhid HFF]
        have HT := hid ((unhid HT).below hb)
        have HO := hid ((unhid HO).next hb)
        clear hb c0 c1 c2' c3

        go_wp2_with fail
        refine (unhid HO).first.mono ?_
        rintro e w9 ⟨rfl, hb2⟩
        have HB2 := hid hb2
        clear hb2
        go_wp2_with fail
        go_ret
        exact ⟨rfl, unhid HB2⟩

      | true =>
        have HFF := hid hf
        cases hg : fcB g with
        | false =>
          have HGG := hid hg
          have he : equalR f g = .tuple #[.bool false, .int .i64 10] := by simp [equalR, hg]
          rw [he]
          clear he hf hg
          obtain ⟨c0, c1, c2', c3⟩ := (unhid HT).f.cells
          go_wp2_with fail
          refine (rvalid_calls f A c w3 (unhid HT).f.ok).mono ?_
          rintro e w4 ⟨rfl, hb⟩
          rw [unhid HFF]
          have HT := hid ((unhid HT).below hb)
          have HO := hid ((unhid HO).next hb)
          clear hb c0 c1 c2' c3
          obtain ⟨d0, d1, d2, d3⟩ := (unhid HT).g.cells
          go_wp2_with fail
          refine (rvalid_calls g A2 c2 w4 (unhid HT).g.ok).mono ?_
          rintro e w5 ⟨rfl, hb⟩
          rw [unhid HGG]
          have HT := hid ((unhid HT).below hb)
          have HO := hid ((unhid HO).next hb)
          clear hb d0 d1 d2 d3

          go_wp2_with fail
          refine (unhid HO).first.mono ?_
          rintro e w9 ⟨rfl, hb2⟩
          have HB2 := hid hb2
          clear hb2
          go_wp2_with fail
          go_ret
          exact ⟨rfl, unhid HB2⟩

        | true =>
          have HGG := hid hg
          have he : equalR f g = .tuple #[.bool (lookB f g), .int .i64 0] := by simp [equalR, hf, hg]
          rw [he]
          clear he hf hg
          obtain ⟨c0, c1, c2', c3⟩ := (unhid HT).f.cells
          go_wp2_with fail
          refine (rvalid_calls f A c w3 (unhid HT).f.ok).mono ?_
          rintro e w4 ⟨rfl, hb⟩
          rw [unhid HFF]
          have HT := hid ((unhid HT).below hb)
          have HO := hid ((unhid HO).next hb)
          clear hb c0 c1 c2' c3
          obtain ⟨d0, d1, d2, d3⟩ := (unhid HT).g.cells
          go_wp2_with fail
          refine (rvalid_calls g A2 c2 w4 (unhid HT).g.ok).mono ?_
          rintro e w5 ⟨rfl, hb⟩
          rw [unhid HGG]
          have HT := hid ((unhid HT).below hb)
          have HO := hid ((unhid HO).next hb)
          clear hb d0 d1 d2 d3
          have HT5 := HT
          have hSF : ∀ w' : World, Below w5.heap.size w5 w' → (w'.cell? ⟨B, 0, none⟩ = some (.int .i64 f.shape) ∧ w'.cell? ⟨B, 1, none⟩ = some (.int .i64 f.size) ∧ w'.cell? ⟨B, 2, none⟩ = some (.int .i64 f.height) ∧ w'.cell? ⟨B, 3, none⟩ = some (.slice A f.items.length c) ∧ w'.cell? ⟨B + 1, 0, none⟩ = some (.int .i64 g.shape) ∧ w'.cell? ⟨B + 1, 1, none⟩ = some (.int .i64 g.size) ∧ w'.cell? ⟨B + 1, 2, none⟩ = some (.int .i64 g.height) ∧ w'.cell? ⟨B + 1, 3, none⟩ = some (.slice A2 g.items.length c2)) := fun w' hb => by
            have h := (unhid HT5).below hb
            exact ⟨h.f.cells.1, h.f.cells.2.1, h.f.cells.2.2.1, h.f.cells.2.2.2, h.g.cells.1, h.g.cells.2.1, h.g.cells.2.2.1, h.g.cells.2.2.2⟩
          have HSF := hid hSF
          clear hSF
          have HEQ := hid (fun (A1 A3 A4 A5 : Option Addr) (k1 k2 k3 k4 : Nat) (W : World) h1 h2 => requal_calls f g A1 A3 A4 A5 k1 k2 k3 k4 W (unhid HFF) (unhid HGG) h1 h2)
          obtain ⟨q, hq⟩ : ∃ q, q = lookB f g := ⟨_, rfl⟩
          rw [← hq] at HEQ ⊢
          clear hq
          have hqq : (q == q) = true := by simp
          go_wp2_with fail
          refine wp_region_noPanic ?_
          refine wp_region_E (S := fun w' => w'.cell? ⟨B, 0, none⟩ = some (.int .i64 f.shape) ∧ w'.cell? ⟨B, 1, none⟩ = some (.int .i64 f.size) ∧ w'.cell? ⟨B, 2, none⟩ = some (.int .i64 f.height) ∧ w'.cell? ⟨B, 3, none⟩ = some (.slice A f.items.length c) ∧ w'.cell? ⟨B + 1, 0, none⟩ = some (.int .i64 g.shape) ∧ w'.cell? ⟨B + 1, 1, none⟩ = some (.int .i64 g.size) ∧ w'.cell? ⟨B + 1, 2, none⟩ = some (.int .i64 g.height) ∧ w'.cell? ⟨B + 1, 3, none⟩ = some (.slice A2 g.items.length c2)) 14 15 rfl (by kernel_rfl) (by kernel_rfl) ((unhid HSF) _ (Below.drew (Below.refl _ _))) ?_
          intro hSE
          (refine WE_take (i := 0) (v := ?_) rfl (by kernel_rfl) (by decide) (by kernel_rfl) (by kernel_rfl) (fun _ _ _ h => h) (by rfl) hSE ?_ ?_; rotate_left; (focus (intro w hSw; (try dsimp only at hSw); go_simp; (try with_reducible rfl))); simp only [Act.put, List.setIfInBounds_toArray, List.set_cons_zero, List.set_cons_succ])
          (refine WE_take (i := 1) (v := ?_) rfl (by kernel_rfl) (by decide) (by kernel_rfl) (by kernel_rfl) (fun _ _ _ h => h) (by rfl) hSE ?_ ?_; rotate_left; (focus (intro w hSw; (try dsimp only at hSw); go_simp; (try with_reducible rfl))); simp only [Act.put, List.setIfInBounds_toArray, List.set_cons_zero, List.set_cons_succ])
          (refine WE_take (i := 2) (v := ?_) rfl (by kernel_rfl) (by decide) (by kernel_rfl) (by kernel_rfl) (fun _ _ _ h => h) (by rfl) hSE ?_ ?_; rotate_left; (focus (intro w hSw; (try dsimp only at hSw); go_simp; (try with_reducible rfl))); simp only [Act.put, List.setIfInBounds_toArray, List.set_cons_zero, List.set_cons_succ])
          (refine WE_take (i := 3) (v := ?_) rfl (by kernel_rfl) (by decide) (by kernel_rfl) (by kernel_rfl) (fun _ _ _ h => h) (by rfl) hSE ?_ ?_; rotate_left; (focus (intro w hSw; (try dsimp only at hSw); go_simp; (try with_reducible rfl))); simp only [Act.put, List.setIfInBounds_toArray, List.set_cons_zero, List.set_cons_succ])
          (refine WE_take (i := 4) (v := ?_) rfl (by kernel_rfl) (by decide) (by kernel_rfl) (by kernel_rfl) (fun _ _ _ h => h) (by rfl) hSE ?_ ?_; rotate_left; (focus (intro w hSw; (try dsimp only at hSw); go_simp; (try with_reducible rfl))); simp only [Act.put, List.setIfInBounds_toArray, List.set_cons_zero, List.set_cons_succ])
          (refine WE_take (i := 6) (v := ?_) rfl (by kernel_rfl) (by decide) (by kernel_rfl) (by kernel_rfl) (fun _ _ _ h => h) (by rfl) hSE ?_ ?_; rotate_left; (focus (intro w hSw; (try dsimp only at hSw); go_simp; (try with_reducible rfl))); simp only [Act.put, List.setIfInBounds_toArray, List.set_cons_zero, List.set_cons_succ])
          (refine WE_one (i := 5) rfl (by decide) (by kernel_rfl) ?_; intro K hK)
          go_simp
          go_at_call 27
          refine (paint_calls f A c _ ((unhid HT).f.ok.below (Below.drew (Below.refl _ _))) (unhid HFF)).mono ?_
          rintro e w6 ⟨hb6, A3, A4, k3, k4, rfl, hr3, -⟩
          have hb56 : Below w5.heap.size w5 w6 := (Below.drew (Below.refl _ _)).trans hb6
          refine hK.out _ _ ((unhid HSF) _ hb56) ?_
          clear hSE hK K
          intro hSE
          (try simp only [Act.put, List.setIfInBounds_toArray, List.set_cons_zero, List.set_cons_succ])
          (refine WE_one (i := 7) rfl (by decide) (by kernel_rfl) ?_; intro K hK)
          go_simp
          go_at_call 27
          refine (paint_calls g A2 c2 w6 ((unhid HT).g.ok.below hb56) (unhid HGG)).mono ?_
          rintro e w7 ⟨hb7, A5, A6, k5, k6, rfl, hr5, -⟩
          have hb57 := hb56.trans (hb7.mono hb56.size)
          refine hK.out _ _ ((unhid HSF) _ hb57) ?_
          clear hSE hK K
          intro hSE
          (try simp only [Act.put, List.setIfInBounds_toArray, List.set_cons_zero, List.set_cons_succ])
          (refine WE_one (i := 8) rfl (by decide) (by kernel_rfl) ?_; intro K hK)
          go_simp
          go_at_call 45
          refine ((unhid HEQ) A3 A4 A5 A6 k3 k4 k5 k6 w7 (hr3.below hb7) hr5).mono ?_
          rintro e w8 ⟨rfl, hb8⟩
          have hb58 := hb57.trans (hb8.mono hb57.size)
          refine hK.out _ _ ((unhid HSF) _ hb58) ?_
          clear hSE hK K
          intro hSE
          (try simp only [Act.put, List.setIfInBounds_toArray, List.set_cons_zero, List.set_cons_succ])
          (refine WE_take (i := 9) (v := ?_) rfl (by kernel_rfl) (by decide) (by kernel_rfl) (by kernel_rfl) (fun _ _ _ h => h) (by rfl) hSE ?_ ?_; rotate_left; (focus (intro w hSw; (try dsimp only at hSw); go_simp; (try with_reducible rfl))); simp only [Act.put, List.setIfInBounds_toArray, List.set_cons_zero, List.set_cons_succ])
          (refine WE_take (i := 10) (v := ?_) rfl (by kernel_rfl) (by decide) (by kernel_rfl) (by kernel_rfl) (fun _ _ _ h => h) (by rfl) hSE ?_ ?_; rotate_left; (focus (intro w hSw; (try dsimp only at hSw); go_simp; (try with_reducible rfl))); simp only [Act.put, List.setIfInBounds_toArray, List.set_cons_zero, List.set_cons_succ])
          (refine WE_take (i := 11) (v := ?_) rfl (by kernel_rfl) (by decide) (by kernel_rfl) (by kernel_rfl) (fun _ _ _ h => h) (by rfl) hSE ?_ ?_; rotate_left; (focus (intro w hSw; (try dsimp only at hSw); go_simp; (try with_reducible rfl))); simp only [Act.put, List.setIfInBounds_toArray, List.set_cons_zero, List.set_cons_succ])
          (refine WE_one (i := 12) rfl (by decide) (by kernel_rfl) ?_; intro K hK)
          go_simp
          go_at_call 20
          refine (first_calls w8 ((unhid HO).next hb58).gl).mono ?_
          rintro e w9 ⟨rfl, hb9⟩
          have hs9 : Below w5.heap.size w5 w9 := hb58.trans (hb9.mono hb58.size)
          refine hK.out _ _ ((unhid HSF) _ hs9) ?_
          clear hSE hK K
          intro hSE
          (try simp only [Act.put, List.setIfInBounds_toArray, List.set_cons_zero, List.set_cons_succ])
          (refine WE_take (i := 13) (v := ?_) rfl (by kernel_rfl) (by decide) (by kernel_rfl) (by kernel_rfl) (fun _ _ _ h => h) (by rfl) hSE ?_ ?_; rotate_left; (focus (intro w hSw; (try dsimp only at hSw); go_simp; (try with_reducible rfl))); simp only [Act.put, List.setIfInBounds_toArray, List.set_cons_zero, List.set_cons_succ])
          (refine WE_last rfl (by kernel_rfl) (by kernel_rfl) (by kernel_rfl) ?_; intro K hK; go_simp; refine hK.out _ _ (NoPanic.normal ?_); clear hK K)
          have HB9 := hid ((unhid HO).next hs9).bel
          clear hb9
          go_wp2_with fail
          go_ret
          exact ⟨rfl, unhid HB9⟩

end Go.Proofs.YtmagidoodlkeoaaGreatDoor
