/-
  Which items are valid: package face, the walk.
-/
import Derived.Test.YtfklckjfbnaoeaaGreatDoorFcVi
set_option linter.unusedSimpArgs false
set_option linter.unusedVariables false
namespace Go.Proofs.YtfklckjfbnaoeaaGreatDoor
open Go.RowKit

set_option maxHeartbeats 4000000 in
set_option maxRecDepth 100000 in
theorem validItem_calls (x : It) (w : World) (ht : x.text.length ≤ 140737488355328) :
    Calls Tryz.prog 228 #[.agg #[.int .i64 x.kind, .int .i64 x.colour, .int .i64 x.left, .int .i64 x.low, .int .i64 x.a, .int .i64 x.b, .string (SB x.text)]] w fun e w' => e = .returned (.bool (itB x)) ∧ Below w.heap.size w w' := by
  obtain ⟨k, c, l, lo, a, b, t⟩ := x
  dsimp only at ht ⊢
  by_cases hk : 1 ≤ k ∧ k ≤ 6
  · have dk := decide_eq_true hk
    by_cases hc : 1 ≤ c ∧ c ≤ 8
    · have dc := decide_eq_true hc
      have hix := uses_at k hk
      have hfin : itB ⟨k, c, l, lo, a, b, t⟩ = (useB (decide (k = 3 ∨ k = 4 ∨ k = 6)) 0 l && useB (decide (k = 3 ∨ k = 4 ∨ k = 6)) 0 lo && useB (decide (k ≠ 1)) 1 a && useB (decide (k = 3)) 1 b && (if decide (k = 6) then spellB t else t.isEmpty)) := by
        unfold itB
        simp only [dk, dc, Bool.true_and, decide_eq_true_eq]
      generalize decide (k = 3 ∨ k = 4 ∨ k = 6) = p at hix hfin
      generalize decide (k ≠ 1) = qa at hix hfin
      generalize decide (k = 3) = qb at hix hfin
      generalize decide (k = 6) = qt at hix hfin
      have HFIN := hid hfin
      clear hfin hk hc
      go_enter Tryz.func228, Tryz.ntmps228
      go_wp2_with (go_at_call 227; refine (within_calls _ _ _ _).mono ?_; rintro e w' ⟨rfl, rfl⟩)
      obtain ⟨W, hW⟩ : ∃ W, W = w.alloc (.cells #[.int .i64 k, .int .i64 c, .int .i64 l, .int .i64 lo, .int .i64 a, .int .i64 b, .string (SB t)] 320) := ⟨_, rfl⟩
      have hcell : ∀ i, W.cell? ⟨w.heap.size, i, none⟩ = #[Value.int .i64 k, .int .i64 c, .int .i64 l, .int .i64 lo, .int .i64 a, .int .i64 b, .string (SB t)][i]? := fun i => by rw [hW, World.cell?_alloc_new]
      have a0 := hcell 0
      have a1 := hcell 1
      have a2 := hcell 2
      have a3 := hcell 3
      have a4 := hcell 4
      have a5 := hcell 5
      have a6 := hcell 6
      simp at a0 a1 a2 a3 a4 a5 a6
      have hbw : Below w.heap.size w W := by rw [hW]; exact below_alloc _ _
      have hB : w.heap.size < W.heap.size := by rw [hW]; simp
      rw [← hW]
      clear hW hcell
      obtain ⟨B, hBB⟩ : ∃ B, B = w.heap.size := ⟨_, rfl⟩
      rw [← hBB] at a0 a1 a2 a3 a4 a5 a6 hB hbw ⊢
      have HBB := hid hBB
      have HBW := hid hbw
      clear hBB hbw
      go_cut [3] (fun s3 wz => ∃ B2 : Nat, s3 = .pointer (some ⟨B2, 0, none⟩) ∧ Below W.heap.size W wz ∧ wz.heap[B2]? = some (.cells #[.bool p, .bool qa, .bool qb, .bool qt] 366 (0, 0)))
      case first =>
        refine wp_region_noPanic ?_
        refine wp_region_E (S := fun w' => w'.cell? ⟨B, 0, none⟩ = some (.int .i64 k)) 5 6 rfl (by kernel_rfl) (by kernel_rfl) a0 ?_
        intro hSE
        (refine WE_take (i := 1) (v := ?_) rfl (by kernel_rfl) (by decide) (by kernel_rfl) (by kernel_rfl) (fun _ _ _ h => h) (by rfl) hSE ?_ ?_; rotate_left; (focus (intro w hSw; (try dsimp only at hSw); go_simp; (try with_reducible rfl))); simp only [Act.put, List.setIfInBounds_toArray, List.set_cons_zero, List.set_cons_succ])
        (refine WE_take (i := 2) (v := ?_) rfl (by kernel_rfl) (by decide) (by kernel_rfl) (by kernel_rfl) (fun _ _ _ h => h) (by rfl) hSE ?_ ?_; rotate_left; (focus (intro w hSw; (try dsimp only at hSw); go_simp; (try with_reducible rfl))); simp only [Act.put, List.setIfInBounds_toArray, List.set_cons_zero, List.set_cons_succ])
        refine WE_two (i := 0) (j := 4) rfl rfl (by decide) (by decide) (by kernel_rfl) ?_ ?_
        · intro K hK
          go_simp
          go_at_call 264
          refine (kinds_calls _).mono ?_
          rintro e w5 ⟨rfl, hb5⟩
          have hB5 : Below W.heap.size W w5 := (Below.drew (Below.refl _ _)).trans hb5
          refine hK.out _ _ ((hB5.cell (p := ⟨B, 0, none⟩) hB).trans a0) ?_
          clear hSE hK K
          intro hSE
          (try simp only [Act.put, List.setIfInBounds_toArray, List.set_cons_zero, List.set_cons_succ])
          have hB5s := hB5.size
          (refine WE_take (i := 3) (v := ?_) rfl (by kernel_rfl) (by decide) (by kernel_rfl) (by kernel_rfl) (fun _ _ _ h => h) (by rfl) hSE ?_ ?_; rotate_left; (focus (intro w hSw; (try dsimp only at hSw); go_simp; (try with_reducible rfl))); simp only [Act.put, List.setIfInBounds_toArray, List.set_cons_zero, List.set_cons_succ])
          (refine WE_one (i := 4) rfl (by decide) (by kernel_rfl) ?_; intro K hK)
          go_simp
          refine hK.out _ _ ((World.cell?_alloc_lt w5 _ ⟨B, 0, none⟩ (by dsimp only; omega)).trans ((hB5.cell (p := ⟨B, 0, none⟩) hB).trans a0)) ?_
          clear hSE hK K
          intro hSE
          (try simp only [Act.put, List.setIfInBounds_toArray, List.set_cons_zero, List.set_cons_succ])
          (refine WE_last rfl (by kernel_rfl) (by kernel_rfl) (by kernel_rfl) ?_; intro K hK; go_simp; refine hK.out _ _ (NoPanic.normal ?_); clear hK K)
          go_wp2_with fail
          go_meet
          case rel => exact ⟨w5.heap.size, rfl, hB5.alloc hB5s _, heap_alloc_new w5 _⟩
        · intro K hK
          go_simp
          refine hK.out _ _ ((World.cell?_alloc_lt W _ ⟨B, 0, none⟩ hB).trans a0) ?_
          clear hSE hK K
          intro hSE
          (try simp only [Act.put, List.setIfInBounds_toArray, List.set_cons_zero, List.set_cons_succ])
          (refine WE_one (i := 0) rfl (by decide) (by kernel_rfl) ?_; intro K hK)
          go_simp
          go_at_call 264
          refine (kinds_calls _).mono ?_
          rintro e w5 ⟨rfl, hb5⟩
          have hbA : Below W.heap.size W (W.alloc (.cells #[.bool false, .bool false, .bool false, .bool false] 366)) := below_alloc _ _
          have hB5 : Below W.heap.size W w5 := hbA.trans (((Below.drew (Below.refl _ _)).trans hb5).mono (by simp))
          have hN := hb5.block W.heap.size (by simp)
          have hU : w5.heap[W.heap.size]? = some (.cells #[.bool false, .bool false, .bool false, .bool false] 366 (0, 0)) := hN.trans (heap_alloc_new W _)
          refine hK.out _ _ ((hB5.cell (p := ⟨B, 0, none⟩) hB).trans a0) ?_
          clear hSE hK K
          intro hSE
          (try simp only [Act.put, List.setIfInBounds_toArray, List.set_cons_zero, List.set_cons_succ])
          have hcu : ∀ i, w5.cell? ⟨W.heap.size, i, none⟩ = #[Value.bool false, .bool false, .bool false, .bool false][i]? := fun i => cell_of_row _ _ _ _ _ _ hU
          have u0 := hcu 0
          have u1 := hcu 1
          have u2 := hcu 2
          have u3 := hcu 3
          simp at u0 u1 u2 u3
          have fz : ∀ i, w5.frozen? ⟨W.heap.size, i, none⟩ = false := fun i => by simp [World.frozen?, hU]
          have hsz5 : W.heap.size < w5.heap.size := (Array.getElem?_eq_some_iff.1 hU).1
          clear hcu hN hbA
          have HU := hid hU
          clear hU
          (refine WE_take (i := 3) (v := ?_) rfl (by kernel_rfl) (by decide) (by kernel_rfl) (by kernel_rfl) (fun _ _ _ h => h) (by rfl) hSE ?_ ?_; rotate_left; (focus (intro w hSw; (try dsimp only at hSw); go_simp; (try with_reducible rfl))); simp only [Act.put, List.setIfInBounds_toArray, List.set_cons_zero, List.set_cons_succ])
          (refine WE_last rfl (by kernel_rfl) (by kernel_rfl) (by kernel_rfl) ?_; intro K hK; go_simp; refine hK.out _ _ (NoPanic.normal ?_); clear hK K)
          go_wp2_with fail
          go_meet
          case rel =>
            refine ⟨W.heap.size, rfl, ?_, ?_⟩
            · repeat (refine Below.setCell ?_ (by dsimp only; omega) _)
              exact hB5
            · rw [block_set_same (block_set_same (block_set_same (block_set_same (unhid HU) _ _) _ _) _ _)]; rfl
      case rest =>
        obtain ⟨B2, rfl, hbz, hU⟩ := hcut
        have hbz' := hbz
        have c0 := (hbz.cell (p := ⟨B, 0, none⟩) hB).trans a0
        have c1 := (hbz.cell (p := ⟨B, 1, none⟩) hB).trans a1
        have c2 := (hbz.cell (p := ⟨B, 2, none⟩) hB).trans a2
        have c3 := (hbz.cell (p := ⟨B, 3, none⟩) hB).trans a3
        have c4 := (hbz.cell (p := ⟨B, 4, none⟩) hB).trans a4
        have c5 := (hbz.cell (p := ⟨B, 5, none⟩) hB).trans a5
        have c6 := (hbz.cell (p := ⟨B, 6, none⟩) hB).trans a6
        have hcu : ∀ i, wc.cell? ⟨B2, i, none⟩ = #[Value.bool p, .bool qa, .bool qb, .bool qt][i]? := fun i => cell_of_row _ _ _ _ _ _ hU
        have u0 := hcu 0
        have u1 := hcu 1
        have u2 := hcu 2
        have u3 := hcu 3
        simp at u0 u1 u2 u3
        have HBZ := hid ((unhid HBW).trans (hbz.mono (by have := unhid HBB; omega)))
        clear hbz hbz' hU hcu a0 a1 a2 a3 a4 a5 a6
        obtain ⟨S, hS⟩ : ∃ S, S = SB t := ⟨_, rfl⟩
        have HSP := hid (show ∀ w0, Calls Tryz.prog 266 #[.string S] w0 fun e w' => e = .returned (.bool (spellB t)) ∧ Below w0.heap.size w0 w' from by rw [hS]; exact fun w0 => spelled_calls t w0 ht)
        have HSL := hid (show S.toList = t from by rw [hS, SB_toList])
        rw [← hS] at c6
        clear hS ht
        have HBS := hid (show w.heap.size ≤ wc.heap.size from by have := (unhid HBZ).size; have := unhid HBB; omega)
        cases qt
        · go_wp2_with (first | (go_at_call 265; refine (field_calls _ _ _ _).mono ?_; rintro e w' ⟨rfl, rfl⟩) | (go_at_call 266; refine ((unhid HSP) _).mono ?_; rintro e w' ⟨rfl, hbs⟩))
          all_goals
            go_ret
            refine ⟨retE ?_, by have := unhid HBB; rw [this] at HBZ; exact unhid HBZ⟩
            rw [unhid HFIN]
            go_light
            have hsl := unhid HSL
            subst hsl
            simp_all [List.isEmpty_iff]
        · go_wp2_with (first | (go_at_call 265; refine (field_calls _ _ _ _).mono ?_; rintro e w' ⟨rfl, rfl⟩) | (go_at_call 266; refine ((unhid HSP) _).mono ?_; rintro e w' ⟨rfl, hbs⟩))
          all_goals
            go_ret
            refine ⟨retE ?_, ?_⟩
            · rw [unhid HFIN]
              go_light
              simp_all
            · have hz := unhid HBZ
              have := unhid HBB
              subst this
              first | exact hz | exact hz.trans (Below.mono (by assumption) hz.size)
    · have dc := decide_eq_false hc
      have hfin : itB ⟨k, c, l, lo, a, b, t⟩ = false := by unfold itB; simp only [dc, Bool.and_false, Bool.false_and]
      have HFIN := hid hfin
      clear hfin hk hc
      go_enter Tryz.func228, Tryz.ntmps228
      go_wp2_with (go_at_call 227; refine (within_calls _ _ _ _).mono ?_; rintro e w' ⟨rfl, rfl⟩)
      go_ret
      exact ⟨retE (unhid HFIN), below_alloc _ _⟩
  · have dk := decide_eq_false hk
    have hfin : itB ⟨k, c, l, lo, a, b, t⟩ = false := by unfold itB; simp only [dk, Bool.false_and]
    have HFIN := hid hfin
    clear hfin hk
    go_enter Tryz.func228, Tryz.ntmps228
    go_wp2_with (go_at_call 227; refine (within_calls _ _ _ _).mono ?_; rintro e w' ⟨rfl, rfl⟩)
    go_ret
    exact ⟨retE (unhid HFIN), below_alloc _ _⟩

end Go.Proofs.YtfklckjfbnaoeaaGreatDoor
