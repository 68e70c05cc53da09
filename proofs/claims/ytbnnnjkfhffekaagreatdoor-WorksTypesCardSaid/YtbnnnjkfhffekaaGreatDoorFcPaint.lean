/-
  The reference's picture of a face: parts, rims, letters, items, Paint, At; the law FaceDots.
-/
import Derived.Test.YtbnnnjkfhffekaaGreatDoorFcH
import Derived.Test.YtbnnnjkfhffekaaGreatDoorWaP
import Derived.Test.YtbnnnjkfhffekaaGreatDoorWaL
import Derived.Test.YtbnnnjkfhffekaaGreatDoorFcAt
import Derived.Deep.AppendLies
set_option linter.unusedSimpArgs false
set_option linter.unusedVariables false
namespace Go.Proofs.YtbnnnjkfhffekaaGreatDoor
open Go.RowKit

set_option maxHeartbeats 4000000 in
set_option maxRecDepth 100000 in
theorem rinked_calls (x : It) (i j : Int) (w : World) (hx : itB x = true) (hk : x.kind = 6) (hi : 0 ≤ i ∧ i < 1000) (hj : 0 ≤ j ∧ j < 1000) :
    Calls Tryz.prog 78 #[.agg #[.int .i64 x.kind, .int .i64 x.colour, .int .i64 x.left, .int .i64 x.low, .int .i64 x.a, .int .i64 x.b, .string (SB x.text)], .int .i64 i, .int .i64 j] w fun e w' => e = .returned (.bool (inkB x i j)) ∧ Below w.heap.size w w' := by
  obtain ⟨l0, l1, o0, o1, a0, a1, -, -⟩ := it_numbers hx
  have a1' : 1 ≤ x.a := (it_bounds hx).2.2.2.2.2.2.2.2.2.2.1 (by omega)
  have hlen : x.text.length ≤ 24 := (it_bounds hx).2.2.2.2.2.2.2.2.2.2.2.2.2
  obtain ⟨i0, i1⟩ := hi
  obtain ⟨j0, j1⟩ := hj
  obtain ⟨n, hn⟩ : ∃ n : Nat, n = x.text.length := ⟨_, rfl⟩
  obtain ⟨S, hS⟩ : ∃ S, S = SB x.text := ⟨_, rfl⟩
  have hSs : S.size = n := by rw [hS, hn]; rfl
  have HG := hid (show ∀ (k : Nat) (h : k < S.size), ((S[k]'h).toNat : Int) = ((x.text.getD k 0).toNat : Int) from by
    subst hS
    intro k h
    have h' : k < x.text.length := h
    rw [List.getD_eq_getElem?_getD, List.getElem?_eq_getElem h']
    rfl)
  have HNO := hid (@ink_no x i j)
  have HYES := hid (@ink_yes x i j)
  have mn := mul_bd (a := 6 * x.a) (b := (n : Int)) (A := 1200) (B := 24) (by omega) (by omega) (by omega) (by omega)
  obtain ⟨mn1, mn2⟩ := mn
  have hm0 := Int.emod_nonneg (i - x.left) (show 6 * x.a ≠ 0 by omega)
  have hm1 := Int.emod_lt_of_pos (i - x.left) (show 0 < 6 * x.a by omega)
  obtain ⟨e1, e1'⟩ := w64 (n := i - x.left) (by omega) (by omega)
  obtain ⟨e2, e2'⟩ := w64 (n := j - x.low) (by omega) (by omega)
  obtain ⟨e3, e3'⟩ := w64 (n := 7 * x.a) (by omega) (by omega)
  obtain ⟨e4, e4'⟩ := w64 (n := 6 * x.a) (by omega) (by omega)
  obtain ⟨e5, e5'⟩ := w64 (n := 6 * x.a * (n : Int)) (by omega) (by omega)
  obtain ⟨e6, e6'⟩ := w64 (n := 5 * x.a) (by omega) (by omega)
  rw [← hS]
  rw [← hn] at hlen
  have HN := hid hn
  have HSS := hid hSs
  clear hS hn hx hk
  by_cases u0 : i - x.left < 0
  · have HFIN := hid ((unhid HNO) (.inl u0))
    clear HNO HYES
    have d1 := decide_eq_true u0
    go_enter Tryz.func78, Tryz.ntmps78
    go_wp2_with fail
    go_quiet (fail)
    go_wp2_with fail
    go_quiet (fail)
    go_wp2_with fail
    go_ret
    exact ⟨retE (unhid HFIN), below_drewN' (below_drewN' (below_alloc _ _) _) _⟩
  · by_cases v0 : j - x.low < 0
    · have HFIN := hid ((unhid HNO) (.inr (.inl v0)))
      clear HNO HYES
      have d1 := decide_eq_false u0
      have d2 := decide_eq_true v0
      go_enter Tryz.func78, Tryz.ntmps78
      go_wp2_with fail
      go_quiet (fail)
      go_wp2_with fail
      go_quiet (fail)
      go_wp2_with fail
      go_ret
      exact ⟨retE (unhid HFIN), below_drewN' (below_drewN' (below_alloc _ _) _) _⟩
    · by_cases v1 : 7 * x.a ≤ j - x.low
      · have HFIN := hid ((unhid HNO) (.inr (.inr (.inl v1))))
        clear HNO HYES
        have d1 := decide_eq_false u0
        have d2 := decide_eq_false v0
        have d3 := decide_eq_true v1
        go_enter Tryz.func78, Tryz.ntmps78
        go_wp2_with fail
        go_quiet (fail)
        go_wp2_with fail
        go_quiet (fail)
        go_wp2_with fail
        go_ret
        exact ⟨retE (unhid HFIN), below_drewN' (below_drewN' (below_alloc _ _) _) _⟩
      · by_cases u1 : 6 * x.a * (n : Int) ≤ i - x.left
        · have HFIN := hid ((unhid HNO) (.inr (.inr (.inr (.inl (by rw [← unhid HN]; exact u1))))))
          clear HNO HYES
          have d1 := decide_eq_false u0
          have d2 := decide_eq_false v0
          have d3 := decide_eq_false v1
          have d4 := decide_eq_true u1
          go_enter Tryz.func78, Tryz.ntmps78
          go_wp2_with fail
          go_quiet (fail)
          go_wp2_with fail
          go_quiet (fail)
          go_wp2_with fail
          go_ret
          exact ⟨retE (unhid HFIN), below_drewN' (below_drewN' (below_alloc _ _) _) _⟩
        · have et : (i - x.left).tmod (6 * x.a) = (i - x.left) % (6 * x.a) := Int.tmod_eq_emod_of_nonneg (by omega)
          obtain ⟨e7, e7'⟩ := w64 (n := (i - x.left) % (6 * x.a)) (by omega) (by omega)
          by_cases u2 : 5 * x.a ≤ (i - x.left) % (6 * x.a)
          · have HFIN := hid ((unhid HNO) (.inr (.inr (.inr (.inr u2)))))
            clear HNO HYES
            have d1 := decide_eq_false u0
            have d2 := decide_eq_false v0
            have d3 := decide_eq_false v1
            have d4 := decide_eq_false u1
            have d5 := decide_eq_true u2
            go_enter Tryz.func78, Tryz.ntmps78
            go_wp2_with fail
            go_quiet (fail)
            go_wp2_with fail
            go_quiet (fail)
            go_wp2_with fail
            go_ret
            exact ⟨retE (unhid HFIN), below_drewN' (below_drewN' (below_alloc _ _) _) _⟩
          · have d1 := decide_eq_false u0
            have d2 := decide_eq_false v0
            have d3 := decide_eq_false v1
            have d4 := decide_eq_false u1
            have d5 := decide_eq_false u2
            have nz : (6 * x.a == 0) = false := by simp; omega
            go_enter Tryz.func78, Tryz.ntmps78
            go_wp2_with fail
            go_quiet (fail)
            go_wp2_with fail
            go_quiet (fail)
            have c4 : (w.alloc (.cells #[.int .i64 x.kind, .int .i64 x.colour, .int .i64 x.left, .int .i64 x.low, .int .i64 x.a, .int .i64 x.b, .string S] 96)).cell? ⟨w.heap.size, 4, none⟩ = some (.int .i64 x.a) := by rw [World.cell?_alloc_new]; rfl
            have c6 : (w.alloc (.cells #[.int .i64 x.kind, .int .i64 x.colour, .int .i64 x.left, .int .i64 x.low, .int .i64 x.a, .int .i64 x.b, .string S] 96)).cell? ⟨w.heap.size, 6, none⟩ = some (.string S) := by rw [World.cell?_alloc_new]; rfl
            have hbw : Below w.heap.size w (w.alloc (.cells #[.int .i64 x.kind, .int .i64 x.colour, .int .i64 x.left, .int .i64 x.low, .int .i64 x.a, .int .i64 x.b, .string S] 96)) := below_alloc _ _
            have hsz : (w.alloc (.cells #[.int .i64 x.kind, .int .i64 x.colour, .int .i64 x.left, .int .i64 x.low, .int .i64 x.a, .int .i64 x.b, .string S] 96)).heap.size = w.heap.size + 1 := by simp
            go_wp2_with fail
            generalize (w.alloc (.cells #[.int .i64 x.kind, .int .i64 x.colour, .int .i64 x.left, .int .i64 x.low, .int .i64 x.a, .int .i64 x.b, .string S] 96)) = W0 at c4 c6 hbw hsz ⊢
            rw [World.drewN_drewN]
            generalize hWW : W0.drewN _ = W
            have c4 : W.cell? ⟨w.heap.size, 4, none⟩ = some (.int .i64 x.a) := by rw [← hWW, World.cell?_drewN]; exact c4
            have c6 : W.cell? ⟨w.heap.size, 6, none⟩ = some (.string S) := by rw [← hWW, World.cell?_drewN]; exact c6
            have hbw : Below w.heap.size w W := by rw [← hWW]; exact below_drewN' hbw _
            have hsz : W.heap.size = w.heap.size + 1 := by rw [← hWW]; exact hsz
            clear hWW
            obtain ⟨q, hq⟩ := Int.eq_ofNat_of_zero_le (show 0 ≤ (i - x.left) / (6 * x.a) from Int.ediv_nonneg (by omega) (by omega))
            have hqn : q < n := by
              have : (i - x.left) / (6 * x.a) < (n : Int) := Int.ediv_lt_of_lt_mul (by omega) (by rw [Int.mul_comm]; omega)
              omega
            have HE8 := hid (w64 (n := (q : Int)) (by omega) (by omega)).2
            have HZ0 := hid (show (6 * x.a = 0) = False from by rw [eq_iff_iff]; exact ⟨fun h => by omega, False.elim⟩)
            have HZ1 := hid (show (x.a = 0) = False from by rw [eq_iff_iff]; exact ⟨fun h => by omega, False.elim⟩)
            have et2 : (i - x.left).tdiv (6 * x.a) = (q : Int) := by rw [Int.tdiv_eq_ediv_of_nonneg (by omega), hq]
            have hqS2 : q < S.size := by have := unhid HSS; omega
            have hcc := (unhid HG) q hqS2
            obtain ⟨cc, hcc2⟩ : ∃ cc : Int, cc = ((x.text.getD q 0).toNat : Int) := ⟨_, rfl⟩
            have cc0 : 0 ≤ cc := by omega
            have cc1 : cc ≤ 255 := by have := (x.text.getD q 0).toNat_lt; omega
            rw [← hcc2] at hcc
            obtain ⟨r0, r1, r2, r3, r4, r5, r6, hrl, hrv⟩ := letV_form cc
            have HLET := hid (show ∀ W', Calls Tryz.prog 92 #[.int .u8 cc] W' fun e w' => e = .returned (.tuple #[.agg #[.int .i64 r0, .int .i64 r1, .int .i64 r2, .int .i64 r3, .int .i64 r4, .int .i64 r5, .int .i64 r6], .bool (isL cc)]) ∧ Below W'.heap.size W' w' from fun W' => by rw [← hrv]; exact rletter_calls cc W' cc0 cc1)
            have HQ := hid hq
            have HC := hid hcc2
            have HRL := hid hrl
            have hqS : (q : Int) < S.size := by omega
            have HET2 := hid et2
            clear hrv hq hcc2 hrl et2
            obtain ⟨B, hBB⟩ : ∃ B, B = w.heap.size := ⟨_, rfl⟩
            rw [← hBB] at c4 c6 hsz ⊢
            have HBB := hid hBB
            have HBW := hid hbw
            clear hBB hbw
            have hBW : B < W.heap.size := by omega
            go_cut [9] (fun s9 wz => ∃ B2 : Nat, s9 = .pointer (some ⟨B2, 0, none⟩) ∧ Below W.heap.size W wz ∧ wz.heap[B2]? = some (.cells #[.int .i64 r0, .int .i64 r1, .int .i64 r2, .int .i64 r3, .int .i64 r4, .int .i64 r5, .int .i64 r6] 135 (0, 0)))
            case first =>
              refine wp_region_noPanic ?_
              refine wp_region_E (S := fun w' => w'.cell? ⟨B, 4, none⟩ = some (.int .i64 x.a) ∧ w'.cell? ⟨B, 6, none⟩ = some (.string S)) 14 15 rfl (by kernel_rfl) (by kernel_rfl) ⟨c4, c6⟩ ?_
              intro hSE
              (refine WE_take (i := 0) (v := ?_) rfl (by kernel_rfl) (by decide) (by kernel_rfl) (by kernel_rfl) (fun _ _ _ h => h) (by rfl) hSE ?_ ?_; rotate_left; (focus (intro w hSw; (try dsimp only at hSw); go_simp; (try with_reducible rfl))); simp only [Act.put, List.setIfInBounds_toArray, List.set_cons_zero, List.set_cons_succ])
              (refine WE_take (i := 1) (v := ?_) rfl (by kernel_rfl) (by decide) (by kernel_rfl) (by kernel_rfl) (fun _ _ _ h => h) (by rfl) hSE ?_ ?_; rotate_left; (focus (intro w hSw; (try dsimp only at hSw); go_simp; (try with_reducible rfl))); simp only [Act.put, List.setIfInBounds_toArray, List.set_cons_zero, List.set_cons_succ])
              (refine WE_take (i := 2) (v := ?_) rfl (by kernel_rfl) (by decide) (by kernel_rfl) (by kernel_rfl) (fun _ _ _ h => h) (by rfl) hSE ?_ ?_; rotate_left; (focus (intro w hSw; (try dsimp only at hSw); go_simp; (try with_reducible rfl))); simp only [Act.put, List.setIfInBounds_toArray, List.set_cons_zero, List.set_cons_succ])
              (refine WE_take (i := 3) (v := ?_) rfl (by kernel_rfl) (by decide) (by kernel_rfl) (by kernel_rfl) (fun _ _ _ h => h) (by rfl) hSE ?_ ?_; rotate_left; (focus (intro w hSw; (try dsimp only at hSw); go_simp; (try with_reducible rfl))); simp only [Act.put, List.setIfInBounds_toArray, List.set_cons_zero, List.set_cons_succ])
              (refine WE_take (i := 4) (v := ?_) rfl (by kernel_rfl) (by decide) (by kernel_rfl) (by kernel_rfl) (fun _ _ _ h => h) (by rfl) hSE ?_ ?_; rotate_left; (focus (intro w hSw; (try dsimp only at hSw); go_simp; (try with_reducible rfl))); simp only [Act.put, List.setIfInBounds_toArray, List.set_cons_zero, List.set_cons_succ])
              (refine WE_take (i := 5) (v := ?_) rfl (by kernel_rfl) (by decide) (by kernel_rfl) (by kernel_rfl) (fun _ _ _ h => h) (by rfl) hSE ?_ ?_; rotate_left; (focus (intro w hSw; (try dsimp only at hSw); go_simp; (try with_reducible rfl))); simp only [Act.put, List.setIfInBounds_toArray, List.set_cons_zero, List.set_cons_succ])
              have hz0 := unhid HZ0
              have he8 := unhid HE8
              have het2 := unhid HET2
              (refine WE_take (i := 6) (v := ?_) rfl (by kernel_rfl) (by decide) (by kernel_rfl) (by kernel_rfl) (fun _ _ _ h => h) (by rfl) hSE ?_ ?_; rotate_left; (focus (intro w hSw; (try dsimp only at hSw); go_simp; (try with_reducible rfl))); simp only [Act.put, List.setIfInBounds_toArray, List.set_cons_zero, List.set_cons_succ])
              clear hz0 he8 het2
              (refine WE_take (i := 7) (v := ?_) rfl (by kernel_rfl) (by decide) (by kernel_rfl) (by kernel_rfl) (fun _ _ _ h => h) (by rfl) hSE ?_ ?_; rotate_left; (focus (intro w hSw; (try dsimp only at hSw); go_simp; (try with_reducible rfl))); simp only [Act.put, List.setIfInBounds_toArray, List.set_cons_zero, List.set_cons_succ])
              refine WE_two (i := 8) (j := 12) rfl rfl (by decide) (by decide) (by kernel_rfl) ?_ ?_
              · intro K hK
                go_simp
                go_at_call 92
                refine ((unhid HLET) _).mono ?_
                rintro e w5 ⟨rfl, hb5⟩
                have hB5 : Below W.heap.size W w5 := (Below.drew (Below.refl _ _)).trans hb5
                refine hK.out _ _ ⟨(hB5.cell (p := ⟨B, 4, none⟩) hBW).trans c4, (hB5.cell (p := ⟨B, 6, none⟩) hBW).trans c6⟩ ?_
                clear hSE hK K
                intro hSE
                (try simp only [Act.put, List.setIfInBounds_toArray, List.set_cons_zero, List.set_cons_succ])
                have hB5s := hB5.size
                (refine WE_take (i := 9) (v := ?_) rfl (by kernel_rfl) (by decide) (by kernel_rfl) (by kernel_rfl) (fun _ _ _ h => h) (by rfl) hSE ?_ ?_; rotate_left; (focus (intro w hSw; (try dsimp only at hSw); go_simp; (try with_reducible rfl))); simp only [Act.put, List.setIfInBounds_toArray, List.set_cons_zero, List.set_cons_succ])
                (refine WE_take (i := 10) (v := ?_) rfl (by kernel_rfl) (by decide) (by kernel_rfl) (by kernel_rfl) (fun _ _ _ h => h) (by rfl) hSE ?_ ?_; rotate_left; (focus (intro w hSw; (try dsimp only at hSw); go_simp; (try with_reducible rfl))); simp only [Act.put, List.setIfInBounds_toArray, List.set_cons_zero, List.set_cons_succ])
                (refine WE_take (i := 11) (v := ?_) rfl (by kernel_rfl) (by decide) (by kernel_rfl) (by kernel_rfl) (fun _ _ _ h => h) (by rfl) hSE ?_ ?_; rotate_left; (focus (intro w hSw; (try dsimp only at hSw); go_simp; (try with_reducible rfl))); simp only [Act.put, List.setIfInBounds_toArray, List.set_cons_zero, List.set_cons_succ])
                (refine WE_one (i := 12) rfl (by decide) (by kernel_rfl) ?_; intro K hK)
                go_simp
                refine hK.out _ _ ⟨(World.cell?_alloc_lt w5 _ ⟨B, 4, none⟩ (by dsimp only; omega)).trans ((hB5.cell (p := ⟨B, 4, none⟩) hBW).trans c4), (World.cell?_alloc_lt w5 _ ⟨B, 6, none⟩ (by dsimp only; omega)).trans ((hB5.cell (p := ⟨B, 6, none⟩) hBW).trans c6)⟩ ?_
                clear hSE hK K
                intro hSE
                (try simp only [Act.put, List.setIfInBounds_toArray, List.set_cons_zero, List.set_cons_succ])
                (refine WE_one (i := 13) rfl (by decide) (by kernel_rfl) ?_; intro K hK)
                go_simp
                refine hK.out _ _ ⟨(World.cell?_alloc_lt w5 _ ⟨B, 4, none⟩ (by dsimp only; omega)).trans ((hB5.cell (p := ⟨B, 4, none⟩) hBW).trans c4), (World.cell?_alloc_lt w5 _ ⟨B, 6, none⟩ (by dsimp only; omega)).trans ((hB5.cell (p := ⟨B, 6, none⟩) hBW).trans c6)⟩ ?_
                clear hSE hK K
                intro hSE
                (try simp only [Act.put, List.setIfInBounds_toArray, List.set_cons_zero, List.set_cons_succ])
                (refine WE_last rfl (by kernel_rfl) (by kernel_rfl) (by kernel_rfl) ?_; intro K hK; go_simp; refine hK.out _ _ (NoPanic.normal ?_); clear hK K)
                go_wp2_with fail
                go_meet
                case rel => exact ⟨w5.heap.size, rfl, hB5.alloc hB5s _, heap_alloc_new w5 _⟩
              · intro K hK
                go_simp
                refine hK.out _ _ ⟨(World.cell?_alloc_lt W _ ⟨B, 4, none⟩ hBW).trans c4, (World.cell?_alloc_lt W _ ⟨B, 6, none⟩ hBW).trans c6⟩ ?_
                clear hSE hK K
                intro hSE
                (try simp only [Act.put, List.setIfInBounds_toArray, List.set_cons_zero, List.set_cons_succ])
                (refine WE_one (i := 8) rfl (by decide) (by kernel_rfl) ?_; intro K hK)
                go_simp
                go_at_call 92
                refine ((unhid HLET) _).mono ?_
                rintro e w5 ⟨rfl, hb5⟩
                have hbA : Below W.heap.size W (W.alloc (.cells #[.int .i64 0, .int .i64 0, .int .i64 0, .int .i64 0, .int .i64 0, .int .i64 0, .int .i64 0] 135)) := below_alloc _ _
                have hB5 : Below W.heap.size W w5 := hbA.trans (((Below.drew (Below.refl _ _)).trans hb5).mono (by simp))
                have hN := hb5.block W.heap.size (by simp)
                have hU : w5.heap[W.heap.size]? = some (.cells #[.int .i64 0, .int .i64 0, .int .i64 0, .int .i64 0, .int .i64 0, .int .i64 0, .int .i64 0] 135 (0, 0)) := hN.trans (heap_alloc_new W _)
                refine hK.out _ _ ⟨(hB5.cell (p := ⟨B, 4, none⟩) hBW).trans c4, (hB5.cell (p := ⟨B, 6, none⟩) hBW).trans c6⟩ ?_
                clear hSE hK K
                intro hSE
                (try simp only [Act.put, List.setIfInBounds_toArray, List.set_cons_zero, List.set_cons_succ])
                rw [hsz] at hU
                have hcu : ∀ k, w5.cell? ⟨B + 1, k, none⟩ = #[Value.int .i64 0, .int .i64 0, .int .i64 0, .int .i64 0, .int .i64 0, .int .i64 0, .int .i64 0][k]? := fun k => cell_of_row _ _ _ _ _ _ hU
                have z0 := hcu 0
                have z1 := hcu 1
                have z2 := hcu 2
                have z3 := hcu 3
                have z4 := hcu 4
                have z5 := hcu 5
                have z6 := hcu 6
                simp at z0 z1 z2 z3 z4 z5 z6
                have fz : ∀ k, w5.frozen? ⟨B + 1, k, none⟩ = false := fun k => by simp [World.frozen?, hU]
                have hsz5 : B + 1 < w5.heap.size := (Array.getElem?_eq_some_iff.1 hU).1
                clear hcu hN hbA
                have HU := hid hU
                clear hU
                (refine WE_take (i := 9) (v := ?_) rfl (by kernel_rfl) (by decide) (by kernel_rfl) (by kernel_rfl) (fun _ _ _ h => h) (by rfl) hSE ?_ ?_; rotate_left; (focus (intro w hSw; (try dsimp only at hSw); go_simp; (try with_reducible rfl))); simp only [Act.put, List.setIfInBounds_toArray, List.set_cons_zero, List.set_cons_succ])
                (refine WE_take (i := 10) (v := ?_) rfl (by kernel_rfl) (by decide) (by kernel_rfl) (by kernel_rfl) (fun _ _ _ h => h) (by rfl) hSE ?_ ?_; rotate_left; (focus (intro w hSw; (try dsimp only at hSw); go_simp; (try with_reducible rfl))); simp only [Act.put, List.setIfInBounds_toArray, List.set_cons_zero, List.set_cons_succ])
                (refine WE_take (i := 11) (v := ?_) rfl (by kernel_rfl) (by decide) (by kernel_rfl) (by kernel_rfl) (fun _ _ _ h => h) (by rfl) hSE ?_ ?_; rotate_left; (focus (intro w hSw; (try dsimp only at hSw); go_simp; (try with_reducible rfl))); simp only [Act.put, List.setIfInBounds_toArray, List.set_cons_zero, List.set_cons_succ])
                (refine WE_one (i := 13) rfl (by decide) (by kernel_rfl) ?_; intro K hK)
                go_simp
                have hBf : ∀ (w6 : World), Below W.heap.size W w6 → w6.cell? ⟨B, 4, none⟩ = some (.int .i64 x.a) ∧ w6.cell? ⟨B, 6, none⟩ = some (.string S) := fun w6 hb => ⟨(hb.cell (p := ⟨B, 4, none⟩) hBW).trans c4, (hb.cell (p := ⟨B, 6, none⟩) hBW).trans c6⟩
                refine hK.out _ (((((((w5.setCell ⟨B + 1, 0, none⟩ _).setCell ⟨B + 1, 1, none⟩ _).setCell ⟨B + 1, 2, none⟩ _).setCell ⟨B + 1, 3, none⟩ _).setCell ⟨B + 1, 4, none⟩ _).setCell ⟨B + 1, 5, none⟩ _).setCell ⟨B + 1, 6, none⟩ _) (hBf _ ?_) ?_
                · repeat (refine Below.setCell ?_ (by dsimp only; omega) _)
                  exact hB5
                clear hSE hK K
                intro hSE
                (try simp only [Act.put, List.setIfInBounds_toArray, List.set_cons_zero, List.set_cons_succ])
                (refine WE_last rfl (by kernel_rfl) (by kernel_rfl) (by kernel_rfl) ?_; intro K hK; go_simp; refine hK.out _ _ (NoPanic.normal ?_); clear hK K)
                go_wp2_with fail
                go_meet
                case rel =>
                  refine ⟨B + 1, rfl, ?_, ?_⟩
                  · repeat (refine Below.setCell ?_ (by dsimp only; omega) _)
                    exact hB5
                  · rw [block_set_same (block_set_same (block_set_same (block_set_same (block_set_same (block_set_same (block_set_same (unhid HU) _ _) _ _) _ _) _ _) _ _) _ _) _ _]; rfl
            case rest =>
              obtain ⟨B2, rfl, hbz, hU⟩ := hcut
              have c4z := (hbz.cell (p := ⟨B, 4, none⟩) hBW).trans c4
              have hbel := hid ((unhid HBW).trans (hbz.mono (by have := (unhid HBW).size; omega)))
              obtain ⟨r, hr⟩ := Int.eq_ofNat_of_zero_le (show 0 ≤ (j - x.low) / x.a from Int.ediv_nonneg (by omega) (by omega))
              have hr7 : r < 7 := by
                have : (j - x.low) / x.a < 7 := Int.ediv_lt_of_lt_mul (by omega) (by omega)
                omega
              obtain ⟨m, hm⟩ := Int.eq_ofNat_of_zero_le (show 0 ≤ (i - x.left) % (6 * x.a) / x.a from Int.ediv_nonneg (by omega) (by omega))
              have hm5 : m < 5 := by
                have : (i - x.left) % (6 * x.a) / x.a < 5 := Int.ediv_lt_of_lt_mul (by omega) (by omega)
                omega
              have hfin : inkB x i j = bitL ([r0, r1, r2, r3, r4, r5, r6].getD (6 - r) 0) m := by
                have h := (unhid HYES) (by rw [← unhid HN]; omega)
                rw [unhid HQ, hr, hm] at h
                have e1 : ((q : Int)).toNat = q := rfl
                have e2 : (6 - (r : Int)).toNat = 6 - r := by omega
                rw [e1, e2, ← unhid HC, unhid HRL] at h
                exact h
              have HFIN := hid hfin
              clear hfin
              have hcu : ∀ k, wc.cell? ⟨B2, k, none⟩ = #[Value.int .i64 r0, .int .i64 r1, .int .i64 r2, .int .i64 r3, .int .i64 r4, .int .i64 r5, .int .i64 r6][k]? := fun k => cell_of_row _ _ _ _ _ _ hU
              obtain ⟨rr, hrr⟩ : ∃ rr, rr = [r0, r1, r2, r3, r4, r5, r6].getD (6 - r) 0 := ⟨_, rfl⟩
              have hcr := hcu (6 - r)
              have hcr' : wc.cell? ⟨B2, 6 - r, none⟩ = some (.int .i64 rr) := by
                rw [hcr, hrr]
                rcases (show r = 0 ∨ r = 1 ∨ r = 2 ∨ r = 3 ∨ r = 4 ∨ r = 5 ∨ r = 6 by omega) with rfl | rfl | rfl | rfl | rfl | rfl | rfl <;> rfl
              rw [← hrr] at HFIN
              have HBEL := hbel
              have HE9 := hid (w64 (n := (m : Int)) (by omega) (by omega))
              have HE10 := hid (w64 (n := (r : Int)) (by omega) (by omega))
              have HE11 := hid (w64 (n := 6 - (r : Int)) (by omega) (by omega))
              have HE12 := hid (w64 (n := 4 - (m : Int)) (by omega) (by omega))
              have p1 : 0 ≤ 6 - (r : Int) := by omega
              have p2 : 6 - (r : Int) < 7 := by omega
              have HP3 := hid (show (6 - (r : Int)).toNat = 6 - r by omega)
              have p4 : 0 ≤ 4 - (m : Int) := by omega
              have hu0 : 0 ≤ i - x.left := by omega
              have hv0 : 0 ≤ j - x.low := by omega
              have et3 : ((i - x.left) % (6 * x.a)).tdiv x.a = (m : Int) := by rw [Int.tdiv_eq_ediv_of_nonneg hm0, hm]
              have et4 : (j - x.low).tdiv x.a = (r : Int) := by rw [Int.tdiv_eq_ediv_of_nonneg hv0, hr]
              clear hbz hU hcu hcr hrr hr hm hbel
              have HET3 := hid et3
              have HET4 := hid et4
              clear et3 et4
              go_wp2_with fail
              have et3 := unhid HET3
              have e9' := (unhid HE9).2
              have hz0 := unhid HZ0
              have hz1 := unhid HZ1
              have et4 := unhid HET4
              have e10' := (unhid HE10).2
              have e11' := (unhid HE11).2
              go_quiet (fail)
              clear et3 e9' hz0 hz1 et4 e10' e11'
              have hf6 : (6 - (r : Int)) = ((6 - r : Nat) : Int) := by omega
              clear e1 e1' e2 e2' e3 e3' e4 e4' e5 e5' e6 e6' e7 e7'
              go_wp2_with fail
              go_ret
              have hb := unhid HBEL
              exact ⟨retE ((unhid HFIN).trans (bitL_and hm5)), below_drewN' hb _⟩


theorem absI_sq (n : Int) : absI n * absI n = n * n := by
  unfold absI
  rcases Int.le_total 0 n with h | h
  · rw [Int.max_eq_left (by omega)]
  · rw [Int.max_eq_right (by omega), Int.neg_mul_neg]
set_option maxHeartbeats 2000000 in
set_option maxRecDepth 100000 in
theorem rpart_1 (f : Fc) (A : Option Addr) (c : Nat) (x y : Int) (w : World) (hf : fcB f = true) (hx : -1000 ≤ x ∧ x ≤ 1000) (hy : -1000 ≤ y ∧ y ≤ 1000) (hk : f.shape = 1) :
    Calls Tryz.prog 56 #[.agg #[.int .i64 f.shape, .int .i64 f.size, .int .i64 f.height, .slice A f.items.length c], .int .i64 x, .int .i64 y] w fun e w' => e = .returned (.bool (partB f x y)) ∧ Below w.heap.size w w' := by
  have hp : partB f x y = (decide (x * x + y * y ≤ f.size * f.size)) := by
    unfold partB
    rw [if_pos hk]
  have hre := fun W => rextent_calls f A c W (by have := size_bounds hf; omega) (by have := size_bounds hf; omega)
  rw [hk] at hre ⊢
  have HRE := hid hre
  obtain ⟨s0, s1⟩ := size_bounds hf
  obtain ⟨h0, h1⟩ := heiF_bounds hf
  obtain ⟨x0, x1⟩ := hx
  obtain ⟨y0, y1⟩ := hy
  obtain ⟨ax0, ax1⟩ := absI_bd x0 x1
  obtain ⟨ay0, ay1⟩ := absI_bd y0 y1
  have hsq := absI_sq x
  clear hf hre hk
  generalize heiF f = h at *
  have HP := hid hp
  clear hp
  obtain ⟨mx1, mx2⟩ := mul_bd (a := x) (b := x) (A := 5000) (B := 5000) (by omega) (by omega) (by omega) (by omega)
  obtain ⟨my1, my2⟩ := mul_bd (a := y) (b := y) (A := 5000) (B := 5000) (by omega) (by omega) (by omega) (by omega)
  obtain ⟨ms1, ms2⟩ := mul_bd (a := f.size) (b := f.size) (A := 5000) (B := 5000) (by omega) (by omega) (by omega) (by omega)
  obtain ⟨e0, e0'⟩ := w64 (n := x * x) (by omega) (by omega)
  obtain ⟨e1, e1'⟩ := w64 (n := y * y) (by omega) (by omega)
  obtain ⟨e2, e2'⟩ := w64 (n := f.size * f.size) (by omega) (by omega)
  obtain ⟨e3, e3'⟩ := w64 (n := x * x + y * y) (by omega) (by omega)
  go_enter Tryz.func56, Tryz.ntmps56
  go_wp2_with fail
  refine ((unhid HRE) _).mono ?_
  rintro e w1 ⟨rfl, hb1⟩
  have HB := hid ((below_alloc w (.cells #[.int .i64 1, .int .i64 f.size, .int .i64 f.height, .slice A f.items.length c] 60)).trans (hb1.mono (by simp)))
  have c0 : w1.cell? ⟨w.heap.size, 0, none⟩ = some (.int .i64 1) := by rw [hb1.cell (p := ⟨w.heap.size, 0, none⟩) (by simp), World.cell?_alloc_new]; rfl
  clear hb1
  go_wp2_with (first | (go_at_call 76; refine (rabs_calls _ _ (by omega) (by omega)).mono ?_; rintro e w' ⟨rfl, rfl⟩))
  all_goals
    go_ret
    refine ⟨retE ?_, unhid HB⟩
    first
      | (rw [unhid HP]; done)
      | (rw [unhid HP]
         go_light
         first | (simp_all; done) | (simp_all; omega))

set_option maxHeartbeats 2000000 in
set_option maxRecDepth 100000 in
theorem rpart_2 (f : Fc) (A : Option Addr) (c : Nat) (x y : Int) (w : World) (hf : fcB f = true) (hx : -1000 ≤ x ∧ x ≤ 1000) (hy : -1000 ≤ y ∧ y ≤ 1000) (hk : f.shape = 2) :
    Calls Tryz.prog 56 #[.agg #[.int .i64 f.shape, .int .i64 f.size, .int .i64 f.height, .slice A f.items.length c], .int .i64 x, .int .i64 y] w fun e w' => e = .returned (.bool (partB f x y)) ∧ Below w.heap.size w w' := by
  have hp : partB f x y = (true) := by
    unfold partB
    rw [if_neg (by omega), if_neg (by omega), if_neg (by omega), if_neg (by omega), if_neg (by omega)]
  have hre := fun W => rextent_calls f A c W (by have := size_bounds hf; omega) (by have := size_bounds hf; omega)
  rw [hk] at hre ⊢
  have HRE := hid hre
  obtain ⟨s0, s1⟩ := size_bounds hf
  obtain ⟨h0, h1⟩ := heiF_bounds hf
  obtain ⟨x0, x1⟩ := hx
  obtain ⟨y0, y1⟩ := hy
  obtain ⟨ax0, ax1⟩ := absI_bd x0 x1
  obtain ⟨ay0, ay1⟩ := absI_bd y0 y1
  have hsq := absI_sq x
  clear hf hre hk
  generalize heiF f = h at *
  have HP := hid hp
  clear hp
  go_enter Tryz.func56, Tryz.ntmps56
  go_wp2_with fail
  refine ((unhid HRE) _).mono ?_
  rintro e w1 ⟨rfl, hb1⟩
  have HB := hid ((below_alloc w (.cells #[.int .i64 2, .int .i64 f.size, .int .i64 f.height, .slice A f.items.length c] 60)).trans (hb1.mono (by simp)))
  have c0 : w1.cell? ⟨w.heap.size, 0, none⟩ = some (.int .i64 2) := by rw [hb1.cell (p := ⟨w.heap.size, 0, none⟩) (by simp), World.cell?_alloc_new]; rfl
  clear hb1
  go_wp2_with (first | (go_at_call 76; refine (rabs_calls _ _ (by omega) (by omega)).mono ?_; rintro e w' ⟨rfl, rfl⟩))
  all_goals
    go_ret
    refine ⟨retE ?_, unhid HB⟩
    first
      | (rw [unhid HP]; done)
      | (rw [unhid HP]
         go_light
         first | (simp_all; done) | (simp_all; omega))

set_option maxHeartbeats 2000000 in
set_option maxRecDepth 100000 in
theorem rpart_3 (f : Fc) (A : Option Addr) (c : Nat) (x y : Int) (w : World) (hf : fcB f = true) (hx : -1000 ≤ x ∧ x ≤ 1000) (hy : -1000 ≤ y ∧ y ≤ 1000) (hk : f.shape = 3) :
    Calls Tryz.prog 56 #[.agg #[.int .i64 f.shape, .int .i64 f.size, .int .i64 f.height, .slice A f.items.length c], .int .i64 x, .int .i64 y] w fun e w' => e = .returned (.bool (partB f x y)) ∧ Below w.heap.size w w' := by
  have hp : partB f x y = (decide (absI x + absI y ≤ f.size)) := by
    unfold partB
    rw [if_neg (by omega), if_pos hk]
  have hre := fun W => rextent_calls f A c W (by have := size_bounds hf; omega) (by have := size_bounds hf; omega)
  rw [hk] at hre ⊢
  have HRE := hid hre
  obtain ⟨s0, s1⟩ := size_bounds hf
  obtain ⟨h0, h1⟩ := heiF_bounds hf
  obtain ⟨x0, x1⟩ := hx
  obtain ⟨y0, y1⟩ := hy
  obtain ⟨ax0, ax1⟩ := absI_bd x0 x1
  obtain ⟨ay0, ay1⟩ := absI_bd y0 y1
  have hsq := absI_sq x
  clear hf hre hk
  generalize heiF f = h at *
  have HP := hid hp
  clear hp
  obtain ⟨e0, e0'⟩ := w64 (n := absI x + absI y) (by omega) (by omega)
  go_enter Tryz.func56, Tryz.ntmps56
  go_wp2_with fail
  refine ((unhid HRE) _).mono ?_
  rintro e w1 ⟨rfl, hb1⟩
  have HB := hid ((below_alloc w (.cells #[.int .i64 3, .int .i64 f.size, .int .i64 f.height, .slice A f.items.length c] 60)).trans (hb1.mono (by simp)))
  have c0 : w1.cell? ⟨w.heap.size, 0, none⟩ = some (.int .i64 3) := by rw [hb1.cell (p := ⟨w.heap.size, 0, none⟩) (by simp), World.cell?_alloc_new]; rfl
  clear hb1
  go_wp2_with (first | (go_at_call 76; refine (rabs_calls _ _ (by omega) (by omega)).mono ?_; rintro e w' ⟨rfl, rfl⟩))
  all_goals
    go_ret
    refine ⟨retE ?_, unhid HB⟩
    first
      | (rw [unhid HP]; done)
      | (rw [unhid HP]
         go_light
         first | (simp_all; done) | (simp_all; omega))

set_option maxHeartbeats 2000000 in
set_option maxRecDepth 100000 in
theorem rpart_4 (f : Fc) (A : Option Addr) (c : Nat) (x y : Int) (w : World) (hf : fcB f = true) (hx : -1000 ≤ x ∧ x ≤ 1000) (hy : -1000 ≤ y ∧ y ≤ 1000) (hk : f.shape = 4) :
    Calls Tryz.prog 56 #[.agg #[.int .i64 f.shape, .int .i64 f.size, .int .i64 f.height, .slice A f.items.length c], .int .i64 x, .int .i64 y] w fun e w' => e = .returned (.bool (partB f x y)) ∧ Below w.heap.size w w' := by
  have hp : partB f x y = (decide (29 * (absI x + absI y) ≤ 41 * f.size)) := by
    unfold partB
    rw [if_neg (by omega), if_neg (by omega), if_pos hk]
  have hre := fun W => rextent_calls f A c W (by have := size_bounds hf; omega) (by have := size_bounds hf; omega)
  rw [hk] at hre ⊢
  have HRE := hid hre
  obtain ⟨s0, s1⟩ := size_bounds hf
  obtain ⟨h0, h1⟩ := heiF_bounds hf
  obtain ⟨x0, x1⟩ := hx
  obtain ⟨y0, y1⟩ := hy
  obtain ⟨ax0, ax1⟩ := absI_bd x0 x1
  obtain ⟨ay0, ay1⟩ := absI_bd y0 y1
  have hsq := absI_sq x
  clear hf hre hk
  generalize heiF f = h at *
  have HP := hid hp
  clear hp
  obtain ⟨e0, e0'⟩ := w64 (n := absI x + absI y) (by omega) (by omega)
  obtain ⟨e1, e1'⟩ := w64 (n := 29 * (absI x + absI y)) (by omega) (by omega)
  obtain ⟨e2, e2'⟩ := w64 (n := 41 * f.size) (by omega) (by omega)
  go_enter Tryz.func56, Tryz.ntmps56
  go_wp2_with fail
  refine ((unhid HRE) _).mono ?_
  rintro e w1 ⟨rfl, hb1⟩
  have HB := hid ((below_alloc w (.cells #[.int .i64 4, .int .i64 f.size, .int .i64 f.height, .slice A f.items.length c] 60)).trans (hb1.mono (by simp)))
  have c0 : w1.cell? ⟨w.heap.size, 0, none⟩ = some (.int .i64 4) := by rw [hb1.cell (p := ⟨w.heap.size, 0, none⟩) (by simp), World.cell?_alloc_new]; rfl
  clear hb1
  go_wp2_with (first | (go_at_call 76; refine (rabs_calls _ _ (by omega) (by omega)).mono ?_; rintro e w' ⟨rfl, rfl⟩))
  all_goals
    go_ret
    refine ⟨retE ?_, unhid HB⟩
    first
      | (rw [unhid HP]; done)
      | (rw [unhid HP]
         go_light
         first | (simp_all; done) | (simp_all; omega))

set_option maxHeartbeats 2000000 in
set_option maxRecDepth 100000 in
theorem rpart_5 (f : Fc) (A : Option Addr) (c : Nat) (x y : Int) (w : World) (hf : fcB f = true) (hx : -1000 ≤ x ∧ x ≤ 1000) (hy : -1000 ≤ y ∧ y ≤ 1000) (hk : f.shape = 5) :
    Calls Tryz.prog 56 #[.agg #[.int .i64 f.shape, .int .i64 f.size, .int .i64 f.height, .slice A f.items.length c], .int .i64 x, .int .i64 y] w fun e w' => e = .returned (.bool (partB f x y)) ∧ Below w.heap.size w w' := by
  have hp : partB f x y = (decide (2 * heiF f * absI x ≤ f.size * (heiF f - y))) := by
    unfold partB
    rw [if_neg (by omega), if_neg (by omega), if_neg (by omega), if_pos hk]
  have hre := fun W => rextent_calls f A c W (by have := size_bounds hf; omega) (by have := size_bounds hf; omega)
  rw [hk] at hre ⊢
  have HRE := hid hre
  obtain ⟨s0, s1⟩ := size_bounds hf
  obtain ⟨h0, h1⟩ := heiF_bounds hf
  obtain ⟨x0, x1⟩ := hx
  obtain ⟨y0, y1⟩ := hy
  obtain ⟨ax0, ax1⟩ := absI_bd x0 x1
  obtain ⟨ay0, ay1⟩ := absI_bd y0 y1
  have hsq := absI_sq x
  clear hf hre hk
  generalize heiF f = h at *
  have HP := hid hp
  clear hp
  obtain ⟨m11, m12⟩ := mul_bd (a := 2 * h) (b := absI x) (A := 5000) (B := 5000) (by omega) (by omega) (by omega) (by omega)
  obtain ⟨m21, m22⟩ := mul_bd (a := f.size) (b := h - y) (A := 5000) (B := 5000) (by omega) (by omega) (by omega) (by omega)
  obtain ⟨e0, e0'⟩ := w64 (n := 2 * h) (by omega) (by omega)
  obtain ⟨e1, e1'⟩ := w64 (n := 2 * h * absI x) (by omega) (by omega)
  obtain ⟨e2, e2'⟩ := w64 (n := h - y) (by omega) (by omega)
  obtain ⟨e3, e3'⟩ := w64 (n := f.size * (h - y)) (by omega) (by omega)
  go_enter Tryz.func56, Tryz.ntmps56
  go_wp2_with fail
  refine ((unhid HRE) _).mono ?_
  rintro e w1 ⟨rfl, hb1⟩
  have HB := hid ((below_alloc w (.cells #[.int .i64 5, .int .i64 f.size, .int .i64 f.height, .slice A f.items.length c] 60)).trans (hb1.mono (by simp)))
  have c0 : w1.cell? ⟨w.heap.size, 0, none⟩ = some (.int .i64 5) := by rw [hb1.cell (p := ⟨w.heap.size, 0, none⟩) (by simp), World.cell?_alloc_new]; rfl
  clear hb1
  go_wp2_with (first | (go_at_call 76; refine (rabs_calls _ _ (by omega) (by omega)).mono ?_; rintro e w' ⟨rfl, rfl⟩))
  all_goals
    go_ret
    refine ⟨retE ?_, unhid HB⟩
    first
      | (rw [unhid HP]; done)
      | (rw [unhid HP]
         go_light
         first | (simp_all; done) | (simp_all; omega))

set_option maxHeartbeats 2000000 in
set_option maxRecDepth 100000 in
theorem rpart_6 (f : Fc) (A : Option Addr) (c : Nat) (x y : Int) (w : World) (hf : fcB f = true) (hx : -1000 ≤ x ∧ x ≤ 1000) (hy : -1000 ≤ y ∧ y ≤ 1000) (hk : f.shape = 6) :
    Calls Tryz.prog 56 #[.agg #[.int .i64 f.shape, .int .i64 f.size, .int .i64 f.height, .slice A f.items.length c], .int .i64 x, .int .i64 y] w fun e w' => e = .returned (.bool (partB f x y)) ∧ Below w.heap.size w w' := by
  have hp : partB f x y = (decide (2 * heiF f * absI x ≤ f.size * (heiF f + y))) := by
    unfold partB
    rw [if_neg (by omega), if_neg (by omega), if_neg (by omega), if_neg (by omega), if_pos hk]
  have hre := fun W => rextent_calls f A c W (by have := size_bounds hf; omega) (by have := size_bounds hf; omega)
  rw [hk] at hre ⊢
  have HRE := hid hre
  obtain ⟨s0, s1⟩ := size_bounds hf
  obtain ⟨h0, h1⟩ := heiF_bounds hf
  obtain ⟨x0, x1⟩ := hx
  obtain ⟨y0, y1⟩ := hy
  obtain ⟨ax0, ax1⟩ := absI_bd x0 x1
  obtain ⟨ay0, ay1⟩ := absI_bd y0 y1
  have hsq := absI_sq x
  clear hf hre hk
  generalize heiF f = h at *
  have HP := hid hp
  clear hp
  obtain ⟨m11, m12⟩ := mul_bd (a := 2 * h) (b := absI x) (A := 5000) (B := 5000) (by omega) (by omega) (by omega) (by omega)
  obtain ⟨m21, m22⟩ := mul_bd (a := f.size) (b := h + y) (A := 5000) (B := 5000) (by omega) (by omega) (by omega) (by omega)
  obtain ⟨e0, e0'⟩ := w64 (n := 2 * h) (by omega) (by omega)
  obtain ⟨e1, e1'⟩ := w64 (n := 2 * h * absI x) (by omega) (by omega)
  obtain ⟨e2, e2'⟩ := w64 (n := h + y) (by omega) (by omega)
  obtain ⟨e3, e3'⟩ := w64 (n := f.size * (h + y)) (by omega) (by omega)
  go_enter Tryz.func56, Tryz.ntmps56
  go_wp2_with fail
  refine ((unhid HRE) _).mono ?_
  rintro e w1 ⟨rfl, hb1⟩
  have HB := hid ((below_alloc w (.cells #[.int .i64 6, .int .i64 f.size, .int .i64 f.height, .slice A f.items.length c] 60)).trans (hb1.mono (by simp)))
  have c0 : w1.cell? ⟨w.heap.size, 0, none⟩ = some (.int .i64 6) := by rw [hb1.cell (p := ⟨w.heap.size, 0, none⟩) (by simp), World.cell?_alloc_new]; rfl
  clear hb1
  go_wp2_with (first | (go_at_call 76; refine (rabs_calls _ _ (by omega) (by omega)).mono ?_; rintro e w' ⟨rfl, rfl⟩))
  all_goals
    go_ret
    refine ⟨retE ?_, unhid HB⟩
    first
      | (rw [unhid HP]; done)
      | (rw [unhid HP]
         go_light
         first | (simp_all; done) | (simp_all; omega))

set_option maxHeartbeats 2000000 in
set_option maxRecDepth 100000 in
theorem rmid_1 (f : Fc) (A : Option Addr) (c : Nat) (x y : Int) (b : Int) (w : World) (hf : fcB f = true) (hx : -1000 ≤ x ∧ x ≤ 1000) (hy : -1000 ≤ y ∧ y ≤ 1000) (hb : 0 ≤ b ∧ b ≤ 200) (hk : f.shape = 1) :
    Calls Tryz.prog 77 #[.agg #[.int .i64 f.shape, .int .i64 f.size, .int .i64 f.height, .slice A f.items.length c], .int .i64 x, .int .i64 y, .int .i64 b] w fun e w' => e = .returned (.bool (midB f x y b)) ∧ Below w.heap.size w w' := by
  have hp : midB f x y b = (decide (0 < f.size - 2 * b) && decide (x * x + y * y ≤ (f.size - 2 * b) * (f.size - 2 * b))) := by
    unfold midB
    rw [if_pos hk]
    simp only [Bool.decide_and, Bool.and_assoc]
  have hre := fun W => rextent_calls f A c W (by have := size_bounds hf; omega) (by have := size_bounds hf; omega)
  rw [hk] at hre ⊢
  have HRE := hid hre
  obtain ⟨s0, s1⟩ := size_bounds hf
  obtain ⟨h0, h1⟩ := heiF_bounds hf
  obtain ⟨x0, x1⟩ := hx
  obtain ⟨y0, y1⟩ := hy
  obtain ⟨b0, b1⟩ := hb
  obtain ⟨ax0, ax1⟩ := absI_bd x0 x1
  obtain ⟨ay0, ay1⟩ := absI_bd y0 y1
  have hsq := absI_sq x
  clear hf hre hk
  generalize heiF f = h at *
  have HP := hid hp
  clear hp
  obtain ⟨mx1, mx2⟩ := mul_bd (a := x) (b := x) (A := 5000) (B := 5000) (by omega) (by omega) (by omega) (by omega)
  obtain ⟨my1, my2⟩ := mul_bd (a := y) (b := y) (A := 5000) (B := 5000) (by omega) (by omega) (by omega) (by omega)
  obtain ⟨ms1, ms2⟩ := mul_bd (a := (f.size - 2 * b)) (b := (f.size - 2 * b)) (A := 5000) (B := 5000) (by omega) (by omega) (by omega) (by omega)
  obtain ⟨e0, e0'⟩ := w64 (n := 2 * b) (by omega) (by omega)
  obtain ⟨e1, e1'⟩ := w64 (n := f.size - 2 * b) (by omega) (by omega)
  obtain ⟨e2, e2'⟩ := w64 (n := x * x) (by omega) (by omega)
  obtain ⟨e3, e3'⟩ := w64 (n := y * y) (by omega) (by omega)
  obtain ⟨e4, e4'⟩ := w64 (n := (f.size - 2 * b) * (f.size - 2 * b)) (by omega) (by omega)
  obtain ⟨e5, e5'⟩ := w64 (n := x * x + y * y) (by omega) (by omega)
  go_enter Tryz.func77, Tryz.ntmps77
  go_wp2_with fail
  refine ((unhid HRE) _).mono ?_
  rintro e w1 ⟨rfl, hb1⟩
  have HB := hid ((below_alloc w (.cells #[.int .i64 1, .int .i64 f.size, .int .i64 f.height, .slice A f.items.length c] 60)).trans (hb1.mono (by simp)))
  have c0 : w1.cell? ⟨w.heap.size, 0, none⟩ = some (.int .i64 1) := by rw [hb1.cell (p := ⟨w.heap.size, 0, none⟩) (by simp), World.cell?_alloc_new]; rfl
  clear hb1
  go_wp2_with (first | (go_at_call 76; refine (rabs_calls _ _ (by omega) (by omega)).mono ?_; rintro e w' ⟨rfl, rfl⟩))
  all_goals
    go_ret
    refine ⟨retE ?_, unhid HB⟩
    first
      | (rw [unhid HP]; done)
      | (rw [unhid HP]
         go_light
         first | (simp_all; done) | (simp_all; omega))

set_option maxHeartbeats 2000000 in
set_option maxRecDepth 100000 in
theorem rmid_2 (f : Fc) (A : Option Addr) (c : Nat) (x y : Int) (b : Int) (w : World) (hf : fcB f = true) (hx : -1000 ≤ x ∧ x ≤ 1000) (hy : -1000 ≤ y ∧ y ≤ 1000) (hb : 0 ≤ b ∧ b ≤ 200) (hk : f.shape = 2) :
    Calls Tryz.prog 77 #[.agg #[.int .i64 f.shape, .int .i64 f.size, .int .i64 f.height, .slice A f.items.length c], .int .i64 x, .int .i64 y, .int .i64 b] w fun e w' => e = .returned (.bool (midB f x y b)) ∧ Below w.heap.size w w' := by
  have hp : midB f x y b = (decide (absI x < f.size - 2 * b) && decide (absI y < heiF f - 2 * b)) := by
    unfold midB
    rw [if_neg (by omega), if_neg (by omega), if_neg (by omega), if_neg (by omega), if_neg (by omega)]
    simp only [Bool.decide_and, Bool.and_assoc]
  have hre := fun W => rextent_calls f A c W (by have := size_bounds hf; omega) (by have := size_bounds hf; omega)
  rw [hk] at hre ⊢
  have HRE := hid hre
  obtain ⟨s0, s1⟩ := size_bounds hf
  obtain ⟨h0, h1⟩ := heiF_bounds hf
  obtain ⟨x0, x1⟩ := hx
  obtain ⟨y0, y1⟩ := hy
  obtain ⟨b0, b1⟩ := hb
  obtain ⟨ax0, ax1⟩ := absI_bd x0 x1
  obtain ⟨ay0, ay1⟩ := absI_bd y0 y1
  have hsq := absI_sq x
  clear hf hre hk
  generalize heiF f = h at *
  have HP := hid hp
  clear hp
  obtain ⟨e0, e0'⟩ := w64 (n := 2 * b) (by omega) (by omega)
  obtain ⟨e1, e1'⟩ := w64 (n := f.size - 2 * b) (by omega) (by omega)
  obtain ⟨e2, e2'⟩ := w64 (n := h - 2 * b) (by omega) (by omega)
  go_enter Tryz.func77, Tryz.ntmps77
  go_wp2_with fail
  refine ((unhid HRE) _).mono ?_
  rintro e w1 ⟨rfl, hb1⟩
  have HB := hid ((below_alloc w (.cells #[.int .i64 2, .int .i64 f.size, .int .i64 f.height, .slice A f.items.length c] 60)).trans (hb1.mono (by simp)))
  have c0 : w1.cell? ⟨w.heap.size, 0, none⟩ = some (.int .i64 2) := by rw [hb1.cell (p := ⟨w.heap.size, 0, none⟩) (by simp), World.cell?_alloc_new]; rfl
  clear hb1
  go_wp2_with (first | (go_at_call 76; refine (rabs_calls _ _ (by omega) (by omega)).mono ?_; rintro e w' ⟨rfl, rfl⟩))
  all_goals
    go_ret
    refine ⟨retE ?_, unhid HB⟩
    first
      | (rw [unhid HP]; done)
      | (rw [unhid HP]
         go_light
         first | (simp_all; done) | (simp_all; omega))

set_option maxHeartbeats 2000000 in
set_option maxRecDepth 100000 in
theorem rmid_3 (f : Fc) (A : Option Addr) (c : Nat) (x y : Int) (b : Int) (w : World) (hf : fcB f = true) (hx : -1000 ≤ x ∧ x ≤ 1000) (hy : -1000 ≤ y ∧ y ≤ 1000) (hb : 0 ≤ b ∧ b ≤ 200) (hk : f.shape = 3) :
    Calls Tryz.prog 77 #[.agg #[.int .i64 f.shape, .int .i64 f.size, .int .i64 f.height, .slice A f.items.length c], .int .i64 x, .int .i64 y, .int .i64 b] w fun e w' => e = .returned (.bool (midB f x y b)) ∧ Below w.heap.size w w' := by
  have hp : midB f x y b = (decide (absI x + absI y ≤ f.size - 3 * b)) := by
    unfold midB
    rw [if_neg (by omega), if_pos hk]
  have hre := fun W => rextent_calls f A c W (by have := size_bounds hf; omega) (by have := size_bounds hf; omega)
  rw [hk] at hre ⊢
  have HRE := hid hre
  obtain ⟨s0, s1⟩ := size_bounds hf
  obtain ⟨h0, h1⟩ := heiF_bounds hf
  obtain ⟨x0, x1⟩ := hx
  obtain ⟨y0, y1⟩ := hy
  obtain ⟨b0, b1⟩ := hb
  obtain ⟨ax0, ax1⟩ := absI_bd x0 x1
  obtain ⟨ay0, ay1⟩ := absI_bd y0 y1
  have hsq := absI_sq x
  clear hf hre hk
  generalize heiF f = h at *
  have HP := hid hp
  clear hp
  obtain ⟨e0, e0'⟩ := w64 (n := 2 * b) (by omega) (by omega)
  obtain ⟨e1, e1'⟩ := w64 (n := f.size - 2 * b) (by omega) (by omega)
  obtain ⟨e2, e2'⟩ := w64 (n := absI x + absI y) (by omega) (by omega)
  obtain ⟨e3, e3'⟩ := w64 (n := 3 * b) (by omega) (by omega)
  obtain ⟨e4, e4'⟩ := w64 (n := f.size - 3 * b) (by omega) (by omega)
  go_enter Tryz.func77, Tryz.ntmps77
  go_wp2_with fail
  refine ((unhid HRE) _).mono ?_
  rintro e w1 ⟨rfl, hb1⟩
  have HB := hid ((below_alloc w (.cells #[.int .i64 3, .int .i64 f.size, .int .i64 f.height, .slice A f.items.length c] 60)).trans (hb1.mono (by simp)))
  have c0 : w1.cell? ⟨w.heap.size, 0, none⟩ = some (.int .i64 3) := by rw [hb1.cell (p := ⟨w.heap.size, 0, none⟩) (by simp), World.cell?_alloc_new]; rfl
  clear hb1
  go_wp2_with (first | (go_at_call 76; refine (rabs_calls _ _ (by omega) (by omega)).mono ?_; rintro e w' ⟨rfl, rfl⟩))
  all_goals
    go_ret
    refine ⟨retE ?_, unhid HB⟩
    first
      | (rw [unhid HP]; done)
      | (rw [unhid HP]
         go_light
         first | (simp_all; done) | (simp_all; omega))

set_option maxHeartbeats 2000000 in
set_option maxRecDepth 100000 in
theorem rmid_4 (f : Fc) (A : Option Addr) (c : Nat) (x y : Int) (b : Int) (w : World) (hf : fcB f = true) (hx : -1000 ≤ x ∧ x ≤ 1000) (hy : -1000 ≤ y ∧ y ≤ 1000) (hb : 0 ≤ b ∧ b ≤ 200) (hk : f.shape = 4) :
    Calls Tryz.prog 77 #[.agg #[.int .i64 f.shape, .int .i64 f.size, .int .i64 f.height, .slice A f.items.length c], .int .i64 x, .int .i64 y, .int .i64 b] w fun e w' => e = .returned (.bool (midB f x y b)) ∧ Below w.heap.size w w' := by
  have hp : midB f x y b = (decide (absI x < f.size - 2 * b) && decide (absI y < f.size - 2 * b) && decide (29 * (absI x + absI y) ≤ 41 * (f.size - 2 * b))) := by
    unfold midB
    rw [if_neg (by omega), if_neg (by omega), if_pos hk]
    simp only [Bool.decide_and, Bool.and_assoc]
  have hre := fun W => rextent_calls f A c W (by have := size_bounds hf; omega) (by have := size_bounds hf; omega)
  rw [hk] at hre ⊢
  have HRE := hid hre
  obtain ⟨s0, s1⟩ := size_bounds hf
  obtain ⟨h0, h1⟩ := heiF_bounds hf
  obtain ⟨x0, x1⟩ := hx
  obtain ⟨y0, y1⟩ := hy
  obtain ⟨b0, b1⟩ := hb
  obtain ⟨ax0, ax1⟩ := absI_bd x0 x1
  obtain ⟨ay0, ay1⟩ := absI_bd y0 y1
  have hsq := absI_sq x
  clear hf hre hk
  generalize heiF f = h at *
  have HP := hid hp
  clear hp
  obtain ⟨e0, e0'⟩ := w64 (n := 2 * b) (by omega) (by omega)
  obtain ⟨e1, e1'⟩ := w64 (n := f.size - 2 * b) (by omega) (by omega)
  obtain ⟨e2, e2'⟩ := w64 (n := absI x + absI y) (by omega) (by omega)
  obtain ⟨e3, e3'⟩ := w64 (n := 29 * (absI x + absI y)) (by omega) (by omega)
  obtain ⟨e4, e4'⟩ := w64 (n := 41 * (f.size - 2 * b)) (by omega) (by omega)
  go_enter Tryz.func77, Tryz.ntmps77
  go_wp2_with fail
  refine ((unhid HRE) _).mono ?_
  rintro e w1 ⟨rfl, hb1⟩
  have HB := hid ((below_alloc w (.cells #[.int .i64 4, .int .i64 f.size, .int .i64 f.height, .slice A f.items.length c] 60)).trans (hb1.mono (by simp)))
  have c0 : w1.cell? ⟨w.heap.size, 0, none⟩ = some (.int .i64 4) := by rw [hb1.cell (p := ⟨w.heap.size, 0, none⟩) (by simp), World.cell?_alloc_new]; rfl
  clear hb1
  go_wp2_with (first | (go_at_call 76; refine (rabs_calls _ _ (by omega) (by omega)).mono ?_; rintro e w' ⟨rfl, rfl⟩))
  all_goals
    go_ret
    refine ⟨retE ?_, unhid HB⟩
    first
      | (rw [unhid HP]; done)
      | (rw [unhid HP]
         go_light
         first | (simp_all; done) | (simp_all; omega))

set_option maxHeartbeats 2000000 in
set_option maxRecDepth 100000 in
theorem rmid_5 (f : Fc) (A : Option Addr) (c : Nat) (x y : Int) (b : Int) (w : World) (hf : fcB f = true) (hx : -1000 ≤ x ∧ x ≤ 1000) (hy : -1000 ≤ y ∧ y ≤ 1000) (hb : 0 ≤ b ∧ b ≤ 200) (hk : f.shape = 5) :
    Calls Tryz.prog 77 #[.agg #[.int .i64 f.shape, .int .i64 f.size, .int .i64 f.height, .slice A f.items.length c], .int .i64 x, .int .i64 y, .int .i64 b] w fun e w' => e = .returned (.bool (midB f x y b)) ∧ Below w.heap.size w w' := by
  have hp : midB f x y b = (decide (2 * heiF f * (absI x + 2 * b) ≤ f.size * (heiF f - y)) && decide (2 * b - heiF f < y)) := by
    unfold midB
    rw [if_neg (by omega), if_neg (by omega), if_neg (by omega), if_pos hk]
    simp only [Bool.decide_and, Bool.and_assoc]
  have hre := fun W => rextent_calls f A c W (by have := size_bounds hf; omega) (by have := size_bounds hf; omega)
  rw [hk] at hre ⊢
  have HRE := hid hre
  obtain ⟨s0, s1⟩ := size_bounds hf
  obtain ⟨h0, h1⟩ := heiF_bounds hf
  obtain ⟨x0, x1⟩ := hx
  obtain ⟨y0, y1⟩ := hy
  obtain ⟨b0, b1⟩ := hb
  obtain ⟨ax0, ax1⟩ := absI_bd x0 x1
  obtain ⟨ay0, ay1⟩ := absI_bd y0 y1
  have hsq := absI_sq x
  clear hf hre hk
  generalize heiF f = h at *
  have HP := hid hp
  clear hp
  obtain ⟨m11, m12⟩ := mul_bd (a := 2 * h) (b := (absI x + 2 * b)) (A := 5000) (B := 5000) (by omega) (by omega) (by omega) (by omega)
  obtain ⟨m21, m22⟩ := mul_bd (a := f.size) (b := (h - y)) (A := 5000) (B := 5000) (by omega) (by omega) (by omega) (by omega)
  obtain ⟨e0, e0'⟩ := w64 (n := 2 * b) (by omega) (by omega)
  obtain ⟨e1, e1'⟩ := w64 (n := f.size - 2 * b) (by omega) (by omega)
  obtain ⟨e2, e2'⟩ := w64 (n := 2 * h) (by omega) (by omega)
  obtain ⟨e3, e3'⟩ := w64 (n := absI x + 2 * b) (by omega) (by omega)
  obtain ⟨e4, e4'⟩ := w64 (n := 2 * h * (absI x + 2 * b)) (by omega) (by omega)
  obtain ⟨e5, e5'⟩ := w64 (n := h - y) (by omega) (by omega)
  obtain ⟨e6, e6'⟩ := w64 (n := f.size * (h - y)) (by omega) (by omega)
  obtain ⟨e7, e7'⟩ := w64 (n := 2 * b - h) (by omega) (by omega)
  go_enter Tryz.func77, Tryz.ntmps77
  go_wp2_with fail
  refine ((unhid HRE) _).mono ?_
  rintro e w1 ⟨rfl, hb1⟩
  have HB := hid ((below_alloc w (.cells #[.int .i64 5, .int .i64 f.size, .int .i64 f.height, .slice A f.items.length c] 60)).trans (hb1.mono (by simp)))
  have c0 : w1.cell? ⟨w.heap.size, 0, none⟩ = some (.int .i64 5) := by rw [hb1.cell (p := ⟨w.heap.size, 0, none⟩) (by simp), World.cell?_alloc_new]; rfl
  clear hb1
  go_wp2_with (first | (go_at_call 76; refine (rabs_calls _ _ (by omega) (by omega)).mono ?_; rintro e w' ⟨rfl, rfl⟩))
  all_goals
    go_ret
    refine ⟨retE ?_, unhid HB⟩
    first
      | (rw [unhid HP]; done)
      | (rw [unhid HP]
         go_light
         first | (simp_all; done) | (simp_all; omega))

set_option maxHeartbeats 2000000 in
set_option maxRecDepth 100000 in
theorem rmid_6 (f : Fc) (A : Option Addr) (c : Nat) (x y : Int) (b : Int) (w : World) (hf : fcB f = true) (hx : -1000 ≤ x ∧ x ≤ 1000) (hy : -1000 ≤ y ∧ y ≤ 1000) (hb : 0 ≤ b ∧ b ≤ 200) (hk : f.shape = 6) :
    Calls Tryz.prog 77 #[.agg #[.int .i64 f.shape, .int .i64 f.size, .int .i64 f.height, .slice A f.items.length c], .int .i64 x, .int .i64 y, .int .i64 b] w fun e w' => e = .returned (.bool (midB f x y b)) ∧ Below w.heap.size w w' := by
  have hp : midB f x y b = (decide (2 * heiF f * (absI x + 2 * b) ≤ f.size * (heiF f + y)) && decide (y < heiF f - 2 * b)) := by
    unfold midB
    rw [if_neg (by omega), if_neg (by omega), if_neg (by omega), if_neg (by omega), if_pos hk]
    simp only [Bool.decide_and, Bool.and_assoc]
  have hre := fun W => rextent_calls f A c W (by have := size_bounds hf; omega) (by have := size_bounds hf; omega)
  rw [hk] at hre ⊢
  have HRE := hid hre
  obtain ⟨s0, s1⟩ := size_bounds hf
  obtain ⟨h0, h1⟩ := heiF_bounds hf
  obtain ⟨x0, x1⟩ := hx
  obtain ⟨y0, y1⟩ := hy
  obtain ⟨b0, b1⟩ := hb
  obtain ⟨ax0, ax1⟩ := absI_bd x0 x1
  obtain ⟨ay0, ay1⟩ := absI_bd y0 y1
  have hsq := absI_sq x
  clear hf hre hk
  generalize heiF f = h at *
  have HP := hid hp
  clear hp
  obtain ⟨m11, m12⟩ := mul_bd (a := 2 * h) (b := (absI x + 2 * b)) (A := 5000) (B := 5000) (by omega) (by omega) (by omega) (by omega)
  obtain ⟨m21, m22⟩ := mul_bd (a := f.size) (b := (h + y)) (A := 5000) (B := 5000) (by omega) (by omega) (by omega) (by omega)
  obtain ⟨e0, e0'⟩ := w64 (n := 2 * b) (by omega) (by omega)
  obtain ⟨e1, e1'⟩ := w64 (n := f.size - 2 * b) (by omega) (by omega)
  obtain ⟨e2, e2'⟩ := w64 (n := 2 * h) (by omega) (by omega)
  obtain ⟨e3, e3'⟩ := w64 (n := absI x + 2 * b) (by omega) (by omega)
  obtain ⟨e4, e4'⟩ := w64 (n := 2 * h * (absI x + 2 * b)) (by omega) (by omega)
  obtain ⟨e5, e5'⟩ := w64 (n := h + y) (by omega) (by omega)
  obtain ⟨e6, e6'⟩ := w64 (n := f.size * (h + y)) (by omega) (by omega)
  obtain ⟨e7, e7'⟩ := w64 (n := h - 2 * b) (by omega) (by omega)
  go_enter Tryz.func77, Tryz.ntmps77
  go_wp2_with fail
  refine ((unhid HRE) _).mono ?_
  rintro e w1 ⟨rfl, hb1⟩
  have HB := hid ((below_alloc w (.cells #[.int .i64 6, .int .i64 f.size, .int .i64 f.height, .slice A f.items.length c] 60)).trans (hb1.mono (by simp)))
  have c0 : w1.cell? ⟨w.heap.size, 0, none⟩ = some (.int .i64 6) := by rw [hb1.cell (p := ⟨w.heap.size, 0, none⟩) (by simp), World.cell?_alloc_new]; rfl
  clear hb1
  go_wp2_with (first | (go_at_call 76; refine (rabs_calls _ _ (by omega) (by omega)).mono ?_; rintro e w' ⟨rfl, rfl⟩))
  all_goals
    go_ret
    refine ⟨retE ?_, unhid HB⟩
    first
      | (rw [unhid HP]; done)
      | (rw [unhid HP]
         go_light
         first | (simp_all; done) | (simp_all; omega))

theorem rpart_calls (f : Fc) (A : Option Addr) (c : Nat) (x y : Int) (w : World) (hf : fcB f = true) (hx : -1000 ≤ x ∧ x ≤ 1000) (hy : -1000 ≤ y ∧ y ≤ 1000) :
    Calls Tryz.prog 56 #[.agg #[.int .i64 f.shape, .int .i64 f.size, .int .i64 f.height, .slice A f.items.length c], .int .i64 x, .int .i64 y] w fun e w' => e = .returned (.bool (partB f x y)) ∧ Below w.heap.size w w' := by
  have hs : 1 ≤ f.shape ∧ f.shape ≤ 6 := by simp only [fcB, Bool.and_eq_true, decide_eq_true_eq] at hf; exact hf.1.1.1.1
  rcases (show f.shape = 1 ∨ f.shape = 2 ∨ f.shape = 3 ∨ f.shape = 4 ∨ f.shape = 5 ∨ f.shape = 6 by omega) with h | h | h | h | h | h
  · exact rpart_1 f A c x y w hf hx hy h
  · exact rpart_2 f A c x y w hf hx hy h
  · exact rpart_3 f A c x y w hf hx hy h
  · exact rpart_4 f A c x y w hf hx hy h
  · exact rpart_5 f A c x y w hf hx hy h
  · exact rpart_6 f A c x y w hf hx hy h
theorem rmid_calls (f : Fc) (A : Option Addr) (c : Nat) (x y b : Int) (w : World) (hf : fcB f = true) (hx : -1000 ≤ x ∧ x ≤ 1000) (hy : -1000 ≤ y ∧ y ≤ 1000) (hb : 0 ≤ b ∧ b ≤ 200) :
    Calls Tryz.prog 77 #[.agg #[.int .i64 f.shape, .int .i64 f.size, .int .i64 f.height, .slice A f.items.length c], .int .i64 x, .int .i64 y, .int .i64 b] w fun e w' => e = .returned (.bool (midB f x y b)) ∧ Below w.heap.size w w' := by
  have hs : 1 ≤ f.shape ∧ f.shape ≤ 6 := by simp only [fcB, Bool.and_eq_true, decide_eq_true_eq] at hf; exact hf.1.1.1.1
  rcases (show f.shape = 1 ∨ f.shape = 2 ∨ f.shape = 3 ∨ f.shape = 4 ∨ f.shape = 5 ∨ f.shape = 6 by omega) with h | h | h | h | h | h
  · exact rmid_1 f A c x y b w hf hx hy hb h
  · exact rmid_2 f A c x y b w hf hx hy hb h
  · exact rmid_3 f A c x y b w hf hx hy hb h
  · exact rmid_4 f A c x y b w hf hx hy hb h
  · exact rmid_5 f A c x y b w hf hx hy hb h
  · exact rmid_6 f A c x y b w hf hx hy hb h


set_option maxHeartbeats 4000000 in
set_option maxRecDepth 100000 in
theorem rpaints_1 (f : Fc) (A : Option Addr) (c : Nat) (x : It) (i j : Int) (w : World) (hf : fcB f = true) (hi : 0 ≤ i ∧ i < f.size) (hj : 0 ≤ j ∧ j < heiF f) (hx : itB x = true) (hk : x.kind = 1) :
    Calls Tryz.prog 57 #[.agg #[.int .i64 f.shape, .int .i64 f.size, .int .i64 f.height, .slice A f.items.length c], .agg #[.int .i64 x.kind, .int .i64 x.colour, .int .i64 x.left, .int .i64 x.low, .int .i64 x.a, .int .i64 x.b, .string (SB x.text)], .int .i64 i, .int .i64 j] w fun e w' =>
      e = .returned (.bool (paintB f x i j)) ∧ Below w.heap.size w w' := by
  have hp : paintB f x i j = (true) := by
    unfold paintB
    rw [if_pos hk]
  have HP := hid hp
  obtain ⟨l0, l1, o0, o1, a0, a1, b0, b1⟩ := it_numbers hx
  obtain ⟨s0, s1⟩ := size_bounds hf
  obtain ⟨h0, h1⟩ := heiF_bounds hf
  obtain ⟨i0, i1⟩ := hi
  obtain ⟨j0, j1⟩ := hj
  have HRE := hid (fun W => rextent_calls f A c W (by omega) (by omega))
  rw [hk]
  clear hp hf hx hk
  go_enter Tryz.func57, Tryz.ntmps57
  go_wp2_with fail
  obtain ⟨W, hW⟩ : ∃ W, W = (w.alloc (.cells #[.int .i64 f.shape, .int .i64 f.size, .int .i64 f.height, .slice A f.items.length c] 60)).alloc (.cells #[.int .i64 1, .int .i64 x.colour, .int .i64 x.left, .int .i64 x.low, .int .i64 x.a, .int .i64 x.b, .string (SB x.text)] 96) := ⟨_, rfl⟩
  have g1 : ∀ n, W.cell? ⟨w.heap.size, n, none⟩ = #[Value.int .i64 f.shape, .int .i64 f.size, .int .i64 f.height, .slice A f.items.length c][n]? := fun n => by rw [hW, World.cell?_alloc_lt _ _ ⟨w.heap.size, n, none⟩ (by simp), World.cell?_alloc_new]
  have g2 : ∀ n, W.cell? ⟨w.heap.size + 1, n, none⟩ = #[Value.int .i64 1, .int .i64 x.colour, .int .i64 x.left, .int .i64 x.low, .int .i64 x.a, .int .i64 x.b, .string (SB x.text)][n]? := fun n => by
    have e : (w.alloc (.cells #[.int .i64 f.shape, .int .i64 f.size, .int .i64 f.height, .slice A f.items.length c] 60)).heap.size = w.heap.size + 1 := by simp
    rw [hW, ← e, World.cell?_alloc_new]
  have hsz : w.heap.size + 1 < W.heap.size := by rw [hW]; simp
  have hbw : Below w.heap.size w W := by rw [hW]; exact below_alloc' (below_alloc _ _) _
  rw [← hW]
  clear hW
  refine ((unhid HRE) _).mono ?_
  rintro e w1 ⟨rfl, hb1⟩
  have HB1 := hid (hbw.trans (hb1.mono hbw.size))
  have d0 := (hb1.cell (p := ⟨w.heap.size + 1, 0, none⟩) (by dsimp only; omega)).trans (g2 0)
  have d1 := (hb1.cell (p := ⟨w.heap.size + 1, 1, none⟩) (by dsimp only; omega)).trans (g2 1)
  have d2 := (hb1.cell (p := ⟨w.heap.size + 1, 2, none⟩) (by dsimp only; omega)).trans (g2 2)
  have d3 := (hb1.cell (p := ⟨w.heap.size + 1, 3, none⟩) (by dsimp only; omega)).trans (g2 3)
  have d4 := (hb1.cell (p := ⟨w.heap.size + 1, 4, none⟩) (by dsimp only; omega)).trans (g2 4)
  have d5 := (hb1.cell (p := ⟨w.heap.size + 1, 5, none⟩) (by dsimp only; omega)).trans (g2 5)
  have d6 := (hb1.cell (p := ⟨w.heap.size + 1, 6, none⟩) (by dsimp only; omega)).trans (g2 6)
  simp at  d0 d1 d2 d3 d4 d5 d6
  clear hb1 hbw g1 g2
  go_wp2_with fail
  go_ret
  exact ⟨retE (unhid HP), unhid HB1⟩

set_option maxHeartbeats 4000000 in
set_option maxRecDepth 100000 in
theorem rpaints_2 (f : Fc) (A : Option Addr) (c : Nat) (x : It) (i j : Int) (w : World) (hf : fcB f = true) (hi : 0 ≤ i ∧ i < f.size) (hj : 0 ≤ j ∧ j < heiF f) (hx : itB x = true) (hk : x.kind = 2) :
    Calls Tryz.prog 57 #[.agg #[.int .i64 f.shape, .int .i64 f.size, .int .i64 f.height, .slice A f.items.length c], .agg #[.int .i64 x.kind, .int .i64 x.colour, .int .i64 x.left, .int .i64 x.low, .int .i64 x.a, .int .i64 x.b, .string (SB x.text)], .int .i64 i, .int .i64 j] w fun e w' =>
      e = .returned (.bool (paintB f x i j)) ∧ Below w.heap.size w w' := by
  have hp : paintB f x i j = (!midB f (2 * i + 1 - f.size) (2 * j + 1 - heiF f) x.a) := by
    unfold paintB
    rw [if_neg (by omega), if_pos hk]
  have HP := hid hp
  obtain ⟨l0, l1, o0, o1, a0, a1, b0, b1⟩ := it_numbers hx
  obtain ⟨s0, s1⟩ := size_bounds hf
  obtain ⟨h0, h1⟩ := heiF_bounds hf
  obtain ⟨i0, i1⟩ := hi
  obtain ⟨j0, j1⟩ := hj
  have HRE := hid (fun W => rextent_calls f A c W (by omega) (by omega))
  have HMI := hid (fun W => rmid_calls f A c (2 * i + 1 - f.size) (2 * j + 1 - heiF f) x.a W hf (by omega) (by omega) (by omega))
  rw [hk]
  clear hp hf hx hk
  go_enter Tryz.func57, Tryz.ntmps57
  go_wp2_with fail
  obtain ⟨W, hW⟩ : ∃ W, W = (w.alloc (.cells #[.int .i64 f.shape, .int .i64 f.size, .int .i64 f.height, .slice A f.items.length c] 60)).alloc (.cells #[.int .i64 2, .int .i64 x.colour, .int .i64 x.left, .int .i64 x.low, .int .i64 x.a, .int .i64 x.b, .string (SB x.text)] 96) := ⟨_, rfl⟩
  have g1 : ∀ n, W.cell? ⟨w.heap.size, n, none⟩ = #[Value.int .i64 f.shape, .int .i64 f.size, .int .i64 f.height, .slice A f.items.length c][n]? := fun n => by rw [hW, World.cell?_alloc_lt _ _ ⟨w.heap.size, n, none⟩ (by simp), World.cell?_alloc_new]
  have g2 : ∀ n, W.cell? ⟨w.heap.size + 1, n, none⟩ = #[Value.int .i64 2, .int .i64 x.colour, .int .i64 x.left, .int .i64 x.low, .int .i64 x.a, .int .i64 x.b, .string (SB x.text)][n]? := fun n => by
    have e : (w.alloc (.cells #[.int .i64 f.shape, .int .i64 f.size, .int .i64 f.height, .slice A f.items.length c] 60)).heap.size = w.heap.size + 1 := by simp
    rw [hW, ← e, World.cell?_alloc_new]
  have hsz : w.heap.size + 1 < W.heap.size := by rw [hW]; simp
  have hbw : Below w.heap.size w W := by rw [hW]; exact below_alloc' (below_alloc _ _) _
  rw [← hW]
  clear hW
  refine ((unhid HRE) _).mono ?_
  rintro e w1 ⟨rfl, hb1⟩
  have HB1 := hid (hbw.trans (hb1.mono hbw.size))
  have c0 := (hb1.cell (p := ⟨w.heap.size, 0, none⟩) (by dsimp only; omega)).trans (g1 0)
  have c1 := (hb1.cell (p := ⟨w.heap.size, 1, none⟩) (by dsimp only; omega)).trans (g1 1)
  have c2 := (hb1.cell (p := ⟨w.heap.size, 2, none⟩) (by dsimp only; omega)).trans (g1 2)
  have c3 := (hb1.cell (p := ⟨w.heap.size, 3, none⟩) (by dsimp only; omega)).trans (g1 3)
  have d0 := (hb1.cell (p := ⟨w.heap.size + 1, 0, none⟩) (by dsimp only; omega)).trans (g2 0)
  have d1 := (hb1.cell (p := ⟨w.heap.size + 1, 1, none⟩) (by dsimp only; omega)).trans (g2 1)
  have d2 := (hb1.cell (p := ⟨w.heap.size + 1, 2, none⟩) (by dsimp only; omega)).trans (g2 2)
  have d3 := (hb1.cell (p := ⟨w.heap.size + 1, 3, none⟩) (by dsimp only; omega)).trans (g2 3)
  have d4 := (hb1.cell (p := ⟨w.heap.size + 1, 4, none⟩) (by dsimp only; omega)).trans (g2 4)
  have d5 := (hb1.cell (p := ⟨w.heap.size + 1, 5, none⟩) (by dsimp only; omega)).trans (g2 5)
  have d6 := (hb1.cell (p := ⟨w.heap.size + 1, 6, none⟩) (by dsimp only; omega)).trans (g2 6)
  simp at c0 c1 c2 c3 d0 d1 d2 d3 d4 d5 d6
  clear hb1 hbw g1 g2
  go_wp2_with fail
  refine ((unhid HMI) _).mono ?_
  rintro e w2 ⟨rfl, hb2⟩
  have HB2 := hid ((unhid HB1).trans (hb2.mono (unhid HB1).size))
  generalize midB f (2 * i + 1 - f.size) (2 * j + 1 - heiF f) x.a = q at HP
  go_wp2_with fail
  go_ret
  exact ⟨retE (unhid HP), unhid HB2⟩

set_option maxHeartbeats 4000000 in
set_option maxRecDepth 100000 in
theorem rpaints_3 (f : Fc) (A : Option Addr) (c : Nat) (x : It) (i j : Int) (w : World) (hf : fcB f = true) (hi : 0 ≤ i ∧ i < f.size) (hj : 0 ≤ j ∧ j < heiF f) (hx : itB x = true) (hk : x.kind = 3) :
    Calls Tryz.prog 57 #[.agg #[.int .i64 f.shape, .int .i64 f.size, .int .i64 f.height, .slice A f.items.length c], .agg #[.int .i64 x.kind, .int .i64 x.colour, .int .i64 x.left, .int .i64 x.low, .int .i64 x.a, .int .i64 x.b, .string (SB x.text)], .int .i64 i, .int .i64 j] w fun e w' =>
      e = .returned (.bool (paintB f x i j)) ∧ Below w.heap.size w w' := by
  have hp : paintB f x i j = (decide (x.left ≤ i) && decide (i < x.left + x.a) && decide (x.low ≤ j) && decide (j < x.low + x.b)) := by
    unfold paintB
    rw [if_neg (by omega), if_neg (by omega), if_pos hk]
    simp only [Bool.decide_and, Bool.and_assoc]
  have HP := hid hp
  obtain ⟨l0, l1, o0, o1, a0, a1, b0, b1⟩ := it_numbers hx
  obtain ⟨s0, s1⟩ := size_bounds hf
  obtain ⟨h0, h1⟩ := heiF_bounds hf
  obtain ⟨i0, i1⟩ := hi
  obtain ⟨j0, j1⟩ := hj
  have HRE := hid (fun W => rextent_calls f A c W (by omega) (by omega))
  rw [hk]
  clear hp hf hx hk
  go_enter Tryz.func57, Tryz.ntmps57
  go_wp2_with fail
  obtain ⟨W, hW⟩ : ∃ W, W = (w.alloc (.cells #[.int .i64 f.shape, .int .i64 f.size, .int .i64 f.height, .slice A f.items.length c] 60)).alloc (.cells #[.int .i64 3, .int .i64 x.colour, .int .i64 x.left, .int .i64 x.low, .int .i64 x.a, .int .i64 x.b, .string (SB x.text)] 96) := ⟨_, rfl⟩
  have g1 : ∀ n, W.cell? ⟨w.heap.size, n, none⟩ = #[Value.int .i64 f.shape, .int .i64 f.size, .int .i64 f.height, .slice A f.items.length c][n]? := fun n => by rw [hW, World.cell?_alloc_lt _ _ ⟨w.heap.size, n, none⟩ (by simp), World.cell?_alloc_new]
  have g2 : ∀ n, W.cell? ⟨w.heap.size + 1, n, none⟩ = #[Value.int .i64 3, .int .i64 x.colour, .int .i64 x.left, .int .i64 x.low, .int .i64 x.a, .int .i64 x.b, .string (SB x.text)][n]? := fun n => by
    have e : (w.alloc (.cells #[.int .i64 f.shape, .int .i64 f.size, .int .i64 f.height, .slice A f.items.length c] 60)).heap.size = w.heap.size + 1 := by simp
    rw [hW, ← e, World.cell?_alloc_new]
  have hsz : w.heap.size + 1 < W.heap.size := by rw [hW]; simp
  have hbw : Below w.heap.size w W := by rw [hW]; exact below_alloc' (below_alloc _ _) _
  rw [← hW]
  clear hW
  refine ((unhid HRE) _).mono ?_
  rintro e w1 ⟨rfl, hb1⟩
  have HB1 := hid (hbw.trans (hb1.mono hbw.size))
  have d0 := (hb1.cell (p := ⟨w.heap.size + 1, 0, none⟩) (by dsimp only; omega)).trans (g2 0)
  have d1 := (hb1.cell (p := ⟨w.heap.size + 1, 1, none⟩) (by dsimp only; omega)).trans (g2 1)
  have d2 := (hb1.cell (p := ⟨w.heap.size + 1, 2, none⟩) (by dsimp only; omega)).trans (g2 2)
  have d3 := (hb1.cell (p := ⟨w.heap.size + 1, 3, none⟩) (by dsimp only; omega)).trans (g2 3)
  have d4 := (hb1.cell (p := ⟨w.heap.size + 1, 4, none⟩) (by dsimp only; omega)).trans (g2 4)
  have d5 := (hb1.cell (p := ⟨w.heap.size + 1, 5, none⟩) (by dsimp only; omega)).trans (g2 5)
  have d6 := (hb1.cell (p := ⟨w.heap.size + 1, 6, none⟩) (by dsimp only; omega)).trans (g2 6)
  simp at  d0 d1 d2 d3 d4 d5 d6
  clear hb1 hbw g1 g2
  go_wp2_with fail
  all_goals
    go_ret
    refine ⟨retE ?_, unhid HB1⟩
    rw [unhid HP]
    go_light
    first | (simp_all; done) | (simp_all; omega)

set_option maxHeartbeats 4000000 in
set_option maxRecDepth 100000 in
theorem rpaints_4 (f : Fc) (A : Option Addr) (c : Nat) (x : It) (i j : Int) (w : World) (hf : fcB f = true) (hi : 0 ≤ i ∧ i < f.size) (hj : 0 ≤ j ∧ j < heiF f) (hx : itB x = true) (hk : x.kind = 4) :
    Calls Tryz.prog 57 #[.agg #[.int .i64 f.shape, .int .i64 f.size, .int .i64 f.height, .slice A f.items.length c], .agg #[.int .i64 x.kind, .int .i64 x.colour, .int .i64 x.left, .int .i64 x.low, .int .i64 x.a, .int .i64 x.b, .string (SB x.text)], .int .i64 i, .int .i64 j] w fun e w' =>
      e = .returned (.bool (paintB f x i j)) ∧ Below w.heap.size w w' := by
  have hp : paintB f x i j = (decide ((2 * (i - x.left) + 1 - x.a) * (2 * (i - x.left) + 1 - x.a) + (2 * (j - x.low) + 1 - x.a) * (2 * (j - x.low) + 1 - x.a) ≤ x.a * x.a)) := by
    unfold paintB
    rw [if_neg (by omega), if_neg (by omega), if_neg (by omega), if_pos hk]
  have HP := hid hp
  obtain ⟨l0, l1, o0, o1, a0, a1, b0, b1⟩ := it_numbers hx
  obtain ⟨s0, s1⟩ := size_bounds hf
  obtain ⟨h0, h1⟩ := heiF_bounds hf
  obtain ⟨i0, i1⟩ := hi
  obtain ⟨j0, j1⟩ := hj
  have HRE := hid (fun W => rextent_calls f A c W (by omega) (by omega))
  rw [hk]
  clear hp hf hx hk
  have mu := mul_bd (a := (2 * (i - x.left) + 1 - x.a)) (b := (2 * (i - x.left) + 1 - x.a)) (A := 2000) (B := 2000) (by omega) (by omega) (by omega) (by omega)
  obtain ⟨mu1, mu2⟩ := mu
  have mv := mul_bd (a := (2 * (j - x.low) + 1 - x.a)) (b := (2 * (j - x.low) + 1 - x.a)) (A := 2000) (B := 2000) (by omega) (by omega) (by omega) (by omega)
  obtain ⟨mv1, mv2⟩ := mv
  have ma := mul_bd (a := x.a) (b := x.a) (A := 2000) (B := 2000) (by omega) (by omega) (by omega) (by omega)
  obtain ⟨ma1, ma2⟩ := ma
  obtain ⟨e1, e1'⟩ := w64 (n := i - x.left) (by omega) (by omega)
  obtain ⟨e2, e2'⟩ := w64 (n := 2 * (i - x.left)) (by omega) (by omega)
  obtain ⟨e3, e3'⟩ := w64 (n := 2 * (i - x.left) + 1) (by omega) (by omega)
  obtain ⟨e4, e4'⟩ := w64 (n := (2 * (i - x.left) + 1 - x.a)) (by omega) (by omega)
  obtain ⟨e5, e5'⟩ := w64 (n := j - x.low) (by omega) (by omega)
  obtain ⟨e6, e6'⟩ := w64 (n := 2 * (j - x.low)) (by omega) (by omega)
  obtain ⟨e7, e7'⟩ := w64 (n := 2 * (j - x.low) + 1) (by omega) (by omega)
  obtain ⟨e8, e8'⟩ := w64 (n := (2 * (j - x.low) + 1 - x.a)) (by omega) (by omega)
  obtain ⟨e9, e9'⟩ := w64 (n := (2 * (i - x.left) + 1 - x.a) * (2 * (i - x.left) + 1 - x.a)) (by omega) (by omega)
  obtain ⟨e10, e10'⟩ := w64 (n := (2 * (j - x.low) + 1 - x.a) * (2 * (j - x.low) + 1 - x.a)) (by omega) (by omega)
  obtain ⟨e11, e11'⟩ := w64 (n := x.a * x.a) (by omega) (by omega)
  obtain ⟨e12, e12'⟩ := w64 (n := (2 * (i - x.left) + 1 - x.a) * (2 * (i - x.left) + 1 - x.a) + (2 * (j - x.low) + 1 - x.a) * (2 * (j - x.low) + 1 - x.a)) (by omega) (by omega)
  go_enter Tryz.func57, Tryz.ntmps57
  go_wp2_with fail
  obtain ⟨W, hW⟩ : ∃ W, W = (w.alloc (.cells #[.int .i64 f.shape, .int .i64 f.size, .int .i64 f.height, .slice A f.items.length c] 60)).alloc (.cells #[.int .i64 4, .int .i64 x.colour, .int .i64 x.left, .int .i64 x.low, .int .i64 x.a, .int .i64 x.b, .string (SB x.text)] 96) := ⟨_, rfl⟩
  have g1 : ∀ n, W.cell? ⟨w.heap.size, n, none⟩ = #[Value.int .i64 f.shape, .int .i64 f.size, .int .i64 f.height, .slice A f.items.length c][n]? := fun n => by rw [hW, World.cell?_alloc_lt _ _ ⟨w.heap.size, n, none⟩ (by simp), World.cell?_alloc_new]
  have g2 : ∀ n, W.cell? ⟨w.heap.size + 1, n, none⟩ = #[Value.int .i64 4, .int .i64 x.colour, .int .i64 x.left, .int .i64 x.low, .int .i64 x.a, .int .i64 x.b, .string (SB x.text)][n]? := fun n => by
    have e : (w.alloc (.cells #[.int .i64 f.shape, .int .i64 f.size, .int .i64 f.height, .slice A f.items.length c] 60)).heap.size = w.heap.size + 1 := by simp
    rw [hW, ← e, World.cell?_alloc_new]
  have hsz : w.heap.size + 1 < W.heap.size := by rw [hW]; simp
  have hbw : Below w.heap.size w W := by rw [hW]; exact below_alloc' (below_alloc _ _) _
  rw [← hW]
  clear hW
  refine ((unhid HRE) _).mono ?_
  rintro e w1 ⟨rfl, hb1⟩
  have HB1 := hid (hbw.trans (hb1.mono hbw.size))
  have d0 := (hb1.cell (p := ⟨w.heap.size + 1, 0, none⟩) (by dsimp only; omega)).trans (g2 0)
  have d1 := (hb1.cell (p := ⟨w.heap.size + 1, 1, none⟩) (by dsimp only; omega)).trans (g2 1)
  have d2 := (hb1.cell (p := ⟨w.heap.size + 1, 2, none⟩) (by dsimp only; omega)).trans (g2 2)
  have d3 := (hb1.cell (p := ⟨w.heap.size + 1, 3, none⟩) (by dsimp only; omega)).trans (g2 3)
  have d4 := (hb1.cell (p := ⟨w.heap.size + 1, 4, none⟩) (by dsimp only; omega)).trans (g2 4)
  have d5 := (hb1.cell (p := ⟨w.heap.size + 1, 5, none⟩) (by dsimp only; omega)).trans (g2 5)
  have d6 := (hb1.cell (p := ⟨w.heap.size + 1, 6, none⟩) (by dsimp only; omega)).trans (g2 6)
  simp at  d0 d1 d2 d3 d4 d5 d6
  clear hb1 hbw g1 g2
  go_wp2_with fail
  go_quiet (fail)
  go_wp2_with fail
  go_ret
  exact ⟨retE (by rw [unhid HP]), below_drewN' (unhid HB1) _⟩

set_option maxHeartbeats 4000000 in
set_option maxRecDepth 100000 in
theorem rpaints_5 (f : Fc) (A : Option Addr) (c : Nat) (x : It) (i j : Int) (w : World) (hf : fcB f = true) (hi : 0 ≤ i ∧ i < f.size) (hj : 0 ≤ j ∧ j < heiF f) (hx : itB x = true) (hk : x.kind = 5) :
    Calls Tryz.prog 57 #[.agg #[.int .i64 f.shape, .int .i64 f.size, .int .i64 f.height, .slice A f.items.length c], .agg #[.int .i64 x.kind, .int .i64 x.colour, .int .i64 x.left, .int .i64 x.low, .int .i64 x.a, .int .i64 x.b, .string (SB x.text)], .int .i64 i, .int .i64 j] w fun e w' =>
      e = .returned (.bool (paintB f x i j)) ∧ Below w.heap.size w w' := by
  have hp : paintB f x i j = (decide (2 * absI ((2 * i + 1 - f.size) * heiF f - (2 * j + 1 - heiF f) * f.size) ≤ x.a * (f.size + heiF f))) := by
    unfold paintB
    rw [if_neg (by omega), if_neg (by omega), if_neg (by omega), if_neg (by omega), if_pos hk]
  have HP := hid hp
  obtain ⟨l0, l1, o0, o1, a0, a1, b0, b1⟩ := it_numbers hx
  obtain ⟨s0, s1⟩ := size_bounds hf
  obtain ⟨h0, h1⟩ := heiF_bounds hf
  obtain ⟨i0, i1⟩ := hi
  obtain ⟨j0, j1⟩ := hj
  have HRE := hid (fun W => rextent_calls f A c W (by omega) (by omega))
  rw [hk]
  clear hp hf hx hk
  have mu := mul_bd (a := (2 * i + 1 - f.size)) (b := heiF f) (A := 2000) (B := 2000) (by omega) (by omega) (by omega) (by omega)
  obtain ⟨mu1, mu2⟩ := mu
  have mv := mul_bd (a := (2 * j + 1 - heiF f)) (b := f.size) (A := 2000) (B := 2000) (by omega) (by omega) (by omega) (by omega)
  obtain ⟨mv1, mv2⟩ := mv
  have ma := mul_bd (a := x.a) (b := f.size + heiF f) (A := 2000) (B := 2000) (by omega) (by omega) (by omega) (by omega)
  obtain ⟨ma1, ma2⟩ := ma
  obtain ⟨ab1, ab2⟩ := absI_bd (n := (2 * i + 1 - f.size) * heiF f - (2 * j + 1 - heiF f) * f.size) (A := 8000000) (by omega) (by omega)
  obtain ⟨e1, e1'⟩ := w64 (n := (2 * i + 1 - f.size) * heiF f) (by omega) (by omega)
  obtain ⟨e2, e2'⟩ := w64 (n := (2 * j + 1 - heiF f) * f.size) (by omega) (by omega)
  obtain ⟨e3, e3'⟩ := w64 (n := (2 * i + 1 - f.size) * heiF f - (2 * j + 1 - heiF f) * f.size) (by omega) (by omega)
  obtain ⟨e4, e4'⟩ := w64 (n := 2 * absI ((2 * i + 1 - f.size) * heiF f - (2 * j + 1 - heiF f) * f.size)) (by omega) (by omega)
  obtain ⟨e5, e5'⟩ := w64 (n := f.size + heiF f) (by omega) (by omega)
  obtain ⟨e6, e6'⟩ := w64 (n := x.a * (f.size + heiF f)) (by omega) (by omega)
  go_enter Tryz.func57, Tryz.ntmps57
  go_wp2_with fail
  obtain ⟨W, hW⟩ : ∃ W, W = (w.alloc (.cells #[.int .i64 f.shape, .int .i64 f.size, .int .i64 f.height, .slice A f.items.length c] 60)).alloc (.cells #[.int .i64 5, .int .i64 x.colour, .int .i64 x.left, .int .i64 x.low, .int .i64 x.a, .int .i64 x.b, .string (SB x.text)] 96) := ⟨_, rfl⟩
  have g1 : ∀ n, W.cell? ⟨w.heap.size, n, none⟩ = #[Value.int .i64 f.shape, .int .i64 f.size, .int .i64 f.height, .slice A f.items.length c][n]? := fun n => by rw [hW, World.cell?_alloc_lt _ _ ⟨w.heap.size, n, none⟩ (by simp), World.cell?_alloc_new]
  have g2 : ∀ n, W.cell? ⟨w.heap.size + 1, n, none⟩ = #[Value.int .i64 5, .int .i64 x.colour, .int .i64 x.left, .int .i64 x.low, .int .i64 x.a, .int .i64 x.b, .string (SB x.text)][n]? := fun n => by
    have e : (w.alloc (.cells #[.int .i64 f.shape, .int .i64 f.size, .int .i64 f.height, .slice A f.items.length c] 60)).heap.size = w.heap.size + 1 := by simp
    rw [hW, ← e, World.cell?_alloc_new]
  have hsz : w.heap.size + 1 < W.heap.size := by rw [hW]; simp
  have hbw : Below w.heap.size w W := by rw [hW]; exact below_alloc' (below_alloc _ _) _
  rw [← hW]
  clear hW
  refine ((unhid HRE) _).mono ?_
  rintro e w1 ⟨rfl, hb1⟩
  have HB1 := hid (hbw.trans (hb1.mono hbw.size))
  have d0 := (hb1.cell (p := ⟨w.heap.size + 1, 0, none⟩) (by dsimp only; omega)).trans (g2 0)
  have d1 := (hb1.cell (p := ⟨w.heap.size + 1, 1, none⟩) (by dsimp only; omega)).trans (g2 1)
  have d2 := (hb1.cell (p := ⟨w.heap.size + 1, 2, none⟩) (by dsimp only; omega)).trans (g2 2)
  have d3 := (hb1.cell (p := ⟨w.heap.size + 1, 3, none⟩) (by dsimp only; omega)).trans (g2 3)
  have d4 := (hb1.cell (p := ⟨w.heap.size + 1, 4, none⟩) (by dsimp only; omega)).trans (g2 4)
  have d5 := (hb1.cell (p := ⟨w.heap.size + 1, 5, none⟩) (by dsimp only; omega)).trans (g2 5)
  have d6 := (hb1.cell (p := ⟨w.heap.size + 1, 6, none⟩) (by dsimp only; omega)).trans (g2 6)
  simp at  d0 d1 d2 d3 d4 d5 d6
  clear hb1 hbw g1 g2
  go_wp2_with fail
  go_quiet ((go_at_call 76; exact rabs_q _ _ _ (by omega) (by omega)))
  go_wp2_with fail
  go_ret
  exact ⟨retE (by rw [unhid HP]), below_drewN' (unhid HB1) _⟩

set_option maxHeartbeats 4000000 in
set_option maxRecDepth 100000 in
theorem rpaints_6 (f : Fc) (A : Option Addr) (c : Nat) (x : It) (i j : Int) (w : World) (hf : fcB f = true) (hi : 0 ≤ i ∧ i < f.size) (hj : 0 ≤ j ∧ j < heiF f) (hx : itB x = true) (hk : x.kind = 6) :
    Calls Tryz.prog 57 #[.agg #[.int .i64 f.shape, .int .i64 f.size, .int .i64 f.height, .slice A f.items.length c], .agg #[.int .i64 x.kind, .int .i64 x.colour, .int .i64 x.left, .int .i64 x.low, .int .i64 x.a, .int .i64 x.b, .string (SB x.text)], .int .i64 i, .int .i64 j] w fun e w' =>
      e = .returned (.bool (paintB f x i j)) ∧ Below w.heap.size w w' := by
  have hp : paintB f x i j = (inkB x i j) := by
    unfold paintB
    rw [if_neg (by omega), if_neg (by omega), if_neg (by omega), if_neg (by omega), if_neg (by omega)]
  have HP := hid hp
  obtain ⟨l0, l1, o0, o1, a0, a1, b0, b1⟩ := it_numbers hx
  obtain ⟨s0, s1⟩ := size_bounds hf
  obtain ⟨h0, h1⟩ := heiF_bounds hf
  obtain ⟨i0, i1⟩ := hi
  obtain ⟨j0, j1⟩ := hj
  have HRE := hid (fun W => rextent_calls f A c W (by omega) (by omega))
  have HIN := hid (fun W => rinked_calls x i j W hx hk (by omega) (by omega))
  rw [hk] at HIN ⊢
  clear hp hf hx hk
  go_enter Tryz.func57, Tryz.ntmps57
  go_wp2_with fail
  obtain ⟨W, hW⟩ : ∃ W, W = (w.alloc (.cells #[.int .i64 f.shape, .int .i64 f.size, .int .i64 f.height, .slice A f.items.length c] 60)).alloc (.cells #[.int .i64 6, .int .i64 x.colour, .int .i64 x.left, .int .i64 x.low, .int .i64 x.a, .int .i64 x.b, .string (SB x.text)] 96) := ⟨_, rfl⟩
  have g1 : ∀ n, W.cell? ⟨w.heap.size, n, none⟩ = #[Value.int .i64 f.shape, .int .i64 f.size, .int .i64 f.height, .slice A f.items.length c][n]? := fun n => by rw [hW, World.cell?_alloc_lt _ _ ⟨w.heap.size, n, none⟩ (by simp), World.cell?_alloc_new]
  have g2 : ∀ n, W.cell? ⟨w.heap.size + 1, n, none⟩ = #[Value.int .i64 6, .int .i64 x.colour, .int .i64 x.left, .int .i64 x.low, .int .i64 x.a, .int .i64 x.b, .string (SB x.text)][n]? := fun n => by
    have e : (w.alloc (.cells #[.int .i64 f.shape, .int .i64 f.size, .int .i64 f.height, .slice A f.items.length c] 60)).heap.size = w.heap.size + 1 := by simp
    rw [hW, ← e, World.cell?_alloc_new]
  have hsz : w.heap.size + 1 < W.heap.size := by rw [hW]; simp
  have hbw : Below w.heap.size w W := by rw [hW]; exact below_alloc' (below_alloc _ _) _
  rw [← hW]
  clear hW
  refine ((unhid HRE) _).mono ?_
  rintro e w1 ⟨rfl, hb1⟩
  have HB1 := hid (hbw.trans (hb1.mono hbw.size))
  have d0 := (hb1.cell (p := ⟨w.heap.size + 1, 0, none⟩) (by dsimp only; omega)).trans (g2 0)
  have d1 := (hb1.cell (p := ⟨w.heap.size + 1, 1, none⟩) (by dsimp only; omega)).trans (g2 1)
  have d2 := (hb1.cell (p := ⟨w.heap.size + 1, 2, none⟩) (by dsimp only; omega)).trans (g2 2)
  have d3 := (hb1.cell (p := ⟨w.heap.size + 1, 3, none⟩) (by dsimp only; omega)).trans (g2 3)
  have d4 := (hb1.cell (p := ⟨w.heap.size + 1, 4, none⟩) (by dsimp only; omega)).trans (g2 4)
  have d5 := (hb1.cell (p := ⟨w.heap.size + 1, 5, none⟩) (by dsimp only; omega)).trans (g2 5)
  have d6 := (hb1.cell (p := ⟨w.heap.size + 1, 6, none⟩) (by dsimp only; omega)).trans (g2 6)
  simp at  d0 d1 d2 d3 d4 d5 d6
  clear hb1 hbw g1 g2
  go_wp2_with fail
  refine ((unhid HIN) _).mono ?_
  rintro e w2 ⟨rfl, hb2⟩
  have HB2 := hid ((unhid HB1).trans (hb2.mono (unhid HB1).size))
  generalize inkB x i j = q at HP
  go_wp2_with fail
  go_ret
  exact ⟨retE (unhid HP), unhid HB2⟩

theorem rpaints_calls (f : Fc) (A : Option Addr) (c : Nat) (x : It) (i j : Int) (w : World) (hf : fcB f = true) (hi : 0 ≤ i ∧ i < f.size) (hj : 0 ≤ j ∧ j < heiF f) (hx : itB x = true) :
    Calls Tryz.prog 57 #[.agg #[.int .i64 f.shape, .int .i64 f.size, .int .i64 f.height, .slice A f.items.length c], .agg #[.int .i64 x.kind, .int .i64 x.colour, .int .i64 x.left, .int .i64 x.low, .int .i64 x.a, .int .i64 x.b, .string (SB x.text)], .int .i64 i, .int .i64 j] w fun e w' =>
      e = .returned (.bool (paintB f x i j)) ∧ Below w.heap.size w w' := by
  obtain ⟨k1, k2, -⟩ := it_bounds hx
  rcases (show x.kind = 1 ∨ x.kind = 2 ∨ x.kind = 3 ∨ x.kind = 4 ∨ x.kind = 5 ∨ x.kind = 6 by omega) with h | h | h | h | h | h
  · exact rpaints_1 f A c x i j w hf hi hj hx h
  · exact rpaints_2 f A c x i j w hf hi hj hx h
  · exact rpaints_3 f A c x i j w hf hi hj hx h
  · exact rpaints_4 f A c x i j w hf hi hj hx h
  · exact rpaints_5 f A c x i j w hf hi hj hx h
  · exact rpaints_6 f A c x i j w hf hi hj hx h


theorem colK_part {f : Fc} (hf : fcB f = true) (i j : Int) (k : Nat) : (colK f i j k = 0 ∧ partB f (2 * i + 1 - f.size) (2 * j + 1 - heiF f) = false) ∨ (1 ≤ colK f i j k ∧ colK f i j k ≤ 9 ∧ partB f (2 * i + 1 - f.size) (2 * j + 1 - heiF f) = true) := by
  unfold colK
  cases hp : partB f (2 * i + 1 - f.size) (2 * j + 1 - heiF f) with
  | false => left; exact ⟨by rw [if_neg (by simp)], rfl⟩
  | true =>
    right
    rw [if_pos rfl]
    split
    · exact ⟨by omega, by omega, rfl⟩
    · split
      · rename_i x e
        have := it_bounds (items_valid hf x (List.mem_of_getElem? e))
        exact ⟨by omega, by omega, rfl⟩
      · exact ⟨by omega, by omega, rfl⟩
/-- The item that is seen at a dot of the box when k items are painted, or -1. -/
def ownK (f : Fc) (i j : Int) (k : Nat) : Int := if partB f (2 * i + 1 - f.size) (2 * j + 1 - heiF f) then topK (fun t => paintB f t i j) f.items k else -1
theorem ownK_bounds (f : Fc) (i j : Int) (k : Nat) : -1 ≤ ownK f i j k ∧ ownK f i j k < k ∨ ownK f i j k = -1 := by
  unfold ownK
  have := topK_bounds (fun t => paintB f t i j) f.items k
  split <;> omega
theorem colK_zero (f : Fc) (i j : Int) : colK f i j 0 = if partB f (2 * i + 1 - f.size) (2 * j + 1 - heiF f) then 9 else 0 := by
  unfold colK
  split
  · rw [if_pos (by simp [topK])]
  · rfl
theorem ownK_zero (f : Fc) (i j : Int) : ownK f i j 0 = -1 := by
  unfold ownK
  split <;> simp [topK]
theorem pix_hit {f : Fc} {i j : Int} {k : Nat} (hk : k < f.items.length) (hp : partB f (2 * i + 1 - f.size) (2 * j + 1 - heiF f) = true) (ht : paintB f f.items[k] i j = true) : colK f i j (k + 1) = f.items[k].colour ∧ ownK f i j (k + 1) = k := by
  have e := topK_hit (p := fun t => paintB f t i j) hk ht
  unfold colK ownK
  rw [if_pos hp, if_pos hp, e, if_neg (by omega)]
  simp [hk]
theorem pix_miss {f : Fc} {i j : Int} {k : Nat} (hk : k < f.items.length) (ht : paintB f f.items[k] i j = false) : colK f i j (k + 1) = colK f i j k ∧ ownK f i j (k + 1) = ownK f i j k := by
  have e := topK_miss (p := fun t => paintB f t i j) hk ht
  unfold colK ownK
  rw [e]
  exact ⟨rfl, rfl⟩
theorem pix_out {f : Fc} (i j : Int) (k k' : Nat) (hp : partB f (2 * i + 1 - f.size) (2 * j + 1 - heiF f) = false) : colK f i j k' = colK f i j k ∧ ownK f i j k' = ownK f i j k := by
  unfold colK ownK
  simp [hp]

/-- The dot n of the box, when k items are painted. -/
def dotK (f : Fc) (k : Nat) (n : Nat) : Int := colK f ((n % f.size.toNat : Nat) : Int) ((n / f.size.toNat : Nat) : Int) k
def ownN (f : Fc) (k : Nat) (n : Nat) : Int := ownK f ((n % f.size.toNat : Nat) : Int) ((n / f.size.toNat : Nat) : Int) k
def numD (f : Fc) : Nat := f.size.toNat * (heiF f).toNat
def dotL (f : Fc) (k : Nat) : List Int := (List.range (numD f)).map (dotK f k)
def ownL (f : Fc) (k : Nat) : List Int := (List.range (numD f)).map (ownN f k)
theorem dotL_len (f : Fc) (k : Nat) : (dotL f k).length = numD f := by simp [dotL]
theorem ownL_len (f : Fc) (k : Nat) : (ownL f k).length = numD f := by simp [ownL]
theorem numD_bounds {f : Fc} (h : fcB f = true) : 1 ≤ numD f ∧ numD f ≤ 40000 := by
  obtain ⟨s0, s1⟩ := size_bounds h
  obtain ⟨h0, h1⟩ := heiF_bounds h
  have e1 : 1 ≤ f.size.toNat ∧ f.size.toNat ≤ 200 := by omega
  have e2 : 1 ≤ (heiF f).toNat ∧ (heiF f).toNat ≤ 200 := by omega
  unfold numD
  exact ⟨Nat.mul_le_mul e1.1 e2.1, Nat.mul_le_mul e1.2 e2.2⟩
theorem pix_at {f : Fc} {i j : Nat} (hi : i < f.size.toNat) (hj : j < (heiF f).toNat) : j * f.size.toNat + i < numD f ∧ (j * f.size.toNat + i) % f.size.toNat = i ∧ (j * f.size.toNat + i) / f.size.toNat = j := by
  refine ⟨?_, ?_, ?_⟩
  · have h1 : j * f.size.toNat + f.size.toNat ≤ (heiF f).toNat * f.size.toNat := by
      rw [← Nat.succ_mul]; exact Nat.mul_le_mul_right _ hj
    have h2 : (heiF f).toNat * f.size.toNat = f.size.toNat * (heiF f).toNat := Nat.mul_comm _ _
    unfold numD
    omega
  · rw [Nat.add_comm, Nat.add_mul_mod_self_right, Nat.mod_eq_of_lt hi]
  · rw [Nat.add_comm, Nat.add_mul_div_right _ _ (by omega), Nat.div_eq_of_lt hi, Nat.zero_add]
theorem pix_in {f : Fc} {n : Nat} (hn : n < numD f) : n % f.size.toNat < f.size.toNat ∧ n / f.size.toNat < (heiF f).toNat := by
  have hp : 0 < f.size.toNat := by
    rcases Nat.eq_zero_or_pos f.size.toNat with h | h
    · unfold numD at hn; rw [h] at hn; omega
    · exact h
  exact ⟨Nat.mod_lt _ hp, Nat.div_lt_of_lt_mul (by unfold numD at hn; exact hn)⟩
theorem colI_dot {f : Fc} {i j : Nat} (hi : i < f.size.toNat) (hj : j < (heiF f).toNat) : dotK f f.items.length (j * f.size.toNat + i) = colI f i j := by
  obtain ⟨-, e1, e2⟩ := pix_at hi hj
  unfold dotK colI
  rw [e1, e2]
theorem own_dot {f : Fc} {i j : Nat} (hi : i < f.size.toNat) (hj : j < (heiF f).toNat) : ownN f f.items.length (j * f.size.toNat + i) = ownK f i j f.items.length := by
  obtain ⟨-, e1, e2⟩ := pix_at hi hj
  unfold ownN
  rw [e1, e2]
/-- The index of a dot, as numbers. -/
theorem pix_int {f : Fc} {i j : Int} (hi : 0 ≤ i ∧ i < f.size) (hj : 0 ≤ j ∧ j < heiF f) : ∃ n : Nat, n < numD f ∧ j * f.size + i = n ∧ dotK f f.items.length n = colI f i j ∧ ownN f f.items.length n = ownK f i j f.items.length := by
  obtain ⟨a, rfl⟩ := Int.eq_ofNat_of_zero_le hi.1
  obtain ⟨b, rfl⟩ := Int.eq_ofNat_of_zero_le hj.1
  have ha : a < f.size.toNat := by omega
  have hb : b < (heiF f).toNat := by omega
  refine ⟨b * f.size.toNat + a, (pix_at ha hb).1, ?_, colI_dot ha hb, own_dot ha hb⟩
  have : ((f.size.toNat : Nat) : Int) = f.size := by omega
  rw [Int.natCast_add, Int.natCast_mul, this]
theorem seen_own {f : Fc} (k : Nat) : seenF f k = true ↔ ∃ n, n < numD f ∧ ownN f f.items.length n = k := by
  simp only [seenF, decide_eq_true_eq]
  constructor
  · rintro ⟨i, j, h1, h2, h3, h4, hp, ht⟩
    obtain ⟨n, hn, -, -, ho⟩ := pix_int ⟨h1, h2⟩ ⟨h3, h4⟩
    refine ⟨n, hn, ?_⟩
    rw [ho, ownK, if_pos hp]
    exact ht
  · rintro ⟨n, hn, ho⟩
    obtain ⟨a, b⟩ := pix_in hn
    unfold ownN at ho
    generalize n % f.size.toNat = x at *
    generalize n / f.size.toNat = y at *
    unfold ownK at ho
    split at ho
    · rename_i hp
      exact ⟨(x : Int), (y : Int), Int.natCast_nonneg _, by omega, Int.natCast_nonneg _, by omega, hp, ho⟩
    · omega

open Classical in
/-- Two faces look the same. -/
noncomputable def lookB (f g : Fc) : Bool := decide (f.size = g.size ∧ heiF f = heiF g ∧ ∀ i j : Int, 0 ≤ i → i < f.size → 0 ≤ j → j < heiF f → colI f i j = colI g i j)
open Classical in
/-- A face is the same in a mirror. -/
noncomputable def mirB (f : Fc) : Bool := decide (∀ i j : Int, 0 ≤ i → i < f.size → 0 ≤ j → j < heiF f → colI f i j = colI f (f.size - 1 - i) j)


theorem info_i64d : (Tryz.prog.info? 3).map (fun i => (i.zero, i.size, i.bytes)) = some (some (.int .i64 0), 1, 8) := by kernel_rfl
theorem info_partsd {i : TypeId} {z : Value} {a b : Nat} (h : (Tryz.prog.info? i).map (fun i => (i.zero, i.size, i.bytes)) = some (some z, a, b)) : ∃ i0, Tryz.prog.info? i = some i0 ∧ i0.zero = some z ∧ i0.size = a ∧ i0.bytes = b := by
  cases hi : Tryz.prog.info? i with
  | none => rw [hi] at h; cases h
  | some i0 =>
    rw [hi] at h
    simp at h
    exact ⟨i0, rfl, h.1, h.2.1, h.2.2⟩
theorem own_belowd {w w' : World} {base e size n : Nat} {v : Value} {xs : List Value} (h : w.ownsRow base e size v n xs) (hb : Below w.heap.size w w') : w'.ownsRow base e size v n xs := by
  obtain ⟨h1, h2⟩ := h
  refine ⟨h1, ?_⟩
  rcases h2 with h2 | ⟨g, cap, cur, e1, e2, e3, e4⟩
  · exact .inl h2
  · exact .inr ⟨g, cap, cur, e1, e2, (hb.block g (Array.getElem?_eq_some_iff.1 e3).1).trans e3, e4⟩
theorem own_lt {w : World} {base e size n : Nat} {v : Value} {xs : List Value} (h : w.ownsRow base e size v n xs) {g : Nat} (hg : v.ownBlock = some g) : base ≤ g ∧ g < w.heap.size := by
  rcases h.2 with ⟨rfl, _⟩ | ⟨g', cap, cur, rfl, hb, hh, _⟩
  · cases hg
  · have : g' = g := by simpa [Value.ownBlock] using hg
    subst this
    exact ⟨hb, (Array.getElem?_eq_some_iff.1 hh).1⟩
theorem own_keep {w w' : World} {base e size n : Nat} {v v2 : Value} {xs : List Value} (h : w.ownsRow base e size v n xs) (hg : w.grownBy w' v2.ownBlock) (hs : ∀ g, v2.ownBlock = some g → v.ownBlock ≠ some g) : w'.ownsRow base e size v n xs := by
  refine h.kept hg ?_
  cases hvb : v.ownBlock with
  | none => exact .inl rfl
  | some g => exact .inr fun e => hs g e.symm hvb
/-- The row of a list of numbers, cell by cell. -/
theorem own_cell {w : World} {base e n g cap : Nat} {L : List Int} (h : w.ownsRow base e 1 (.slice (some ⟨g, 0, none⟩) n cap) n (ints L)) {k : Nat} {x : Int} (hk : L[k]? = some x) : w.cell? ⟨g, k, none⟩ = some (.int .i64 x) := by
  obtain ⟨A, c, hv, hr, -⟩ := own_slice h
  injection hv with e1 e2 e3
  subst e1 e3
  have hlt : k < L.length := (List.getElem?_eq_some_iff.1 hk).1
  obtain ⟨b, off, hA, hb, hc⟩ := hr (ints_ne hlt)
  injection hA with hA
  injection hA with h1 h2
  subst h1 h2
  have := hc k _ (ints_at L k hlt)
  rw [Nat.zero_add] at this
  rw [this]
  have : L[k] = x := (List.getElem?_eq_some_iff.1 hk).2
  rw [this]
theorem own_free {w : World} {base e n g cap size : Nat} {xs : List Value} (h : w.ownsRow base e size (.slice (some ⟨g, 0, none⟩) n cap) n xs) (k : Nat) : w.frozen? ⟨g, k, none⟩ = false := by
  rcases h.2 with ⟨hv, _⟩ | ⟨g', cap', cur, hv, hb, hh, _⟩
  · cases hv
  · injection hv with e1 e2 e3
    injection e1 with e1
    injection e1 with e1
    subst e1
    simp [World.frozen?, hh]
theorem own_set {w : World} {base e n g cap : Nat} {L : List Int} (h : w.ownsRow base e 1 (.slice (some ⟨g, 0, none⟩) n cap) n (ints L)) (k : Nat) (x : Int) : (w.setCell ⟨g, k, none⟩ (.int .i64 x)).ownsRow base e 1 (.slice (some ⟨g, 0, none⟩) n cap) n (ints (L.set k x)) := by
  obtain ⟨hlen, h2⟩ := h
  refine ⟨by simpa using hlen, ?_⟩
  rcases h2 with ⟨hv, _⟩ | ⟨g', cap', cur, hv, hb, hh, hnc, hcap, hcs, htk⟩
  · cases hv
  · injection hv with e1 e2 e3
    injection e1 with e1
    injection e1 with e1
    subst e1 e3
    refine .inr ⟨g, cap, cur.setIfInBounds k (.int .i64 x), rfl, hb, heap_setCell_same _ _ _ _ _ _ hh, hnc, hcap, by simpa using hcs, ?_⟩
    rw [Array.toList_setIfInBounds, Nat.mul_one, List.take_set, show cur.toList.take n = ints L by rw [← htk, Nat.mul_one]]
    simp [ints, List.map_set]
theorem own_other {w : World} {base e size n : Nat} {v : Value} {xs : List Value} (h : w.ownsRow base e size v n xs) {a : Addr} (ha : v.ownBlock ≠ some a.block) (u : Value) : (w.setCell a u).ownsRow base e size v n xs := by
  have hg : w.grownBy (w.setCell a u) (some a.block) := ⟨rfl, rfl, rfl, by simp, fun k _ hne => heap_setCell_other _ _ _ _ (fun e => hne (by rw [e]))⟩
  refine h.kept hg ?_
  cases hvb : v.ownBlock with
  | none => exact .inl rfl
  | some g => exact .inr fun e => ha (by rw [hvb, e])

/-- The picture of f in the making, in the block w1.heap.size. -/
structure PI (f : Fc) (w1 wr : World) (dv ov : Value) (L O : List Int) : Prop where
  bel : Below w1.heap.size w1 wr
  blk : wr.heap[w1.heap.size]? = some (.cells #[.int .i64 f.size, .int .i64 (heiF f), dv, ov] 62 (0, 0))
  od : wr.ownsRow (w1.heap.size + 1) 3 1 dv L.length (ints L)
  oo : wr.ownsRow (w1.heap.size + 1) 3 1 ov O.length (ints O)
  ne : ∀ g, dv.ownBlock = some g → ov.ownBlock ≠ some g
theorem PI.lt {f : Fc} {w1 wr : World} {dv ov : Value} {L O : List Int} (h : PI f w1 wr dv ov L O) : w1.heap.size < wr.heap.size := (Array.getElem?_eq_some_iff.1 h.blk).1
theorem PI.after {f : Fc} {w1 wr w' : World} {dv ov : Value} {L O : List Int} (h : PI f w1 wr dv ov L O) (hb : Below wr.heap.size wr w') : PI f w1 w' dv ov L O :=
  ⟨h.bel.trans (hb.mono h.bel.size), (hb.block _ h.lt).trans h.blk, own_belowd h.od hb, own_belowd h.oo hb, h.ne⟩
theorem PI.cells {f : Fc} {w1 wr : World} {dv ov : Value} {L O : List Int} (h : PI f w1 wr dv ov L O) :
    wr.cell? ⟨w1.heap.size, 2, none⟩ = some dv ∧ wr.cell? ⟨w1.heap.size, 3, none⟩ = some ov ∧ wr.frozen? ⟨w1.heap.size, 2, none⟩ = false ∧ wr.frozen? ⟨w1.heap.size, 3, none⟩ = false :=
  ⟨cell_of_row _ _ _ _ _ _ h.blk, cell_of_row _ _ _ _ _ _ h.blk, by simp [World.frozen?, h.blk], by simp [World.frozen?, h.blk]⟩
theorem PI.start (f : Fc) (w1 : World) : PI f w1 (w1.alloc (.cells #[.int .i64 f.size, .int .i64 (heiF f), .slice none 0 0, .slice none 0 0] 62)) (.slice none 0 0) (.slice none 0 0) [] [] :=
  ⟨below_alloc _ _, heap_alloc_new _ _, World.ownsRow_nil _ _ _ _, World.ownsRow_nil _ _ _ _, fun g h => by cases h⟩
theorem PI.pushD {f : Fc} {w1 wr w3 : World} {dv ov : Value} {L O : List Int} (h : PI f w1 wr dv ov L O) {g cap : Nat} {x : Int}
    (ho : w3.ownsRow (w1.heap.size + 1) 3 1 (.slice (some ⟨g, 0, none⟩) (L.length + 1) cap) (L.length + 1) (ints L ++ [.int .i64 x])) (hg : wr.grownBy w3 dv.ownBlock) (hat : dv.ownBlock = some g ∨ g = wr.heap.size) :
    PI f w1 (w3.setCell ⟨w1.heap.size, 2, none⟩ (.slice (some ⟨g, 0, none⟩) (L.length + 1) cap)) (.slice (some ⟨g, 0, none⟩) (L.length + 1) cap) ov (L ++ [x]) O := by
  have hlt := h.lt
  have hb3 : w3.heap[w1.heap.size]? = some (.cells #[.int .i64 f.size, .int .i64 (heiF f), dv, ov] 62 (0, 0)) :=
    (hg.block _ hlt (fun e => by have := (own_lt h.od e.symm).1; omega)).trans h.blk
  refine ⟨Below.setCell (Below.grown h.bel hg h.bel.size (fun i hi => by have := (own_lt h.od hi).1; omega)) (Nat.le_refl _) _, heap_setCell_same _ _ _ _ _ _ hb3, ?_, ?_, ?_⟩
  · rw [List.length_append, List.length_singleton, show ints (L ++ [x]) = ints L ++ [.int .i64 x] by simp [ints]]
    exact own_setCell ho (by dsimp only; omega) _
  · exact own_setCell (own_keep h.oo hg h.ne) (by dsimp only; omega) _
  · intro q hq hq2
    have e : q = g := by simpa [Value.ownBlock] using hq.symm
    subst e
    rcases hat with h1 | h1
    · exact h.ne q h1 hq2
    · have := (own_lt h.oo hq2).2; omega
theorem PI.pushO {f : Fc} {w1 wr w3 : World} {dv ov : Value} {L O : List Int} (h : PI f w1 wr dv ov L O) {g cap : Nat} {x : Int}
    (ho : w3.ownsRow (w1.heap.size + 1) 3 1 (.slice (some ⟨g, 0, none⟩) (O.length + 1) cap) (O.length + 1) (ints O ++ [.int .i64 x])) (hg : wr.grownBy w3 ov.ownBlock) (hat : ov.ownBlock = some g ∨ g = wr.heap.size) :
    PI f w1 (w3.setCell ⟨w1.heap.size, 3, none⟩ (.slice (some ⟨g, 0, none⟩) (O.length + 1) cap)) dv (.slice (some ⟨g, 0, none⟩) (O.length + 1) cap) L (O ++ [x]) := by
  have hlt := h.lt
  have hne' : ∀ q, ov.ownBlock = some q → dv.ownBlock ≠ some q := fun q h1 h2 => h.ne q h2 h1
  have hb3 : w3.heap[w1.heap.size]? = some (.cells #[.int .i64 f.size, .int .i64 (heiF f), dv, ov] 62 (0, 0)) :=
    (hg.block _ hlt (fun e => by have := (own_lt h.oo e.symm).1; omega)).trans h.blk
  refine ⟨Below.setCell (Below.grown h.bel hg h.bel.size (fun i hi => by have := (own_lt h.oo hi).1; omega)) (Nat.le_refl _) _, heap_setCell_same _ _ _ _ _ _ hb3, ?_, ?_, ?_⟩
  · exact own_setCell (own_keep h.od hg hne') (by dsimp only; omega) _
  · rw [List.length_append, List.length_singleton, show ints (O ++ [x]) = ints O ++ [.int .i64 x] by simp [ints]]
    exact own_setCell ho (by dsimp only; omega) _
  · intro q hq hq2
    have e : q = g := by simpa [Value.ownBlock] using hq2.symm
    subst e
    rcases hat with h1 | h1
    · exact h.ne q hq h1
    · have := (own_lt h.od hq).2; omega
theorem PI.setD {f : Fc} {w1 wr : World} {g n cap : Nat} {ov : Value} {L O : List Int} (h : PI f w1 wr (.slice (some ⟨g, 0, none⟩) L.length cap) ov L O) (k : Nat) (x : Int) : PI f w1 (wr.setCell ⟨g, k, none⟩ (.int .i64 x)) (.slice (some ⟨g, 0, none⟩) L.length cap) ov (L.set k x) O := by
  have hg := own_lt h.od (g := g) rfl
  refine ⟨Below.setCell h.bel (by dsimp only; omega) _, (heap_setCell_other _ _ _ _ (by dsimp only; omega)).trans h.blk, ?_, own_other h.oo (fun e => h.ne g rfl e) _, h.ne⟩
  rw [List.length_set]
  exact own_set h.od k x
theorem PI.setO {f : Fc} {w1 wr : World} {g n cap : Nat} {dv : Value} {L O : List Int} (h : PI f w1 wr dv (.slice (some ⟨g, 0, none⟩) O.length cap) L O) (k : Nat) (x : Int) : PI f w1 (wr.setCell ⟨g, k, none⟩ (.int .i64 x)) dv (.slice (some ⟨g, 0, none⟩) O.length cap) L (O.set k x) := by
  have hg := own_lt h.oo (g := g) rfl
  refine ⟨Below.setCell h.bel (by dsimp only; omega) _, (heap_setCell_other _ _ _ _ (by dsimp only; omega)).trans h.blk, own_other h.od (fun e => h.ne g e rfl) _, ?_, h.ne⟩
  rw [List.length_set]
  exact own_set h.oo k x

/-- The first n dots of the next layer, the others of this one. -/
def mixL (N : Nat) (d : Nat → Nat → Int) (k n : Nat) : List Int := (List.range N).map fun m => if m < n then d (k + 1) m else d k m
theorem mixL_len (N : Nat) (d : Nat → Nat → Int) (k n : Nat) : (mixL N d k n).length = N := by simp [mixL]
theorem mixL_zero (N : Nat) (d : Nat → Nat → Int) (k : Nat) : mixL N d k 0 = (List.range N).map (d k) := by simp [mixL]
theorem mixL_all (N : Nat) (d : Nat → Nat → Int) (k : Nat) : mixL N d k N = (List.range N).map (d (k + 1)) := by
  unfold mixL
  apply List.map_congr_left
  intro m hm
  rw [if_pos (List.mem_range.1 hm)]
theorem mixL_at (N : Nat) (d : Nat → Nat → Int) (k n : Nat) (h : n < N) : (mixL N d k n)[n]? = some (d k n) := by simp [mixL, h]
theorem mixL_set (N : Nat) (d : Nat → Nat → Int) (k n : Nat) : mixL N d k (n + 1) = (mixL N d k n).set n (d (k + 1) n) := by
  apply List.ext_getElem?
  intro m
  rw [List.getElem?_set]
  by_cases e : n = m
  · subst e
    by_cases hn : n < N <;> simp [mixL, hn]
  · rw [if_neg e]
    by_cases hm : m < N
    · simp [mixL, hm]
      by_cases h1 : m < n
      · rw [if_pos (by omega), if_pos h1]
      · rw [if_neg (by omega), if_neg h1]
    · simp [mixL, hm]
theorem mixL_same (N : Nat) (d : Nat → Nat → Int) (k n : Nat) (h : d (k + 1) n = d k n) : mixL N d k (n + 1) = mixL N d k n := by
  unfold mixL
  apply List.map_congr_left
  intro m hm
  by_cases e : m = n
  · subst e; rw [if_pos (by omega), if_neg (by omega), h]
  · by_cases h1 : m < n
    · rw [if_pos (by omega), if_pos h1]
    · rw [if_neg (by omega), if_neg h1]
theorem range_snoc (d : Nat → Int) (n : Nat) : (List.range (n + 1)).map d = (List.range n).map d ++ [d n] := by simp [List.range_succ]
theorem pi_one (a b : Int) (g1 g2 : Option Addr) (n1 n2 c1 c2 : Nat) : (#[Value.int .i64 a, .int .i64 b, .slice g1 n1 c1, .slice g2 n2 c2]).all (·.oneCell') = true := by simp [Value.oneCell']
theorem pi_size (a b : Int) (u v : Value) : (Tryz.prog.info? 62).map (·.size) = some (#[Value.int .i64 a, .int .i64 b, u, v]).size := by
  show _ = some 4
  kernel_rfl


theorem own_some {w : World} {base e : Nat} {v : Value} {L : List Int} (h : w.ownsRow base e 1 v L.length (ints L)) (hl : 0 < L.length) : ∃ g cap, v = .slice (some ⟨g, 0, none⟩) L.length cap := by
  rcases h.2 with ⟨-, h0⟩ | ⟨g, cap, cur, hv, -⟩
  · omega
  · exact ⟨g, cap, hv⟩
theorem PI.mid {f : Fc} {w1 wr w3 : World} {dv ov v : Value} {L O : List Int} (h : PI f w1 wr dv ov L O) (hg : wr.grownBy w3 v.ownBlock) (hv : ∀ q, v.ownBlock = some q → w1.heap.size + 1 ≤ q) :
    w3.heap[w1.heap.size]? = some (.cells #[.int .i64 f.size, .int .i64 (heiF f), dv, ov] 62 (0, 0)) :=
  (hg.block _ h.lt (fun e => by have := hv _ e.symm; omega)).trans h.blk
theorem rd_row {w : World} {base e n g cap : Nat} {L : List Int} (h : w.ownsRow base e 1 (.slice (some ⟨g, 0, none⟩) n cap) n (ints L)) {R : Nat} (hR : R < base) (us : Array Value) : Rd (w.setRow R us) (some ⟨g, 0, none⟩) (ints L) := by
  obtain ⟨A, c, hv, hr, -⟩ := own_slice h
  injection hv with e1 e2 e3
  subst e1
  have hg := (own_lt h (g := g) rfl).1
  intro hx
  obtain ⟨b, off, hA, hb, hc⟩ := hr hx
  injection hA with hA
  injection hA with h1 h2
  subst h1 h2
  refine ⟨g, 0, rfl, by simpa using hb, fun j u hu => ?_⟩
  rw [cell_setRow_other _ _ _ _ (by dsimp only; omega)]
  exact hc j u hu

set_option maxHeartbeats 8000000 in
set_option maxRecDepth 100000 in
theorem paint_calls (f : Fc) (A : Option Addr) (c : Nat) (w : World) (hit : ItsOk w A f.items) (hf : fcB f = true) :
    Calls Tryz.prog 40 #[.agg #[.int .i64 f.shape, .int .i64 f.size, .int .i64 f.height, .slice A f.items.length c]] w fun e w' => Below w.heap.size w w' ∧ ∃ (A1 A2 : Option Addr) (c1 c2 : Nat), e = .returned (.agg #[.int .i64 f.size, .int .i64 (heiF f), .slice A1 (numD f) c1, .slice A2 (numD f) c2]) ∧ Rd w' A1 (ints (dotL f f.items.length)) ∧ Rd w' A2 (ints (ownL f f.items.length)) := by
  obtain ⟨s0, s1⟩ := size_bounds hf
  obtain ⟨h0, h1⟩ := heiF_bounds hf
  obtain ⟨n0, n1⟩ := numD_bounds hf
  have hn := hit.n
  have HV := hid (items_valid hf)
  have HFF := hid hf
  obtain ⟨i0, hi, hz0, hz1, hz2⟩ := info_partsd info_i64d
  obtain ⟨sz, hsz⟩ : ∃ sz : Nat, sz = f.size.toNat := ⟨_, rfl⟩
  obtain ⟨hh, hhh⟩ : ∃ hh : Nat, hh = (heiF f).toNat := ⟨_, rfl⟩
  have hsz0 : 4 ≤ sz ∧ sz ≤ 200 := by omega
  have hhh0 : 1 ≤ hh ∧ hh ≤ 200 := by omega
  have HSZ := hid (show (sz : Int) = f.size by omega)
  have HHH := hid (show (hh : Int) = heiF f by omega)
  have HSN := hid hsz
  have HHN := hid hhh
  have HND := hid (show numD f = hh * sz by unfold numD; rw [hsz, hhh]; exact Nat.mul_comm _ _)
  have HF := hid ((FaceAt.new w c hit).below (below_alloc _ (.cells #[.int .i64 0, .int .i64 0, .slice none 0 0, .slice none 0 0] 62)))
  have hRn : ((w.alloc (.cells #[.int .i64 f.shape, .int .i64 f.size, .int .i64 f.height, .slice A f.items.length c] 60)).alloc (.cells #[.int .i64 0, .int .i64 0, .slice none 0 0, .slice none 0 0] 62)).heap[w.heap.size + 1]? = some (.cells #[.int .i64 0, .int .i64 0, .slice none 0 0, .slice none 0 0] 62 (0, 0)) := by
    have h := heap_alloc_new (w.alloc (.cells #[.int .i64 f.shape, .int .i64 f.size, .int .i64 f.height, .slice A f.items.length c] 60)) (.cells #[.int .i64 0, .int .i64 0, .slice none 0 0, .slice none 0 0] 62)
    simpa using h
  have HR := hid hRn
  have HB := hid (below_alloc' (below_alloc w (.cells #[.int .i64 f.shape, .int .i64 f.size, .int .i64 f.height, .slice A f.items.length c] 60)) (.cells #[.int .i64 0, .int .i64 0, .slice none 0 0, .slice none 0 0] 62))
  clear hit hf hsz hhh hRn
  go_enter Tryz.func40, Tryz.ntmps40
  go_wp2_with fail
  generalize (w.alloc (.cells #[.int .i64 f.shape, .int .i64 f.size, .int .i64 f.height, .slice A f.items.length c] 60)).alloc (.cells #[.int .i64 0, .int .i64 0, .slice none 0 0, .slice none 0 0] 62) = W at *
  refine (rextent_calls f A c W (by omega) (by omega)).mono ?_
  rintro e w1 ⟨rfl, hb1⟩
  have HF := hid ((unhid HF).below hb1)
  have hRl := (Array.getElem?_eq_some_iff.1 (unhid HR)).1
  have HR := hid ((hb1.block _ hRl).trans (unhid HR))
  have HB := hid ((unhid HB).trans (hb1.mono (unhid HB).size))
  have hR1 : w.heap.size + 1 < w1.heap.size := Nat.lt_of_lt_of_le hRl hb1.size
  clear hb1 hRl
  have HP0 := hid (PI.start f w1)
  go_upto_region 3 with (fail)
  generalize w1.alloc (.cells #[.int .i64 f.size, .int .i64 (heiF f), .slice none 0 0, .slice none 0 0] 62) = W2 at *
  obtain ⟨B, hBB⟩ : ∃ B, B = w.heap.size := ⟨_, rfl⟩
  rw [← hBB] at HF HR hR1 ⊢
  have HBB := hid hBB
  clear hBB
  go_wp2_with fail
  go_loopw [6] (fun jv wr => ∃ (j : Nat) (dv ov : Value), j ≤ hh ∧ jv = .int .i64 j ∧ PI f w1 wr dv ov ((List.range (j * sz)).map (dotK f 0)) ((List.range (j * sz)).map (ownN f 0))) (fun jv _ => hh - (intOf jv).toNat)
  case atStart => exact ⟨0, _, _, Nat.zero_le _, rfl, by rw [Nat.zero_mul]; exact unhid HP0⟩
  case round =>
    obtain ⟨j, dv, ov, hj, rfl, hpi⟩ := hrel
    have HPI := hid hpi
    clear hpi
    by_cases hjl : j < hh
    · have hjh : (j : Int) < heiF f := by have := unhid HHH; omega
      go_wp2_with fail
      go_loopw [7] (fun iv wr => ∃ (i : Nat) (dv ov : Value), i ≤ sz ∧ iv = .int .i64 i ∧ PI f w1 wr dv ov ((List.range (j * sz + i)).map (dotK f 0)) ((List.range (j * sz + i)).map (ownN f 0))) (fun iv _ => sz - (intOf iv).toNat)
      case atStart => exact ⟨0, dv, ov, Nat.zero_le _, rfl, unhid HPI⟩
      case round =>
        obtain ⟨i, dv, ov, hi', rfl, hpi⟩ := hrel
        have HPI := hid hpi
        clear hpi
        by_cases hil : i < sz
        · have hif : (i : Int) < f.size := by have := unhid HSZ; omega
          have HFr := hid ((unhid HF).below (unhid HPI).bel)
          obtain ⟨c0, c1, c2, c3⟩ := (unhid HFr).cells
          have hmm : j * sz + i ≤ 40000 := by
            have h1 : j * sz ≤ 200 * 200 := Nat.mul_le_mul (by omega) (by omega)
            have h2 : (j + 1) * sz ≤ 200 * 200 := Nat.mul_le_mul (by omega) (by omega)
            rw [Nat.add_mul] at h2
            omega
          have HSD := hid (range_snoc (dotK f 0) (j * sz + i))
          have HSO := hid (range_snoc (ownN f 0) (j * sz + i))
          have hLl : ((List.range (j * sz + i)).map (dotK f 0)).length ≤ 40000 := by simp; omega
          have hOl : ((List.range (j * sz + i)).map (ownN f 0)).length ≤ 40000 := by simp; omega
          generalize hLL : (List.range (j * sz + i)).map (dotK f 0) = L at *
          generalize hOO : (List.range (j * sz + i)).map (ownN f 0) = O at *
          have HLL := hid (And.intro hLL hOO)
          clear hLL hOO
          have hpx := pix_at (f := f) (i := i) (j := j) (by rw [← unhid HSN]; exact hil) (by rw [← unhid HHN]; exact hjl)
          rw [← unhid HSN] at hpx
          have HOV := hid (show ownN f 0 (j * sz + i) = -1 by unfold ownN; exact ownK_zero _ _ _)
          have HDV := hid (show dotK f 0 (j * sz + i) = if partB f (2 * (i : Int) + 1 - f.size) (2 * (j : Int) + 1 - heiF f) then 9 else 0 by
            unfold dotK
            rw [← unhid HSN, hpx.2.1, hpx.2.2]
            exact colK_zero _ _ _)
          clear hpx
          go_wp2_with fail
          refine (rpart_calls f A c (2 * (i : Int) + 1 - f.size) (2 * (j : Int) + 1 - heiF f) wr (unhid HFF) (by omega) (by omega)).mono ?_
          rintro e w3 ⟨rfl, hb3⟩
          have HP3 := hid ((unhid HPI).after hb3)
          clear hb3 c0 c1 c2 c3
          obtain ⟨p2, p3, f2, f3⟩ := (unhid HP3).cells
          obtain ⟨cv, hcv⟩ : ∃ cv : Int, cv = if partB f (2 * (i : Int) + 1 - f.size) (2 * (j : Int) + 1 - heiF f) then 9 else 0 := ⟨_, rfl⟩
          rw [← hcv] at HDV
          have HCV := hid hcv
          clear hcv
          go_upto_if 40 with (fail)
          go_cut [8] from 29 to 40 (fun s8 wz => s8 = .int .i64 cv ∧ wz = w3)
          case first =>
            have hcv := unhid HCV
            cases hp : partB f (2 * (i : Int) + 1 - f.size) (2 * (j : Int) + 1 - heiF f) with
            | true =>
              rw [hp, if_pos rfl] at hcv
              subst hcv
              go_wp2_with fail
              go_meet
              case rel => exact ⟨rfl, rfl⟩
            | false =>
              rw [hp, if_neg (by simp)] at hcv
              subst hcv
              go_wp2_with fail
              go_meet
              case rel => exact ⟨rfl, rfl⟩
          case rest =>
            obtain ⟨rfl, rfl⟩ := hcut
            go_wp2_with (at_builtin; refine wpList_append_lies _ rfl _ _ 34 rfl (w1.heap.size + 1) 3 i0 (.int .i64 0) 1 8 Tryz.underlying34 hi hz0 hz1 hz2 rfl (by decide) dv L.length (ints L) rfl ?a1 ⟨wc.heap.size, 0, none⟩ 1 1 [.int .i64 cv] rfl rfl ?a2 ?a3 (by omega) ?a4 ?a5 ?a6 (wc.heap.size + 1) ?a7 ?_)
            case a1 => exact ((unhid HP3).after (below_alloc _ _)).od
            case a2 => exact World.news_of_block (cs := #[.int .i64 cv]) (t := 3) (fr := (0, 0)) (by simpa using heap_alloc_new wc (.cells #[.int .i64 cv] 3))
            case a3 => simp [Value.oneCell']
            case a4 => unfold maxLen; omega
            case a5 => omega
            case a6 => have := (unhid HP3).lt; simp; omega
            case a7 => simp
            intro g3 cap3 w4 hown hg hat hlt3
            have hmid := ((unhid HP3).after (below_alloc wc (.cells #[.int .i64 cv] 3))).mid hg (fun q hq => (own_lt (unhid HP3).od hq).1)
            have HP4 := hid (((unhid HP3).after (below_alloc wc (.cells #[.int .i64 cv] 3))).pushD (by exact hown) hg (by simpa using hat))
            have k2 := cell_of_row w4 w1.heap.size 2 _ _ _ hmid
            have l2 : w4.frozen? ⟨w1.heap.size, 2, none⟩ = false := by simp [World.frozen?, hmid]
            simp at k2
            clear hmid hown hg hat hlt3 p2 p3 f2 f3
            go_upto_region 13 with (fail)
            generalize w4.setCell ⟨w1.heap.size, 2, none⟩ (.slice (some ⟨g3, 0, none⟩) (L.length + 1) cap3) = W5 at *
            clear k2 l2
            obtain ⟨p2, p3, f2, f3⟩ := (unhid HP4).cells
            go_wp2_with (at_builtin; refine wpList_append_lies _ rfl _ _ 34 rfl (w1.heap.size + 1) 3 i0 (.int .i64 0) 1 8 Tryz.underlying34 hi hz0 hz1 hz2 rfl (by decide) ov O.length (ints O) rfl ?a1 ⟨W5.heap.size, 0, none⟩ 1 1 [.int .i64 (-1)] rfl rfl ?a2 ?a3 (by omega) ?a4 ?a5 ?a6 (W5.heap.size + 1) ?a7 ?_)
            case a1 => exact ((unhid HP4).after (below_alloc _ _)).oo
            case a2 => exact World.news_of_block (cs := #[.int .i64 (-1)]) (t := 3) (fr := (0, 0)) (by simpa using heap_alloc_new W5 (.cells #[.int .i64 (-1)] 3))
            case a3 => simp [Value.oneCell']
            case a4 => unfold maxLen; omega
            case a5 => omega
            case a6 => have := (unhid HP4).lt; simp; omega
            case a7 => simp
            intro g4 cap4 w6 hown hg hat hlt3
            have hmid := ((unhid HP4).after (below_alloc W5 (.cells #[.int .i64 (-1)] 3))).mid hg (fun q hq => (own_lt (unhid HP4).oo hq).1)
            have HP6 := hid (((unhid HP4).after (below_alloc W5 (.cells #[.int .i64 (-1)] 3))).pushO (by exact hown) hg (by simpa using hat))
            have k2 := cell_of_row w6 w1.heap.size 3 _ _ _ hmid
            have l2 : w6.frozen? ⟨w1.heap.size, 3, none⟩ = false := by simp [World.frozen?, hmid]
            simp at k2
            clear hmid hown hg hat hlt3 p2 p3 f2 f3
            go_wp2_with fail
            go_roundw
            case rel =>
              refine ⟨i + 1, .slice (some ⟨g3, 0, none⟩) (L.length + 1) cap3, .slice (some ⟨g4, 0, none⟩) (O.length + 1) cap4, by omega, by go_num, ?_⟩
              rw [← Nat.add_assoc, unhid HSD, unhid HSO, unhid HDV, unhid HOV]
              exact unhid HP6
            case measure => simp [intOf]; omega
        · obtain rfl : i = sz := by omega
          have hif : ¬ (i : Int) < f.size := by have := unhid HSZ; omega
          go_wp2_with fail
          go_roundw
          case rel => exact ⟨j + 1, dv, ov, by omega, by go_num, by rw [Nat.add_mul, Nat.one_mul]; exact unhid HPI⟩
          case measure => simp [intOf]; omega
    · obtain rfl : j = hh := by omega
      have hpi := unhid HPI
      rw [← unhid HND] at hpi
      obtain ⟨gd, cd, rfl⟩ := own_some hpi.od (by simp; omega)
      obtain ⟨go, co, rfl⟩ := own_some hpi.oo (by simp; omega)
      simp only [List.length_map, List.length_range] at hpi
      obtain ⟨N, hN⟩ : ∃ N, N = numD f := ⟨_, rfl⟩
      rw [← hN] at hpi n0 n1
      have HN := hid hN
      have HPI := hid hpi
      have hjn : ¬ (j : Int) < heiF f := by have := unhid HHH; omega
      clear hN hpi
      go_wp2_with fail
      go_loopw [9] (fun kv wr => ∃ k : Nat, k ≤ f.items.length ∧ kv = .int .i64 k ∧ PI f w1 wr (.slice (some ⟨gd, 0, none⟩) N cd) (.slice (some ⟨go, 0, none⟩) N co) ((List.range N).map (dotK f k)) ((List.range N).map (ownN f k))) (fun kv _ => f.items.length - (intOf kv).toNat)
      case atStart => exact ⟨0, Nat.zero_le _, rfl, unhid HPI⟩
      case round =>
        obtain ⟨k, hk, rfl, hpi⟩ := hrel
        have HPI := hid hpi
        clear hpi
        have HFr := hid ((unhid HF).below (unhid HPI).bel)
        obtain ⟨c0, c1, c2, c3⟩ := (unhid HFr).cells
        by_cases hkl : k < f.items.length
        · have hxv := (unhid HV) f.items[k] (List.getElem_mem hkl)
          have HXV := hid hxv
          clear hxv
          go_wp2_with fail
          clear c0 c1 c2 c3
          go_loopw [10] (fun nv wr => ∃ n : Nat, n ≤ N ∧ nv = .int .i64 n ∧ PI f w1 wr (.slice (some ⟨gd, 0, none⟩) N cd) (.slice (some ⟨go, 0, none⟩) N co) (mixL N (dotK f) k n) (mixL N (ownN f) k n)) (fun nv _ => N - (intOf nv).toNat)
          case atStart => exact ⟨0, Nat.zero_le _, rfl, by rw [mixL_zero, mixL_zero]; exact unhid HPI⟩
          case round =>
            obtain ⟨n, hn', rfl, hpi⟩ := hrel
            have HPI := hid hpi
            obtain ⟨p2, p3, f2, f3⟩ := hpi.cells
            by_cases hnl : n < N
            · have m0 : wr.cell? ⟨gd, n, none⟩ = some (.int .i64 (dotK f k n)) := own_cell (n := N) (cap := cd) (L := mixL N (dotK f) k n) (by have h := hpi.od; rwa [mixL_len] at h) (mixL_at N (dotK f) k n hnl)
              have m1 : wr.cell? ⟨go, n, none⟩ = some (.int .i64 (ownN f k n)) := own_cell (n := N) (cap := co) (L := mixL N (ownN f) k n) (by have h := hpi.oo; rwa [mixL_len] at h) (mixL_at N (ownN f) k n hnl)
              have q0 : wr.frozen? ⟨gd, n, none⟩ = false := own_free (n := N) (cap := cd) (size := 1) (by have h := hpi.od; rwa [mixL_len] at h) n
              have q1 : wr.frozen? ⟨go, n, none⟩ = false := own_free (n := N) (cap := co) (size := 1) (by have h := hpi.oo; rwa [mixL_len] at h) n
              have HF2 := hid ((unhid HF).below hpi.bel)
              obtain ⟨b, off, hAb, hb, hc⟩ := (unhid HF2).ok.rd (its_ne hkl)
              obtain ⟨d0, d1, d2, d3, d4, d5, d6⟩ := its_cells hc hkl
              obtain ⟨c0, c1, c2, c3⟩ := (unhid HF2).cells
              have hgdl := (own_lt hpi.od (g := gd) rfl).2
              have hgol := (own_lt hpi.oo (g := go) rfl).2
              have hplt := hpi.lt
              have hBw := (unhid HF2).lt
              clear hc hpi
              obtain ⟨x, hx⟩ : ∃ x, x = f.items[k] := ⟨_, rfl⟩
              rw [← hx] at d0 d1 d2 d3 d4 d5 d6 HXV
              have HX := hid hx
              clear hx
              rw [hAb] at c3
              clear hAb
              obtain ⟨hx1, hx2⟩ := pix_in (f := f) (n := n) (by rw [← unhid HN]; exact hnl)
              rw [← unhid HSN] at hx1 hx2
              rw [← unhid HHN] at hx2
              obtain ⟨i, hie⟩ : ∃ i, i = n % sz := ⟨_, rfl⟩
              obtain ⟨jj, hje⟩ : ∃ jj, jj = n / sz := ⟨_, rfl⟩
              rw [← hie] at hx1
              rw [← hje] at hx2
              have et1 : (n : Int).tmod f.size = (i : Int) := by
                rw [← unhid HSZ, Int.tmod_eq_emod_of_nonneg (by omega), hie]; rfl
              have et2 : (n : Int).tdiv f.size = (jj : Int) := by
                rw [← unhid HSZ, Int.tdiv_eq_ediv_of_nonneg (by omega), hje]; rfl
              have hi1 : (i : Int) < f.size := by have := unhid HSZ; omega
              have hj1 : (jj : Int) < heiF f := by have := unhid HHH; omega
              have hD : ∀ m, dotK f m n = colK f i jj m := fun m => by unfold dotK; rw [← unhid HSN, ← hie, ← hje]
              have hO : ∀ m, ownN f m n = ownK f i jj m := fun m => by unfold ownN; rw [← unhid HSN, ← hie, ← hje]
              have HPT := hid (colK_part (unhid HFF) (i : Int) (jj : Int) k)
              have HET := hid (And.intro et1 et2)
              have hw1 := w64 (n := (i : Int)) (by omega) (by omega)
              have hw2 := w64 (n := (jj : Int)) (by omega) (by omega)
              have hzf : (f.size = 0) = False := by rw [eq_iff_iff]; exact ⟨fun h => by omega, False.elim⟩
              have HD := hid hD
              have HO := hid hO
              clear et1 et2 hie hje hD hO
              obtain ⟨d, hd⟩ : ∃ d, d = dotK f k n := ⟨_, rfl⟩
              rw [← hd] at m0
              have HDD := hid hd
              clear hd
              by_cases hdz : d = 0
              · have hpf : partB f (2 * (i : Int) + 1 - f.size) (2 * (jj : Int) + 1 - heiF f) = false := by
                  rcases unhid HPT with ⟨-, h⟩ | ⟨h1, -, -⟩
                  · exact h
                  · have := unhid HDD; rw [unhid HD] at this; omega
                obtain ⟨e1, e2⟩ := pix_out (i : Int) (jj : Int) k (k + 1) hpf
                have HS1 := hid (mixL_same N (dotK f) k n (by rw [unhid HD, unhid HD]; exact e1))
                have HS2 := hid (mixL_same N (ownN f) k n (by rw [unhid HO, unhid HO]; exact e2))
                have hdb : (d != 0) = false := by simp [hdz]
                clear e1 e2 hpf hdz
                go_wp2_with fail
                go_quiet (fail)
                go_wp2_with fail
                go_roundw
                case rel => exact ⟨n + 1, by omega, by go_num, by rw [unhid HS1, unhid HS2]; exact (unhid HPI).after (below_drewN' (Below.refl _ _) _)⟩
                case measure => simp [intOf]; omega
              · have hpt : partB f (2 * (i : Int) + 1 - f.size) (2 * (jj : Int) + 1 - heiF f) = true := by
                  rcases unhid HPT with ⟨h, -⟩ | ⟨-, -, h⟩
                  · have := unhid HDD; rw [unhid HD] at this; omega
                  · exact h
                have hdb : (d != 0) = true := by simp [hdz]
                have HPTT := hid hpt
                have HCP := hid (fun (q : World) => rpaints_calls f (some ⟨b, off, none⟩) c x (i : Int) (jj : Int) q (unhid HFF) ⟨Int.natCast_nonneg _, hi1⟩ ⟨Int.natCast_nonneg _, hj1⟩ (unhid HXV))
                have HHIT := hid (show paintB f x i jj = true → colK f i jj (k + 1) = x.colour ∧ ownK f i jj (k + 1) = k from fun h => by
                  have h2 := pix_hit (f := f) (i := (i : Int)) (j := (jj : Int)) hkl hpt (by rw [← unhid HX]; exact h)
                  rwa [← unhid HX] at h2)
                have HMISS := hid (show paintB f x i jj = false → colK f i jj (k + 1) = colK f i jj k ∧ ownK f i jj (k + 1) = ownK f i jj k from fun h => pix_miss (f := f) (i := (i : Int)) (j := (jj : Int)) hkl (by rw [← unhid HX]; exact h))
                clear hpt hdz
                obtain ⟨pt, hpb⟩ : ∃ pt, pt = paintB f x i jj := ⟨_, rfl⟩
                rw [← hpb] at HCP
                have HPB := hid hpb
                clear hpb
                have r0 := fun p : After wr => After.cell (a := ⟨B, 0, none⟩) hBw c0 p
                have r1 := fun p : After wr => After.cell (a := ⟨B, 1, none⟩) hBw c1 p
                have r2 := fun p : After wr => After.cell (a := ⟨B, 2, none⟩) hBw c2 p
                have r3 := fun p : After wr => After.cell (a := ⟨B, 3, none⟩) hBw c3 p
                have r4 := fun p : After wr => After.cell (a := ⟨w1.heap.size, 2, none⟩) hplt p2 p
                have r5 := fun p : After wr => After.cell (a := ⟨gd, n, none⟩) hgdl m0 p
                have u0 := fun p : After wr => After.cell (a := ⟨b, off + k * 7, none⟩) hb d0 p
                have u1 := fun p : After wr => After.cell (a := ⟨b, off + k * 7 + 1, none⟩) hb d1 p
                have u2 := fun p : After wr => After.cell (a := ⟨b, off + k * 7 + 2, none⟩) hb d2 p
                have u3 := fun p : After wr => After.cell (a := ⟨b, off + k * 7 + 3, none⟩) hb d3 p
                have u4 := fun p : After wr => After.cell (a := ⟨b, off + k * 7 + 4, none⟩) hb d4 p
                have u5 := fun p : After wr => After.cell (a := ⟨b, off + k * 7 + 5, none⟩) hb d5 p
                have u6 := fun p : After wr => After.cell (a := ⟨b, off + k * 7 + 6, none⟩) hb d6 p
                go_wp2_with fail
                obtain ⟨et1, et2⟩ := unhid HET
                obtain ⟨y1, y1'⟩ := hw1
                obtain ⟨y2, y2'⟩ := hw2
                refine wp_region_below (by kernel_rfl) (by kernel_rfl) ?_
                (repeat (go_big_quiet_step (first | (go_at_call 57; exact Calls.after_of ((unhid HCP) _)))))
                refine wpQuiet_nil ?_
                intro wq hw'
                obtain ⟨⟨wq2, hbq⟩, hw''⟩ := hw'
                dsimp only at hw''
                subst hw''
                have HPQ := hid ((unhid HPI).after hbq)
                clear r0 r1 r2 r3 r4 r5 u0 u1 u2 u3 u4 u5 u6 et1 et2 y1 y1' y2 y2'
                cases pt with
                | false =>
                  obtain ⟨e1, e2⟩ := (unhid HMISS) (unhid HPB).symm
                  have HS1 := hid (mixL_same N (dotK f) k n (by rw [unhid HD, unhid HD]; exact e1))
                  have HS2 := hid (mixL_same N (ownN f) k n (by rw [unhid HO, unhid HO]; exact e2))
                  clear e1 e2
                  go_wp2_with fail
                  go_roundw
                  case rel => exact ⟨n + 1, by omega, by go_num, by rw [unhid HS1, unhid HS2]; exact unhid HPQ⟩
                  case measure => simp [intOf]; omega
                | true =>
                  obtain ⟨e1, e2⟩ := (unhid HHIT) (unhid HPB).symm
                  have HS1 := hid (show mixL N (dotK f) k (n + 1) = (mixL N (dotK f) k n).set n x.colour by rw [mixL_set, unhid HD, e1])
                  have HS2 := hid (show mixL N (ownN f) k (n + 1) = (mixL N (ownN f) k n).set n (k : Int) by rw [mixL_set, unhid HO, e2])
                  clear e1 e2
                  have v0 := (hbq.cell (p := ⟨w1.heap.size, 2, none⟩) hplt).trans p2
                  have v1 := (hbq.cell (p := ⟨B, 3, none⟩) hBw).trans c3
                  have v2 := (hbq.cell (p := ⟨b, off + k * 7 + 1, none⟩) hb).trans d1
                  have v3 := (hbq.cell (p := ⟨gd, n, none⟩) hgdl).trans m0
                  have v4 := (hbq.cell (p := ⟨w1.heap.size, 3, none⟩) hplt).trans p3
                  have v5 := (hbq.cell (p := ⟨go, n, none⟩) hgol).trans m1
                  have v6 : wq.frozen? ⟨gd, n, none⟩ = false := by rw [World.frozen?_of_block (w := wr) (hbq.block gd hgdl)]; exact q0
                  have v7 : wq.frozen? ⟨go, n, none⟩ = false := by rw [World.frozen?_of_block (w := wr) (hbq.block go hgol)]; exact q1
                  have hgne : go ≠ gd := fun e => (unhid HPQ).ne gd rfl (by rw [e]; rfl)
                  have hgp : w1.heap.size < gd ∧ w1.heap.size < go := ⟨(own_lt (unhid HPQ).od (g := gd) rfl).1, (own_lt (unhid HPQ).oo (g := go) rfl).1⟩
                  clear hbq p2 p3 f2 f3 c0 c1 c2 c3 d0 d1 d2 d3 d4 d5 d6 m0 m1 q0 q1
                  go_wp2_with fail
                  refine wp_region_noPanic ?_
                  refine wp_region_E (S := fun w' => w'.cell? ⟨w1.heap.size, 2, none⟩ = some (.slice (some ⟨gd, 0, none⟩) N cd) ∧ w'.cell? ⟨B, 3, none⟩ = some (.slice (some ⟨b, off, none⟩) f.items.length c) ∧ w'.cell? ⟨b, off + k * 7 + 1, none⟩ = some (.int .i64 x.colour)) 10 11 rfl (by kernel_rfl) (by kernel_rfl) ⟨v0, v1, v2⟩ ?_
                  intro hSE
                  (refine WE_take (i := 0) (v := ?_) rfl (by kernel_rfl) (by decide) (by kernel_rfl) (by kernel_rfl) (fun _ _ _ h => h) (by rfl) hSE ?_ ?_; rotate_left; (focus (intro w hSw; (try dsimp only at hSw); go_simp; (try with_reducible rfl))); simp only [Act.put, List.setIfInBounds_toArray, List.set_cons_zero, List.set_cons_succ])
                  (refine WE_take (i := 1) (v := ?_) rfl (by kernel_rfl) (by decide) (by kernel_rfl) (by kernel_rfl) (fun _ _ _ h => h) (by rfl) hSE ?_ ?_; rotate_left; (focus (intro w hSw; (try dsimp only at hSw); go_simp; (try with_reducible rfl))); simp only [Act.put, List.setIfInBounds_toArray, List.set_cons_zero, List.set_cons_succ])
                  (refine WE_take (i := 2) (v := ?_) rfl (by kernel_rfl) (by decide) (by kernel_rfl) (by kernel_rfl) (fun _ _ _ h => h) (by rfl) hSE ?_ ?_; rotate_left; (focus (intro w hSw; (try dsimp only at hSw); go_simp; (try with_reducible rfl))); simp only [Act.put, List.setIfInBounds_toArray, List.set_cons_zero, List.set_cons_succ])
                  (refine WE_take (i := 3) (v := ?_) rfl (by kernel_rfl) (by decide) (by kernel_rfl) (by kernel_rfl) (fun _ _ _ h => h) (by rfl) hSE ?_ ?_; rotate_left; (focus (intro w hSw; (try dsimp only at hSw); go_simp; (try with_reducible rfl))); simp only [Act.put, List.setIfInBounds_toArray, List.set_cons_zero, List.set_cons_succ])
                  (refine WE_take (i := 4) (v := ?_) rfl (by kernel_rfl) (by decide) (by kernel_rfl) (by kernel_rfl) (fun _ _ _ h => h) (by rfl) hSE ?_ ?_; rotate_left; (focus (intro w hSw; (try dsimp only at hSw); go_simp; (try with_reducible rfl))); simp only [Act.put, List.setIfInBounds_toArray, List.set_cons_zero, List.set_cons_succ])
                  (refine WE_take (i := 5) (v := ?_) rfl (by kernel_rfl) (by decide) (by kernel_rfl) (by kernel_rfl) (fun _ _ _ h => h) (by rfl) hSE ?_ ?_; rotate_left; (focus (intro w hSw; (try dsimp only at hSw); go_simp; (try with_reducible rfl))); simp only [Act.put, List.setIfInBounds_toArray, List.set_cons_zero, List.set_cons_succ])
                  (refine WE_take (i := 6) (v := ?_) rfl (by kernel_rfl) (by decide) (by kernel_rfl) (by kernel_rfl) (fun _ _ _ h => h) (by rfl) hSE ?_ ?_; rotate_left; (focus (intro w hSw; (try dsimp only at hSw); go_simp; (try with_reducible rfl))); simp only [Act.put, List.setIfInBounds_toArray, List.set_cons_zero, List.set_cons_succ])
                  (refine WE_take (i := 7) (v := ?_) rfl (by kernel_rfl) (by decide) (by kernel_rfl) (by kernel_rfl) (fun _ _ _ h => h) (by rfl) hSE ?_ ?_; rotate_left; (focus (intro w hSw; (try dsimp only at hSw); go_simp; (try with_reducible rfl))); simp only [Act.put, List.setIfInBounds_toArray, List.set_cons_zero, List.set_cons_succ])
                  (refine WE_take (i := 8) (v := ?_) rfl (by kernel_rfl) (by decide) (by kernel_rfl) (by kernel_rfl) (fun _ _ _ h => h) (by rfl) hSE ?_ ?_; rotate_left; (focus (intro w hSw; (try dsimp only at hSw); go_simp; (try with_reducible rfl))); simp only [Act.put, List.setIfInBounds_toArray, List.set_cons_zero, List.set_cons_succ])
                  (refine WE_take (i := 9) (v := ?_) rfl (by kernel_rfl) (by decide) (by kernel_rfl) (by kernel_rfl) (fun _ _ _ h => h) (by rfl) hSE ?_ ?_; rotate_left; (focus (intro w hSw; (try dsimp only at hSw); go_simp; (try with_reducible rfl))); simp only [Act.put, List.setIfInBounds_toArray, List.set_cons_zero, List.set_cons_succ])
                  (refine WE_last rfl (by kernel_rfl) (by kernel_rfl) (by kernel_rfl) ?_; intro K hK; go_simp; refine hK.out _ _ (NoPanic.normal ?_); clear hK K)
                  have HPS := hid ((PI.setD (g := gd) (n := 0) (cap := cd) (L := mixL N (dotK f) k n) (by have h := unhid HPQ; rw [mixL_len]; exact h) n x.colour).after (Below.drew (Below.refl _ _)))
                  have z4 : ((wq.setCell ⟨gd, n, none⟩ (.int .i64 x.colour)).drew).cell? ⟨w1.heap.size, 3, none⟩ = some (.slice (some ⟨go, 0, none⟩) N co) := by
                    rw [World.cell?_drew, World.cell?_of_block (w := wq) (heap_setCell_other _ _ _ _ (by dsimp only; omega))]; exact v4
                  have z5 : ((wq.setCell ⟨gd, n, none⟩ (.int .i64 x.colour)).drew).cell? ⟨go, n, none⟩ = some (.int .i64 (ownN f k n)) := by
                    rw [World.cell?_drew, World.cell?_of_block (w := wq) (heap_setCell_other _ _ _ _ (by dsimp only; omega))]; exact v5
                  have z7 : ((wq.setCell ⟨gd, n, none⟩ (.int .i64 x.colour)).drew).frozen? ⟨go, n, none⟩ = false := by
                    have h : ((wq.setCell ⟨gd, n, none⟩ (.int .i64 x.colour)).drew).frozen? ⟨go, n, none⟩ = wq.frozen? ⟨go, n, none⟩ := World.frozen?_of_block (heap_setCell_other _ _ _ _ (by dsimp only; omega))
                    rw [h]; exact v7
                  generalize (wq.setCell ⟨gd, n, none⟩ (.int .i64 x.colour)).drew = W6 at *
                  clear v0 v1 v2 v3 v4 v5 v6 v7
                  go_wp2_with fail
                  go_roundw
                  case rel =>
                    refine ⟨n + 1, by omega, by go_num, ?_⟩
                    rw [unhid HS1, unhid HS2]
                    have h := PI.setO (g := go) (n := 0) (cap := co) (O := mixL N (ownN f) k n) (by have h := unhid HPS; rw [mixL_len] at h ⊢; exact h) n (k : Int)
                    rwa [mixL_len] at h
                  case measure => simp [intOf]; omega
            · obtain rfl : n = N := by omega
              have hpi2 := unhid HPI
              rw [mixL_all, mixL_all] at hpi2
              have HPI2 := hid hpi2
              clear hpi hpi2
              go_wp2_with fail
              go_roundw
              case rel => exact ⟨k + 1, by omega, by go_num, unhid HPI2⟩
              case measure => simp [intOf]; omega
        · obtain rfl : k = f.items.length := by omega
          have hkk : ¬ (f.items.length : Int) < f.items.length := by omega
          have HR9 := hid (((unhid HPI).bel.block _ hR1).trans (unhid HR))
          have hpc := (unhid HPI).blk
          have p0 := cell_of_row _ w1.heap.size 0 _ _ _ hpc
          have p1 := cell_of_row _ w1.heap.size 1 _ _ _ hpc
          have p2 := cell_of_row _ w1.heap.size 2 _ _ _ hpc
          have p3 := cell_of_row _ w1.heap.size 3 _ _ _ hpc
          simp at p0 p1 p2 p3
          clear hpc
          go_wp2_with (refine wpList_store_row rfl 62 (.tmp 2) (.tmp 102) rfl (B + 1) #[.int .i64 f.size, .int .i64 (heiF f), .slice (some ⟨gd, 0, none⟩) N cd, .slice (some ⟨go, 0, none⟩) N co] rfl rfl 62 _ (unhid HR9) (pi_size _ _ _ _) rfl (pi_one _ _ _ _ _ _ _ _) ?_)
          (try simp only [Exit.inBlock, Exit.then])
          refine bodyPost_ret_by (v := .agg #[.int .i64 f.size, .int .i64 (heiF f), .slice (some ⟨gd, 0, none⟩) N cd, .slice (some ⟨go, 0, none⟩) N co]) (results_cell_row Tryz.results40 _ _ (B + 1) 62 #[.int .i64 f.size, .int .i64 (heiF f), .slice (some ⟨gd, 0, none⟩) N cd, .slice (some ⟨go, 0, none⟩) N co] (0, 0) _ rfl (setRow_heap _ _ _ _ _ _ (unhid HR9)) Tryz.underlying62 rfl (pi_size _ _ _ _)) rfl ?_
          have hpi := unhid HPI
          refine ⟨below_setRow ((unhid HB).trans (hpi.bel.mono (unhid HB).size)) (by have := unhid HBB; omega) _, some ⟨gd, 0, none⟩, some ⟨go, 0, none⟩, ⟨cd, co, by rw [← unhid HN]⟩, ?_, ?_⟩
          · have h := hpi.od
            simp only [List.length_map, List.length_range] at h
            have e : dotL f f.items.length = (List.range N).map (dotK f f.items.length) := by unfold dotL; rw [unhid HN]
            rw [e]
            exact rd_row h (by omega) _
          · have h := hpi.oo
            simp only [List.length_map, List.length_range] at h
            have e : ownL f f.items.length = (List.range N).map (ownN f f.items.length) := by unfold ownL; rw [unhid HN]
            rw [e]
            exact rd_row h (by omega) _


theorem atR_yes {f : Fc} {i j : Int} (h : fcB f = true) : atR f i j = .tuple #[.int .i64 (colAt f i j), .int .i64 0] := by unfold atR; rw [h]; rfl

end Go.Proofs.YtbnnnjkfhffekaaGreatDoor
