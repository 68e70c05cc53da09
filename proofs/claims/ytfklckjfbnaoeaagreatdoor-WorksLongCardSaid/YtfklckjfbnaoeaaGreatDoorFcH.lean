/-
  The dots of a text's letters.
-/
import Derived.Test.YtfklckjfbnaoeaaGreatDoorFcG
import Derived.Test.YtfklckjfbnaoeaaGreatDoorFcM
import Derived.Laws.BitsLemmas
set_option linter.unusedSimpArgs false
set_option linter.unusedVariables false
namespace Go.Proofs.YtfklckjfbnaoeaaGreatDoor
open Go.RowKit

theorem i64_and1 (n : Int) : bits .and .i64 n 1 = n % 2 := by
  have h1 : (BitVec.ofInt 64 1).toNat = 2 ^ 1 - 1 := by decide
  have key : (BitVec.ofInt 64 n &&& BitVec.ofInt 64 1).toNat = (n % ((2 ^ 64 : Nat) : Int)).toNat % 2 ^ 1 := by
    rw [BitVec.toNat_and, BitVec.toNat_ofInt, h1, Nat.and_two_pow_sub_one_eq_mod]
  show IntKind.i64.wrap ((BitVec.ofInt 64 n &&& BitVec.ofInt 64 1).toNat : Nat) = n % 2
  rw [key, IntKind.wrap_i64]
  omega
theorem bitL_and {r : Int} {m : Nat} (hm : m < 5) : bitL r m = (bits .and .i64 (r / 2 ^ (4 - m)) 1 == 1) := by
  have e : (4 - (m : Int)).toNat = 4 - m := by omega
  rw [i64_and1]
  unfold bitL
  rw [e, Bool.eq_iff_iff]
  simp
theorem ink_no {x : It} {i j : Int} (h : i - x.left < 0 ∨ j - x.low < 0 ∨ 7 * x.a ≤ j - x.low ∨ 6 * x.a * x.text.length ≤ i - x.left ∨ 5 * x.a ≤ (i - x.left) % (6 * x.a)) : inkB x i j = false := by
  unfold inkB
  simp only [if_pos h]
theorem ink_yes {x : It} {i j : Int} (h : ¬ (i - x.left < 0 ∨ j - x.low < 0 ∨ 7 * x.a ≤ j - x.low ∨ 6 * x.a * x.text.length ≤ i - x.left ∨ 5 * x.a ≤ (i - x.left) % (6 * x.a))) :
    inkB x i j = bitL ((rowsL ((x.text.getD ((i - x.left) / (6 * x.a)).toNat 0).toNat : Int)).getD (6 - (j - x.low) / x.a).toNat 0) ((i - x.left) % (6 * x.a) / x.a) := by
  unfold inkB
  simp only [if_neg h]
set_option maxHeartbeats 4000000 in
set_option maxRecDepth 100000 in
theorem inText_calls (x : It) (i j : Int) (w : World) (hx : itB x = true) (hk : x.kind = 6) (hi : 0 ≤ i ∧ i < 1000) (hj : 0 ≤ j ∧ j < 1000) :
    Calls Tryz.prog 323 #[.agg #[.int .i64 x.kind, .int .i64 x.colour, .int .i64 x.left, .int .i64 x.low, .int .i64 x.a, .int .i64 x.b, .string (SB x.text)], .int .i64 i, .int .i64 j] w fun e w' => e = .returned (.bool (inkB x i j)) ∧ Below w.heap.size w w' := by
  obtain ⟨l0, l1, o0, o1, a0, a1, -, -⟩ := it_numbers hx
  have a1' : 1 ≤ x.a := (it_bounds hx).2.2.2.2.2.2.2.2.2.2.1 (by omega)
  have hlen : x.text.length ≤ 24 := (it_bounds hx).2.2.2.2.2.2.2.2.2.2.2.2.2
  obtain ⟨i0, i1⟩ := hi
  obtain ⟨j0, j1⟩ := hj
  obtain ⟨n, hn⟩ : ∃ n : Nat, n = x.text.length := ⟨_, rfl⟩
  obtain ⟨S, hS⟩ : ∃ S, S = SB x.text := ⟨_, rfl⟩
  have hSs : S.size = n := by rw [hS, hn]; rfl
  have HG := hid (show ∀ (k : Nat) (h : k < S.size), ((S[k]'h).toNat : Int) = ((x.text.getD k 0).toNat : Int) from by
    subst hS
    intro k h
    have h' : k < x.text.length := h
    rw [List.getD_eq_getElem?_getD, List.getElem?_eq_getElem h']
    rfl)
  have HNO := hid (@ink_no x i j)
  have HYES := hid (@ink_yes x i j)
  have mn := mul_bd (a := 6 * x.a) (b := (n : Int)) (A := 1200) (B := 24) (by omega) (by omega) (by omega) (by omega)
  obtain ⟨mn1, mn2⟩ := mn
  have hm0 := Int.emod_nonneg (i - x.left) (show 6 * x.a ≠ 0 by omega)
  have hm1 := Int.emod_lt_of_pos (i - x.left) (show 0 < 6 * x.a by omega)
  obtain ⟨e1, e1'⟩ := w64 (n := i - x.left) (by omega) (by omega)
  obtain ⟨e2, e2'⟩ := w64 (n := j - x.low) (by omega) (by omega)
  obtain ⟨e3, e3'⟩ := w64 (n := 7 * x.a) (by omega) (by omega)
  obtain ⟨e4, e4'⟩ := w64 (n := 6 * x.a) (by omega) (by omega)
  obtain ⟨e5, e5'⟩ := w64 (n := 6 * x.a * (n : Int)) (by omega) (by omega)
  obtain ⟨e6, e6'⟩ := w64 (n := 5 * x.a) (by omega) (by omega)
  rw [← hS]
  rw [← hn] at hlen
  have HN := hid hn
  have HSS := hid hSs
  clear hS hn hx hk
  by_cases u0 : i - x.left < 0
  · have HFIN := hid ((unhid HNO) (.inl u0))
    clear HNO HYES
    have d1 := decide_eq_true u0
    go_enter Tryz.func323, Tryz.ntmps323
    go_wp2_with fail
    go_quiet (fail)
    go_wp2_with fail
    go_quiet (fail)
    go_wp2_with fail
    go_ret
    exact ⟨retE (unhid HFIN), below_drewN' (below_drewN' (below_alloc _ _) _) _⟩
  · by_cases v0 : j - x.low < 0
    · have HFIN := hid ((unhid HNO) (.inr (.inl v0)))
      clear HNO HYES
      have d1 := decide_eq_false u0
      have d2 := decide_eq_true v0
      go_enter Tryz.func323, Tryz.ntmps323
      go_wp2_with fail
      go_quiet (fail)
      go_wp2_with fail
      go_quiet (fail)
      go_wp2_with fail
      go_ret
      exact ⟨retE (unhid HFIN), below_drewN' (below_drewN' (below_alloc _ _) _) _⟩
    · by_cases v1 : 7 * x.a ≤ j - x.low
      · have HFIN := hid ((unhid HNO) (.inr (.inr (.inl v1))))
        clear HNO HYES
        have d1 := decide_eq_false u0
        have d2 := decide_eq_false v0
        have d3 := decide_eq_true v1
        go_enter Tryz.func323, Tryz.ntmps323
        go_wp2_with fail
        go_quiet (fail)
        go_wp2_with fail
        go_quiet (fail)
        go_wp2_with fail
        go_ret
        exact ⟨retE (unhid HFIN), below_drewN' (below_drewN' (below_alloc _ _) _) _⟩
      · by_cases u1 : 6 * x.a * (n : Int) ≤ i - x.left
        · have HFIN := hid ((unhid HNO) (.inr (.inr (.inr (.inl (by rw [← unhid HN]; exact u1))))))
          clear HNO HYES
          have d1 := decide_eq_false u0
          have d2 := decide_eq_false v0
          have d3 := decide_eq_false v1
          have d4 := decide_eq_true u1
          go_enter Tryz.func323, Tryz.ntmps323
          go_wp2_with fail
          go_quiet (fail)
          go_wp2_with fail
          go_quiet (fail)
          go_wp2_with fail
          go_ret
          exact ⟨retE (unhid HFIN), below_drewN' (below_drewN' (below_alloc _ _) _) _⟩
        · have et : (i - x.left).tmod (6 * x.a) = (i - x.left) % (6 * x.a) := Int.tmod_eq_emod_of_nonneg (by omega)
          obtain ⟨e7, e7'⟩ := w64 (n := (i - x.left) % (6 * x.a)) (by omega) (by omega)
          by_cases u2 : 5 * x.a ≤ (i - x.left) % (6 * x.a)
          · have HFIN := hid ((unhid HNO) (.inr (.inr (.inr (.inr u2)))))
            clear HNO HYES
            have d1 := decide_eq_false u0
            have d2 := decide_eq_false v0
            have d3 := decide_eq_false v1
            have d4 := decide_eq_false u1
            have d5 := decide_eq_true u2
            go_enter Tryz.func323, Tryz.ntmps323
            go_wp2_with fail
            go_quiet (fail)
            go_wp2_with fail
            go_quiet (fail)
            go_wp2_with fail
            go_ret
            exact ⟨retE (unhid HFIN), below_drewN' (below_drewN' (below_alloc _ _) _) _⟩
          · have d1 := decide_eq_false u0
            have d2 := decide_eq_false v0
            have d3 := decide_eq_false v1
            have d4 := decide_eq_false u1
            have d5 := decide_eq_false u2
            have nz : (6 * x.a == 0) = false := by simp; omega
            go_enter Tryz.func323, Tryz.ntmps323
            go_wp2_with fail
            go_quiet (fail)
            go_wp2_with fail
            go_quiet (fail)
            have c4 : (w.alloc (.cells #[.int .i64 x.kind, .int .i64 x.colour, .int .i64 x.left, .int .i64 x.low, .int .i64 x.a, .int .i64 x.b, .string S] 320)).cell? ⟨w.heap.size, 4, none⟩ = some (.int .i64 x.a) := by rw [World.cell?_alloc_new]; rfl
            have c6 : (w.alloc (.cells #[.int .i64 x.kind, .int .i64 x.colour, .int .i64 x.left, .int .i64 x.low, .int .i64 x.a, .int .i64 x.b, .string S] 320)).cell? ⟨w.heap.size, 6, none⟩ = some (.string S) := by rw [World.cell?_alloc_new]; rfl
            have hbw : Below w.heap.size w (w.alloc (.cells #[.int .i64 x.kind, .int .i64 x.colour, .int .i64 x.left, .int .i64 x.low, .int .i64 x.a, .int .i64 x.b, .string S] 320)) := below_alloc _ _
            have hsz : (w.alloc (.cells #[.int .i64 x.kind, .int .i64 x.colour, .int .i64 x.left, .int .i64 x.low, .int .i64 x.a, .int .i64 x.b, .string S] 320)).heap.size = w.heap.size + 1 := by simp
            go_wp2_with fail
            generalize (w.alloc (.cells #[.int .i64 x.kind, .int .i64 x.colour, .int .i64 x.left, .int .i64 x.low, .int .i64 x.a, .int .i64 x.b, .string S] 320)) = W0 at c4 c6 hbw hsz ⊢
            rw [World.drewN_drewN]
            generalize hWW : W0.drewN _ = W
            have c4 : W.cell? ⟨w.heap.size, 4, none⟩ = some (.int .i64 x.a) := by rw [← hWW, World.cell?_drewN]; exact c4
            have c6 : W.cell? ⟨w.heap.size, 6, none⟩ = some (.string S) := by rw [← hWW, World.cell?_drewN]; exact c6
            have hbw : Below w.heap.size w W := by rw [← hWW]; exact below_drewN' hbw _
            have hsz : W.heap.size = w.heap.size + 1 := by rw [← hWW]; exact hsz
            clear hWW
            obtain ⟨q, hq⟩ := Int.eq_ofNat_of_zero_le (show 0 ≤ (i - x.left) / (6 * x.a) from Int.ediv_nonneg (by omega) (by omega))
            have hqn : q < n := by
              have : (i - x.left) / (6 * x.a) < (n : Int) := Int.ediv_lt_of_lt_mul (by omega) (by rw [Int.mul_comm]; omega)
              omega
            have HE8 := hid (w64 (n := (q : Int)) (by omega) (by omega)).2
            have HZ0 := hid (show (6 * x.a = 0) = False from by rw [eq_iff_iff]; exact ⟨fun h => by omega, False.elim⟩)
            have HZ1 := hid (show (x.a = 0) = False from by rw [eq_iff_iff]; exact ⟨fun h => by omega, False.elim⟩)
            have et2 : (i - x.left).tdiv (6 * x.a) = (q : Int) := by rw [Int.tdiv_eq_ediv_of_nonneg (by omega), hq]
            have hqS2 : q < S.size := by have := unhid HSS; omega
            have hcc := (unhid HG) q hqS2
            obtain ⟨cc, hcc2⟩ : ∃ cc : Int, cc = ((x.text.getD q 0).toNat : Int) := ⟨_, rfl⟩
            have cc0 : 0 ≤ cc := by omega
            have cc1 : cc ≤ 255 := by have := (x.text.getD q 0).toNat_lt; omega
            rw [← hcc2] at hcc
            obtain ⟨r0, r1, r2, r3, r4, r5, r6, hrl, hrv⟩ := letV_form cc
            have HLET := hid (show ∀ W', Calls Tryz.prog 299 #[.int .u8 cc] W' fun e w' => e = .returned (.tuple #[.agg #[.int .i64 r0, .int .i64 r1, .int .i64 r2, .int .i64 r3, .int .i64 r4, .int .i64 r5, .int .i64 r6], .bool (isL cc)]) ∧ Below W'.heap.size W' w' from fun W' => by rw [← hrv]; exact letter_calls cc W' cc0 cc1)
            have HQ := hid hq
            have HC := hid hcc2
            have HRL := hid hrl
            have hqS : (q : Int) < S.size := by omega
            have HET2 := hid et2
            clear hrv hq hcc2 hrl et2
            obtain ⟨B, hBB⟩ : ∃ B, B = w.heap.size := ⟨_, rfl⟩
            rw [← hBB] at c4 c6 hsz ⊢
            have HBB := hid hBB
            have HBW := hid hbw
            clear hBB hbw
            have hBW : B < W.heap.size := by omega
            go_cut [9] (fun s9 wz => ∃ B2 : Nat, s9 = .pointer (some ⟨B2, 0, none⟩) ∧ Below W.heap.size W wz ∧ wz.heap[B2]? = some (.cells #[.int .i64 r0, .int .i64 r1, .int .i64 r2, .int .i64 r3, .int .i64 r4, .int .i64 r5, .int .i64 r6] 402 (0, 0)))
            case first =>
              refine wp_region_noPanic ?_
              refine wp_region_E (S := fun w' => w'.cell? ⟨B, 4, none⟩ = some (.int .i64 x.a) ∧ w'.cell? ⟨B, 6, none⟩ = some (.string S)) 14 15 rfl (by kernel_rfl) (by kernel_rfl) ⟨c4, c6⟩ ?_
              intro hSE
              (refine WE_take (i := 0) (v := ?_) rfl (by kernel_rfl) (by decide) (by kernel_rfl) (by kernel_rfl) (fun _ _ _ h => h) (by rfl) hSE ?_ ?_; rotate_left; (focus (intro w hSw; (try dsimp only at hSw); go_simp; (try with_reducible rfl))); simp only [Act.put, List.setIfInBounds_toArray, List.set_cons_zero, List.set_cons_succ])
              (refine WE_take (i := 1) (v := ?_) rfl (by kernel_rfl) (by decide) (by kernel_rfl) (by kernel_rfl) (fun _ _ _ h => h) (by rfl) hSE ?_ ?_; rotate_left; (focus (intro w hSw; (try dsimp only at hSw); go_simp; (try with_reducible rfl))); simp only [Act.put, List.setIfInBounds_toArray, List.set_cons_zero, List.set_cons_succ])
              (refine WE_take (i := 2) (v := ?_) rfl (by kernel_rfl) (by decide) (by kernel_rfl) (by kernel_rfl) (fun _ _ _ h => h) (by rfl) hSE ?_ ?_; rotate_left; (focus (intro w hSw; (try dsimp only at hSw); go_simp; (try with_reducible rfl))); simp only [Act.put, List.setIfInBounds_toArray, List.set_cons_zero, List.set_cons_succ])
              (refine WE_take (i := 3) (v := ?_) rfl (by kernel_rfl) (by decide) (by kernel_rfl) (by kernel_rfl) (fun _ _ _ h => h) (by rfl) hSE ?_ ?_; rotate_left; (focus (intro w hSw; (try dsimp only at hSw); go_simp; (try with_reducible rfl))); simp only [Act.put, List.setIfInBounds_toArray, List.set_cons_zero, List.set_cons_succ])
              (refine WE_take (i := 4) (v := ?_) rfl (by kernel_rfl) (by decide) (by kernel_rfl) (by kernel_rfl) (fun _ _ _ h => h) (by rfl) hSE ?_ ?_; rotate_left; (focus (intro w hSw; (try dsimp only at hSw); go_simp; (try with_reducible rfl))); simp only [Act.put, List.setIfInBounds_toArray, List.set_cons_zero, List.set_cons_succ])
              (refine WE_take (i := 5) (v := ?_) rfl (by kernel_rfl) (by decide) (by kernel_rfl) (by kernel_rfl) (fun _ _ _ h => h) (by rfl) hSE ?_ ?_; rotate_left; (focus (intro w hSw; (try dsimp only at hSw); go_simp; (try with_reducible rfl))); simp only [Act.put, List.setIfInBounds_toArray, List.set_cons_zero, List.set_cons_succ])
              have hz0 := unhid HZ0
              have he8 := unhid HE8
              have het2 := unhid HET2
              (refine WE_take (i := 6) (v := ?_) rfl (by kernel_rfl) (by decide) (by kernel_rfl) (by kernel_rfl) (fun _ _ _ h => h) (by rfl) hSE ?_ ?_; rotate_left; (focus (intro w hSw; (try dsimp only at hSw); go_simp; (try with_reducible rfl))); simp only [Act.put, List.setIfInBounds_toArray, List.set_cons_zero, List.set_cons_succ])
              clear hz0 he8 het2
              (refine WE_take (i := 7) (v := ?_) rfl (by kernel_rfl) (by decide) (by kernel_rfl) (by kernel_rfl) (fun _ _ _ h => h) (by rfl) hSE ?_ ?_; rotate_left; (focus (intro w hSw; (try dsimp only at hSw); go_simp; (try with_reducible rfl))); simp only [Act.put, List.setIfInBounds_toArray, List.set_cons_zero, List.set_cons_succ])
              refine WE_two (i := 8) (j := 12) rfl rfl (by decide) (by decide) (by kernel_rfl) ?_ ?_
              · intro K hK
                go_simp
                go_at_call 299
                refine ((unhid HLET) _).mono ?_
                rintro e w5 ⟨rfl, hb5⟩
                have hB5 : Below W.heap.size W w5 := (Below.drew (Below.refl _ _)).trans hb5
                refine hK.out _ _ ⟨(hB5.cell (p := ⟨B, 4, none⟩) hBW).trans c4, (hB5.cell (p := ⟨B, 6, none⟩) hBW).trans c6⟩ ?_
                clear hSE hK K
                intro hSE
                (try simp only [Act.put, List.setIfInBounds_toArray, List.set_cons_zero, List.set_cons_succ])
                have hB5s := hB5.size
                (refine WE_take (i := 9) (v := ?_) rfl (by kernel_rfl) (by decide) (by kernel_rfl) (by kernel_rfl) (fun _ _ _ h => h) (by rfl) hSE ?_ ?_; rotate_left; (focus (intro w hSw; (try dsimp only at hSw); go_simp; (try with_reducible rfl))); simp only [Act.put, List.setIfInBounds_toArray, List.set_cons_zero, List.set_cons_succ])
                (refine WE_take (i := 10) (v := ?_) rfl (by kernel_rfl) (by decide) (by kernel_rfl) (by kernel_rfl) (fun _ _ _ h => h) (by rfl) hSE ?_ ?_; rotate_left; (focus (intro w hSw; (try dsimp only at hSw); go_simp; (try with_reducible rfl))); simp only [Act.put, List.setIfInBounds_toArray, List.set_cons_zero, List.set_cons_succ])
                (refine WE_take (i := 11) (v := ?_) rfl (by kernel_rfl) (by decide) (by kernel_rfl) (by kernel_rfl) (fun _ _ _ h => h) (by rfl) hSE ?_ ?_; rotate_left; (focus (intro w hSw; (try dsimp only at hSw); go_simp; (try with_reducible rfl))); simp only [Act.put, List.setIfInBounds_toArray, List.set_cons_zero, List.set_cons_succ])
                (refine WE_one (i := 12) rfl (by decide) (by kernel_rfl) ?_; intro K hK)
                go_simp
                refine hK.out _ _ ⟨(World.cell?_alloc_lt w5 _ ⟨B, 4, none⟩ (by dsimp only; omega)).trans ((hB5.cell (p := ⟨B, 4, none⟩) hBW).trans c4), (World.cell?_alloc_lt w5 _ ⟨B, 6, none⟩ (by dsimp only; omega)).trans ((hB5.cell (p := ⟨B, 6, none⟩) hBW).trans c6)⟩ ?_
                clear hSE hK K
                intro hSE
                (try simp only [Act.put, List.setIfInBounds_toArray, List.set_cons_zero, List.set_cons_succ])
                (refine WE_one (i := 13) rfl (by decide) (by kernel_rfl) ?_; intro K hK)
                go_simp
                refine hK.out _ _ ⟨(World.cell?_alloc_lt w5 _ ⟨B, 4, none⟩ (by dsimp only; omega)).trans ((hB5.cell (p := ⟨B, 4, none⟩) hBW).trans c4), (World.cell?_alloc_lt w5 _ ⟨B, 6, none⟩ (by dsimp only; omega)).trans ((hB5.cell (p := ⟨B, 6, none⟩) hBW).trans c6)⟩ ?_
                clear hSE hK K
                intro hSE
                (try simp only [Act.put, List.setIfInBounds_toArray, List.set_cons_zero, List.set_cons_succ])
                (refine WE_last rfl (by kernel_rfl) (by kernel_rfl) (by kernel_rfl) ?_; intro K hK; go_simp; refine hK.out _ _ (NoPanic.normal ?_); clear hK K)
                go_wp2_with fail
                go_meet
                case rel => exact ⟨w5.heap.size, rfl, hB5.alloc hB5s _, heap_alloc_new w5 _⟩
              · intro K hK
                go_simp
                refine hK.out _ _ ⟨(World.cell?_alloc_lt W _ ⟨B, 4, none⟩ hBW).trans c4, (World.cell?_alloc_lt W _ ⟨B, 6, none⟩ hBW).trans c6⟩ ?_
                clear hSE hK K
                intro hSE
                (try simp only [Act.put, List.setIfInBounds_toArray, List.set_cons_zero, List.set_cons_succ])
                (refine WE_one (i := 8) rfl (by decide) (by kernel_rfl) ?_; intro K hK)
                go_simp
                go_at_call 299
                refine ((unhid HLET) _).mono ?_
                rintro e w5 ⟨rfl, hb5⟩
                have hbA : Below W.heap.size W (W.alloc (.cells #[.int .i64 0, .int .i64 0, .int .i64 0, .int .i64 0, .int .i64 0, .int .i64 0, .int .i64 0] 402)) := below_alloc _ _
                have hB5 : Below W.heap.size W w5 := hbA.trans (((Below.drew (Below.refl _ _)).trans hb5).mono (by simp))
                have hN := hb5.block W.heap.size (by simp)
                have hU : w5.heap[W.heap.size]? = some (.cells #[.int .i64 0, .int .i64 0, .int .i64 0, .int .i64 0, .int .i64 0, .int .i64 0, .int .i64 0] 402 (0, 0)) := hN.trans (heap_alloc_new W _)
                refine hK.out _ _ ⟨(hB5.cell (p := ⟨B, 4, none⟩) hBW).trans c4, (hB5.cell (p := ⟨B, 6, none⟩) hBW).trans c6⟩ ?_
                clear hSE hK K
                intro hSE
                (try simp only [Act.put, List.setIfInBounds_toArray, List.set_cons_zero, List.set_cons_succ])
                rw [hsz] at hU
                have hcu : ∀ k, w5.cell? ⟨B + 1, k, none⟩ = #[Value.int .i64 0, .int .i64 0, .int .i64 0, .int .i64 0, .int .i64 0, .int .i64 0, .int .i64 0][k]? := fun k => cell_of_row _ _ _ _ _ _ hU
                have z0 := hcu 0
                have z1 := hcu 1
                have z2 := hcu 2
                have z3 := hcu 3
                have z4 := hcu 4
                have z5 := hcu 5
                have z6 := hcu 6
                simp at z0 z1 z2 z3 z4 z5 z6
                have fz : ∀ k, w5.frozen? ⟨B + 1, k, none⟩ = false := fun k => by simp [World.frozen?, hU]
                have hsz5 : B + 1 < w5.heap.size := (Array.getElem?_eq_some_iff.1 hU).1
                clear hcu hN hbA
                have HU := hid hU
                clear hU
                (refine WE_take (i := 9) (v := ?_) rfl (by kernel_rfl) (by decide) (by kernel_rfl) (by kernel_rfl) (fun _ _ _ h => h) (by rfl) hSE ?_ ?_; rotate_left; (focus (intro w hSw; (try dsimp only at hSw); go_simp; (try with_reducible rfl))); simp only [Act.put, List.setIfInBounds_toArray, List.set_cons_zero, List.set_cons_succ])
                (refine WE_take (i := 10) (v := ?_) rfl (by kernel_rfl) (by decide) (by kernel_rfl) (by kernel_rfl) (fun _ _ _ h => h) (by rfl) hSE ?_ ?_; rotate_left; (focus (intro w hSw; (try dsimp only at hSw); go_simp; (try with_reducible rfl))); simp only [Act.put, List.setIfInBounds_toArray, List.set_cons_zero, List.set_cons_succ])
                (refine WE_take (i := 11) (v := ?_) rfl (by kernel_rfl) (by decide) (by kernel_rfl) (by kernel_rfl) (fun _ _ _ h => h) (by rfl) hSE ?_ ?_; rotate_left; (focus (intro w hSw; (try dsimp only at hSw); go_simp; (try with_reducible rfl))); simp only [Act.put, List.setIfInBounds_toArray, List.set_cons_zero, List.set_cons_succ])
                (refine WE_one (i := 13) rfl (by decide) (by kernel_rfl) ?_; intro K hK)
                go_simp
                have hBf : ∀ (w6 : World), Below W.heap.size W w6 → w6.cell? ⟨B, 4, none⟩ = some (.int .i64 x.a) ∧ w6.cell? ⟨B, 6, none⟩ = some (.string S) := fun w6 hb => ⟨(hb.cell (p := ⟨B, 4, none⟩) hBW).trans c4, (hb.cell (p := ⟨B, 6, none⟩) hBW).trans c6⟩
                refine hK.out _ (((((((w5.setCell ⟨B + 1, 0, none⟩ _).setCell ⟨B + 1, 1, none⟩ _).setCell ⟨B + 1, 2, none⟩ _).setCell ⟨B + 1, 3, none⟩ _).setCell ⟨B + 1, 4, none⟩ _).setCell ⟨B + 1, 5, none⟩ _).setCell ⟨B + 1, 6, none⟩ _) (hBf _ ?_) ?_
                · repeat (refine Below.setCell ?_ (by dsimp only; omega) _)
                  exact hB5
                clear hSE hK K
                intro hSE
                (try simp only [Act.put, List.setIfInBounds_toArray, List.set_cons_zero, List.set_cons_succ])
                (refine WE_last rfl (by kernel_rfl) (by kernel_rfl) (by kernel_rfl) ?_; intro K hK; go_simp; refine hK.out _ _ (NoPanic.normal ?_); clear hK K)
                go_wp2_with fail
                go_meet
                case rel =>
                  refine ⟨B + 1, rfl, ?_, ?_⟩
                  · repeat (refine Below.setCell ?_ (by dsimp only; omega) _)
                    exact hB5
                  · rw [block_set_same (block_set_same (block_set_same (block_set_same (block_set_same (block_set_same (block_set_same (unhid HU) _ _) _ _) _ _) _ _) _ _) _ _) _ _]; rfl
            case rest =>
              obtain ⟨B2, rfl, hbz, hU⟩ := hcut
              have c4z := (hbz.cell (p := ⟨B, 4, none⟩) hBW).trans c4
              have hbel := hid ((unhid HBW).trans (hbz.mono (by have := (unhid HBW).size; omega)))
              obtain ⟨r, hr⟩ := Int.eq_ofNat_of_zero_le (show 0 ≤ (j - x.low) / x.a from Int.ediv_nonneg (by omega) (by omega))
              have hr7 : r < 7 := by
                have : (j - x.low) / x.a < 7 := Int.ediv_lt_of_lt_mul (by omega) (by omega)
                omega
              obtain ⟨m, hm⟩ := Int.eq_ofNat_of_zero_le (show 0 ≤ (i - x.left) % (6 * x.a) / x.a from Int.ediv_nonneg (by omega) (by omega))
              have hm5 : m < 5 := by
                have : (i - x.left) % (6 * x.a) / x.a < 5 := Int.ediv_lt_of_lt_mul (by omega) (by omega)
                omega
              have hfin : inkB x i j = bitL ([r0, r1, r2, r3, r4, r5, r6].getD (6 - r) 0) m := by
                have h := (unhid HYES) (by rw [← unhid HN]; omega)
                rw [unhid HQ, hr, hm] at h
                have e1 : ((q : Int)).toNat = q := rfl
                have e2 : (6 - (r : Int)).toNat = 6 - r := by omega
                rw [e1, e2, ← unhid HC, unhid HRL] at h
                exact h
              have HFIN := hid hfin
              clear hfin
              have hcu : ∀ k, wc.cell? ⟨B2, k, none⟩ = #[Value.int .i64 r0, .int .i64 r1, .int .i64 r2, .int .i64 r3, .int .i64 r4, .int .i64 r5, .int .i64 r6][k]? := fun k => cell_of_row _ _ _ _ _ _ hU
              obtain ⟨rr, hrr⟩ : ∃ rr, rr = [r0, r1, r2, r3, r4, r5, r6].getD (6 - r) 0 := ⟨_, rfl⟩
              have hcr := hcu (6 - r)
              have hcr' : wc.cell? ⟨B2, 6 - r, none⟩ = some (.int .i64 rr) := by
                rw [hcr, hrr]
                rcases (show r = 0 ∨ r = 1 ∨ r = 2 ∨ r = 3 ∨ r = 4 ∨ r = 5 ∨ r = 6 by omega) with rfl | rfl | rfl | rfl | rfl | rfl | rfl <;> rfl
              rw [← hrr] at HFIN
              have HBEL := hbel
              have HE9 := hid (w64 (n := (m : Int)) (by omega) (by omega))
              have HE10 := hid (w64 (n := (r : Int)) (by omega) (by omega))
              have HE11 := hid (w64 (n := 6 - (r : Int)) (by omega) (by omega))
              have HE12 := hid (w64 (n := 4 - (m : Int)) (by omega) (by omega))
              have p1 : 0 ≤ 6 - (r : Int) := by omega
              have p2 : 6 - (r : Int) < 7 := by omega
              have HP3 := hid (show (6 - (r : Int)).toNat = 6 - r by omega)
              have p4 : 0 ≤ 4 - (m : Int) := by omega
              have hu0 : 0 ≤ i - x.left := by omega
              have hv0 : 0 ≤ j - x.low := by omega
              have et3 : ((i - x.left) % (6 * x.a)).tdiv x.a = (m : Int) := by rw [Int.tdiv_eq_ediv_of_nonneg hm0, hm]
              have et4 : (j - x.low).tdiv x.a = (r : Int) := by rw [Int.tdiv_eq_ediv_of_nonneg hv0, hr]
              clear hbz hU hcu hcr hrr hr hm hbel
              have HET3 := hid et3
              have HET4 := hid et4
              clear et3 et4
              go_wp2_with fail
              have et3 := unhid HET3
              have e9' := (unhid HE9).2
              have hz0 := unhid HZ0
              have hz1 := unhid HZ1
              go_quiet (fail)
              clear et3 e9' hz0 hz1
              have et4 := unhid HET4
              have hf6 : (6 - (r : Int)) = ((6 - r : Nat) : Int) := by omega
              clear e1 e1' e2 e2' e3 e3' e4 e4' e5 e5' e6 e6' e7 e7'
              go_wp2_with fail
              go_ret
              have hb := unhid HBEL
              exact ⟨retE ((unhid HFIN).trans (bitL_and hm5)), below_drewN' hb _⟩

end Go.Proofs.YtfklckjfbnaoeaaGreatDoor
