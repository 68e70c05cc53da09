/-
  The law BookDisks. The law BookDisks, for the arguments as they come in.
-/
import Derived.Test.YtegghimjmbgghaaGreatBkQD
import Derived.Deep.CutRange
import Derived.Deep.CutBlock
set_option linter.unusedSimpArgs false
set_option linter.unusedVariables false
namespace Go.Proofs.YtegghimjmbgghaaGreat
open Go.RowKit

section
open Go.RowKit Go.Shelf

set_option maxHeartbeats 16000000 in
set_option maxRecDepth 100000 in
theorem ldisks_calls (L : List Mv) (A : Option Addr) (c : Nat) (w : World) (hr : Rd w A (mvs L)) (hrl : ∀ m ∈ L, Rd w m.A (bys m.l)) (h64 : ∀ m ∈ L, I64 m.kd ∧ I64 m.n) (hln : (L.length : Int) ≤ 9223372036854775807) :
    Calls Tryz.prog 4 #[.slice A L.length c] w fun e w' => e = .returned (.bool true) ∧ Below w.heap.size w w' := by
  have HR := hid hr
  have HRL := hid hrl
  have H64 := hid h64
  clear hr hrl h64
  go_enter Tryz.func4, Tryz.ntmps4
  by_cases h1 : 40 < L.length
  · have hni : (40 : Int) < (L.length : Int) := by omega
    clear h1
    go_wp2_with fail
    refine (first_calls w).mono ?_
    rintro e w1 ⟨rfl, hb1⟩
    have HB := hid hb1
    clear hb1
    go_wp2_with fail
    go_ret
    exact ⟨rfl, unhid HB⟩
  · have hni : ¬ (40 : Int) < (L.length : Int) := by omega
    have HL := hid (show L.length ≤ 40 from by omega)
    clear h1
    go_wp2_with fail
    refine (knew_calls w).mono ?_
    rintro e w1 ⟨rfl, hk1, hb1⟩
    have HK := hid hk1
    have HB := hid hb1
    clear hk1 hb1 hni
    go_upto_region 4 with (fail)
    have hba := below_alloc w1 (.cells #[.slice none 0 0, .int .i64 0, .int .i64 0, .bool false, .int .i64 0] 54)
    have hna := heap_alloc_new w1 (.cells #[.slice none 0 0, .int .i64 0, .int .i64 0, .bool false, .int .i64 0] 54)
    have HV := hid (show DuoV w (w1.alloc (.cells #[.slice none 0 0, .int .i64 0, .int .i64 0, .bool false, .int .i64 0] 54)) 0 (.pointer (some ⟨w.heap.size, 0, none⟩)) (.pointer (some ⟨w1.heap.size, 0, none⟩)) (.pointer none) (.pointer none) from
      ⟨w.heap.size, _, w1.heap.size, .slice none 0 0, ⟨false, [], 0, 0, 0⟩, rfl, rfl, ⟨(unhid HB).trans (hba.mono (unhid HB).size), (unhid HK).below hba, ⟨hna, World.ownsRow_nil _ _ _ _, Nat.le_refl _, by decide, Nat.le_trans (unhid HB).size hba.size⟩, Nat.le_refl _, (unhid HB).size, fun g hg => by cases hg⟩, by simp, .inl ⟨rfl, rfl⟩⟩)
    clear hba hna HK HB
    generalize w1.alloc (.cells #[.slice none 0 0, .int .i64 0, .int .i64 0, .bool false, .int .i64 0] 54) = W at *
    obtain ⟨kv0, hkv0⟩ : ∃ kv0, kv0 = Value.pointer (some ⟨w.heap.size, 0, none⟩) := ⟨_, rfl⟩
    obtain ⟨rv0, hrv0⟩ : ∃ rv0, rv0 = Value.pointer (some ⟨w1.heap.size, 0, none⟩) := ⟨_, rfl⟩
    rw [← hkv0, ← hrv0] at HV ⊢
    clear hkv0 hrv0
    go_upto_region 7 with (fail)
    go_loopw [7, 3, 4, 5, 6] (fun iv kv rv lp mp wr => ∃ k : Nat, k ≤ L.length ∧ iv = .int .i64 (k : Int) ∧ DuoV w wr k kv rv lp mp) (fun iv _ _ _ _ _ => L.length - (intOf iv).toNat)
    case atStart => exact ⟨0, Nat.zero_le _, rfl, unhid HV⟩
    case round =>
      clear HV
      obtain ⟨k, hk, rfl, hv⟩ := hrel
      have HV := hid hv
      clear hv
      by_cases hlt : k < L.length
      · have hki : (k : Int) < (L.length : Int) := by omega
        have hrw := (unhid HR).below (unhid HV).b
        obtain ⟨b, off, hA, hbl, hc⟩ := hrw (mvs_ne hlt)
        obtain ⟨x, hx⟩ : ∃ x, x = L[k] := ⟨_, rfl⟩
        obtain ⟨e0, e1, e2⟩ := mvs_cells hc hlt hx.symm
        have hXle := (unhid HV).b.size
        have HX := hid (show x ∈ L from by rw [hx]; exact List.getElem_mem hlt)
        subst hA
        clear hc hx hrw
        go_upto_region 10 with (fail)
        have hba := below_alloc wr (.cells (mvC x).toArray 58)
        have hna : MvAt (wr.alloc (.cells (mvC x).toArray 58)) wr.heap.size x := heap_alloc_new wr _
        have HV := hid ((unhid HV).below hba)
        have HM := hid hna
        obtain ⟨X, hX⟩ : ∃ X, X = wr.heap.size := ⟨_, rfl⟩
        have HXW := hid (show w.heap.size ≤ X from by rw [hX]; exact hXle)
        rw [← hX] at HM ⊢
        clear hba hna e0 e1 e2 hX
        change Code.wp _ _ _ _ (wr.alloc (.cells (mvC x).toArray 58))
        generalize wr.alloc (.cells (mvC x).toArray 58) = Wm at *
        obtain ⟨m0, m1, m2⟩ := (unhid HM).cells
        by_cases hlong : 2100 < x.l.length
        · have hli : (2100 : Int) < (x.l.length : Int) := by omega
          clear hlong
          go_wp2_with fail
          refine (first_calls Wm).mono ?_
          rintro e w2 ⟨rfl, hb2⟩
          have HB := hid ((unhid HV).b.trans (hb2.mono (unhid HV).b.size))
          clear hb2
          go_wp2_with fail
          go_ret
          exact ⟨rfl, unhid HB⟩
        · have hli : ¬ (2100 : Int) < (x.l.length : Int) := by omega
          have HLX := hid (show x.l.length ≤ 2100 from by omega)
          clear hlong
          go_upto_block 2 with (fail)
          clear hli
          obtain ⟨q, hq⟩ : ∃ q, q = (IntKind.u64.wrap x.kd).tmod 8 := ⟨_, rfl⟩
          have HQ := hid (show 0 ≤ q ∧ q < 8 from by
            have h0 : 0 ≤ IntKind.u64.wrap x.kd := by simp only [IntKind.wrap, IntKind.signed, IntKind.bits]; simp; omega
            rw [hq, Int.tmod_eq_emod_of_nonneg h0]
            omega)
          rw [← hq]
          clear hq
          go_cut [3, 4, 5, 6, 9] from 37 to 133 (fun kv rv lp mp sm wz => sm = .bool true ∧ DuoV w wz (k + 1) kv rv lp mp)
          case first =>
            obtain ⟨B, v, B2, v2, d, hkv, hrv, hD, hdl, hlg⟩ := unhid HV
            have HD := hid hD
            have HDL := hid (show d.bs.length + 2107 ≤ 1000000 ∧ d.bs.length ≤ k * 2107 from ⟨by have := unhid HL; omega, hdl⟩)
            have HDL1 := hid (show d.bs.length ≤ 1000000 from by have := (unhid HDL).1; omega)
            have HLG := hid (show LogsOr w Wm B v B2 k u5 u6 from hlg)
            have H64x := hid ((unhid H64) x (unhid HX))
            have HRX := hid ((unhid HRL) x (unhid HX))
            subst hkv hrv
            clear hD hdl hlg HV
            have hqs : q = 0 ∨ q = 1 ∨ q = 2 ∨ q = 3 ∨ q = 4 ∨ q = 5 ∨ q = 6 ∨ q = 7 := by have := unhid HQ; omega
            rcases hqs with rfl | rfl | rfl | rfl | rfl | rfl | rfl | rfl
            · go_upto_region 15 with (fail)
              have HSF := hid (show ∀ w', Below Wm.heap.size Wm w' → w'.cell? ⟨X, 2, none⟩ = some (.slice x.A x.l.length x.c) from fun w' hb => ((unhid HM).below hb).cells.2.2)
              refine wp_region_noPanic ?_
              refine wp_region_E (S := fun w' => w'.cell? ⟨X, 2, none⟩ = some (.slice x.A x.l.length x.c)) 9 10 rfl (by kernel_rfl) (by kernel_rfl) ((unhid HSF) _ (Below.drew (Below.refl _ _))) ?_
              intro hSE
              have HBe := hid (Below.drew (Below.refl Wm.heap.size Wm))
              clear m0 m1 m2
              generalize Wm.drew = Wd at *
              have HD := hid ((unhid HD).below (unhid HBe))
              have HM := hid ((unhid HM).below (unhid HBe))
              (refine WE_take (i := 0) (v := ?_) rfl (by kernel_rfl) (by decide) (by kernel_rfl) (by kernel_rfl) (fun _ _ _ h => h) (by rfl) hSE ?_ ?_; rotate_left; (focus (intro w hSw; (try dsimp only at hSw); go_simp; (try with_reducible rfl))); simp only [Act.put, List.setIfInBounds_toArray, List.set_cons_zero, List.set_cons_succ])
              (refine WE_take (i := 1) (v := ?_) rfl (by kernel_rfl) (by decide) (by kernel_rfl) (by kernel_rfl) (fun _ _ _ h => h) (by rfl) hSE ?_ ?_; rotate_left; (focus (intro w hSw; (try dsimp only at hSw); go_simp; (try with_reducible rfl))); simp only [Act.put, List.setIfInBounds_toArray, List.set_cons_zero, List.set_cons_succ])
              (refine WE_take (i := 2) (v := ?_) rfl (by kernel_rfl) (by decide) (by kernel_rfl) (by kernel_rfl) (fun _ _ _ h => h) (by rfl) hSE ?_ ?_; rotate_left; (focus (intro w hSw; (try dsimp only at hSw); go_simp; (try with_reducible rfl))); simp only [Act.put, List.setIfInBounds_toArray, List.set_cons_zero, List.set_cons_succ])
              (refine WE_take (i := 4) (v := ?_) rfl (by kernel_rfl) (by decide) (by kernel_rfl) (by kernel_rfl) (fun _ _ _ h => h) (by rfl) hSE ?_ ?_; rotate_left; (focus (intro w hSw; (try dsimp only at hSw); go_simp; (try with_reducible rfl))); simp only [Act.put, List.setIfInBounds_toArray, List.set_cons_zero, List.set_cons_succ])
              (refine WE_take (i := 5) (v := ?_) rfl (by kernel_rfl) (by decide) (by kernel_rfl) (by kernel_rfl) (fun _ _ _ h => h) (by rfl) hSE ?_ ?_; rotate_left; (focus (intro w hSw; (try dsimp only at hSw); go_simp; (try with_reducible rfl))); simp only [Act.put, List.setIfInBounds_toArray, List.set_cons_zero, List.set_cons_succ])
              (refine WE_take (i := 6) (v := ?_) rfl (by kernel_rfl) (by decide) (by kernel_rfl) (by kernel_rfl) (fun _ _ _ h => h) (by rfl) hSE ?_ ?_; rotate_left; (focus (intro w hSw; (try dsimp only at hSw); go_simp; (try with_reducible rfl))); simp only [Act.put, List.setIfInBounds_toArray, List.set_cons_zero, List.set_cons_succ])
              (refine WE_one (i := 3) rfl (by decide) (by kernel_rfl) ?_; intro K hK)
              go_simp
              go_at_call 22
              refine (kappend_calls x.l x.A x.c Wd (unhid HD).k ((unhid HRX).below (unhid HD).b) (by have := unhid HDL; have := unhid HLX; omega)).mono ?_
              rintro e w2 ⟨rfl, v', hk', ht, hn⟩
              have HM2 := hid ((unhid HM).ds (unhid HD).k (two_ds ht))
              have HP := hid (⟨hk', ht, hn⟩ : DkAt w2 w.heap.size B v' (appD d x.l) ∧ TwoBut Wd w2 B v.ownBlock ∧ NewRow Wd v v')
              refine hK.out _ _ (unhid HM2).cells.2.2 ?_
              clear hSE hK K hk' ht hn HSF
              intro hSE
              (try simp only [Act.put, List.setIfInBounds_toArray, List.set_cons_zero, List.set_cons_succ])
              (refine WE_one (i := 7) rfl (by decide) (by kernel_rfl) ?_; intro K hK)
              go_simp
              go_at_call 23
              refine (rappend_calls x.l x.A x.c w2 ((unhid HD).rk (two_ds (unhid HP).2.1)) ((unhid HRX).below ((unhid HD).bs (two_ds (unhid HP).2.1))) (by have := unhid HDL; have := unhid HLX; omega)).mono ?_
              rintro e w3 ⟨rfl, v2', hr', hg2, hn2⟩
              have HM3 := hid ((unhid HM2).rs ((unhid HD).rk (two_ds (unhid HP).2.1)) hg2)
              have HV := hid (duoV_no (k := k) ((unhid HD).both (unhid HP).1 (two_ds (unhid HP).2.1) (unhid HP).2.2 hr' hg2 hn2) (by have := appD_len d x.l; have := unhid HDL; have := unhid HLX; omega))
              refine hK.out _ _ (unhid HM3).cells.2.2 ?_
              clear hSE hK K hr' hg2 hn2
              intro hSE
              (try simp only [Act.put, List.setIfInBounds_toArray, List.set_cons_zero, List.set_cons_succ])
              (refine WE_take (i := 8) (v := ?_) rfl (by kernel_rfl) (by decide) (by kernel_rfl) (by kernel_rfl) (fun _ _ _ h => h) (by rfl) hSE ?_ ?_; rotate_left; (focus (intro w hSw; (try dsimp only at hSw); go_simp; (try with_reducible rfl))); simp only [Act.put, List.setIfInBounds_toArray, List.set_cons_zero, List.set_cons_succ])
              (refine WE_last rfl (by kernel_rfl) (by kernel_rfl) (by kernel_rfl) ?_; intro K hK; go_simp; refine hK.out _ _ (NoPanic.normal ?_); clear hK K)
              clear hSE
              go_wp2_with fail
              go_meet
              case rel => exact ⟨by simp, unhid HV⟩
            · go_wp2_with fail
              refine (ksync_calls Wm (unhid HD).k (unhid HDL1)).mono ?_
              rintro e w2 ⟨rfl, hk', hg⟩
              have HP := hid (⟨hk', hg⟩ : DkAt w2 w.heap.size B v (syncD d) ∧ Wm.grownBy w2 (some B))
              clear hk' hg m0 m1 m2
              go_wp2_with fail
              refine (rsync_calls w2 ((unhid HD).rk (grown_ds (unhid HP).2 v)) (unhid HDL1)).mono ?_
              rintro e w3 ⟨rfl, v2', hr', hg2, hn2⟩
              have HV := hid (duoV_lg (k := k) ((unhid HD).both (unhid HP).1 (grown_ds (unhid HP).2 v) (.refl _ _) hr' hg2 hn2) (by rw [syncD_len]; have := unhid HDL; omega) (LogsOr.both (unhid HD) (unhid HLG) (unhid HP).1 (TwoBut.of (unhid HP).2) (.refl _ _) hg2))
              clear hr' hg2 hn2
              go_wp2_with fail
              go_meet
              case rel => exact ⟨by simp, unhid HV⟩
            · go_upto_region 20 with (fail)
              have HSF := hid (show ∀ w', Below Wm.heap.size Wm w' → w'.cell? ⟨X, 1, none⟩ = some (.int .i64 x.n) from fun w' hb => ((unhid HM).below hb).cells.2.1)
              refine wp_region_noPanic ?_
              refine wp_region_E (S := fun w' => w'.cell? ⟨X, 1, none⟩ = some (.int .i64 x.n)) 9 10 rfl (by kernel_rfl) (by kernel_rfl) ((unhid HSF) _ (Below.drew (Below.refl _ _))) ?_
              intro hSE
              have HBe := hid (Below.drew (Below.refl Wm.heap.size Wm))
              clear m0 m1 m2
              generalize Wm.drew = Wd at *
              have HD := hid ((unhid HD).below (unhid HBe))
              have HM := hid ((unhid HM).below (unhid HBe))
              (refine WE_take (i := 0) (v := ?_) rfl (by kernel_rfl) (by decide) (by kernel_rfl) (by kernel_rfl) (fun _ _ _ h => h) (by rfl) hSE ?_ ?_; rotate_left; (focus (intro w hSw; (try dsimp only at hSw); go_simp; (try with_reducible rfl))); simp only [Act.put, List.setIfInBounds_toArray, List.set_cons_zero, List.set_cons_succ])
              (refine WE_take (i := 1) (v := ?_) rfl (by kernel_rfl) (by decide) (by kernel_rfl) (by kernel_rfl) (fun _ _ _ h => h) (by rfl) hSE ?_ ?_; rotate_left; (focus (intro w hSw; (try dsimp only at hSw); go_simp; (try with_reducible rfl))); simp only [Act.put, List.setIfInBounds_toArray, List.set_cons_zero, List.set_cons_succ])
              (refine WE_take (i := 2) (v := ?_) rfl (by kernel_rfl) (by decide) (by kernel_rfl) (by kernel_rfl) (fun _ _ _ h => h) (by rfl) hSE ?_ ?_; rotate_left; (focus (intro w hSw; (try dsimp only at hSw); go_simp; (try with_reducible rfl))); simp only [Act.put, List.setIfInBounds_toArray, List.set_cons_zero, List.set_cons_succ])
              (refine WE_take (i := 4) (v := ?_) rfl (by kernel_rfl) (by decide) (by kernel_rfl) (by kernel_rfl) (fun _ _ _ h => h) (by rfl) hSE ?_ ?_; rotate_left; (focus (intro w hSw; (try dsimp only at hSw); go_simp; (try with_reducible rfl))); simp only [Act.put, List.setIfInBounds_toArray, List.set_cons_zero, List.set_cons_succ])
              (refine WE_take (i := 5) (v := ?_) rfl (by kernel_rfl) (by decide) (by kernel_rfl) (by kernel_rfl) (fun _ _ _ h => h) (by rfl) hSE ?_ ?_; rotate_left; (focus (intro w hSw; (try dsimp only at hSw); go_simp; (try with_reducible rfl))); simp only [Act.put, List.setIfInBounds_toArray, List.set_cons_zero, List.set_cons_succ])
              (refine WE_take (i := 6) (v := ?_) rfl (by kernel_rfl) (by decide) (by kernel_rfl) (by kernel_rfl) (fun _ _ _ h => h) (by rfl) hSE ?_ ?_; rotate_left; (focus (intro w hSw; (try dsimp only at hSw); go_simp; (try with_reducible rfl))); simp only [Act.put, List.setIfInBounds_toArray, List.set_cons_zero, List.set_cons_succ])
              (refine WE_one (i := 3) rfl (by decide) (by kernel_rfl) ?_; intro K hK)
              go_simp
              go_at_call 26
              refine (kcut_calls x.n Wd (unhid HD).k (unhid HDL1)).mono ?_
              rintro e w2 ⟨rfl, v', hk', hg, hv'⟩
              have HM2 := hid ((unhid HM).ds (unhid HD).k (grown_ds hg v))
              have HP := hid (⟨hk', hg, hv'⟩ : DkAt w2 w.heap.size B v' (cutD d x.n) ∧ Wd.grownBy w2 (some B) ∧ v'.ownBlock = v.ownBlock)
              refine hK.out _ _ (unhid HM2).cells.2.1 ?_
              clear hSE hK K hk' hg hv' HSF
              intro hSE
              (try simp only [Act.put, List.setIfInBounds_toArray, List.set_cons_zero, List.set_cons_succ])
              (refine WE_one (i := 7) rfl (by decide) (by kernel_rfl) ?_; intro K hK)
              go_simp
              go_at_call 27
              refine (rcut_calls x.n w2 ((unhid HD).rk (grown_ds (unhid HP).2.1 v)) (unhid HDL1)).mono ?_
              rintro e w3 ⟨rfl, v2', hr', hg2, hn2⟩
              have HM3 := hid ((unhid HM2).rs ((unhid HD).rk (grown_ds (unhid HP).2.1 v)) hg2)
              have HV := hid (duoV_no (k := k) ((unhid HD).both (unhid HP).1 (grown_ds (unhid HP).2.1 v) (.inl (unhid HP).2.2) hr' hg2 hn2) (by have := cutD_len d x.n; have := unhid HDL; omega))
              refine hK.out _ _ (unhid HM3).cells.2.1 ?_
              clear hSE hK K hr' hg2 hn2
              intro hSE
              (try simp only [Act.put, List.setIfInBounds_toArray, List.set_cons_zero, List.set_cons_succ])
              (refine WE_take (i := 8) (v := ?_) rfl (by kernel_rfl) (by decide) (by kernel_rfl) (by kernel_rfl) (fun _ _ _ h => h) (by rfl) hSE ?_ ?_; rotate_left; (focus (intro w hSw; (try dsimp only at hSw); go_simp; (try with_reducible rfl))); simp only [Act.put, List.setIfInBounds_toArray, List.set_cons_zero, List.set_cons_succ])
              (refine WE_last rfl (by kernel_rfl) (by kernel_rfl) (by kernel_rfl) ?_; intro K hK; go_simp; refine hK.out _ _ (NoPanic.normal ?_); clear hK K)
              clear hSE
              go_wp2_with fail
              go_meet
              case rel => exact ⟨by simp, unhid HV⟩
            · go_wp2_with fail
              refine (karm_calls x.n Wm (unhid HD).k (unhid H64x).2).mono ?_
              rintro e w2 ⟨rfl, hk', hg⟩
              have HP := hid (⟨hk', hg⟩ : DkAt w2 w.heap.size B v (armD d x.n) ∧ Wm.grownBy w2 (some B))
              have m1' := ((unhid HM).ds (unhid HD).k (grown_ds hg v)).cells.2.1
              clear hk' hg m0 m1 m2
              go_wp2_with fail
              refine (rarm_calls x.n w2 ((unhid HD).rk (grown_ds (unhid HP).2 v)) (unhid H64x).2).mono ?_
              rintro e w3 ⟨rfl, v2', hr', hg2, hn2⟩
              have HV := hid (duoV_lg (k := k) ((unhid HD).both (unhid HP).1 (grown_ds (unhid HP).2 v) (.refl _ _) hr' hg2 hn2) (by have := unhid HDL; show d.bs.length ≤ _; omega) (LogsOr.both (unhid HD) (unhid HLG) (unhid HP).1 (TwoBut.of (unhid HP).2) (.refl _ _) hg2))
              clear hr' hg2 hn2 m1'
              go_wp2_with fail
              go_meet
              case rel => exact ⟨rfl, unhid HV⟩
            · go_wp2_with fail
              refine (kcrash_calls x.n Wm (unhid HD).k (unhid HDL1) (unhid H64x).2).mono ?_
              rintro e w2 ⟨rfl, v', hk', hg, hv'⟩
              have HP := hid (⟨hk', hg, hv'⟩ : DkAt w2 w.heap.size B v' (crashD d x.n) ∧ Wm.grownBy w2 (some B) ∧ v'.ownBlock = v.ownBlock)
              have m1' := ((unhid HM).ds (unhid HD).k (grown_ds hg v)).cells.2.1
              clear hk' hg hv' m0 m1 m2
              go_wp2_with fail
              refine (rcrash_calls x.n w2 ((unhid HD).rk (grown_ds (unhid HP).2.1 v)) (unhid HDL1) (unhid H64x).2).mono ?_
              rintro e w3 ⟨rfl, v2', hr', hg2, hn2⟩
              have HV := hid (duoV_lg (k := k) ((unhid HD).both (unhid HP).1 (grown_ds (unhid HP).2.1 v) (.inl (unhid HP).2.2) hr' hg2 hn2) (by have := crashD_len d x.n; have := unhid HDL; omega) (LogsOr.both (unhid HD) (unhid HLG) (unhid HP).1 (TwoBut.of (unhid HP).2.1) (.inl (unhid HP).2.2) hg2))
              clear hr' hg2 hn2 m1'
              go_wp2_with fail
              go_meet
              case rel => exact ⟨rfl, unhid HV⟩
            · go_wp2_with fail
              refine (kopen_calls Wm (unhid HD).k (unhid HDL1)).mono ?_
              rintro e w2 ⟨v', hk', hg, hv', hres⟩
              have HP := hid (⟨hk', hg, hv'⟩ : DkAt w2 w.heap.size B v' (openD d) ∧ Wm.grownBy w2 (some B) ∧ v'.ownBlock = v.ownBlock)
              clear hk' hg hv' m0 m1 m2
              have HRO := hid (ropen_calls w2 ((unhid HD).rk (grown_ds (unhid HP).2.1 v)) (unhid HDL1))
              rcases hres with ⟨hne, rfl⟩ | ⟨he0, Bl, lv, M, rfl, hBl, hlo, hM⟩
              · have HNE := hid hne
                have h92 := openE_92 hne
                rw [h92]
                clear hne h92
                go_wp2_with fail
                refine (unhid HRO).mono ?_
                rintro e w3 ⟨v2', hr', hg2, hn2, ⟨-, rfl⟩ | ⟨he0, -⟩⟩
                · have HV := hid (duoV_no (k := k) ((unhid HD).both (unhid HP).1 (grown_ds (unhid HP).2.1 v) (.inl (unhid HP).2.2) hr' hg2 hn2) (by have := openD_len d; have := unhid HDL; omega))
                  clear hr' hg2 hn2 HRO
                  go_wp2_with fail
                  go_meet
                  case rel => exact ⟨by simp, unhid HV⟩
                · exact absurd he0 (unhid HNE)
              · have HE0 := hid he0
                have HLO := hid (⟨hBl, hlo, hM⟩ : Wm.heap.size ≤ Bl ∧ LoAt w2 (Bl + 1) Wm.heap.size Bl B d.lf false lv M ∧ ents M = (scanP d.bs).2)
                clear he0 hBl hlo hM
                go_wp2_with fail
                refine (unhid HRO).mono ?_
                rintro e w3 ⟨v2', hr', hg2, hn2, ⟨hne, rfl⟩ | ⟨-, Bm, mv, M2, rfl, hBm, hro, hM2⟩⟩
                · exact absurd (unhid HE0) hne
                · have hop := (unhid HD).opened (unhid HP).1 (unhid HP).2.1 (unhid HP).2.2 (unhid HLO).2.1 (by have h1 := (unhid HD).b.size; have := (unhid HLO).1; omega) (unhid HLO).1 hr' hg2 hn2 hro hBm (by rw [(unhid HLO).2.2, hM2])
                  have hsz := duo_sizes d.bs (unhid HLO).2.2
                  have HV := hid (duoV_lg (k := k) hop.1 (by have := openD_len d; have := unhid HDL; omega) (.inr ⟨_, _, _, _, _, _, _, _, rfl, rfl, hop.2, by have := unhid HDL; omega, hsz.2⟩))
                  clear hr' hg2 hn2 HRO hro hBm hM2 hop hsz
                  go_wp2_with fail
                  go_meet
                  case rel => exact ⟨by simp, unhid HV⟩
            · rcases unhid HLG with ⟨h5, h6⟩ | ⟨Bl, Bm, lf, fl, lv, mv, Le, Me, h5, h6, hlg, hll, hle⟩
              · subst h5 h6
                have HV := hid (duoV_no (k := k) (unhid HD) (by have := unhid HDL; omega))
                go_wp2_with fail
                go_meet
                case rel => exact ⟨rfl, unhid HV⟩
              · subst h5 h6
                have HG := hid hlg
                have HLL := hid hll
                have HLE := hid hle
                clear hlg hll hle HLG
                go_upto_region 35 with (fail)
                have HSF := hid (show ∀ w', Below Wm.heap.size Wm w' → w'.cell? ⟨X, 2, none⟩ = some (.slice x.A x.l.length x.c) from fun w' hb => ((unhid HM).below hb).cells.2.2)
                refine wp_region_noPanic ?_
                refine wp_region_E (S := fun w' => w'.cell? ⟨X, 2, none⟩ = some (.slice x.A x.l.length x.c)) 9 10 rfl (by kernel_rfl) (by kernel_rfl) ((unhid HSF) _ (Below.drew (Below.refl _ _))) ?_
                intro hSE
                have HBe := hid (Below.drew (Below.refl Wm.heap.size Wm))
                clear m0 m1 m2
                generalize Wm.drew = Wd at *
                have HD := hid ((unhid HD).below (unhid HBe))
                have HM := hid ((unhid HM).below (unhid HBe))
                have HG := hid ((unhid HG).below (unhid HBe))
                (refine WE_take (i := 0) (v := ?_) rfl (by kernel_rfl) (by decide) (by kernel_rfl) (by kernel_rfl) (fun _ _ _ h => h) (by rfl) hSE ?_ ?_; rotate_left; (focus (intro w hSw; (try dsimp only at hSw); go_simp; (try with_reducible rfl))); simp only [Act.put, List.setIfInBounds_toArray, List.set_cons_zero, List.set_cons_succ])
                (refine WE_take (i := 1) (v := ?_) rfl (by kernel_rfl) (by decide) (by kernel_rfl) (by kernel_rfl) (fun _ _ _ h => h) (by rfl) hSE ?_ ?_; rotate_left; (focus (intro w hSw; (try dsimp only at hSw); go_simp; (try with_reducible rfl))); simp only [Act.put, List.setIfInBounds_toArray, List.set_cons_zero, List.set_cons_succ])
                (refine WE_take (i := 2) (v := ?_) rfl (by kernel_rfl) (by decide) (by kernel_rfl) (by kernel_rfl) (fun _ _ _ h => h) (by rfl) hSE ?_ ?_; rotate_left; (focus (intro w hSw; (try dsimp only at hSw); go_simp; (try with_reducible rfl))); simp only [Act.put, List.setIfInBounds_toArray, List.set_cons_zero, List.set_cons_succ])
                (refine WE_take (i := 4) (v := ?_) rfl (by kernel_rfl) (by decide) (by kernel_rfl) (by kernel_rfl) (fun _ _ _ h => h) (by rfl) hSE ?_ ?_; rotate_left; (focus (intro w hSw; (try dsimp only at hSw); go_simp; (try with_reducible rfl))); simp only [Act.put, List.setIfInBounds_toArray, List.set_cons_zero, List.set_cons_succ])
                (refine WE_take (i := 5) (v := ?_) rfl (by kernel_rfl) (by decide) (by kernel_rfl) (by kernel_rfl) (fun _ _ _ h => h) (by rfl) hSE ?_ ?_; rotate_left; (focus (intro w hSw; (try dsimp only at hSw); go_simp; (try with_reducible rfl))); simp only [Act.put, List.setIfInBounds_toArray, List.set_cons_zero, List.set_cons_succ])
                (refine WE_take (i := 6) (v := ?_) rfl (by kernel_rfl) (by decide) (by kernel_rfl) (by kernel_rfl) (fun _ _ _ h => h) (by rfl) hSE ?_ ?_; rotate_left; (focus (intro w hSw; (try dsimp only at hSw); go_simp; (try with_reducible rfl))); simp only [Act.put, List.setIfInBounds_toArray, List.set_cons_zero, List.set_cons_succ])
                (refine WE_one (i := 3) rfl (by decide) (by kernel_rfl) ?_; intro K hK)
                go_simp
                go_at_call 34
                refine (kput_calls x.l x.A x.c Wd (unhid HD).k (unhid HG).lo (unhid HG).off ((unhid HRX).below (unhid HD).b) (fun w1 hb => (unhid HRX).below ((unhid HD).bp (unhid HG) hb)) (by have := unhid HDL; omega) (by have := unhid HLL; have := unhid HL; omega) (by have := unhid HLX; omega)).mono ?_
                rintro e w2 ⟨rfl, v', lv', L', hk', hlo', hen', hoff', hb', hn', hnl'⟩
                have HM2 := hid ((unhid HM).ps (unhid HD) (unhid HG) hb')
                have HP := hid (⟨hk', hlo', hen', hoff', hb', hn', hnl'⟩ : DkAt w2 w.heap.size B v' (lpD fl lf d x.l) ∧ LoAt w2 w.heap.size w.heap.size Bl B lf (lpF fl lf d x.l) lv' L' ∧ ents L' = lpL fl lf d x.l (ents Le) ∧ EntsOff v' L' ∧ But Wd w2 (PutS B v Bl lv) ∧ NewRow Wd v v' ∧ NewRow Wd lv lv')
                refine hK.out _ _ (unhid HM2).cells.2.2 ?_
                clear hSE hK K hk' hlo' hen' hoff' hb' hn' hnl' HSF
                intro hSE
                (try simp only [Act.put, List.setIfInBounds_toArray, List.set_cons_zero, List.set_cons_succ])
                have HR2 := hid ((unhid HD).rkP (unhid HG) (unhid HP).2.2.2.2.1)
                have HO2 := hid (Logs.roP (unhid HD) (unhid HG) (unhid HP).2.2.2.2.1)
                have HB2 := hid ((unhid HD).bp (unhid HG) (unhid HP).2.2.2.2.1)
                have HEL := hid (show Me.length = Le.length from by rw [← ents_len Me, ← (unhid HG).en, ents_len])
                (refine WE_one (i := 7) rfl (by decide) (by kernel_rfl) ?_; intro K hK)
                go_simp
                go_at_call 35
                refine (rput_calls x.l x.A x.c w2 (unhid HR2) (unhid HO2) ((unhid HRX).below (unhid HB2)) (fun w1 hb => (unhid HRX).below (below_but (unhid HB2) hb (fun k e => by
                  rcases e with rfl | rfl
                  · exact (unhid HD).hB2
                  · exact (unhid HG).hBm))) (by have := unhid HDL; omega) (by have := unhid HLL; have := unhid HL; have := unhid HEL; omega) (by have := unhid HLX; omega)).mono ?_
                rintro e w3 ⟨rfl, v2', mv', M', hr', hro', hen2, hb2, hn2, hnm, hM⟩
                have HM3 := hid ((unhid HM2).but hb2 (by
                  rintro (e | e)
                  · exact blk_ne (unhid HM2) (unhid HR2).b (by decide) e
                  · exact blk_ne (unhid HM2) (unhid HO2).b (by decide) e))
                obtain ⟨p1, p2, p3, p4, p5, p6, p7⟩ := unhid HP
                have hpt := (unhid HD).put (unhid HG) p1 p2 p4 p5 p6 p7 hr' hro' hb2 hn2 hnm (by rw [p3, hen2, (unhid HG).en]) hM
                have hlen : L'.length ≤ Le.length + 1 := by rw [← ents_len L', p3, ← ents_len Le]; exact lpL_len _ _ _ _ _
                have hle2 : ∀ e ∈ L', e.l.length ≤ 2000 := fun e he => by
                  have h0 := lpL_ok2 (fl := fl) (lf := lf) (d := d) (en := x.l) (ls := ents Le) (fun y hy => by
                    obtain ⟨z, hz, rfl⟩ := List.mem_map.1 hy
                    exact unhid HLE z hz) e.l
                  rw [← p3] at h0
                  exact h0 (List.mem_map.2 ⟨e, he, rfl⟩)
                have HV := hid (duoV_lg (k := k) hpt.1 (by have := lpD_len fl lf d x.l; have := unhid HDL; omega) (.inr ⟨_, _, _, _, _, _, _, _, rfl, rfl, hpt.2, by have := unhid HLL; omega, hle2⟩))
                refine hK.out _ _ (unhid HM3).cells.2.2 ?_
                clear hSE hK K hr' hro' hen2 hb2 hn2 hnm hM hpt hlen hle2 p1 p2 p3 p4 p5 p6 p7
                intro hSE
                (try simp only [Act.put, List.setIfInBounds_toArray, List.set_cons_zero, List.set_cons_succ])
                (refine WE_take (i := 8) (v := ?_) rfl (by kernel_rfl) (by decide) (by kernel_rfl) (by kernel_rfl) (fun _ _ _ h => h) (by rfl) hSE ?_ ?_; rotate_left; (focus (intro w hSw; (try dsimp only at hSw); go_simp; (try with_reducible rfl))); simp only [Act.put, List.setIfInBounds_toArray, List.set_cons_zero, List.set_cons_succ])
                (refine WE_last rfl (by kernel_rfl) (by kernel_rfl) (by kernel_rfl) ?_; intro K hK; go_simp; refine hK.out _ _ (NoPanic.normal ?_); clear hK K)
                clear hSE
                go_wp2_with fail
                go_meet
                case rel => exact ⟨by simp, unhid HV⟩
            · go_wp2_with fail
              refine (kcopyD_calls Wm (unhid HD).k (unhid HDL1)).mono ?_
              rintro e w2 ⟨C, u, rfl, hk', hC, hu, hb⟩
              have HP := hid (⟨hk', hC, hb⟩ : DkAt w2 w.heap.size C u d ∧ Wm.heap.size ≤ C ∧ Below Wm.heap.size Wm w2)
              clear hk' hC hu hb m0 m1 m2
              go_wp2_with fail
              refine (rcopyD_calls w2 ((unhid HD).r.below (unhid HP).2.2) (unhid HDL1)).mono ?_
              rintro e w3 ⟨C2, u2, rfl, hr', hC2, hu2, hb2⟩
              have HV := hid (duoV_no (k := k) ((unhid HD).copied (unhid HP).1 (unhid HP).2.1 (unhid HP).2.2 hr' hC2 hu2 hb2) (by have := unhid HDL; omega))
              clear hr' hC2 hu2 hb2
              go_wp2_with fail
              go_meet
              case rel => exact ⟨rfl, unhid HV⟩
          case rest =>
            obtain ⟨rfl, hv⟩ := hcut
            have HV := hid hv
            clear hv HM m0 m1 m2
            obtain ⟨B, v, B2, v2, d, hkv, hrv, hD, hdl, hlg⟩ := unhid HV
            have HD := hid hD
            have HDL := hid (show d.bs.length ≤ 1000000 from by have := unhid HL; omega)
            subst hkv hrv
            clear hD hdl
            rcases hlg with ⟨hl0, hm0⟩ | ⟨Bl, Bm, lf, fl, lv, mv, Le, Me, hl0, hm0, hlg, hll, hle⟩
            · subst hl0 hm0
              go_upto_region 39 with (fail)
              refine wp_region_noPanic ?_
              refine wp_region_E (S := fun w' => True) 21 22 rfl (by kernel_rfl) (by kernel_rfl) trivial ?_
              intro hSE
              have HBe := hid (Below.drew (Below.refl wc.heap.size wc))
              generalize wc.drew = Wd at *
              (refine WE_take (i := 0) (v := ?_) rfl (by kernel_rfl) (by decide) (by kernel_rfl) (by kernel_rfl) (fun _ _ _ h => h) (by rfl) hSE ?_ ?_; rotate_left; (focus (intro w hSw; (try dsimp only at hSw); go_simp; (try with_reducible rfl))); simp only [Act.put, List.setIfInBounds_toArray, List.set_cons_zero, List.set_cons_succ])
              (refine WE_take (i := 1) (v := ?_) rfl (by kernel_rfl) (by decide) (by kernel_rfl) (by kernel_rfl) (fun _ _ _ h => h) (by rfl) hSE ?_ ?_; rotate_left; (focus (intro w hSw; (try dsimp only at hSw); go_simp; (try with_reducible rfl))); simp only [Act.put, List.setIfInBounds_toArray, List.set_cons_zero, List.set_cons_succ])
              (refine WE_take (i := 2) (v := ?_) rfl (by kernel_rfl) (by decide) (by kernel_rfl) (by kernel_rfl) (fun _ _ _ h => h) (by rfl) hSE ?_ ?_; rotate_left; (focus (intro w hSw; (try dsimp only at hSw); go_simp; (try with_reducible rfl))); simp only [Act.put, List.setIfInBounds_toArray, List.set_cons_zero, List.set_cons_succ])
              (refine WE_take (i := 3) (v := ?_) rfl (by kernel_rfl) (by decide) (by kernel_rfl) (by kernel_rfl) (fun _ _ _ h => h) (by rfl) hSE ?_ ?_; rotate_left; (focus (intro w hSw; (try dsimp only at hSw); go_simp; (try with_reducible rfl))); simp only [Act.put, List.setIfInBounds_toArray, List.set_cons_zero, List.set_cons_succ])
              (refine WE_take (i := 4) (v := ?_) rfl (by kernel_rfl) (by decide) (by kernel_rfl) (by kernel_rfl) (fun _ _ _ h => h) (by rfl) hSE ?_ ?_; rotate_left; (focus (intro w hSw; (try dsimp only at hSw); go_simp; (try with_reducible rfl))); simp only [Act.put, List.setIfInBounds_toArray, List.set_cons_zero, List.set_cons_succ])
              (refine WE_one (i := 5) rfl (by decide) (by kernel_rfl) ?_; intro K hK)
              go_simp
              go_at_call 38
              refine (shows_calls Wd ((unhid HD).below (unhid HBe)).k ((unhid HD).below (unhid HBe)).r (unhid HDL)).mono ?_
              rintro e w2 ⟨rfl, hb2⟩
              have HBe := hid ((unhid HBe).trans (hb2.mono (unhid HBe).size))
              clear hb2
              refine hK.out _ _ trivial ?_
              clear hSE hK K
              intro hSE
              (try simp only [Act.put, List.setIfInBounds_toArray, List.set_cons_zero, List.set_cons_succ])
              (refine WE_take (i := 6) (v := ?_) rfl (by kernel_rfl) (by decide) (by kernel_rfl) (by kernel_rfl) (fun _ _ _ h => h) (by rfl) hSE ?_ ?_; rotate_left; (focus (intro w hSw; (try dsimp only at hSw); go_simp; (try with_reducible rfl))); simp only [Act.put, List.setIfInBounds_toArray, List.set_cons_zero, List.set_cons_succ])
              (refine WE_take (i := 7) (v := ?_) rfl (by kernel_rfl) (by decide) (by kernel_rfl) (by kernel_rfl) (fun _ _ _ h => h) (by rfl) hSE ?_ ?_; rotate_left; (focus (intro w hSw; (try dsimp only at hSw); go_simp; (try with_reducible rfl))); simp only [Act.put, List.setIfInBounds_toArray, List.set_cons_zero, List.set_cons_succ])
              (refine WE_take (i := 8) (v := ?_) rfl (by kernel_rfl) (by decide) (by kernel_rfl) (by kernel_rfl) (fun _ _ _ h => h) (by rfl) hSE ?_ ?_; rotate_left; (focus (intro w hSw; (try dsimp only at hSw); go_simp; (try with_reducible rfl))); simp only [Act.put, List.setIfInBounds_toArray, List.set_cons_zero, List.set_cons_succ])
              (refine WE_take (i := 9) (v := ?_) rfl (by kernel_rfl) (by decide) (by kernel_rfl) (by kernel_rfl) (fun _ _ _ h => h) (by rfl) hSE ?_ ?_; rotate_left; (focus (intro w hSw; (try dsimp only at hSw); go_simp; (try with_reducible rfl))); simp only [Act.put, List.setIfInBounds_toArray, List.set_cons_zero, List.set_cons_succ])
              (refine WE_take (i := 10) (v := ?_) rfl (by kernel_rfl) (by decide) (by kernel_rfl) (by kernel_rfl) (fun _ _ _ h => h) (by rfl) hSE ?_ ?_; rotate_left; (focus (intro w hSw; (try dsimp only at hSw); go_simp; (try with_reducible rfl))); simp only [Act.put, List.setIfInBounds_toArray, List.set_cons_zero, List.set_cons_succ])
              (refine WE_take (i := 11) (v := ?_) rfl (by kernel_rfl) (by decide) (by kernel_rfl) (by kernel_rfl) (fun _ _ _ h => h) (by rfl) hSE ?_ ?_; rotate_left; (focus (intro w hSw; (try dsimp only at hSw); go_simp; (try with_reducible rfl))); simp only [Act.put, List.setIfInBounds_toArray, List.set_cons_zero, List.set_cons_succ])
              (refine WE_skip (i := 12) rfl (by kernel_rfl) (by decide) (by kernel_rfl) (by kernel_rfl) (fun _ _ _ h => h) (by rfl) hSE ?_; simp only [Act.put, List.setIfInBounds_toArray, List.set_cons_zero, List.set_cons_succ])
              (refine WE_skip (i := 13) rfl (by kernel_rfl) (by decide) (by kernel_rfl) (by kernel_rfl) (fun _ _ _ h => h) (by rfl) hSE ?_; simp only [Act.put, List.setIfInBounds_toArray, List.set_cons_zero, List.set_cons_succ])
              (refine WE_skip (i := 14) rfl (by kernel_rfl) (by decide) (by kernel_rfl) (by kernel_rfl) (fun _ _ _ h => h) (by rfl) hSE ?_; simp only [Act.put, List.setIfInBounds_toArray, List.set_cons_zero, List.set_cons_succ])
              (refine WE_skip (i := 15) rfl (by kernel_rfl) (by decide) (by kernel_rfl) (by kernel_rfl) (fun _ _ _ h => h) (by rfl) hSE ?_; simp only [Act.put, List.setIfInBounds_toArray, List.set_cons_zero, List.set_cons_succ])
              (refine WE_skip (i := 16) rfl (by kernel_rfl) (by decide) (by kernel_rfl) (by kernel_rfl) (fun _ _ _ h => h) (by rfl) hSE ?_; simp only [Act.put, List.setIfInBounds_toArray, List.set_cons_zero, List.set_cons_succ])
              (refine WE_skip (i := 17) rfl (by kernel_rfl) (by decide) (by kernel_rfl) (by kernel_rfl) (fun _ _ _ h => h) (by rfl) hSE ?_; simp only [Act.put, List.setIfInBounds_toArray, List.set_cons_zero, List.set_cons_succ])
              (refine WE_skip (i := 18) rfl (by kernel_rfl) (by decide) (by kernel_rfl) (by kernel_rfl) (fun _ _ _ h => h) (by rfl) hSE ?_; simp only [Act.put, List.setIfInBounds_toArray, List.set_cons_zero, List.set_cons_succ])
              (refine WE_skip (i := 19) rfl (by kernel_rfl) (by decide) (by kernel_rfl) (by kernel_rfl) (fun _ _ _ h => h) (by rfl) hSE ?_; simp only [Act.put, List.setIfInBounds_toArray, List.set_cons_zero, List.set_cons_succ])
              (refine WE_take (i := 20) (v := ?_) rfl (by kernel_rfl) (by decide) (by kernel_rfl) (by kernel_rfl) (fun _ _ _ h => h) (by rfl) hSE ?_ ?_; rotate_left; (focus (intro w hSw; (try dsimp only at hSw); go_simp; (try with_reducible rfl))); simp only [Act.put, List.setIfInBounds_toArray, List.set_cons_zero, List.set_cons_succ])
              (refine WE_last rfl (by kernel_rfl) (by kernel_rfl) (by kernel_rfl) ?_; intro K hK; go_simp; refine hK.out _ _ (NoPanic.normal ?_); clear hK K)
              have HV := hid ((unhid HV).below (unhid HBe))
              clear hSE HBe HD
              have HW1 := hid (show wrap64 ((k : Int) + 1) = ((k + 1 : Nat) : Int) from by have h1 := unhid HL; unfold wrap64; omega)
              go_wp2_with fail
              go_roundw
              case rel => exact ⟨k + 1, by omega, by first | go_num | rw [unhid HW1], unhid HV⟩
              case measure => first | (simp [intOf]; done) | (simp [intOf]; omega) | (rw [unhid HW1]; simp [intOf]; omega)
            · have HLG := hid hlg
              have HLL := hid (show Le.length ≤ 1000000 from by have := unhid HL; omega)
              have HLE := hid hle
              subst hl0 hm0
              obtain ⟨A9, c9, hmv, hrd9⟩ := hlg.ro.e.rd
              subst hmv
              have HRD9 := hid hrd9
              have k3 := cell_of_row _ Bm 3 _ _ _ hlg.ro.b
              simp only [List.getElem?_toArray, List.getElem?_cons_zero, List.getElem?_cons_succ] at k3
              have HK3 := hid k3
              have HLB := hid (Array.getElem?_eq_some_iff.1 hlg.ro.b).1
              have HSF := hid (show ∀ w', Below wc.heap.size wc w' → w'.cell? ⟨Bm, 3, none⟩ = some (.slice A9 Me.length c9) from fun w' hb => (World.cell?_of_block (a := ⟨Bm, 3, none⟩) (hb.block Bm (unhid HLB))).trans (unhid HK3))
              clear hlg hll hle hrd9 k3
              go_upto_region 39 with (fail)
              refine wp_region_noPanic ?_
              refine wp_region_E (S := fun w' => w'.cell? ⟨Bm, 3, none⟩ = some (.slice A9 Me.length c9)) 21 22 rfl (by kernel_rfl) (by kernel_rfl) ((unhid HSF) _ (Below.drew (Below.refl _ _))) ?_
              intro hSE
              have HBe := hid (Below.drew (Below.refl wc.heap.size wc))
              generalize wc.drew = Wd at *
              (refine WE_take (i := 0) (v := ?_) rfl (by kernel_rfl) (by decide) (by kernel_rfl) (by kernel_rfl) (fun _ _ _ h => h) (by rfl) hSE ?_ ?_; rotate_left; (focus (intro w hSw; (try dsimp only at hSw); go_simp; (try with_reducible rfl))); simp only [Act.put, List.setIfInBounds_toArray, List.set_cons_zero, List.set_cons_succ])
              (refine WE_take (i := 1) (v := ?_) rfl (by kernel_rfl) (by decide) (by kernel_rfl) (by kernel_rfl) (fun _ _ _ h => h) (by rfl) hSE ?_ ?_; rotate_left; (focus (intro w hSw; (try dsimp only at hSw); go_simp; (try with_reducible rfl))); simp only [Act.put, List.setIfInBounds_toArray, List.set_cons_zero, List.set_cons_succ])
              (refine WE_take (i := 2) (v := ?_) rfl (by kernel_rfl) (by decide) (by kernel_rfl) (by kernel_rfl) (fun _ _ _ h => h) (by rfl) hSE ?_ ?_; rotate_left; (focus (intro w hSw; (try dsimp only at hSw); go_simp; (try with_reducible rfl))); simp only [Act.put, List.setIfInBounds_toArray, List.set_cons_zero, List.set_cons_succ])
              (refine WE_take (i := 3) (v := ?_) rfl (by kernel_rfl) (by decide) (by kernel_rfl) (by kernel_rfl) (fun _ _ _ h => h) (by rfl) hSE ?_ ?_; rotate_left; (focus (intro w hSw; (try dsimp only at hSw); go_simp; (try with_reducible rfl))); simp only [Act.put, List.setIfInBounds_toArray, List.set_cons_zero, List.set_cons_succ])
              (refine WE_take (i := 4) (v := ?_) rfl (by kernel_rfl) (by decide) (by kernel_rfl) (by kernel_rfl) (fun _ _ _ h => h) (by rfl) hSE ?_ ?_; rotate_left; (focus (intro w hSw; (try dsimp only at hSw); go_simp; (try with_reducible rfl))); simp only [Act.put, List.setIfInBounds_toArray, List.set_cons_zero, List.set_cons_succ])
              (refine WE_one (i := 5) rfl (by decide) (by kernel_rfl) ?_; intro K hK)
              go_simp
              go_at_call 38
              refine (shows_calls Wd ((unhid HD).below (unhid HBe)).k ((unhid HD).below (unhid HBe)).r (unhid HDL)).mono ?_
              rintro e w2 ⟨rfl, hb2⟩
              have HBe := hid ((unhid HBe).trans (hb2.mono (unhid HBe).size))
              clear hb2
              (refine hK.out _ _ ((unhid HSF) _ (unhid HBe)) ?_); clear hSE hK K; intro hSE; (try simp only [Act.put, List.setIfInBounds_toArray, List.set_cons_zero, List.set_cons_succ])
              (refine WE_take (i := 6) (v := ?_) rfl (by kernel_rfl) (by decide) (by kernel_rfl) (by kernel_rfl) (fun _ _ _ h => h) (by rfl) hSE ?_ ?_; rotate_left; (focus (intro w hSw; (try dsimp only at hSw); go_simp; (try with_reducible rfl))); simp only [Act.put, List.setIfInBounds_toArray, List.set_cons_zero, List.set_cons_succ])
              (refine WE_take (i := 7) (v := ?_) rfl (by kernel_rfl) (by decide) (by kernel_rfl) (by kernel_rfl) (fun _ _ _ h => h) (by rfl) hSE ?_ ?_; rotate_left; (focus (intro w hSw; (try dsimp only at hSw); go_simp; (try with_reducible rfl))); simp only [Act.put, List.setIfInBounds_toArray, List.set_cons_zero, List.set_cons_succ])
              (refine WE_take (i := 8) (v := ?_) rfl (by kernel_rfl) (by decide) (by kernel_rfl) (by kernel_rfl) (fun _ _ _ h => h) (by rfl) hSE ?_ ?_; rotate_left; (focus (intro w hSw; (try dsimp only at hSw); go_simp; (try with_reducible rfl))); simp only [Act.put, List.setIfInBounds_toArray, List.set_cons_zero, List.set_cons_succ])
              (refine WE_take (i := 9) (v := ?_) rfl (by kernel_rfl) (by decide) (by kernel_rfl) (by kernel_rfl) (fun _ _ _ h => h) (by rfl) hSE ?_ ?_; rotate_left; (focus (intro w hSw; (try dsimp only at hSw); go_simp; (try with_reducible rfl))); simp only [Act.put, List.setIfInBounds_toArray, List.set_cons_zero, List.set_cons_succ])
              (refine WE_take (i := 10) (v := ?_) rfl (by kernel_rfl) (by decide) (by kernel_rfl) (by kernel_rfl) (fun _ _ _ h => h) (by rfl) hSE ?_ ?_; rotate_left; (focus (intro w hSw; (try dsimp only at hSw); go_simp; (try with_reducible rfl))); simp only [Act.put, List.setIfInBounds_toArray, List.set_cons_zero, List.set_cons_succ])
              (refine WE_take (i := 11) (v := ?_) rfl (by kernel_rfl) (by decide) (by kernel_rfl) (by kernel_rfl) (fun _ _ _ h => h) (by rfl) hSE ?_ ?_; rotate_left; (focus (intro w hSw; (try dsimp only at hSw); go_simp; (try with_reducible rfl))); simp only [Act.put, List.setIfInBounds_toArray, List.set_cons_zero, List.set_cons_succ])
              (refine WE_take (i := 12) (v := ?_) rfl (by kernel_rfl) (by decide) (by kernel_rfl) (by kernel_rfl) (fun _ _ _ h => h) (by rfl) hSE ?_ ?_; rotate_left; (focus (intro w hSw; (try dsimp only at hSw); go_simp; (try with_reducible rfl))); simp only [Act.put, List.setIfInBounds_toArray, List.set_cons_zero, List.set_cons_succ])
              (refine WE_take (i := 14) (v := ?_) rfl (by kernel_rfl) (by decide) (by kernel_rfl) (by kernel_rfl) (fun _ _ _ h => h) (by rfl) hSE ?_ ?_; rotate_left; (focus (intro w hSw; (try dsimp only at hSw); go_simp; (try with_reducible rfl))); simp only [Act.put, List.setIfInBounds_toArray, List.set_cons_zero, List.set_cons_succ])
              (refine WE_take (i := 15) (v := ?_) rfl (by kernel_rfl) (by decide) (by kernel_rfl) (by kernel_rfl) (fun _ _ _ h => h) (by rfl) hSE ?_ ?_; rotate_left; (focus (intro w hSw; (try dsimp only at hSw); go_simp; (try with_reducible rfl))); simp only [Act.put, List.setIfInBounds_toArray, List.set_cons_zero, List.set_cons_succ])
              (refine WE_take (i := 16) (v := ?_) rfl (by kernel_rfl) (by decide) (by kernel_rfl) (by kernel_rfl) (fun _ _ _ h => h) (by rfl) hSE ?_ ?_; rotate_left; (focus (intro w hSw; (try dsimp only at hSw); go_simp; (try with_reducible rfl))); simp only [Act.put, List.setIfInBounds_toArray, List.set_cons_zero, List.set_cons_succ])
              (refine WE_take (i := 17) (v := ?_) rfl (by kernel_rfl) (by decide) (by kernel_rfl) (by kernel_rfl) (fun _ _ _ h => h) (by rfl) hSE ?_ ?_; rotate_left; (focus (intro w hSw; (try dsimp only at hSw); go_simp; (try with_reducible rfl))); simp only [Act.put, List.setIfInBounds_toArray, List.set_cons_zero, List.set_cons_succ])
              (refine WE_one (i := 13) rfl (by decide) (by kernel_rfl) ?_; intro K hK)
              go_simp
              go_at_call 40
              refine (kentries_calls w2 ((unhid HLG).lo.below (unhid HBe)) (unhid HLL) (fun e he => by have := (unhid HLE) e he; omega)).mono ?_
              rintro e w3 ⟨u3, M3, rfl, hM3, he3, hb3⟩
              obtain ⟨A3, c3, hv3, he3r⟩ := he3.rd
              subst hv3
              have HE3 := hid he3r
              have HM3 := hid (show ents M3 = ents Me from by rw [hM3, (unhid HLG).en])
              have HL3 := hid (show M3.length ≤ 1000000 from by rw [← ents_len M3, hM3, ents_len]; exact unhid HLL)
              have HBe := hid ((unhid HBe).trans (hb3.mono (unhid HBe).size))
              clear hM3 he3 hb3 he3r
              (refine hK.out _ _ ((unhid HSF) _ (unhid HBe)) ?_); clear hSE hK K; intro hSE; (try simp only [Act.put, List.setIfInBounds_toArray, List.set_cons_zero, List.set_cons_succ])
              (refine WE_one (i := 18) rfl (by decide) (by kernel_rfl) ?_; intro K hK)
              go_simp
              go_at_call 39
              refine (sameEntries_true M3 Me (unhid HM3) A3 A9 c3 c9 w3 (unhid HE3) ((unhid HRD9).below (unhid HBe)) (unhid HL3)).mono ?_
              rintro e w4 ⟨rfl, hb4⟩
              have HBe := hid ((unhid HBe).trans (hb4.mono (unhid HBe).size))
              clear hb4
              (refine hK.out _ _ ((unhid HSF) _ (unhid HBe)) ?_); clear hSE hK K; intro hSE; (try simp only [Act.put, List.setIfInBounds_toArray, List.set_cons_zero, List.set_cons_succ])
              (refine WE_take (i := 19) (v := ?_) rfl (by kernel_rfl) (by decide) (by kernel_rfl) (by kernel_rfl) (fun _ _ _ h => h) (by rfl) hSE ?_ ?_; rotate_left; (focus (intro w hSw; (try dsimp only at hSw); go_simp; (try with_reducible rfl))); simp only [Act.put, List.setIfInBounds_toArray, List.set_cons_zero, List.set_cons_succ])
              (refine WE_take (i := 20) (v := ?_) rfl (by kernel_rfl) (by decide) (by kernel_rfl) (by kernel_rfl) (fun _ _ _ h => h) (by rfl) hSE ?_ ?_; rotate_left; (focus (intro w hSw; (try dsimp only at hSw); go_simp; (try with_reducible rfl))); simp only [Act.put, List.setIfInBounds_toArray, List.set_cons_zero, List.set_cons_succ])
              (refine WE_last rfl (by kernel_rfl) (by kernel_rfl) (by kernel_rfl) ?_; intro K hK; go_simp; refine hK.out _ _ (NoPanic.normal ?_); clear hK K)
              have HV := hid ((unhid HV).below (unhid HBe))
              clear hSE HBe HD HSF HRD9 HK3 HLB HE3 HM3 HL3 HLG HLL HLE
              have HW1 := hid (show wrap64 ((k : Int) + 1) = ((k + 1 : Nat) : Int) from by have h1 := unhid HL; unfold wrap64; omega)
              go_wp2_with fail
              go_roundw
              case rel => exact ⟨k + 1, by omega, by first | go_num | rw [unhid HW1], unhid HV⟩
              case measure => first | (simp [intOf]; done) | (simp [intOf]; omega) | (rw [unhid HW1]; simp [intOf]; omega)
      · obtain rfl : k = L.length := by omega
        have hki : ¬ (L.length : Int) < (L.length : Int) := by omega
        have HB := hid (unhid HV).b
        go_wp2_with fail
        refine (first_calls wr).mono ?_
        rintro e w2 ⟨rfl, hb2⟩
        have HB := hid ((unhid HB).trans (hb2.mono (unhid HB).size))
        clear hb2
        go_wp2_with fail
        go_ret
        exact ⟨rfl, unhid HB⟩
end

section
open Go.RowKit Go.Shelf

theorem ldisks_in (L : List Mv) (A : Option Addr) (c : Nat) (w : World) (h : MvsIn w A L c) :
    Calls Tryz.prog 4 #[.slice A L.length c] w fun e w' => e = .returned (.bool true) ∧ Below w.heap.size w w' :=
  ldisks_calls L A c w h.rd (fun m hm => (h.ok m hm).2.2.rd) (fun m hm => ⟨(h.ok m hm).1, (h.ok m hm).2.1⟩) h.len
end

end Go.Proofs.YtegghimjmbgghaaGreat
