/-
  The law BookLogs.
-/
import Derived.Test.YtegghimjmbgghaaBkRk
import Derived.Test.YtegghimjmbgghaaBkOp
import Derived.Test.YtegghimjmbgghaaBkO
import Derived.Test.YtegghimjmbgghaaBkX
set_option linter.unusedSimpArgs false
set_option linter.unusedVariables false
namespace Go.Proofs.Ytegghimjmbgghaa
open Go.RowKit Go.Shelf

theorem scanK_sizes (l : List UInt8) : ∀ k, (scanK l k).2.length ≤ (scanK l k).1 ∧ ∀ e ∈ (scanK l k).2, e.length ≤ 2000
  | 0 => ⟨Nat.le_refl _, fun e he => by simp [scanK] at he⟩
  | k + 1 => by
    obtain ⟨h1, h2⟩ := scanK_sizes l k
    rw [scanK]
    split
    · rename_i hF
      dsimp only
      refine ⟨by rw [List.length_append, List.length_singleton]; omega, fun e he => ?_⟩
      rcases List.mem_append.1 he with he | he
      · exact h2 e he
      · rw [List.mem_singleton] at he
        subst he
        rw [hF.ent_len]
        exact hF.2.2.1
    · exact ⟨h1, h2⟩
theorem scanP_sizes (l : List UInt8) {M : List Ent} (h : ents M = (scanP l).2) : M.length ≤ l.length ∧ ∀ e ∈ M, e.l.length ≤ 2000 := by
  obtain ⟨h1, h2⟩ := scanK_sizes l (l.length + 1)
  refine ⟨?_, fun e he => h2 _ ?_⟩
  · rw [← ents_len, h]
    exact Nat.le_trans h1 (scanK_le _ _)
  · change e.l ∈ (scanP l).2
    rw [← h]
    exact List.mem_map.2 ⟨e, he, rfl⟩
/-- The disk behind Append, behind Open, behind Crash. -/
theorem log_app (l : List UInt8) : appD ⟨false, [], 0, 0, 0⟩ l = ⟨false, l, 0, 0, 0⟩ ∧ downE ⟨false, [], 0, 0, 0⟩ = 0 := ⟨rfl, rfl⟩
theorem log_open (l : List UInt8) : openD ⟨false, l, 0, 0, 0⟩ = ⟨false, l.take (scanP l).1, (scanP l).1, 0, 0⟩ ∧ openE ⟨false, l, 0, 0, 0⟩ = 0 := by
  have hle := scanP_le l
  unfold openD openE
  dsimp only
  by_cases h : (scanP l).1 < l.length
  · have hb : btw 0 ((scanP l).1 : Nat) l.length = true := btw_iff.2 (by omega)
    simp only [if_pos h, Bool.false_eq_true, if_false]
    unfold cutD cutE
    dsimp only
    simp only [Bool.false_eq_true, if_false, hb, Int.toNat_natCast]
    exact ⟨rfl, rfl⟩
  · have he : (scanP l).1 = l.length := by omega
    simp only [if_neg h, Bool.false_eq_true, if_false]
    rw [he, List.take_length]
    exact ⟨rfl, rfl⟩
theorem log_crash (l : List UInt8) : crashD ⟨false, l.take (scanP l).1, (scanP l).1, 0, 0⟩ 0 = ⟨false, l.take (scanP l).1, (scanP l).1, 0, 1⟩ := by
  have hk : keepN ⟨false, l.take (scanP l).1, (scanP l).1, 0, 0⟩ 0 = 0 := by
    unfold keepN
    exact Nat.zero_min _
  unfold crashD
  rw [hk]
  dsimp only
  rw [Nat.add_zero, List.take_take, Nat.min_self, show wrap64 ((0 : Int) + 1) = 1 from by unfold wrap64; omega]

set_option maxHeartbeats 8000000 in
set_option maxRecDepth 100000 in
theorem llogs_calls (l : List UInt8) (A : Option Addr) (c : Nat) (w : World) (h : InOk w A l.length c (bys l) reachBytes) :
    Calls Try.prog 12 #[.slice A l.length c] w fun e w' => e = .returned (.bool true) ∧ Below w.heap.size w w' := by
  have HR := hid h.rd
  have HC := hid h.cap
  clear h
  go_enter Try.func12, Try.ntmps12
  by_cases h1 : 6000 < l.length
  · have hni : (6000 : Int) < (l.length : Int) := by omega
    go_wp2_with fail
    refine (first_calls w).mono ?_
    rintro e w9 ⟨rfl, hb9⟩
    have HB := hid hb9
    clear hb9
    go_wp2_with fail
    go_ret
    exact ⟨rfl, unhid HB⟩
  · have hni : ¬ (6000 : Int) < (l.length : Int) := by omega
    have HL := hid (show l.length ≤ 6000 from by omega)
    clear h1
    go_wp2_with fail
    refine (knew_calls w).mono ?_
    rintro e w1 ⟨rfl, hk1, hb1⟩
    obtain ⟨B, hB⟩ : ∃ B, B = w.heap.size := ⟨_, rfl⟩
    rw [← hB] at hk1 ⊢
    have HK1 := hid hk1
    have HB1 := hid hb1
    have HR1 := hid ((unhid HR).below hb1)
    have HBE := hid hB
    clear hk1 hb1 hB
    go_wp2_with fail
    refine (kappend_calls l A c w1 (unhid HK1) (unhid HR1) (by have := unhid HL; simp; omega)).mono ?_
    rintro e w2 ⟨rfl, v2, hk2, ht2, hn2⟩
    rw [(log_app l).1] at hk2
    rw [(log_app l).2]
    have HK2 := hid hk2
    have HB2 := hid (show Below w.heap.size w w2 from ⟨ht2.os.trans (unhid HB1).os, ht2.tape.trans (unhid HB1).tape, ht2.output.trans (unhid HB1).output, Nat.le_trans (unhid HB1).size ht2.size, fun k hk => (ht2.block k (Nat.lt_of_lt_of_le hk (unhid HB1).size) (by have := unhid HBE; omega) (by simp [Value.ownBlock])).trans ((unhid HB1).block k hk)⟩)
    have HR2 := hid ((unhid HR).below (unhid HB2))
    clear hk2 ht2 hn2 HK1 HB1 HR1
    go_wp2_with fail
    refine (kopen_calls w2 (unhid HK2) (by have := unhid HL; show l.length ≤ _; omega)).mono ?_
    rintro e w3 ⟨v3, hk3, hg3, hv3, hres⟩
    rw [(log_open l).1] at hk3
    rcases hres with ⟨h0, -⟩ | ⟨-, Bl, lv, M, rfl, hBl, hlo, hM⟩
    · exact absurd (log_open l).2 h0
    have HK3 := hid hk3
    have HLO := hid hlo
    have HM := hid hM
    have HB3 := hid ((unhid HB2).grown hg3 (unhid HB2).size (fun j e => by cases e; have := unhid HBE; omega))
    have HR3 := hid ((unhid HR).below (unhid HB3))
    have HMS := hid (scanP_sizes l hM)
    clear hk3 hg3 hv3 hBl hlo hM HK2 HR2
    go_wp2_with fail
    refine (rscan_calls l A c w3 (unhid HR3) (by have := unhid HL; omega) (unhid HC)).mono ?_
    rintro e w4 ⟨u4, M4, rfl, hM4, he4, hb4⟩
    have HK4 := hid ((unhid HK3).below hb4)
    have HLO4 := hid ((unhid HLO).below hb4)
    have HB4 := hid ((unhid HB3).trans (hb4.mono (unhid HB3).size))
    have HR4 := hid ((unhid HR).below (unhid HB4))
    obtain ⟨A4, c4, hv4, he4r⟩ := he4.rd
    subst hv4
    have HER := hid he4r
    have HMM := hid (show ents M = ents M4 from by rw [unhid HM, hM4])
    obtain ⟨P, hP⟩ : ∃ P, P = (scanP l).1 := ⟨_, rfl⟩
    have HPL := hid (show P ≤ l.length from by rw [hP]; exact scanP_le l)
    have HPE := hid hP
    rw [← hP] at HK4 ⊢
    clear hM4 he4 hb4 he4r hP HK3 HLO HR3 HB3
    have HTL := hid (show (l.take P).length = P from by rw [List.length_take]; have := unhid HPL; omega)
    go_wp2_with fail
    refine (kread_calls w4 (unhid HK4) (by show (l.take P).length ≤ _; rw [unhid HTL]; have := unhid HPL; have := unhid HL; omega)).mono ?_
    rintro e w5 (⟨hdn, -, -⟩ | ⟨-, A5, c5, rfl, hown5, hb5⟩)
    · cases hdn
    have hcv5 := (own_slice hown5)
    obtain ⟨A5', c5', hv5, hrd5, -⟩ := hcv5
    injection hv5 with q1 q2 q3
    subst q1 q3
    have HRD5 := hid (show Rd w5 A5 (bys (l.take P)) from hrd5)
    have HK5 := hid ((unhid HK4).below hb5)
    have HLO5 := hid ((unhid HLO4).below hb5)
    have HER5 := hid ((unhid HER).below hb5)
    have HB5 := hid ((unhid HB4).trans (hb5.mono (unhid HB4).size))
    clear hown5 hb5 hrd5 q2 HK4 HLO4 HER HR4 HB4
    have htk : ({ dn := false, bs := l.take P, sf := P, ar := 0, lf := 0 } : Dk).bs.length = P := unhid HTL
    rw [htk]
    clear htk
    go_upto_region 9 with (fail)
    have hs1 := slice_h A l.length c P (by have := unhid HPL; have := unhid HC; omega) (P : Int) rfl
    have HSF := hid (show ∀ w', Below w5.heap.size w5 w' → ((convert 43 9 (.slice A5 P c5)).run Try.prog w' = .ok (.string ⟨(l.take P).toArray⟩) w' ∧ (convert 43 9 (.slice A P c)).run Try.prog w' = .ok (.string ⟨(l.take P).toArray⟩) w') from fun w' hb => ⟨by
        have h := conv_bytes ((unhid HRD5).below hb) c5
        rw [unhid HTL] at h
        exact h, by
        have h := conv_bytes (rd_takeB ((unhid HR).below ((unhid HB5).trans (hb.mono (unhid HB5).size))) P) c
        rw [unhid HTL] at h
        exact h⟩)
    refine wp_region_noPanic ?_
    refine wp_region_E (S := fun w' => ((convert 43 9 (.slice A5 P c5)).run Try.prog w' = .ok (.string ⟨(l.take P).toArray⟩) w' ∧ (convert 43 9 (.slice A P c)).run Try.prog w' = .ok (.string ⟨(l.take P).toArray⟩) w')) 21 22 rfl (by kernel_rfl) (by kernel_rfl) ((unhid HSF) _ (Below.drew (Below.refl _ _))) ?_
    intro hSE
    have HBe := hid (Below.drew (Below.refl w5.heap.size w5))
    generalize w5.drew = Wd at *
    (refine WE_take (i := 0) (v := ?_) rfl (by kernel_rfl) (by decide) (by kernel_rfl) (by kernel_rfl) (fun _ _ _ h => h) (by rfl) hSE ?_ ?_; rotate_left; (focus (intro w hSw; (try dsimp only at hSw); go_simp; (try with_reducible rfl))); simp only [Act.put, List.setIfInBounds_toArray, List.set_cons_zero, List.set_cons_succ])
    (refine WE_take (i := 1) (v := ?_) rfl (by kernel_rfl) (by decide) (by kernel_rfl) (by kernel_rfl) (fun _ _ _ h => h) (by rfl) hSE ?_ ?_; rotate_left; (focus (intro w hSw; (try dsimp only at hSw); go_simp; (try with_reducible rfl))); simp only [Act.put, List.setIfInBounds_toArray, List.set_cons_zero, List.set_cons_succ])
    (refine WE_take (i := 2) (v := ?_) rfl (by kernel_rfl) (by decide) (by kernel_rfl) (by kernel_rfl) (fun _ _ _ h => h) (by rfl) hSE ?_ ?_; rotate_left; (focus (intro w hSw; (try dsimp only at hSw); go_simp; (try with_reducible rfl))); simp only [Act.put, List.setIfInBounds_toArray, List.set_cons_zero, List.set_cons_succ])
    (refine WE_take (i := 3) (v := ?_) rfl (by kernel_rfl) (by decide) (by kernel_rfl) (by kernel_rfl) (fun _ _ _ h => h) (by rfl) hSE ?_ ?_; rotate_left; (focus (intro w hSw; (try dsimp only at hSw); go_simp; (try with_reducible rfl))); simp only [Act.put, List.setIfInBounds_toArray, List.set_cons_zero, List.set_cons_succ])
    (refine WE_take (i := 4) (v := ?_) rfl (by kernel_rfl) (by decide) (by kernel_rfl) (by kernel_rfl) (fun _ _ _ h => h) (by rfl) hSE ?_ ?_; rotate_left; (focus (intro w hSw; (try dsimp only at hSw); go_simp; (try with_reducible rfl))); simp only [Act.put, List.setIfInBounds_toArray, List.set_cons_zero, List.set_cons_succ])
    (refine WE_take (i := 5) (v := ?_) rfl (by kernel_rfl) (by decide) (by kernel_rfl) (by kernel_rfl) (fun _ _ _ h => h) (by rfl) hSE ?_ ?_; rotate_left; (focus (intro w hSw; (try dsimp only at hSw); go_simp; (try with_reducible rfl))); simp only [Act.put, List.setIfInBounds_toArray, List.set_cons_zero, List.set_cons_succ])
    (refine WE_take (i := 6) (v := ?_) rfl (by kernel_rfl) (by decide) (by kernel_rfl) (by kernel_rfl) (fun _ _ _ h => h) (by rfl) hSE ?_ ?_; rotate_left; (focus (intro w hSw; (try dsimp only at hSw); go_simp; (try with_reducible rfl))); simp only [Act.put, List.setIfInBounds_toArray, List.set_cons_zero, List.set_cons_succ])
    (refine WE_take (i := 7) (v := ?_) rfl (by kernel_rfl) (by decide) (by kernel_rfl) (by kernel_rfl) (fun _ _ _ h => h) (by rfl) hSE ?_ ?_; rotate_left; (focus (intro w hSw; (try dsimp only at hSw); go_simp; (try with_reducible rfl))); simp only [Act.put, List.setIfInBounds_toArray, List.set_cons_zero, List.set_cons_succ])
    (refine WE_take (i := 9) (v := ?_) rfl (by kernel_rfl) (by decide) (by kernel_rfl) (by kernel_rfl) (fun _ _ _ h => h) (by rfl) hSE ?_ ?_; rotate_left; (focus (intro w hSw; (try dsimp only at hSw); go_simp; (try with_reducible rfl))); simp only [Act.put, List.setIfInBounds_toArray, List.set_cons_zero, List.set_cons_succ])
    (refine WE_one (i := 8) rfl (by decide) (by kernel_rfl) ?_; intro K hK)
    go_simp
    go_at_call 51
    refine (kentries_calls Wd ((unhid HLO5).below (unhid HBe)) (by have := (unhid HMS).1; have := unhid HL; omega) (fun e he => by have := (unhid HMS).2 e he; omega)).mono ?_
    rintro e w6 ⟨u6, M6, rfl, hM6, he6, hb6⟩
    obtain ⟨A6, c6, hv6, he6r⟩ := he6.rd
    subst hv6
    have HE6 := hid he6r
    have HM6 := hid (show ents M6 = ents M4 from by rw [hM6, unhid HMM])
    have HBe := hid ((unhid HBe).trans (hb6.mono (unhid HBe).size))
    clear hM6 he6 hb6 he6r
    (refine hK.out _ _ ((unhid HSF) _ (unhid HBe)) ?_); clear hSE hK K; intro hSE; (try simp only [Act.put, List.setIfInBounds_toArray, List.set_cons_zero, List.set_cons_succ])
    (refine WE_one (i := 10) rfl (by decide) (by kernel_rfl) ?_; intro K hK)
    go_simp
    go_at_call 50
    refine (sameEntries_true M6 M4 (unhid HM6) A6 A4 c6 c4 w6 (unhid HE6) ((unhid HER5).below (unhid HBe)) (by
      have h1 : M6.length = M.length := by rw [← ents_len M6, ← ents_len M, unhid HM6, unhid HMM]
      have := (unhid HMS).1
      have := unhid HL
      omega)).mono ?_
    rintro e w7 ⟨rfl, hb7⟩
    have HBe := hid ((unhid HBe).trans (hb7.mono (unhid HBe).size))
    clear hb7
    (refine hK.out _ _ ((unhid HSF) _ (unhid HBe)) ?_); clear hSE hK K; intro hSE; (try simp only [Act.put, List.setIfInBounds_toArray, List.set_cons_zero, List.set_cons_succ])
    (refine WE_take (i := 11) (v := ?_) rfl (by kernel_rfl) (by decide) (by kernel_rfl) (by kernel_rfl) (fun _ _ _ h => h) (by rfl) hSE ?_ ?_; rotate_left; (focus (intro w hSw; (try dsimp only at hSw); go_simp; (try with_reducible rfl))); simp only [Act.put, List.setIfInBounds_toArray, List.set_cons_zero, List.set_cons_succ])
    (refine WE_take (i := 12) (v := ?_) rfl (by kernel_rfl) (by decide) (by kernel_rfl) (by kernel_rfl) (fun _ _ _ h => h) (by rfl) hSE ?_ ?_; rotate_left; (focus (intro w hSw; (try dsimp only at hSw); go_simp; (try with_reducible rfl))); simp only [Act.put, List.setIfInBounds_toArray, List.set_cons_zero, List.set_cons_succ])
    (refine WE_take (i := 13) (v := ?_) rfl (by kernel_rfl) (by decide) (by kernel_rfl) (by kernel_rfl) (fun _ _ _ h => h) (by rfl) hSE ?_ ?_; rotate_left; (focus (intro w hSw; (try dsimp only at hSw); go_simp; (try with_reducible rfl))); simp only [Act.put, List.setIfInBounds_toArray, List.set_cons_zero, List.set_cons_succ])
    (refine WE_take (i := 14) (v := ?_) rfl (by kernel_rfl) (by decide) (by kernel_rfl) (by kernel_rfl) (fun _ _ _ h => h) (by rfl) hSE ?_ ?_; rotate_left; (focus (intro w hSw; (try dsimp only at hSw); go_simp; (try with_reducible rfl))); simp only [Act.put, List.setIfInBounds_toArray, List.set_cons_zero, List.set_cons_succ])
    (refine WE_take (i := 15) (v := ?_) rfl (by kernel_rfl) (by decide) (by kernel_rfl) (by kernel_rfl) (fun _ _ _ h => h) (by rfl) hSE ?_ ?_; rotate_left; (focus (intro w hSw; (try dsimp only at hSw); go_simp; (try with_reducible rfl))); simp only [Act.put, List.setIfInBounds_toArray, List.set_cons_zero, List.set_cons_succ])
    (refine WE_take (i := 16) (v := ?_) rfl (by kernel_rfl) (by decide) (by kernel_rfl) (by kernel_rfl) (fun _ _ _ h => h) (by rfl) hSE ?_ ?_; rotate_left; (focus (intro w hSw; (try dsimp only at hSw); go_simp; (try with_reducible rfl))); simp only [Act.put, List.setIfInBounds_toArray, List.set_cons_zero, List.set_cons_succ])
    (refine WE_take (i := 17) (v := ?_) rfl (by kernel_rfl) (by decide) (by kernel_rfl) (by kernel_rfl) (fun _ _ _ h => h) (by rfl) hSE ?_ ?_; rotate_left; (focus (intro w hSw; (try dsimp only at hSw); go_simp; (try with_reducible rfl))); simp only [Act.put, List.setIfInBounds_toArray, List.set_cons_zero, List.set_cons_succ])
    (refine WE_take (i := 18) (v := ?_) rfl (by kernel_rfl) (by decide) (by kernel_rfl) (by kernel_rfl) (fun _ _ _ h => h) (by rfl) hSE ?_ ?_; rotate_left; (focus (intro w hSw; (try dsimp only at hSw); go_simp; (try with_reducible rfl))); simp only [Act.put, List.setIfInBounds_toArray, List.set_cons_zero, List.set_cons_succ])
    (refine WE_take (i := 19) (v := ?_) rfl (by kernel_rfl) (by decide) (by kernel_rfl) (by kernel_rfl) (fun _ _ _ h => h) (by rfl) hSE ?_ ?_; rotate_left; (focus (intro w hSw; (try dsimp only at hSw); go_simp; (try with_reducible rfl))); simp only [Act.put, List.setIfInBounds_toArray, List.set_cons_zero, List.set_cons_succ])
    (refine WE_take (i := 20) (v := ?_) rfl (by kernel_rfl) (by decide) (by kernel_rfl) (by kernel_rfl) (fun _ _ _ h => h) (by rfl) hSE ?_ ?_; rotate_left; (focus (intro w hSw; (try dsimp only at hSw); go_simp; (try with_reducible rfl))); simp only [Act.put, List.setIfInBounds_toArray, List.set_cons_zero, List.set_cons_succ])
    (refine WE_last rfl (by kernel_rfl) (by kernel_rfl) (by kernel_rfl) ?_; intro K hK; go_simp; refine hK.out _ _ (NoPanic.normal ?_); clear hK K)
    clear hSE
    have HK7 := hid ((unhid HK5).below (unhid HBe))
    have HB7 := hid ((unhid HB5).trans ((unhid HBe).mono (unhid HB5).size))
    clear HSF HBe HK5 HLO5 HER5 HB5 HE6
    go_wp2_with fail
    refine (kcrash_calls 0 w7 (unhid HK7) (by show (l.take P).length ≤ _; rw [unhid HTL]; have := unhid HPL; have := unhid HL; omega) (by unfold I64; omega)).mono ?_
    rintro e w8 ⟨rfl, v8, hk8, hg8, hv8⟩
    have hcr := log_crash l
    rw [← unhid HPE] at hcr
    rw [hcr] at hk8
    have HK8 := hid hk8
    have HB8 := hid ((unhid HB7).grown hg8 (unhid HB7).size (fun j e => by cases e; have := unhid HBE; omega))
    clear hcr hk8 hg8 hv8 HK7 HB7
    go_wp2_with fail
    refine (kread_calls w8 (unhid HK8) (by show (l.take P).length ≤ _; rw [unhid HTL]; have := unhid HPL; have := unhid HL; omega)).mono ?_
    rintro e w9 (⟨hdn, -, -⟩ | ⟨-, A9, c9, rfl, hown9, hb9⟩)
    · cases hdn
    obtain ⟨A9', c9', hv9, hrd9, -⟩ := own_slice hown9
    injection hv9 with q1 q2 q3
    subst q1 q3
    have HRD9 := hid (show Rd w9 A9 (bys (l.take P)) from hrd9)
    have HB9 := hid ((unhid HB8).trans (hb9.mono (unhid HB8).size))
    clear hown9 hb9 hrd9 q2 HK8 HB8
    have htk : ({ dn := false, bs := l.take P, sf := P, ar := 0, lf := 1 } : Dk).bs.length = P := unhid HTL
    rw [htk]
    clear htk
    go_upto_region 13 with (fail)
    have HSF := hid (show ∀ w', Below w9.heap.size w9 w' → ((convert 43 9 (.slice A9 P c9)).run Try.prog w' = .ok (.string ⟨(l.take P).toArray⟩) w' ∧ (convert 43 9 (.slice A P c)).run Try.prog w' = .ok (.string ⟨(l.take P).toArray⟩) w') from fun w' hb => ⟨by
        have h := conv_bytes ((unhid HRD9).below hb) c9
        rw [unhid HTL] at h
        exact h, by
        have h := conv_bytes (rd_takeB ((unhid HR).below ((unhid HB9).trans (hb.mono (unhid HB9).size))) P) c
        rw [unhid HTL] at h
        exact h⟩)
    refine wp_region_noPanic ?_
    refine wp_region_E (S := fun w' => ((convert 43 9 (.slice A9 P c9)).run Try.prog w' = .ok (.string ⟨(l.take P).toArray⟩) w' ∧ (convert 43 9 (.slice A P c)).run Try.prog w' = .ok (.string ⟨(l.take P).toArray⟩) w')) 14 15 rfl (by kernel_rfl) (by kernel_rfl) ((unhid HSF) _ (Below.drew (Below.refl _ _))) ?_
    intro hSE
    have HBe := hid (Below.drew (Below.refl w9.heap.size w9))
    generalize w9.drew = We at *
    (refine WE_take (i := 0) (v := ?_) rfl (by kernel_rfl) (by decide) (by kernel_rfl) (by kernel_rfl) (fun _ _ _ h => h) (by rfl) hSE ?_ ?_; rotate_left; (focus (intro w hSw; (try dsimp only at hSw); go_simp; (try with_reducible rfl))); simp only [Act.put, List.setIfInBounds_toArray, List.set_cons_zero, List.set_cons_succ])
    (refine WE_take (i := 1) (v := ?_) rfl (by kernel_rfl) (by decide) (by kernel_rfl) (by kernel_rfl) (fun _ _ _ h => h) (by rfl) hSE ?_ ?_; rotate_left; (focus (intro w hSw; (try dsimp only at hSw); go_simp; (try with_reducible rfl))); simp only [Act.put, List.setIfInBounds_toArray, List.set_cons_zero, List.set_cons_succ])
    (refine WE_take (i := 2) (v := ?_) rfl (by kernel_rfl) (by decide) (by kernel_rfl) (by kernel_rfl) (fun _ _ _ h => h) (by rfl) hSE ?_ ?_; rotate_left; (focus (intro w hSw; (try dsimp only at hSw); go_simp; (try with_reducible rfl))); simp only [Act.put, List.setIfInBounds_toArray, List.set_cons_zero, List.set_cons_succ])
    (refine WE_take (i := 3) (v := ?_) rfl (by kernel_rfl) (by decide) (by kernel_rfl) (by kernel_rfl) (fun _ _ _ h => h) (by rfl) hSE ?_ ?_; rotate_left; (focus (intro w hSw; (try dsimp only at hSw); go_simp; (try with_reducible rfl))); simp only [Act.put, List.setIfInBounds_toArray, List.set_cons_zero, List.set_cons_succ])
    (refine WE_take (i := 4) (v := ?_) rfl (by kernel_rfl) (by decide) (by kernel_rfl) (by kernel_rfl) (fun _ _ _ h => h) (by rfl) hSE ?_ ?_; rotate_left; (focus (intro w hSw; (try dsimp only at hSw); go_simp; (try with_reducible rfl))); simp only [Act.put, List.setIfInBounds_toArray, List.set_cons_zero, List.set_cons_succ])
    (refine WE_take (i := 5) (v := ?_) rfl (by kernel_rfl) (by decide) (by kernel_rfl) (by kernel_rfl) (fun _ _ _ h => h) (by rfl) hSE ?_ ?_; rotate_left; (focus (intro w hSw; (try dsimp only at hSw); go_simp; (try with_reducible rfl))); simp only [Act.put, List.setIfInBounds_toArray, List.set_cons_zero, List.set_cons_succ])
    (refine WE_take (i := 6) (v := ?_) rfl (by kernel_rfl) (by decide) (by kernel_rfl) (by kernel_rfl) (fun _ _ _ h => h) (by rfl) hSE ?_ ?_; rotate_left; (focus (intro w hSw; (try dsimp only at hSw); go_simp; (try with_reducible rfl))); simp only [Act.put, List.setIfInBounds_toArray, List.set_cons_zero, List.set_cons_succ])
    (refine WE_take (i := 7) (v := ?_) rfl (by kernel_rfl) (by decide) (by kernel_rfl) (by kernel_rfl) (fun _ _ _ h => h) (by rfl) hSE ?_ ?_; rotate_left; (focus (intro w hSw; (try dsimp only at hSw); go_simp; (try with_reducible rfl))); simp only [Act.put, List.setIfInBounds_toArray, List.set_cons_zero, List.set_cons_succ])
    (refine WE_take (i := 8) (v := ?_) rfl (by kernel_rfl) (by decide) (by kernel_rfl) (by kernel_rfl) (fun _ _ _ h => h) (by rfl) hSE ?_ ?_; rotate_left; (focus (intro w hSw; (try dsimp only at hSw); go_simp; (try with_reducible rfl))); simp only [Act.put, List.setIfInBounds_toArray, List.set_cons_zero, List.set_cons_succ])
    (refine WE_take (i := 9) (v := ?_) rfl (by kernel_rfl) (by decide) (by kernel_rfl) (by kernel_rfl) (fun _ _ _ h => h) (by rfl) hSE ?_ ?_; rotate_left; (focus (intro w hSw; (try dsimp only at hSw); go_simp; (try with_reducible rfl))); simp only [Act.put, List.setIfInBounds_toArray, List.set_cons_zero, List.set_cons_succ])
    (refine WE_take (i := 10) (v := ?_) rfl (by kernel_rfl) (by decide) (by kernel_rfl) (by kernel_rfl) (fun _ _ _ h => h) (by rfl) hSE ?_ ?_; rotate_left; (focus (intro w hSw; (try dsimp only at hSw); go_simp; (try with_reducible rfl))); simp only [Act.put, List.setIfInBounds_toArray, List.set_cons_zero, List.set_cons_succ])
    (refine WE_take (i := 11) (v := ?_) rfl (by kernel_rfl) (by decide) (by kernel_rfl) (by kernel_rfl) (fun _ _ _ h => h) (by rfl) hSE ?_ ?_; rotate_left; (focus (intro w hSw; (try dsimp only at hSw); go_simp; (try with_reducible rfl))); simp only [Act.put, List.setIfInBounds_toArray, List.set_cons_zero, List.set_cons_succ])
    (refine WE_one (i := 12) rfl (by decide) (by kernel_rfl) ?_; intro K hK)
    go_simp
    go_at_call 13
    refine (first_calls We).mono ?_
    rintro e w10 ⟨rfl, hb10⟩
    have HBe := hid ((unhid HBe).trans (hb10.mono (unhid HBe).size))
    clear hb10
    (refine hK.out _ _ ((unhid HSF) _ (unhid HBe)) ?_); clear hSE hK K; intro hSE; (try simp only [Act.put, List.setIfInBounds_toArray, List.set_cons_zero, List.set_cons_succ])
    (refine WE_take (i := 13) (v := ?_) rfl (by kernel_rfl) (by decide) (by kernel_rfl) (by kernel_rfl) (fun _ _ _ h => h) (by rfl) hSE ?_ ?_; rotate_left; (focus (intro w hSw; (try dsimp only at hSw); go_simp; (try with_reducible rfl))); simp only [Act.put, List.setIfInBounds_toArray, List.set_cons_zero, List.set_cons_succ])
    (refine WE_last rfl (by kernel_rfl) (by kernel_rfl) (by kernel_rfl) ?_; intro K hK; go_simp; refine hK.out _ _ (NoPanic.normal ?_); clear hK K)
    have HB := hid ((unhid HB9).trans ((unhid HBe).mono (unhid HB9).size))
    clear hSE HSF
    go_wp2_with fail
    go_ret
    exact ⟨rfl, unhid HB⟩

end Go.Proofs.Ytegghimjmbgghaa
