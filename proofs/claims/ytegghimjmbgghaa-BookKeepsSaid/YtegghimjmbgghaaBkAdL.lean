/-
  The law BookAdds.
-/
import Derived.Test.YtegghimjmbgghaaBkMd
import Derived.Test.YtegghimjmbgghaaBkSr
import Derived.Test.YtegghimjmbgghaaBkOs
import Derived.Test.YtegghimjmbgghaaBkX
set_option linter.unusedSimpArgs false
set_option linter.unusedVariables false
namespace Go.Proofs.Ytegghimjmbgghaa
open Go.RowKit Go.Shelf

theorem recs_sorted {S L L2 : List Rc} (hp : L2.Perm S) (hA2 : Asc L2) (hA : Asc L) (h : ∀ r, r ∈ S ↔ r ∈ L) : L2 = L := asc_eq hA2 hA (fun r => by rw [hp.mem_iff, h r])

set_option maxHeartbeats 8000000 in
set_option maxRecDepth 100000 in
theorem ladds_calls (l : List Rc) (A : Option Addr) (c : Nat) (w : World) (h : RecsIn w A l c) :
    Calls Try.prog 5 #[.slice A l.length c] w fun e w' => e = .returned (.bool true) ∧ Below w.heap.size w w' := by
  have HRD := hid h.rd
  clear h
  go_enter Try.func5, Try.ntmps5
  by_cases hn : 24 < l.length
  · have hni : (24 : Int) < (l.length : Int) := by omega
    go_wp2_with fail
    refine (first_calls w).mono ?_
    rintro e w2 ⟨rfl, hb2⟩
    have HB := hid hb2
    clear hb2
    go_wp2_with fail
    go_ret
    exact ⟨rfl, unhid HB⟩
  · have hni : ¬ (24 : Int) < (l.length : Int) := by omega
    have HLL := hid (show l.length ≤ 1000 from by omega)
    go_wp2_with fail
    refine (made_calls l A c w (unhid HRD) (unhid HLL)).mono ?_
    rintro e W ⟨B, m, B2, S, L, rfl, ht⟩
    have HT := hid ht
    have HLE := hid (show L.length ≤ 1000000 ∧ S.length ≤ 1000000 from by have := ht.lL; have := ht.lS; omega)
    obtain ⟨A1, c1, A2, c2, hrk, hcap⟩ := ht.rb.b
    have HRK := hid hrk
    clear ht hrk hcap
    go_upto_region 4 with (fail)
    have HSF := hid (show ∀ w', Below W.heap.size W w' → w'.cell? ⟨B2, 0, none⟩ = some (.slice A1 L.length c1) from fun w' hb => ((unhid HRK).below hb).cell0)
    refine wp_region_noPanic ?_
    refine wp_region_E (S := fun w' => w'.cell? ⟨B2, 0, none⟩ = some (.slice A1 L.length c1)) 27 28 rfl (by kernel_rfl) (by kernel_rfl) ((unhid HSF) _ (Below.drew (Below.refl _ _))) ?_
    intro hSE
    have HBe := hid (Below.drew (Below.refl W.heap.size W))
    generalize W.drew = Wd at *
    (refine WE_take (i := 0) (v := ?_) rfl (by kernel_rfl) (by decide) (by kernel_rfl) (by kernel_rfl) (fun _ _ _ h => h) (by rfl) hSE ?_ ?_; rotate_left; (focus (intro w hSw; (try dsimp only at hSw); go_simp; (try with_reducible rfl))); simp only [Act.put, List.setIfInBounds_toArray, List.set_cons_zero, List.set_cons_succ])
    (refine WE_take (i := 1) (v := ?_) rfl (by kernel_rfl) (by decide) (by kernel_rfl) (by kernel_rfl) (fun _ _ _ h => h) (by rfl) hSE ?_ ?_; rotate_left; (focus (intro w hSw; (try dsimp only at hSw); go_simp; (try with_reducible rfl))); simp only [Act.put, List.setIfInBounds_toArray, List.set_cons_zero, List.set_cons_succ])
    (refine WE_take (i := 2) (v := ?_) rfl (by kernel_rfl) (by decide) (by kernel_rfl) (by kernel_rfl) (fun _ _ _ h => h) (by rfl) hSE ?_ ?_; rotate_left; (focus (intro w hSw; (try dsimp only at hSw); go_simp; (try with_reducible rfl))); simp only [Act.put, List.setIfInBounds_toArray, List.set_cons_zero, List.set_cons_succ])
    (refine WE_take (i := 4) (v := ?_) rfl (by kernel_rfl) (by decide) (by kernel_rfl) (by kernel_rfl) (fun _ _ _ h => h) (by rfl) hSE ?_ ?_; rotate_left; (focus (intro w hSw; (try dsimp only at hSw); go_simp; (try with_reducible rfl))); simp only [Act.put, List.setIfInBounds_toArray, List.set_cons_zero, List.set_cons_succ])
    (refine WE_take (i := 5) (v := ?_) rfl (by kernel_rfl) (by decide) (by kernel_rfl) (by kernel_rfl) (fun _ _ _ h => h) (by rfl) hSE ?_ ?_; rotate_left; (focus (intro w hSw; (try dsimp only at hSw); go_simp; (try with_reducible rfl))); simp only [Act.put, List.setIfInBounds_toArray, List.set_cons_zero, List.set_cons_succ])
    (refine WE_take (i := 6) (v := ?_) rfl (by kernel_rfl) (by decide) (by kernel_rfl) (by kernel_rfl) (fun _ _ _ h => h) (by rfl) hSE ?_ ?_; rotate_left; (focus (intro w hSw; (try dsimp only at hSw); go_simp; (try with_reducible rfl))); simp only [Act.put, List.setIfInBounds_toArray, List.set_cons_zero, List.set_cons_succ])
    (refine WE_take (i := 7) (v := ?_) rfl (by kernel_rfl) (by decide) (by kernel_rfl) (by kernel_rfl) (fun _ _ _ h => h) (by rfl) hSE ?_ ?_; rotate_left; (focus (intro w hSw; (try dsimp only at hSw); go_simp; (try with_reducible rfl))); simp only [Act.put, List.setIfInBounds_toArray, List.set_cons_zero, List.set_cons_succ])
    (refine WE_one (i := 3) rfl (by decide) (by kernel_rfl) ?_; intro K hK)
    go_simp
    go_at_call 18
    refine (records_calls Wd ((unhid HT).below (unhid HBe)).bk (unhid HLE).2).mono ?_
    rintro e w1 ⟨v, L2, rfl, hp, hA2, hrow, hb⟩
    obtain rfl : L2 = L := recs_sorted hp hA2 (unhid HT).rb.asc (unhid HT).same
    obtain ⟨Av, cv, rfl, hrd, -⟩ := own_slice hrow
    have HR1 := hid hrd
    have HBe := hid ((unhid HBe).trans (hb.mono (unhid HBe).size))
    clear hp hA2 hrow hb hrd
    (refine hK.out _ _ ((unhid HSF) _ (unhid HBe)) ?_); clear hSE hK K; intro hSE; (try simp only [Act.put, List.setIfInBounds_toArray, List.set_cons_zero, List.set_cons_succ])
    have HR2 := hid ((unhid HRK).below (unhid HBe)).l
    (refine WE_one (i := 8) rfl (by decide) (by kernel_rfl) ?_; intro K hK)
    go_simp
    go_at_call 17
    refine (sameRecords_calls L2 L2 Av A1 cv c1 w1 (unhid HR1) (unhid HR2) (unhid HLE).1).mono ?_
    rintro e w2 ⟨rfl, hb⟩
    rw [decide_eq_true (rfl : L2 = L2)]
    have HBe := hid ((unhid HBe).trans (hb.mono (unhid HBe).size))
    clear hb HR1 HR2
    (refine hK.out _ _ ((unhid HSF) _ (unhid HBe)) ?_); clear hSE hK K; intro hSE; (try simp only [Act.put, List.setIfInBounds_toArray, List.set_cons_zero, List.set_cons_succ])
    (refine WE_take (i := 9) (v := ?_) rfl (by kernel_rfl) (by decide) (by kernel_rfl) (by kernel_rfl) (fun _ _ _ h => h) (by rfl) hSE ?_ ?_; rotate_left; (focus (intro w hSw; (try dsimp only at hSw); go_simp; (try with_reducible rfl))); simp only [Act.put, List.setIfInBounds_toArray, List.set_cons_zero, List.set_cons_succ])
    (refine WE_take (i := 10) (v := ?_) rfl (by kernel_rfl) (by decide) (by kernel_rfl) (by kernel_rfl) (fun _ _ _ h => h) (by rfl) hSE ?_ ?_; rotate_left; (focus (intro w hSw; (try dsimp only at hSw); go_simp; (try with_reducible rfl))); simp only [Act.put, List.setIfInBounds_toArray, List.set_cons_zero, List.set_cons_succ])
    (refine WE_take (i := 11) (v := ?_) rfl (by kernel_rfl) (by decide) (by kernel_rfl) (by kernel_rfl) (fun _ _ _ h => h) (by rfl) hSE ?_ ?_; rotate_left; (focus (intro w hSw; (try dsimp only at hSw); go_simp; (try with_reducible rfl))); simp only [Act.put, List.setIfInBounds_toArray, List.set_cons_zero, List.set_cons_succ])
    (refine WE_take (i := 13) (v := ?_) rfl (by kernel_rfl) (by decide) (by kernel_rfl) (by kernel_rfl) (fun _ _ _ h => h) (by rfl) hSE ?_ ?_; rotate_left; (focus (intro w hSw; (try dsimp only at hSw); go_simp; (try with_reducible rfl))); simp only [Act.put, List.setIfInBounds_toArray, List.set_cons_zero, List.set_cons_succ])
    (refine WE_one (i := 12) rfl (by decide) (by kernel_rfl) ?_; intro K hK)
    go_simp
    go_at_call 19
    refine (pwaiting_calls w2 ((unhid HT).below (unhid HBe)).bk (unhid HLE).2 (unhid HT).rb.asc (unhid HT).same).mono ?_
    rintro e w3 ⟨v, rfl, hrow, hb⟩
    obtain ⟨Aw, cw, rfl, hrd, -⟩ := own_slice hrow
    have HR1 := hid hrd
    have HBe := hid ((unhid HBe).trans (hb.mono (unhid HBe).size))
    clear hrow hb hrd
    (refine hK.out _ _ ((unhid HSF) _ (unhid HBe)) ?_); clear hSE hK K; intro hSE; (try simp only [Act.put, List.setIfInBounds_toArray, List.set_cons_zero, List.set_cons_succ])
    (refine WE_one (i := 14) rfl (by decide) (by kernel_rfl) ?_; intro K hK)
    go_simp
    go_at_call 20
    refine (rwaiting_calls w3 ((unhid HT).below (unhid HBe)).rb (unhid HLE).1).mono ?_
    rintro e w4 ⟨v, rfl, hrow, hb⟩
    obtain ⟨Ax, cx, rfl, hrd, -⟩ := own_slice hrow
    have HR2 := hid hrd
    have HR1 := hid ((unhid HR1).below hb)
    have HBe := hid ((unhid HBe).trans (hb.mono (unhid HBe).size))
    clear hrow hb hrd
    (refine hK.out _ _ ((unhid HSF) _ (unhid HBe)) ?_); clear hSE hK K; intro hSE; (try simp only [Act.put, List.setIfInBounds_toArray, List.set_cons_zero, List.set_cons_succ])
    (refine WE_one (i := 15) rfl (by decide) (by kernel_rfl) ?_; intro K hK)
    go_simp
    go_at_call 17
    refine (sameRecords_calls (waitL L2) (waitL L2) Aw Ax cw cx w4 (unhid HR1) (unhid HR2) (Nat.le_trans (List.length_filter_le _ _) (unhid HLE).1)).mono ?_
    rintro e w5 ⟨rfl, hb⟩
    rw [decide_eq_true (rfl : waitL L2 = waitL L2)]
    have HBe := hid ((unhid HBe).trans (hb.mono (unhid HBe).size))
    clear hb HR1 HR2
    (refine hK.out _ _ ((unhid HSF) _ (unhid HBe)) ?_); clear hSE hK K; intro hSE; (try simp only [Act.put, List.setIfInBounds_toArray, List.set_cons_zero, List.set_cons_succ])
    (refine WE_take (i := 16) (v := ?_) rfl (by kernel_rfl) (by decide) (by kernel_rfl) (by kernel_rfl) (fun _ _ _ h => h) (by rfl) hSE ?_ ?_; rotate_left; (focus (intro w hSw; (try dsimp only at hSw); go_simp; (try with_reducible rfl))); simp only [Act.put, List.setIfInBounds_toArray, List.set_cons_zero, List.set_cons_succ])
    (refine WE_take (i := 17) (v := ?_) rfl (by kernel_rfl) (by decide) (by kernel_rfl) (by kernel_rfl) (fun _ _ _ h => h) (by rfl) hSE ?_ ?_; rotate_left; (focus (intro w hSw; (try dsimp only at hSw); go_simp; (try with_reducible rfl))); simp only [Act.put, List.setIfInBounds_toArray, List.set_cons_zero, List.set_cons_succ])
    (refine WE_take (i := 18) (v := ?_) rfl (by kernel_rfl) (by decide) (by kernel_rfl) (by kernel_rfl) (fun _ _ _ h => h) (by rfl) hSE ?_ ?_; rotate_left; (focus (intro w hSw; (try dsimp only at hSw); go_simp; (try with_reducible rfl))); simp only [Act.put, List.setIfInBounds_toArray, List.set_cons_zero, List.set_cons_succ])
    (refine WE_take (i := 20) (v := ?_) rfl (by kernel_rfl) (by decide) (by kernel_rfl) (by kernel_rfl) (fun _ _ _ h => h) (by rfl) hSE ?_ ?_; rotate_left; (focus (intro w hSw; (try dsimp only at hSw); go_simp; (try with_reducible rfl))); simp only [Act.put, List.setIfInBounds_toArray, List.set_cons_zero, List.set_cons_succ])
    (refine WE_one (i := 19) rfl (by decide) (by kernel_rfl) ?_; intro K hK)
    go_simp
    go_at_call 24
    refine (pforks_calls w5 ((unhid HT).below (unhid HBe)).bk (unhid HLE).2 (unhid HT).same).mono ?_
    rintro e w6 ⟨v, rfl, hrow, hb⟩
    obtain ⟨Aw, cw, rfl, hrd, -⟩ := own_slice hrow
    have HR1 := hid hrd
    have HBe := hid ((unhid HBe).trans (hb.mono (unhid HBe).size))
    clear hrow hb hrd
    (refine hK.out _ _ ((unhid HSF) _ (unhid HBe)) ?_); clear hSE hK K; intro hSE; (try simp only [Act.put, List.setIfInBounds_toArray, List.set_cons_zero, List.set_cons_succ])
    (refine WE_one (i := 21) rfl (by decide) (by kernel_rfl) ?_; intro K hK)
    go_simp
    go_at_call 25
    refine (rforks_calls w6 ((unhid HT).below (unhid HBe)).rb (unhid HLE).1).mono ?_
    rintro e w7 ⟨v, rfl, hrow, hb⟩
    obtain ⟨Ax, cx, rfl, hrd, -⟩ := own_slice hrow
    have HR2 := hid hrd
    have HR1 := hid ((unhid HR1).below hb)
    have HBe := hid ((unhid HBe).trans (hb.mono (unhid HBe).size))
    clear hrow hb hrd
    (refine hK.out _ _ ((unhid HSF) _ (unhid HBe)) ?_); clear hSE hK K; intro hSE; (try simp only [Act.put, List.setIfInBounds_toArray, List.set_cons_zero, List.set_cons_succ])
    (refine WE_one (i := 22) rfl (by decide) (by kernel_rfl) ?_; intro K hK)
    go_simp
    go_at_call 23
    refine (sameForks_calls (forksP L2) (forksP L2) Aw Ax cw cx w7 (unhid HR1) (unhid HR2) (Nat.le_trans (forkK_len L2 8) (by omega))).mono ?_
    rintro e w8 ⟨rfl, hb⟩
    rw [decide_eq_true (rfl : forksP L2 = forksP L2)]
    have HBe := hid ((unhid HBe).trans (hb.mono (unhid HBe).size))
    clear hb HR1 HR2
    (refine hK.out _ _ ((unhid HSF) _ (unhid HBe)) ?_); clear hSE hK K; intro hSE; (try simp only [Act.put, List.setIfInBounds_toArray, List.set_cons_zero, List.set_cons_succ])
    (refine WE_take (i := 23) (v := ?_) rfl (by kernel_rfl) (by decide) (by kernel_rfl) (by kernel_rfl) (fun _ _ _ h => h) (by rfl) hSE ?_ ?_; rotate_left; (focus (intro w hSw; (try dsimp only at hSw); go_simp; (try with_reducible rfl))); simp only [Act.put, List.setIfInBounds_toArray, List.set_cons_zero, List.set_cons_succ])
    (refine WE_take (i := 24) (v := ?_) rfl (by kernel_rfl) (by decide) (by kernel_rfl) (by kernel_rfl) (fun _ _ _ h => h) (by rfl) hSE ?_ ?_; rotate_left; (focus (intro w hSw; (try dsimp only at hSw); go_simp; (try with_reducible rfl))); simp only [Act.put, List.setIfInBounds_toArray, List.set_cons_zero, List.set_cons_succ])
    (refine WE_one (i := 25) rfl (by decide) (by kernel_rfl) ?_; intro K hK)
    go_simp
    go_at_call 13
    refine (first_calls w8).mono ?_
    rintro e w9 ⟨rfl, hb⟩
    have HBe := hid ((unhid HBe).trans (hb.mono (unhid HBe).size))
    clear hb
    (refine hK.out _ _ ((unhid HSF) _ (unhid HBe)) ?_); clear hSE hK K; intro hSE; (try simp only [Act.put, List.setIfInBounds_toArray, List.set_cons_zero, List.set_cons_succ])
    (refine WE_take (i := 26) (v := ?_) rfl (by kernel_rfl) (by decide) (by kernel_rfl) (by kernel_rfl) (fun _ _ _ h => h) (by rfl) hSE ?_ ?_; rotate_left; (focus (intro w hSw; (try dsimp only at hSw); go_simp; (try with_reducible rfl))); simp only [Act.put, List.setIfInBounds_toArray, List.set_cons_zero, List.set_cons_succ])
    (refine WE_last rfl (by kernel_rfl) (by kernel_rfl) (by kernel_rfl) ?_; intro K hK; go_simp; refine hK.out _ _ (NoPanic.normal ?_); clear hK K)
    have HB := hid ((unhid HT).b.trans ((unhid HBe).mono (unhid HT).b.size))
    clear hSE HSF
    go_wp2_with fail
    go_ret
    exact ⟨rfl, unhid HB⟩

end Go.Proofs.Ytegghimjmbgghaa
