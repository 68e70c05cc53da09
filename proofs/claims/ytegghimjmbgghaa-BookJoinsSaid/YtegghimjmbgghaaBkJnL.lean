/-
  The law BookJoins.
-/
import Derived.Test.YtegghimjmbgghaaBkAdL
import Derived.Test.YtegghimjmbgghaaBkJn
set_option linter.unusedSimpArgs false
set_option linter.unusedVariables false
namespace Go.Proofs.Ytegghimjmbgghaa
open Go.RowKit Go.Shelf

theorem len_same {S L : List Rc} (h1 : S.Nodup) (h2 : L.Nodup) (h : ∀ r, r ∈ S ↔ r ∈ L) : S.length = L.length := ((List.perm_ext_iff_of_nodup h1 h2).2 h).length_eq
/-- Two pairs of books. -/
structure Four (w0 : World) (B m B2 : Nat) (S L : List Rc) (B' m' B2' : Nat) (S' L' : List Rc) (w : World) : Prop where
  bk : BkAt w B m S
  rb : RbAt w B2 L
  bk' : BkAt w B' m' S'
  rb' : RbAt w B2' L'
  mm : m ≠ m'
  bb : B2 ≠ B2'
  fr : w0.heap.size ≤ m ∧ w0.heap.size ≤ B2
  b : Below w0.heap.size w0 w
section
variable {w0 w w' : World} {B m B2 B' m' B2' : Nat} {S L S' L' : List Rc}
theorem Four.below (h : Four w0 B m B2 S L B' m' B2' S' L' w) (hb : Below w.heap.size w w') : Four w0 B m B2 S L B' m' B2' S' L' w' :=
  ⟨h.bk.below' hb, h.rb.below hb, h.bk'.below' hb, h.rb'.below hb, h.mm, h.bb, h.fr, h.b.trans (hb.mono h.b.size)⟩
theorem Four.of {w1 : World} {n n' : Nat} (h1 : Two w0 B m B2 S L n w1) (h2 : Two w1 B' m' B2' S' L' n' w) : Four w0 B m B2 S L B' m' B2' S' L' w :=
  ⟨h1.bk.below' h2.b, h1.rb.below h2.b, h2.bk, h2.rb, by have := h1.bk.lt; have := h2.fr; omega, by have := h1.rb.lt; have := h2.fr; omega, ⟨h1.fr.2.1, h1.fr.2.2⟩, h1.b.trans (h2.b.mono h1.b.size)⟩
theorem bk_ne_map {w : World} {B m B' m' : Nat} {S S' : List Rc} (h : BkAt w B m S) (h' : BkAt w B' m' S') : B' ≠ m := by
  rintro rfl
  obtain ⟨es, c, hm⟩ := GMap.isMap h.m
  rw [h'.b] at hm
  cases hm
theorem Four.join {T : List Rc} (h : Four w0 B m B2 S L B' m' B2' S' L' w) (hk : BkAt w' B m T) (hg : w.grownBy w' (some m)) : Four w0 B m B2 T L B' m' B2' S' L' w' :=
  ⟨hk, h.rb.grown h.bk.noNum hg (fun e => (bk_rb h.bk h.rb).2 e.symm), h.bk'.grown hg (fun e => bk_ne_map h.bk h.bk' (Option.some.inj e)) (fun e => h.mm (Option.some.inj e).symm), h.rb'.grown h.bk.noNum hg (fun e => (bk_rb h.bk h.rb').2 e.symm), h.mm, h.bb, h.fr,
    h.b.grown hg h.b.size (fun j e => by cases e; exact h.fr.1)⟩
theorem Four.rjoin {T : List Rc} (h : Four w0 B m B2 S L B' m' B2' S' L' w) (hk : RbAt w' B2 T) (hg : w.grownBy w' (some B2)) : Four w0 B m B2 S T B' m' B2' S' L' w' :=
  ⟨h.bk.grown hg (fun e => (bk_rb h.bk h.rb).1 (Option.some.inj e)) (fun e => (bk_rb h.bk h.rb).2 (Option.some.inj e)), hk, h.bk'.grown hg (fun e => (bk_rb h.bk' h.rb).1 (Option.some.inj e)) (fun e => (bk_rb h.bk' h.rb).2 (Option.some.inj e)),
    h.rb'.grown h.rb.noNum hg (fun e => h.bb e.symm), h.mm, h.bb, h.fr, h.b.grown hg h.b.size (fun j e => by cases e; exact h.fr.2)⟩
end

set_option maxHeartbeats 8000000 in
set_option maxRecDepth 100000 in
theorem ljoins_calls (l : List Rc) (A : Option Addr) (c : Nat) (l2 : List Rc) (An : Option Addr) (cn : Nat) (w : World) (h : RecsIn w A l c) (hn : RecsIn w An l2 cn) :
    Calls Try.prog 7 #[.slice A l.length c, .slice An l2.length cn] w fun e w' => e = .returned (.bool true) ∧ Below w.heap.size w w' := by
  have HRD := hid h.rd
  have HRD2 := hid hn.rd
  clear h hn
  go_enter Try.func7, Try.ntmps7
  by_cases h1 : 16 < l.length
  · have hni : (16 : Int) < (l.length : Int) := by omega
    go_wp2_with fail
    refine (first_calls w).mono ?_
    rintro e w2 ⟨rfl, hb2⟩
    have HB := hid hb2
    clear hb2
    go_wp2_with fail
    go_ret
    exact ⟨rfl, unhid HB⟩
  · have hni : ¬ (16 : Int) < (l.length : Int) := by omega
    by_cases h2 : 16 < l2.length
    · have hnj : (16 : Int) < (l2.length : Int) := by omega
      go_wp2_with fail
      refine (first_calls w).mono ?_
      rintro e w2 ⟨rfl, hb2⟩
      have HB := hid hb2
      clear hb2
      go_wp2_with fail
      go_ret
      exact ⟨rfl, unhid HB⟩
    · have hnj : ¬ (16 : Int) < (l2.length : Int) := by omega
      have HLL := hid (show l.length ≤ 16 ∧ l2.length ≤ 16 from by omega)
      go_wp2_with fail
      refine (made_calls l A c w (unhid HRD) (by have := unhid HLL; omega)).mono ?_
      rintro e W1 ⟨B, m, B2, S, L, rfl, ht⟩
      have HT := hid ht
      have HRD2 := hid ((unhid HRD2).below ht.b)
      clear ht h1 h2 hni hnj
      go_wp2_with fail
      refine (made_calls l2 An cn W1 (unhid HRD2) (by have := unhid HLL; omega)).mono ?_
      rintro e W2 ⟨B', m', B2', S', L', rfl, ht⟩
      have HF := hid (Four.of (unhid HT) ht)
      have HSA := hid (⟨(unhid HT).same, ht.same⟩ : (∀ r, r ∈ S ↔ r ∈ L) ∧ (∀ r, r ∈ S' ↔ r ∈ L'))
      have HLN := hid (show S.length ≤ 16 ∧ L.length ≤ 16 ∧ S'.length ≤ 16 ∧ L'.length ≤ 16 from by have := unhid HLL; have := (unhid HT).lS; have := (unhid HT).lL; have := ht.lS; have := ht.lL; omega)
      clear ht HT
      go_wp2_with fail
      refine (pcopy_calls W2 (unhid HF).bk).mono ?_
      rintro e W3 ⟨rfl, hk3, hb3⟩
      have HOm := hid (show W2.heap.size ≠ m ∧ W2.heap.size ≠ B2 ∧ W2.heap.size + 1 ≠ m ∧ W2.heap.size + 1 ≠ B2 from by
        have h1 := (unhid HF).bk.lt
        have h2 := (unhid HF).rb.lt
        omega)
      have HF := hid ((unhid HF).below hb3)
      obtain ⟨mo, hmo⟩ : ∃ mo, mo = W2.heap.size := ⟨_, rfl⟩
      obtain ⟨Bo, hBo⟩ : ∃ Bo, Bo = W2.heap.size + 1 := ⟨_, rfl⟩
      rw [← hBo] at HOm hk3 ⊢
      rw [← hmo] at HOm hk3
      have HO := hid hk3
      clear hk3 hb3 hmo hBo
      obtain ⟨A1, c1, A2, c2, hrk, hcap⟩ := (unhid HF).rb.b
      have k0 := hrk.cell0
      clear hrk hcap
      go_wp2_with fail
      clear k0
      refine (join_calls W3 (unhid HF).bk (unhid HF).bk' (unhid HF).mm (by have := unhid HLN; omega)).mono ?_
      rintro e W4 ⟨T, rfl, hk4, hmem4, hl4, hg4⟩
      have HO := hid ((unhid HO).grown hg4 (fun e => (unhid HOm).2.2.1 (Option.some.inj e)) (fun e => (unhid HOm).1 (Option.some.inj e)))
      have HF := hid ((unhid HF).join hk4 hg4)
      have HM := hid hmem4
      have HTL := hid hl4
      clear hk4 hmem4 hl4 hg4
      go_wp2_with fail
      refine (rjoin_calls W4 (unhid HF).rb (unhid HF).rb' (by have := unhid HLN; omega)).mono ?_
      rintro e W5 ⟨rfl, hk5, hg5⟩
      have HO := hid ((unhid HO).grown hg5 (fun e => (unhid HOm).2.2.2 (Option.some.inj e)) (fun e => (unhid HOm).2.1 (Option.some.inj e)))
      have HAL := hid (unhid HF).rb.asc
      have HNL := hid (⟨(unhid HF).rb.asc.nodup, (unhid HF).rb'.asc.nodup, RSet.nodup (unhid HF).bk.m, RSet.nodup (unhid HO).m⟩ : L.Nodup ∧ L'.Nodup ∧ T.Nodup ∧ S.Nodup)
      have HF := hid ((unhid HF).rjoin hk5 hg5)
      have HJ := hid (show ∀ r, r ∈ T ↔ r ∈ joinR L L' from fun r => by
        rw [unhid HM r, mem_joinR (unhid HAL), (unhid HSA).1 r, (unhid HSA).2 r]
        exact Or.comm)
      have HNJ := hid (show (T.length : Int) = (joinR L L').length ∧ (S.length : Int) = L.length from by
        have h1 := len_same (unhid HNL).2.2.1 (unhid HF).rb.asc.nodup (unhid HJ)
        have h2 := len_same (unhid HNL).2.2.2 (unhid HNL).1 (unhid HSA).1
        omega)
      clear hk5 hg5
      obtain ⟨LJ, hLJ⟩ : ∃ LJ, LJ = joinR L L' := ⟨_, rfl⟩
      rw [← hLJ] at HF HJ HNJ ⊢
      rw [(unhid HNJ).1, (unhid HNJ).2]
      clear hLJ
      have hnn : ((LJ.length : Int) - (L.length : Int) != (LJ.length : Int) - (L.length : Int)) = false := by simp
      go_wp2_with fail
      refine (records_calls W5 (unhid HO) (by have := unhid HLN; omega)).mono ?_
      rintro e W6 ⟨v, L0, rfl, hp, -, hrow, hb6⟩
      obtain ⟨Av, cv, rfl, -, -⟩ := own_slice hrow
      have hL0 : (L0.length : Int) = L.length := by
        have := hp.length_eq
        have := (unhid HNJ).2
        omega
      have hnn2 : ((L0.length : Int) != (L.length : Int)) = false := by rw [hL0]; simp
      have HF := hid ((unhid HF).below hb6)
      clear hp hrow hb6 HO HOm hnn
      go_wp2_with fail
      refine (join_calls W6 (unhid HF).bk (unhid HF).bk' (unhid HF).mm (by have := unhid HLN; have := unhid HTL; omega)).mono ?_
      rintro e W7 ⟨T2, rfl, hk7, hmem7, hl7, hg7⟩
      have HF := hid ((unhid HF).join hk7 hg7)
      have HJ2 := hid (show ∀ r, r ∈ T2 ↔ r ∈ LJ from fun r => by
        rw [hmem7 r, ← unhid HJ r, unhid HM r]
        constructor
        · rintro (h | h)
          · exact h
          · exact .inr h
        · exact .inl)
      have hT2 : (T2.length : Int) - T.length = 0 := by
        have h1 := len_same (RSet.nodup hk7.m) (unhid HF).rb.asc.nodup (unhid HJ2)
        have h2 := (unhid HNJ).1
        omega
      have HLE := hid (show LJ.length ≤ 1000000 ∧ T2.length ≤ 1000000 ∧ L'.length ≤ 1000000 ∧ S'.length ≤ 1000000 from by
        have h1 := len_same (RSet.nodup hk7.m) (unhid HF).rb.asc.nodup (unhid HJ2)
        have h2 := (unhid HNJ).1
        have := unhid HLN; have := unhid HTL
        omega)
      rw [hT2]
      clear hk7 hmem7 hl7 hg7 hT2 hnn2 hL0
      obtain ⟨A1, c1, A2, c2, hrk, hcap⟩ := (unhid HF).rb.b
      have HRK := hid hrk
      obtain ⟨A3, c3, A4, c4, hrk2, hcap2⟩ := (unhid HF).rb'.b
      have HRK2 := hid hrk2
      clear hrk hcap hrk2 hcap2
      go_upto_region 14 with (fail)
      have HSF := hid (show ∀ w', Below W7.heap.size W7 w' → (w'.cell? ⟨B2, 0, none⟩ = some (.slice A1 LJ.length c1) ∧ w'.cell? ⟨B2', 0, none⟩ = some (.slice A3 L'.length c3)) from fun w' hb => ⟨((unhid HRK).below hb).cell0, ((unhid HRK2).below hb).cell0⟩)
      refine wp_region_noPanic ?_
      refine wp_region_E (S := fun w' => (w'.cell? ⟨B2, 0, none⟩ = some (.slice A1 LJ.length c1) ∧ w'.cell? ⟨B2', 0, none⟩ = some (.slice A3 L'.length c3))) 34 35 rfl (by kernel_rfl) (by kernel_rfl) ((unhid HSF) _ (Below.drew (Below.refl _ _))) ?_
      intro hSE
      have HBe := hid (Below.drew (Below.refl W7.heap.size W7))
      generalize W7.drew = Wd at *
      (refine WE_take (i := 0) (v := ?_) rfl (by kernel_rfl) (by decide) (by kernel_rfl) (by kernel_rfl) (fun _ _ _ h => h) (by rfl) hSE ?_ ?_; rotate_left; (focus (intro w hSw; (try dsimp only at hSw); go_simp; (try with_reducible rfl))); simp only [Act.put, List.setIfInBounds_toArray, List.set_cons_zero, List.set_cons_succ])
      (refine WE_take (i := 1) (v := ?_) rfl (by kernel_rfl) (by decide) (by kernel_rfl) (by kernel_rfl) (fun _ _ _ h => h) (by rfl) hSE ?_ ?_; rotate_left; (focus (intro w hSw; (try dsimp only at hSw); go_simp; (try with_reducible rfl))); simp only [Act.put, List.setIfInBounds_toArray, List.set_cons_zero, List.set_cons_succ])
      (refine WE_take (i := 2) (v := ?_) rfl (by kernel_rfl) (by decide) (by kernel_rfl) (by kernel_rfl) (fun _ _ _ h => h) (by rfl) hSE ?_ ?_; rotate_left; (focus (intro w hSw; (try dsimp only at hSw); go_simp; (try with_reducible rfl))); simp only [Act.put, List.setIfInBounds_toArray, List.set_cons_zero, List.set_cons_succ])
      (refine WE_take (i := 3) (v := ?_) rfl (by kernel_rfl) (by decide) (by kernel_rfl) (by kernel_rfl) (fun _ _ _ h => h) (by rfl) hSE ?_ ?_; rotate_left; (focus (intro w hSw; (try dsimp only at hSw); go_simp; (try with_reducible rfl))); simp only [Act.put, List.setIfInBounds_toArray, List.set_cons_zero, List.set_cons_succ])
      (refine WE_take (i := 4) (v := ?_) rfl (by kernel_rfl) (by decide) (by kernel_rfl) (by kernel_rfl) (fun _ _ _ h => h) (by rfl) hSE ?_ ?_; rotate_left; (focus (intro w hSw; (try dsimp only at hSw); go_simp; (try with_reducible rfl))); simp only [Act.put, List.setIfInBounds_toArray, List.set_cons_zero, List.set_cons_succ])
      (refine WE_take (i := 5) (v := ?_) rfl (by kernel_rfl) (by decide) (by kernel_rfl) (by kernel_rfl) (fun _ _ _ h => h) (by rfl) hSE ?_ ?_; rotate_left; (focus (intro w hSw; (try dsimp only at hSw); go_simp; (try with_reducible rfl))); simp only [Act.put, List.setIfInBounds_toArray, List.set_cons_zero, List.set_cons_succ])
      (refine WE_take (i := 6) (v := ?_) rfl (by kernel_rfl) (by decide) (by kernel_rfl) (by kernel_rfl) (fun _ _ _ h => h) (by rfl) hSE ?_ ?_; rotate_left; (focus (intro w hSw; (try dsimp only at hSw); go_simp; (try with_reducible rfl))); simp only [Act.put, List.setIfInBounds_toArray, List.set_cons_zero, List.set_cons_succ])
      (refine WE_take (i := 7) (v := ?_) rfl (by kernel_rfl) (by decide) (by kernel_rfl) (by kernel_rfl) (fun _ _ _ h => h) (by rfl) hSE ?_ ?_; rotate_left; (focus (intro w hSw; (try dsimp only at hSw); go_simp; (try with_reducible rfl))); simp only [Act.put, List.setIfInBounds_toArray, List.set_cons_zero, List.set_cons_succ])
      (refine WE_take (i := 9) (v := ?_) rfl (by kernel_rfl) (by decide) (by kernel_rfl) (by kernel_rfl) (fun _ _ _ h => h) (by rfl) hSE ?_ ?_; rotate_left; (focus (intro w hSw; (try dsimp only at hSw); go_simp; (try with_reducible rfl))); simp only [Act.put, List.setIfInBounds_toArray, List.set_cons_zero, List.set_cons_succ])
      (refine WE_take (i := 10) (v := ?_) rfl (by kernel_rfl) (by decide) (by kernel_rfl) (by kernel_rfl) (fun _ _ _ h => h) (by rfl) hSE ?_ ?_; rotate_left; (focus (intro w hSw; (try dsimp only at hSw); go_simp; (try with_reducible rfl))); simp only [Act.put, List.setIfInBounds_toArray, List.set_cons_zero, List.set_cons_succ])
      (refine WE_take (i := 11) (v := ?_) rfl (by kernel_rfl) (by decide) (by kernel_rfl) (by kernel_rfl) (fun _ _ _ h => h) (by rfl) hSE ?_ ?_; rotate_left; (focus (intro w hSw; (try dsimp only at hSw); go_simp; (try with_reducible rfl))); simp only [Act.put, List.setIfInBounds_toArray, List.set_cons_zero, List.set_cons_succ])
      (refine WE_take (i := 12) (v := ?_) rfl (by kernel_rfl) (by decide) (by kernel_rfl) (by kernel_rfl) (fun _ _ _ h => h) (by rfl) hSE ?_ ?_; rotate_left; (focus (intro w hSw; (try dsimp only at hSw); go_simp; (try with_reducible rfl))); simp only [Act.put, List.setIfInBounds_toArray, List.set_cons_zero, List.set_cons_succ])
      (refine WE_one (i := 8) rfl (by decide) (by kernel_rfl) ?_; intro K hK)
      go_simp
      go_at_call 18
      refine (records_calls Wd ((unhid HF).below (unhid HBe)).bk (unhid HLE).2.1).mono ?_
      rintro e w1 ⟨v, L2, rfl, hp, hA2, hrow, hb⟩
      obtain rfl : L2 = LJ := recs_sorted hp hA2 (unhid HF).rb.asc (unhid HJ2)
      obtain ⟨Av, cv, rfl, hrd, -⟩ := own_slice hrow
      have HR1 := hid hrd
      have HBe := hid ((unhid HBe).trans (hb.mono (unhid HBe).size))
      clear hp hA2 hrow hb hrd
      (refine hK.out _ _ ((unhid HSF) _ (unhid HBe)) ?_); clear hSE hK K; intro hSE; (try simp only [Act.put, List.setIfInBounds_toArray, List.set_cons_zero, List.set_cons_succ])
      have HR2 := hid ((unhid HRK).below (unhid HBe)).l
      (refine WE_one (i := 13) rfl (by decide) (by kernel_rfl) ?_; intro K hK)
      go_simp
      go_at_call 17
      refine (sameRecords_calls L2 L2 Av A1 cv c1 w1 (unhid HR1) (unhid HR2) (unhid HLE).1).mono ?_
      rintro e w2 ⟨rfl, hb⟩
      rw [decide_eq_true (rfl : L2 = L2)]
      have HBe := hid ((unhid HBe).trans (hb.mono (unhid HBe).size))
      clear hb HR1 HR2
      (refine hK.out _ _ ((unhid HSF) _ (unhid HBe)) ?_); clear hSE hK K; intro hSE; (try simp only [Act.put, List.setIfInBounds_toArray, List.set_cons_zero, List.set_cons_succ])
      (refine WE_take (i := 14) (v := ?_) rfl (by kernel_rfl) (by decide) (by kernel_rfl) (by kernel_rfl) (fun _ _ _ h => h) (by rfl) hSE ?_ ?_; rotate_left; (focus (intro w hSw; (try dsimp only at hSw); go_simp; (try with_reducible rfl))); simp only [Act.put, List.setIfInBounds_toArray, List.set_cons_zero, List.set_cons_succ])
      (refine WE_take (i := 15) (v := ?_) rfl (by kernel_rfl) (by decide) (by kernel_rfl) (by kernel_rfl) (fun _ _ _ h => h) (by rfl) hSE ?_ ?_; rotate_left; (focus (intro w hSw; (try dsimp only at hSw); go_simp; (try with_reducible rfl))); simp only [Act.put, List.setIfInBounds_toArray, List.set_cons_zero, List.set_cons_succ])
      (refine WE_take (i := 16) (v := ?_) rfl (by kernel_rfl) (by decide) (by kernel_rfl) (by kernel_rfl) (fun _ _ _ h => h) (by rfl) hSE ?_ ?_; rotate_left; (focus (intro w hSw; (try dsimp only at hSw); go_simp; (try with_reducible rfl))); simp only [Act.put, List.setIfInBounds_toArray, List.set_cons_zero, List.set_cons_succ])
      (refine WE_take (i := 18) (v := ?_) rfl (by kernel_rfl) (by decide) (by kernel_rfl) (by kernel_rfl) (fun _ _ _ h => h) (by rfl) hSE ?_ ?_; rotate_left; (focus (intro w hSw; (try dsimp only at hSw); go_simp; (try with_reducible rfl))); simp only [Act.put, List.setIfInBounds_toArray, List.set_cons_zero, List.set_cons_succ])
      (refine WE_one (i := 17) rfl (by decide) (by kernel_rfl) ?_; intro K hK)
      go_simp
      go_at_call 19
      refine (pwaiting_calls w2 ((unhid HF).below (unhid HBe)).bk (unhid HLE).2.1 (unhid HF).rb.asc (unhid HJ2)).mono ?_
      rintro e w3 ⟨v, rfl, hrow, hb⟩
      obtain ⟨Aw, cw, rfl, hrd, -⟩ := own_slice hrow
      have HR1 := hid hrd
      have HBe := hid ((unhid HBe).trans (hb.mono (unhid HBe).size))
      clear hrow hb hrd
      (refine hK.out _ _ ((unhid HSF) _ (unhid HBe)) ?_); clear hSE hK K; intro hSE; (try simp only [Act.put, List.setIfInBounds_toArray, List.set_cons_zero, List.set_cons_succ])
      (refine WE_one (i := 19) rfl (by decide) (by kernel_rfl) ?_; intro K hK)
      go_simp
      go_at_call 20
      refine (rwaiting_calls w3 ((unhid HF).below (unhid HBe)).rb (unhid HLE).1).mono ?_
      rintro e w4 ⟨v, rfl, hrow, hb⟩
      obtain ⟨Ax, cx, rfl, hrd, -⟩ := own_slice hrow
      have HR2 := hid hrd
      have HR1 := hid ((unhid HR1).below hb)
      have HBe := hid ((unhid HBe).trans (hb.mono (unhid HBe).size))
      clear hrow hb hrd
      (refine hK.out _ _ ((unhid HSF) _ (unhid HBe)) ?_); clear hSE hK K; intro hSE; (try simp only [Act.put, List.setIfInBounds_toArray, List.set_cons_zero, List.set_cons_succ])
      (refine WE_one (i := 20) rfl (by decide) (by kernel_rfl) ?_; intro K hK)
      go_simp
      go_at_call 17
      refine (sameRecords_calls (waitL L2) (waitL L2) Aw Ax cw cx w4 (unhid HR1) (unhid HR2) (Nat.le_trans (List.length_filter_le _ _) (unhid HLE).1)).mono ?_
      rintro e w5 ⟨rfl, hb⟩
      rw [decide_eq_true (rfl : waitL L2 = waitL L2)]
      have HBe := hid ((unhid HBe).trans (hb.mono (unhid HBe).size))
      clear hb HR1 HR2
      (refine hK.out _ _ ((unhid HSF) _ (unhid HBe)) ?_); clear hSE hK K; intro hSE; (try simp only [Act.put, List.setIfInBounds_toArray, List.set_cons_zero, List.set_cons_succ])
      (refine WE_take (i := 21) (v := ?_) rfl (by kernel_rfl) (by decide) (by kernel_rfl) (by kernel_rfl) (fun _ _ _ h => h) (by rfl) hSE ?_ ?_; rotate_left; (focus (intro w hSw; (try dsimp only at hSw); go_simp; (try with_reducible rfl))); simp only [Act.put, List.setIfInBounds_toArray, List.set_cons_zero, List.set_cons_succ])
      (refine WE_take (i := 22) (v := ?_) rfl (by kernel_rfl) (by decide) (by kernel_rfl) (by kernel_rfl) (fun _ _ _ h => h) (by rfl) hSE ?_ ?_; rotate_left; (focus (intro w hSw; (try dsimp only at hSw); go_simp; (try with_reducible rfl))); simp only [Act.put, List.setIfInBounds_toArray, List.set_cons_zero, List.set_cons_succ])
      (refine WE_take (i := 23) (v := ?_) rfl (by kernel_rfl) (by decide) (by kernel_rfl) (by kernel_rfl) (fun _ _ _ h => h) (by rfl) hSE ?_ ?_; rotate_left; (focus (intro w hSw; (try dsimp only at hSw); go_simp; (try with_reducible rfl))); simp only [Act.put, List.setIfInBounds_toArray, List.set_cons_zero, List.set_cons_succ])
      (refine WE_take (i := 25) (v := ?_) rfl (by kernel_rfl) (by decide) (by kernel_rfl) (by kernel_rfl) (fun _ _ _ h => h) (by rfl) hSE ?_ ?_; rotate_left; (focus (intro w hSw; (try dsimp only at hSw); go_simp; (try with_reducible rfl))); simp only [Act.put, List.setIfInBounds_toArray, List.set_cons_zero, List.set_cons_succ])
      (refine WE_take (i := 26) (v := ?_) rfl (by kernel_rfl) (by decide) (by kernel_rfl) (by kernel_rfl) (fun _ _ _ h => h) (by rfl) hSE ?_ ?_; rotate_left; (focus (intro w hSw; (try dsimp only at hSw); go_simp; (try with_reducible rfl))); simp only [Act.put, List.setIfInBounds_toArray, List.set_cons_zero, List.set_cons_succ])
      (refine WE_take (i := 27) (v := ?_) rfl (by kernel_rfl) (by decide) (by kernel_rfl) (by kernel_rfl) (fun _ _ _ h => h) (by rfl) hSE ?_ ?_; rotate_left; (focus (intro w hSw; (try dsimp only at hSw); go_simp; (try with_reducible rfl))); simp only [Act.put, List.setIfInBounds_toArray, List.set_cons_zero, List.set_cons_succ])
      (refine WE_take (i := 28) (v := ?_) rfl (by kernel_rfl) (by decide) (by kernel_rfl) (by kernel_rfl) (fun _ _ _ h => h) (by rfl) hSE ?_ ?_; rotate_left; (focus (intro w hSw; (try dsimp only at hSw); go_simp; (try with_reducible rfl))); simp only [Act.put, List.setIfInBounds_toArray, List.set_cons_zero, List.set_cons_succ])
      (refine WE_one (i := 24) rfl (by decide) (by kernel_rfl) ?_; intro K hK)
      go_simp
      go_at_call 18
      refine (records_calls w5 ((unhid HF).below (unhid HBe)).bk' (unhid HLE).2.2.2).mono ?_
      rintro e w6 ⟨v, L3, rfl, hp, hA2, hrow, hb⟩
      obtain rfl : L3 = L' := recs_sorted hp hA2 (unhid HF).rb'.asc (unhid HSA).2
      obtain ⟨Ay, cy, rfl, hrd, -⟩ := own_slice hrow
      have HR1 := hid hrd
      have HBe := hid ((unhid HBe).trans (hb.mono (unhid HBe).size))
      clear hp hA2 hrow hb hrd
      (refine hK.out _ _ ((unhid HSF) _ (unhid HBe)) ?_); clear hSE hK K; intro hSE; (try simp only [Act.put, List.setIfInBounds_toArray, List.set_cons_zero, List.set_cons_succ])
      have HR2 := hid ((unhid HRK2).below (unhid HBe)).l
      (refine WE_one (i := 29) rfl (by decide) (by kernel_rfl) ?_; intro K hK)
      go_simp
      go_at_call 17
      refine (sameRecords_calls L3 L3 Ay A3 cy c3 w6 (unhid HR1) (unhid HR2) (unhid HLE).2.2.1).mono ?_
      rintro e w7 ⟨rfl, hb⟩
      rw [decide_eq_true (rfl : L3 = L3)]
      have HBe := hid ((unhid HBe).trans (hb.mono (unhid HBe).size))
      clear hb HR1 HR2
      (refine hK.out _ _ ((unhid HSF) _ (unhid HBe)) ?_); clear hSE hK K; intro hSE; (try simp only [Act.put, List.setIfInBounds_toArray, List.set_cons_zero, List.set_cons_succ])
      (refine WE_take (i := 30) (v := ?_) rfl (by kernel_rfl) (by decide) (by kernel_rfl) (by kernel_rfl) (fun _ _ _ h => h) (by rfl) hSE ?_ ?_; rotate_left; (focus (intro w hSw; (try dsimp only at hSw); go_simp; (try with_reducible rfl))); simp only [Act.put, List.setIfInBounds_toArray, List.set_cons_zero, List.set_cons_succ])
      (refine WE_take (i := 31) (v := ?_) rfl (by kernel_rfl) (by decide) (by kernel_rfl) (by kernel_rfl) (fun _ _ _ h => h) (by rfl) hSE ?_ ?_; rotate_left; (focus (intro w hSw; (try dsimp only at hSw); go_simp; (try with_reducible rfl))); simp only [Act.put, List.setIfInBounds_toArray, List.set_cons_zero, List.set_cons_succ])
      (refine WE_one (i := 32) rfl (by decide) (by kernel_rfl) ?_; intro K hK)
      go_simp
      go_at_call 13
      refine (first_calls w7).mono ?_
      rintro e w9 ⟨rfl, hb⟩
      have HBe := hid ((unhid HBe).trans (hb.mono (unhid HBe).size))
      clear hb
      (refine hK.out _ _ ((unhid HSF) _ (unhid HBe)) ?_); clear hSE hK K; intro hSE; (try simp only [Act.put, List.setIfInBounds_toArray, List.set_cons_zero, List.set_cons_succ])
      (refine WE_take (i := 33) (v := ?_) rfl (by kernel_rfl) (by decide) (by kernel_rfl) (by kernel_rfl) (fun _ _ _ h => h) (by rfl) hSE ?_ ?_; rotate_left; (focus (intro w hSw; (try dsimp only at hSw); go_simp; (try with_reducible rfl))); simp only [Act.put, List.setIfInBounds_toArray, List.set_cons_zero, List.set_cons_succ])
      (refine WE_last rfl (by kernel_rfl) (by kernel_rfl) (by kernel_rfl) ?_; intro K hK; go_simp; refine hK.out _ _ (NoPanic.normal ?_); clear hK K)
      have HB := hid ((unhid HF).b.trans ((unhid HBe).mono (unhid HF).b.size))
      clear hSE HSF
      go_wp2_with fail
      go_ret
      exact ⟨rfl, unhid HB⟩

end Go.Proofs.Ytegghimjmbgghaa
