/-
  Scan of the reference.
-/
import Derived.Test.YtegghimjmbgghaaGreatBkRx
import Derived.Test.YtegghimjmbgghaaGreatBkEs
set_option linter.unusedSimpArgs false
set_option linter.unusedVariables false
namespace Go.Proofs.YtegghimjmbgghaaGreat
open Go.RowKit Go.Shelf

def ScanPost (w : World) (l : List UInt8) (e : Ending) (w' : World) : Prop := ∃ u M, e = .returned (.tuple #[u, .int .i64 ((scanP l).1 : Nat)]) ∧ ents M = (scanP l).2 ∧ EnsAt w' w.heap.size w.heap.size u M ∧ Below w.heap.size w w'
theorem lenE_drop (l : List UInt8) (a : Nat) : lenE (l.drop a) = numV ((l.drop (a + 1)).take 2) := by
  unfold lenE
  rw [List.drop_drop]
theorem entE_drop (l : List UInt8) (a : Nat) : entE (l.drop a) = (l.drop (a + 3)).take (lenE (l.drop a)) := by
  unfold entE
  rw [List.drop_drop]
theorem numV_two {l : List UInt8} (h : l.length = 2) : numV l ≤ 65535 := by
  have := numV_lt l
  rw [h] at this
  omega
theorem head_drop {l : List UInt8} {a : Nat} (h : a < l.length) : (l.drop a)[0]? = some l[a] := by simp [List.getElem?_drop, h]

set_option maxHeartbeats 8000000 in
set_option maxRecDepth 100000 in
theorem rscan_calls (l : List UInt8) (A : Option Addr) (c : Nat) (w : World) (hr : Rd w A (bys l)) (hl : l.length ≤ 1000000) (hc : l.length ≤ c) :
    Calls Tryz.prog 74 #[.slice A l.length c] w fun e w' => ScanPost w l e w' := by
  obtain ⟨i0, hi, hz0, hz1, hz2⟩ := info_parts info_bytes
  obtain ⟨j0, hj, hy0, hy1, hy2⟩ := info_parts info_u8
  have HR := hid hr
  have HL := hid hl
  have HC := hid hc
  clear hr hl hc
  go_enter Tryz.func74, Tryz.ntmps74
  by_cases hsh : l.length < 7
  · go_upto_region 3 with (fail)
    go_loopw [5, 4] (fun av ov wr => ∃ (k a : Nat) (M : List Ent), av = .int .i64 (a : Int) ∧ a = (scanK l k).1 ∧ ents M = (scanK l k).2 ∧ M.length ≤ a ∧ EnsAt wr w.heap.size w.heap.size ov M ∧ Below w.heap.size w wr) (fun av _ _ => l.length - (intOf av).toNat)
    case atStart => exact ⟨0, 0, [], rfl, rfl, rfl, Nat.le_refl _, EnsAt.nil _ _ _, Below.refl _ _⟩
    case round =>
      obtain ⟨k, a, M, rfl, ha, hM, hMa, he, hb⟩ := hrel
      have HA := hid ha
      have HM := hid hM
      have HMA := hid hMa
      have HE := hid he
      have HB := hid hb
      have hal : a ≤ l.length := by rw [ha]; exact scanK_le _ _
      have HAL := hid hal
      have HEND := hid (show ¬ FstE (l.drop a) → ScanPost w l (.returned (.tuple #[_, .int .i64 (a : Int)])) wr from fun hF => by
        have h1 := scanK_end (l := l) (k := k) (by rw [← unhid HA]; exact hF)
        exact ⟨_, M, by rw [← h1, ← unhid HA], by rw [← h1]; exact unhid HM, unhid HE, unhid HB⟩)
      have HRW := hid ((unhid HR).below (unhid HB))
      have hl6 : (l.length : Int) ≤ 1000000 := by have := unhid HL; omega
      have hai : (a : Int) ≤ (l.length : Int) := by omega
      clear ha hM hMa he hb hal
      by_cases h7 : l.length - a < 7
      · have h7i : ¬ (7 : Int) ≤ (l.length : Int) - (a : Int) := by omega
        have HP := hid ((unhid HEND) (fun h => by have h1 := h.2.2.2.1; rw [List.length_drop] at h1; omega))
        clear h7
        go_wp2_with fail
        go_ret2
        exact unhid HP
      · omega
  obtain ⟨b, off, hAe, hbl0, -⟩ := (unhid HR) (bys_ne (k := 0) (by omega))
  subst hAe
  have HBL0 := hid hbl0
  clear hbl0
  go_upto_region 3 with (fail)
  go_loopw [5, 4] (fun av ov wr => ∃ (k a : Nat) (M : List Ent), av = .int .i64 (a : Int) ∧ a = (scanK l k).1 ∧ ents M = (scanK l k).2 ∧ M.length ≤ a ∧ EnsAt wr w.heap.size w.heap.size ov M ∧ Below w.heap.size w wr) (fun av _ _ => l.length - (intOf av).toNat)
  case atStart => exact ⟨0, 0, [], rfl, rfl, rfl, Nat.le_refl _, EnsAt.nil _ _ _, Below.refl _ _⟩
  case round =>
    obtain ⟨k, a, M, rfl, ha, hM, hMa, he, hb⟩ := hrel
    have HA := hid ha
    have HM := hid hM
    have HMA := hid hMa
    have HE := hid he
    have HB := hid hb
    have hal : a ≤ l.length := by rw [ha]; exact scanK_le _ _
    have HAL := hid hal
    have HEND := hid (show ¬ FstE (l.drop a) → ScanPost w l (.returned (.tuple #[_, .int .i64 (a : Int)])) wr from fun hF => by
      have h1 := scanK_end (l := l) (k := k) (by rw [← unhid HA]; exact hF)
      exact ⟨_, M, by rw [← h1, ← unhid HA], by rw [← h1]; exact unhid HM, unhid HE, unhid HB⟩)
    have HRW := hid ((unhid HR).below (unhid HB))
    have hl6 : (l.length : Int) ≤ 1000000 := by have := unhid HL; omega
    have hai : (a : Int) ≤ (l.length : Int) := by omega
    clear ha hM hMa he hb hal
    by_cases h7 : l.length - a < 7
    · have h7i : ¬ (7 : Int) ≤ (l.length : Int) - (a : Int) := by omega
      have HP := hid ((unhid HEND) (fun h => by have h1 := h.2.2.2.1; rw [List.length_drop] at h1; omega))
      clear h7
      go_wp2_with fail
      go_ret2
      exact unhid HP
    · have h7i : (7 : Int) ≤ (l.length : Int) - (a : Int) := by omega
      have hlt : a < l.length := by omega
      have H7 := hid (show a + 7 ≤ l.length from by omega)
      have hc0 := bys_cell (unhid HRW) hlt
      obtain ⟨z, hz⟩ : ∃ z, z = l.getD a 0 := ⟨_, rfl⟩
      have HZ := hid (show (l.drop a)[0]? = some z from by rw [hz, head_drop hlt]; simp [List.getD, hlt])
      rw [← hz] at hc0
      clear hz hsh h7
      by_cases hm : z = 66
      · have hme : ((z.toNat : Int) == 66) = true := by rw [hm]; rfl
        have HZ6 := hid (show (l.drop a)[0]? = some 66 from by rw [unhid HZ, hm])
        clear hm
        have hz66 : (z.toNat : Int) = 66 := by simpa using hme
        have hs1 := slice_lh (some ⟨b, off, none⟩) l.length c (a + 1) (a + 3) (by omega) (by have := unhid HC; have := unhid H7; omega) ((a : Int) + 1) ((a : Int) + 3) (by omega) (by omega)
        rw [show a + 3 - (a + 1) = 2 by omega] at hs1
        have HL2 := hid (show ((l.drop (a + 1)).take 2).length = 2 from by rw [List.length_take, List.length_drop]; have := unhid H7; omega)
        have HN6 := hid (numV_two (unhid HL2))
        have HW := hid (by
          have h := whole_calls ((l.drop (a + 1)).take 2) (cutA (some ⟨b, off, none⟩) c (a + 1)) (c - (a + 1)) wr (rd_takeB (rd_cut (unhid HRW) (unhid HC)) 2) (by have := unhid HN6; omega) (by rw [unhid HL2]; omega)
          rw [unhid HL2] at h
          exact h : Calls Tryz.prog 106 #[.slice (cutA (some ⟨b, off, none⟩) c (a + 1)) 2 (c - (a + 1))] wr fun e w' => e = .returned (.int .i64 (numV ((l.drop (a + 1)).take 2) : Int)) ∧ wr = w')
        go_wp2_with fail
        refine (unhid HW).mono ?_
        rintro e w' ⟨rfl, rfl⟩
        obtain ⟨n, hn⟩ : ∃ n, n = numV ((l.drop (a + 1)).take 2) := ⟨_, rfl⟩
        have HN := hid (show n = lenE (l.drop a) from by rw [hn, lenE_drop])
        have hn6 : n ≤ 65535 := by rw [hn]; exact unhid HN6
        rw [← hn]
        clear hn hs1 hc0 hme HW HL2 HN6
        by_cases hbig : 2000 < n
        · have hbi : (2000 : Int) < (n : Int) := by omega
          have HP := hid ((unhid HEND) (fun h => by have := h.2.2.1; have := unhid HN; omega))
          go_wp2_with fail
          go_ret2
          exact unhid HP
        · have hbi : ¬ (2000 : Int) < (n : Int) := by omega
          by_cases hfit : l.length - a < n + 7
          · have hfi : (l.length : Int) - (a : Int) < (n : Int) + 7 := by omega
            have HP := hid ((unhid HEND) (fun h => by have h1 := h.2.2.2.1; rw [List.length_drop] at h1; have := unhid HN; omega))
            go_wp2_with fail
            go_ret2
            exact unhid HP
          · have hfi : ¬ (l.length : Int) - (a : Int) < (n : Int) + 7 := by omega
            have HF := hid (show a + n + 7 ≤ l.length ∧ n ≤ 2000 from by have := unhid H7; omega)
            clear hbig hfit
            obtain ⟨en, hen⟩ : ∃ en, en = entE (l.drop a) := ⟨_, rfl⟩
            have hen2 : (l.drop (a + 3)).take n = en := by rw [hen, entE_drop, unhid HN]
            have HENL := hid (show en.length = n from by rw [← hen2, List.length_take, List.length_drop]; have := unhid HF; omega)
            have HEN := hid hen
            have hs3 := slice_lh (some ⟨b, off, none⟩) l.length c (a + 3) (a + 3 + n) (by omega) (by have := unhid HC; have := unhid HF; omega) ((a : Int) + 3) ((a : Int) + 3 + (n : Int)) (by omega) (by omega)
            rw [show a + 3 + n - (a + 3) = n by omega] at hs3
            have hb0 := below_alloc wr (.cells #[] 5)
            have hE0 : (wr.alloc (.cells #[] 5)).ownsRow w.heap.size 5 1 (.slice (some ⟨wr.heap.size, 0, none⟩) 0 0) 0 [] := World.ownsRow_made wr #[] 0 (unhid HB).size (by unfold maxLen; omega) rfl
            have hRE := rd_takeB (rd_cut (a := a + 3) ((unhid HRW).below hb0) (unhid HC)) n
            rw [hen2] at hRE
            have hsz0 : w.heap.size ≤ (wr.alloc (.cells #[] 5)).heap.size := Nat.le_trans (unhid HB).size hb0.size
            have hn2 : n ≤ 2000 := (unhid HF).2
            clear hen hen2
            go_upto_region 7 with (at_builtin; refine wpList_append_any rfl _ _ 52 rfl w.heap.size 5 j0 (.int .u8 0) 1 1 Tryz.underlying52 hj hy0 hy1 hy2 rfl (by decide) _ _ _ rfl hE0 _ n _ (bys en) rfl (by rw [bys_len, unhid HENL, Nat.mul_one]) hRE (bys_oneC en) (by unfold maxLen; omega) (by omega) hsz0 ?_; intro v' w6 hown6 hg6 hnew)
            have hb6 : Below wr.heap.size wr w6 := (hb0.grown hg6 hb0.size (fun j e => by have h := Option.some.inj (show some wr.heap.size = some j from e); omega))
            rw [Nat.zero_add, List.nil_append] at hown6
            have hown7 : w6.ownsRow w.heap.size 5 1 v' en.length (bys en) := by rw [unhid HENL]; exact hown6
            obtain ⟨A6, c6, hv6, hrd6, -⟩ := own_slice hown7
            rw [unhid HENL] at hv6
            subst hv6
            have HO6 := hid hown7
            have HR6 := hid hrd6
            have HE6 := hid ((unhid HE).below hb6)
            have HB6 := hid ((unhid HB).trans (hb6.mono (unhid HB).size))
            have HRW6 := hid ((unhid HRW).below hb6)
            clear hs3 hb0 hE0 hRE hsz0 hown6 hg6 hnew hb6 hown7 hrd6
            have hs4 := slice_lh (some ⟨b, off, none⟩) l.length c a (a + n + 7) (by omega) (by have := unhid HC; have := unhid HF; omega) (a : Int) ((a : Int) + (n : Int) + 7) (by omega) (by omega)
            rw [show a + n + 7 - a = n + 7 by omega] at hs4
            have hw1 : wrap64 ((a : Int) + (n : Int)) = (a : Int) + (n : Int) := by have := unhid HF; have := unhid HL; unfold wrap64; omega
            have hw2 : wrap64 ((a : Int) + (n : Int) + 7) = (a : Int) + (n : Int) + 7 := by have := unhid HF; have := unhid HL; unfold wrap64; omega
            have hw3 : IntKind.i64.wrap ((a : Int) + (n : Int)) = (a : Int) + (n : Int) := IntWalk.i64_in _ (by have := unhid HF; have := unhid HL; omega)
            have hw4 : IntKind.i64.wrap ((a : Int) + (n : Int) + 7) = (a : Int) + (n : Int) + 7 := IntWalk.i64_in _ (by have := unhid HF; have := unhid HL; omega)
            have HL7 := hid (show ((l.drop a).take (n + 7)).length = n + 7 from by rw [List.length_take, List.length_drop]; have := unhid HF; omega)
            obtain ⟨s2, hs2⟩ : ∃ s2, s2 = (l.drop a).take (n + 7) := ⟨_, rfl⟩
            have HS2 := hid hs2
            have HSF := hid (show ∀ w', Below w6.heap.size w6 w' → (convert 52 9 (.slice (cutA (some ⟨b, off, none⟩) c a) (n + 7) (c - a))).run Tryz.prog w' = .ok (.string ⟨s2.toArray⟩) w' from fun w' hb => by
              have h := conv_bytes (rd_takeB (rd_cut (a := a) ((unhid HRW6).below hb) (unhid HC)) (n + 7)) (c - a)
              rw [unhid HL7, ← hs2] at h
              exact h)
            clear hs2
            refine wp_region_noPanic ?_
            refine wp_region_E (S := fun w' => (convert 52 9 (.slice (cutA (some ⟨b, off, none⟩) c a) (n + 7) (c - a))).run Tryz.prog w' = .ok (.string ⟨s2.toArray⟩) w') 11 12 rfl (by kernel_rfl) (by kernel_rfl) ((unhid HSF) _ (Below.drew (Below.refl _ _))) ?_
            intro hSE
            have HBe := hid (Below.drew (Below.refl w6.heap.size w6))
            generalize w6.drew = Wd at *
            (refine WE_take (i := 0) (v := ?_) rfl (by kernel_rfl) (by decide) (by kernel_rfl) (by kernel_rfl) (fun _ _ _ h => h) (by rfl) hSE ?_ ?_; rotate_left; (focus (intro w hSw; (try dsimp only at hSw); go_simp; (try with_reducible rfl))); simp only [Act.put, List.setIfInBounds_toArray, List.set_cons_zero, List.set_cons_succ])
            (refine WE_take (i := 3) (v := ?_) rfl (by kernel_rfl) (by decide) (by kernel_rfl) (by kernel_rfl) (fun _ _ _ h => h) (by rfl) hSE ?_ ?_; rotate_left; (focus (intro w hSw; (try dsimp only at hSw); go_simp; (try with_reducible rfl))); simp only [Act.put, List.setIfInBounds_toArray, List.set_cons_zero, List.set_cons_succ])
            (refine WE_take (i := 4) (v := ?_) rfl (by kernel_rfl) (by decide) (by kernel_rfl) (by kernel_rfl) (fun _ _ _ h => h) (by rfl) hSE ?_ ?_; rotate_left; (focus (intro w hSw; (try dsimp only at hSw); go_simp; (try with_reducible rfl))); simp only [Act.put, List.setIfInBounds_toArray, List.set_cons_zero, List.set_cons_succ])
            (refine WE_take (i := 5) (v := ?_) rfl (by kernel_rfl) (by decide) (by kernel_rfl) (by kernel_rfl) (fun _ _ _ h => h) (by rfl) hSE ?_ ?_; rotate_left; (focus (intro w hSw; (try dsimp only at hSw); go_simp; (try with_reducible rfl))); simp only [Act.put, List.setIfInBounds_toArray, List.set_cons_zero, List.set_cons_succ])
            (refine WE_take (i := 6) (v := ?_) rfl (by kernel_rfl) (by decide) (by kernel_rfl) (by kernel_rfl) (fun _ _ _ h => h) (by rfl) hSE ?_ ?_; rotate_left; (focus (intro w hSw; (try dsimp only at hSw); go_simp; (try with_reducible rfl))); simp only [Act.put, List.setIfInBounds_toArray, List.set_cons_zero, List.set_cons_succ])
            (refine WE_take (i := 7) (v := ?_) rfl (by kernel_rfl) (by decide) (by kernel_rfl) (by kernel_rfl) (fun _ _ _ h => h) (by rfl) hSE ?_ ?_; rotate_left; (focus (intro w hSw; (try dsimp only at hSw); go_simp; (try with_reducible rfl))); simp only [Act.put, List.setIfInBounds_toArray, List.set_cons_zero, List.set_cons_succ])
            (refine WE_take (i := 8) (v := ?_) rfl (by kernel_rfl) (by decide) (by kernel_rfl) (by kernel_rfl) (fun _ _ _ h => h) (by rfl) hSE ?_ ?_; rotate_left; (focus (intro w hSw; (try dsimp only at hSw); go_simp; (try with_reducible rfl))); simp only [Act.put, List.setIfInBounds_toArray, List.set_cons_zero, List.set_cons_succ])
            (refine WE_take (i := 9) (v := ?_) rfl (by kernel_rfl) (by decide) (by kernel_rfl) (by kernel_rfl) (fun _ _ _ h => h) (by rfl) hSE ?_ ?_; rotate_left; (focus (intro w hSw; (try dsimp only at hSw); go_simp; (try with_reducible rfl))); simp only [Act.put, List.setIfInBounds_toArray, List.set_cons_zero, List.set_cons_succ])
            (refine WE_take (i := 10) (v := ?_) rfl (by kernel_rfl) (by decide) (by kernel_rfl) (by kernel_rfl) (fun _ _ _ h => h) (by rfl) hSE ?_ ?_; rotate_left; (focus (intro w hSw; (try dsimp only at hSw); go_simp; (try with_reducible rfl))); simp only [Act.put, List.setIfInBounds_toArray, List.set_cons_zero, List.set_cons_succ])
            (refine WE_one (i := 1) rfl (by decide) (by kernel_rfl) ?_; intro K hK)
            go_simp
            go_at_call 78
            have HCE := hid (by
              have h := rencoding_calls en A6 c6 Wd ((unhid HR6).below (unhid HBe)) (by rw [unhid HENL]; exact hn2)
              rw [unhid HENL] at h
              exact h : Calls Tryz.prog 78 #[.slice A6 n c6] Wd fun e w' => BysPost Wd (encE en) e w')
            refine (unhid HCE).mono ?_
            rintro e w7 ⟨u7, rfl, hown7, hb7⟩
            obtain ⟨A7, c7, hv7, hrd7, -⟩ := own_slice hown7
            subst hv7
            have HBe := hid ((unhid HBe).trans (hb7.mono (unhid HBe).size))
            obtain ⟨s1, hs1⟩ : ∃ s1, s1 = encE en := ⟨_, rfl⟩
            have HSS := hid hs1
            have hcv7 := conv_bytes hrd7 c7
            rw [← hs1] at hcv7 ⊢
            clear hs1 hown7 hrd7 hb7 HCE
            (refine hK.out _ _ ((unhid HSF) _ (unhid HBe)) ?_); clear hSE hK K; intro hSE; (try simp only [Act.put, List.setIfInBounds_toArray, List.set_cons_zero, List.set_cons_succ])
            (refine WE_one (i := 2) rfl (by decide) (by kernel_rfl) ?_; intro K hK)
            go_simp
            (refine hK.out _ _ ((unhid HSF) _ (unhid HBe)) ?_); clear hSE hK K; intro hSE; (try simp only [Act.put, List.setIfInBounds_toArray, List.set_cons_zero, List.set_cons_succ])
            have HB7 := hid ((unhid HB6).trans ((unhid HBe).mono (unhid HB6).size))
            have HE7 := hid ((unhid HE6).below (unhid HBe))
            have HO7 := hid (own_below (unhid HO6) (unhid HBe))
            by_cases hss : s1 = s2
            · subst hss
              have HFT := hid (show FstE (l.drop a) from (fst_iff (by rw [List.length_drop]; have := unhid HF; omega) (unhid HZ6) (by rw [← unhid HN]; exact hn2) (by rw [← unhid HN, List.length_drop]; have := unhid HF; omega)).2 (by
                rw [← unhid HN, ← unhid HEN, ← unhid HSS]
                exact unhid HS2))
              have HNX := hid (scanK_yes (l := l) (k := k) (by rw [← unhid HA]; exact unhid HFT))
              rw [← unhid HA, ← unhid HN, ← unhid HEN] at HNX
              (refine WE_last rfl (by kernel_rfl) (by kernel_rfl) (by kernel_rfl) ?_; intro K hK; go_simp; refine hK.out _ _ (NoPanic.normal ?_); clear hK K)
              clear hSE HSF hcv7 hs4 hw1 hw2 hw3 hw4 HRW6 HR6 HE6 HO6 HE
              have hy := (unhid HE7).own
              have hlc : M.length ≤ 1000000 := by have := unhid HMA; have := unhid HAL; have := unhid HL; omega
              have hsz : w.heap.size ≤ w7.heap.size := (unhid HB7).size
              go_upto_region 9 with (at_builtin; refine wpList_append_own _ rfl _ _ 70 rfl w.heap.size 52 i0 (.slice none 0 0) 1 24 Tryz.underlying70 hi hz0 hz1 hz2 rfl (by decide) _ _ _ rfl (hy.alloc _) ⟨w7.heap.size, 0, none⟩ 1 1 [.slice A6 n c6] rfl rfl (en_news w7 A6 n c6) (by simp [Value.oneCell']) (by unfold maxLen; omega) (by omega) (by simp; omega) ?_; intro v' w8 hown' hgrow hnil)
              have hown2 : w8.ownsRow w.heap.size 52 1 v' (M.length + 1) (ens M ++ [enV ⟨A6, c6, en⟩]) := by
                show w8.ownsRow _ _ _ _ _ (ens M ++ [.slice A6 en.length c6])
                rw [unhid HENL]
                exact hown'
              have HO7' := hid (show w7.ownsRow w.heap.size 5 1 (enV ⟨A6, c6, en⟩) en.length (bys en) from by
                show w7.ownsRow _ _ _ (.slice A6 en.length c6) _ _
                have h := unhid HO7
                rw [unhid HENL] at h ⊢
                exact h)
              have HE8 := hid ((unhid HE7).push (e := ⟨A6, c6, en⟩) (unhid HO7') hown2 hgrow)
              have HB8 := hid (((unhid HB7).trans ((below_alloc w7 _).mono (unhid HB7).size)).grown hgrow (by simp; omega) (fun j e => (own_block_lt hy (g := j) e).1))
              have HEM := hid (show ents (M ++ [⟨A6, c6, en⟩]) = (scanK l (k + 1)).2 from by rw [unhid HNX, ← unhid HM]; simp [ents])
              have HAE := hid (show a + (n + 7) = (scanK l (k + 1)).1 from by rw [unhid HNX])
              have HLM := hid (show (M ++ [(⟨A6, c6, en⟩ : Ent)]).length ≤ a + (n + 7) from by rw [List.length_append, List.length_singleton]; have := unhid HMA; omega)
              have HWN := hid (show wrap64 ((a : Int) + ((n : Int) + 7)) = ((a + (n + 7) : Nat) : Int) from by have := unhid HF; have := unhid HL; unfold wrap64; omega)
              have hnb : (n : Int) ≤ 2000 := by omega
              have hab : (a : Int) ≤ 1000000 := by omega
              clear hy hlc hsz hown' hown2 hgrow hnil
              go_wp2_with fail
              go_roundw
              case rel => exact ⟨k + 1, a + (n + 7), _, by first | go_num | rw [unhid HWN], unhid HAE, unhid HEM, unhid HLM, unhid HE8, unhid HB8⟩
              case measure =>
                have h1 := unhid HF
                first | (simp [intOf]; done) | (simp [intOf]; omega) | (rw [unhid HWN]; simp [intOf]; omega)
            · have HNF := hid (show ¬ FstE (l.drop a) from fun h => hss (by
                have h2 := (fst_iff (by rw [List.length_drop]; have := unhid HF; omega) (unhid HZ6) (by rw [← unhid HN]; exact hn2) (by rw [← unhid HN, List.length_drop]; have := unhid HF; omega)).1 h
                rw [← unhid HN, ← unhid HEN, ← unhid HSS] at h2
                rw [unhid HS2]
                exact h2))
              have h1 := hid (scanK_end (l := l) (k := k) (by rw [← unhid HA]; exact unhid HNF))
              have hne : (s1 == s2) = false := beq_eq_false_iff_ne.2 hss
              (refine WE_last rfl (by kernel_rfl) (by kernel_rfl) (by kernel_rfl) ?_; intro K hK; go_simp; refine hK.out _ _ (NoPanic.normal ?_); clear hK K)
              clear hSE HSF hcv7 hs4 hw1 hw2 hw3 hw4
              have HP := hid (show ScanPost w l (.returned (.tuple #[u4, .int .i64 (a : Int)])) w7 from ⟨_, M, by rw [← unhid h1, ← unhid HA], by rw [← unhid h1]; exact unhid HM, unhid HE7, unhid HB7⟩)
              go_wp2_with fail
              go_ret2
              exact unhid HP
      · have hme : ((z.toNat : Int) == 66) = false := beq_eq_false_iff_ne.2 (fun e => hm (UInt8.toNat_inj.1 (show z.toNat = 66 by omega)))
        have hz66 : ¬ (z.toNat : Int) = 66 := beq_eq_false_iff_ne.1 hme
        have HP := hid ((unhid HEND) (fun h => by
          have h1 := h.2.1
          rw [unhid HZ] at h1
          exact hm (Option.some.inj h1)))
        clear hm
        go_wp2_with fail
        go_ret2
        exact unhid HP

end Go.Proofs.YtegghimjmbgghaaGreat
