/-
  Lists of records filtered: the reference's Counting. The reference's put, and its Signs. Signs of the reference. Values of the reference. Disputes of the reference.
-/
import Derived.Test.YtegghimjmbgghaaGreatBkWt
import Derived.Test.YtegghimjmbgghaaGreatBkSg
import Derived.Test.YtegghimjmbgghaaGreatBkRi
import Derived.Test.YtegghimjmbgghaaGreatBkDc
import Derived.Test.YtegghimjmbgghaaGreatBkDp
set_option linter.unusedSimpArgs false
set_option linter.unusedVariables false
namespace Go.Proofs.YtegghimjmbgghaaGreat
open Go.RowKit

section
open Go.RowKit Go.Shelf

set_option maxHeartbeats 4000000 in
set_option maxRecDepth 100000 in
theorem rcounting_calls {B : Nat} {L : List Rc} (w : World) (h : RbAt w B L) (hL : L.length ≤ 1000000) :
    Calls Tryz.prog 59 #[.pointer (some ⟨B, 0, none⟩)] w fun e w' => OwnPost w (cntL L) e w' := by
  obtain ⟨i0, hi, hz0, hz1, hz2⟩ := info_parts info_rec
  obtain ⟨A, c, A2, c2, hk, hcap⟩ := h.b
  have HK := hid hk
  have HLL := hid hL
  clear h hL hk hcap
  obtain ⟨pv, hpv⟩ : ∃ pv : Rc → Bool, pv = (cntB L) := ⟨_, rfl⟩
  have HPV := hid hpv
  clear hpv
  go_enter Tryz.func59, Tryz.ntmps59
  go_upto_region 3 with (fail)
  go_loopw [4, 3] (fun iv v wr => ∃ k : Nat, k ≤ L.length ∧ iv = .int .i64 k ∧ FilI w L pv k v wr) (fun iv _ _ => L.length - (intOf iv).toNat)
  case atStart => exact ⟨0, Nat.zero_le _, rfl, World.ownsRow_nil _ _ _ _, Below.refl _ _⟩
  case round =>
    obtain ⟨k, hk, rfl, hsp⟩ := hrel
    have HSP := hid hsp
    have HKR := hid ((unhid HK).below hsp.b)
    clear hsp
    have c0 := (unhid HKR).cell0
    have c1 := (unhid HKR).cell1
    by_cases hlt : k < L.length
    · have hki : (k : Int) < (L.length : Int) := by omega
      have hcl : (L.map (cntB L)).length = L.length := by simp
      obtain ⟨b, off, hAe, hbl, hc⟩ := (unhid HKR).l (recs_ne hlt)
      obtain ⟨b', off', hAe', hbl', hc'⟩ := (unhid HKR).n (fun e => by
        have h1 := congrArg List.length e
        simp [boolsV] at h1
        subst h1
        simp at hlt)
      subst hAe hAe'
      obtain ⟨x, hx⟩ : ∃ x, L[k]'hlt = x := ⟨_, rfl⟩
      have HX := hid hx
      have d0 := hc' k (.bool (cntB L x)) (by
        simp only [boolsV, List.map_map, List.getElem?_map, List.getElem?_eq_getElem hlt, hx, Option.map_some]
        rfl)
      obtain ⟨a0, a1, a2, a3, a4, a5, a6, a7, a8', a9, a10, a11, a12, a13⟩ := rec_at14 hc hlt hx
      have HW1 := hid (show wrap64 ((k : Int) + 1) = ((k + 1 : Nat) : Int) from by have h1 := unhid HLL; unfold wrap64; omega)
      rw [hcl] at c1
      clear hc hc' hx hcl
      cases hcb : cntB L x with
      | true =>
        have HCB := hid (show cntB L x = true from hcb)
        rw [hcb] at d0
        clear hcb
        have HP := hid (show (pv x) = true from by rw [unhid HPV]; exact unhid HCB)
        have hy := (unhid HSP).own
        have hlc : ((L.take k).filter pv).length ≤ 1000000 := Nat.le_trans (List.length_filter_le _ _) (by rw [List.length_take]; have := unhid HLL; omega)
        have hsz := (unhid HSP).b.size
        go_wp2_with (at_builtin; refine wpList_append_own_at _ rfl _ _ 22 rfl w.heap.size 82 i0 (.agg (rcA rc0)) 14 112 Tryz.underlying22 hi hz0 hz1 hz2 rfl (by decide) _ _ _ rfl (hy.alloc _) ⟨wr.heap.size, 0, none⟩ 1 1 (rcC x) rfl rfl (rc_news wr x) (rcC_one1 x) (by unfold maxLen; omega) (by omega) (by simp; omega) ?_; intro v' w6 hown' hgrow hnil hat)
        have HN := hid (filI_yes (unhid HSP) hlt (unhid HX) (unhid HP) hown' hgrow)
        clear hy hlc hsz hown' hgrow hnil hat a0 a1 a2 a3 a4 a5 a6 a7 a8' a9 a10 a11 a12 a13 c0 c1 d0
        go_wp2_with fail
        go_roundw
        case rel => exact ⟨k + 1, by omega, by rw [unhid HW1], unhid HN⟩
        case measure => rw [unhid HW1]; simp [intOf]; omega
      | false =>
        have HCB := hid (show cntB L x = false from hcb)
        rw [hcb] at d0
        clear hcb
        have HP := hid (show (pv x) = false from by rw [unhid HPV]; exact unhid HCB)
        have HN := hid (filI_no (unhid HSP) hlt (unhid HX) (unhid HP))
        go_wp2_with fail
        go_roundw
        case rel => exact ⟨k + 1, by omega, by rw [unhid HW1], unhid HN⟩
        case measure => rw [unhid HW1]; simp [intOf]; omega
    · obtain rfl : k = L.length := by omega
      have HEND := hid (filI_end (unhid HSP))
      rw [unhid HPV] at HEND
      go_wp2_with fail
      go_ret
      exact ⟨_, rfl, (unhid HEND).1, (unhid HEND).2⟩
end

section
open Go.RowKit Go.Shelf

theorem ints_app (l m : List Int) : ints (l ++ m) = ints l ++ ints m := by simp [ints]
theorem ints_takeP (l : List Int) (k : Nat) : ints (l.take k) = (ints l).take k := by simp [ints, List.map_take]
theorem ints_dropP (l : List Int) (k : Nat) : ints (l.drop k) = (ints l).drop k := by simp [ints, List.map_drop]
theorem ints_lenP (l : List Int) : (ints l).length = l.length := by simp [ints]
theorem ints_oneP (l : List Int) : ∀ u ∈ ints l, u.oneCell' = true := by
  intro u hu
  obtain ⟨x, -, rfl⟩ := List.mem_map.1 hu
  rfl
/-- A number put into an ascending list at its place. -/
theorem put_asc {l : List Int} {v : Int} {k : Nat} (hA : AscI l) (hk : k ≤ l.length) (h1 : ∀ j (h : j < l.length), j < k → l[j] < v) (h2 : ∀ j (h : j < l.length), k ≤ j → v < l[j]) : AscI (l.take k ++ ([v] ++ l.drop k)) := by
  unfold AscI at *
  rw [List.pairwise_append]
  have htk : ∀ x ∈ l.take k, x < v := fun x hx => by
    obtain ⟨j, hj, e⟩ := List.getElem_of_mem hx
    rw [List.length_take] at hj
    rw [List.getElem_take] at e
    exact e ▸ h1 j (by omega) (by omega)
  have hdr : ∀ x ∈ l.drop k, v < x := fun x hx => by
    obtain ⟨j, hj, e⟩ := List.getElem_of_mem hx
    rw [List.length_drop] at hj
    rw [List.getElem_drop] at e
    exact e ▸ h2 (k + j) (by omega) (by omega)
  refine ⟨hA.sublist (List.take_sublist _ _), ?_, fun x hx y hy => ?_⟩
  · rw [List.singleton_append, List.pairwise_cons]
    exact ⟨hdr, hA.sublist (List.drop_sublist _ _)⟩
  · have := htk x hx
    rcases List.mem_append.1 hy with hy | hy
    · rw [List.mem_singleton] at hy; omega
    · have := hdr y hy; omega
theorem put_mem {l : List Int} {v : Int} {k : Nat} (x : Int) : x ∈ l.take k ++ ([v] ++ l.drop k) ↔ x = v ∨ x ∈ l := by
  rw [List.mem_append, List.mem_append, List.mem_singleton]
  conv => rhs; rw [← List.take_append_drop k l, List.mem_append]
  constructor
  · rintro (h | h | h)
    · exact .inr (.inl h)
    · exact .inl h
    · exact .inr (.inr h)
  · rintro (h | h | h)
    · exact .inr (.inl h)
    · exact .inl h
    · exact .inr (.inr h)
/-- What put returns. -/
def PutPost (w : World) (l : List Int) (v : Int) (e : Ending) (w' : World) : Prop :=
  ∃ (A : Option Addr) (c : Nat) (m : List Int), e = .returned (.slice A m.length c) ∧ Rd w' A (ints m) ∧ m.length ≤ c ∧ AscI m ∧ (∀ x, x ∈ m ↔ x = v ∨ x ∈ l) ∧ m.length ≤ l.length + 1 ∧ Below w.heap.size w w'
theorem PutPost.same {w : World} {A : Option Addr} {l : List Int} {v : Int} {c : Nat} (hr : Rd w A (ints l)) (hc : l.length ≤ c) (hA : AscI l) (hm : v ∈ l) : PutPost w l v (.returned (.slice A l.length c)) w :=
  ⟨A, c, l, rfl, hr, hc, hA, fun x => ⟨.inr, fun h => h.elim (fun e => by rw [e]; exact hm) id⟩, Nat.le_succ _, Below.refl _ _⟩

set_option maxHeartbeats 8000000 in
set_option maxRecDepth 100000 in
theorem rput_calls (l : List Int) (v : Int) (A : Option Addr) (c : Nat) (w : World) (hr : Rd w A (ints l)) (hc : l.length ≤ c) (hA : AscI l) (hl : l.length ≤ 100000) :
    Calls Tryz.prog 85 #[.slice A l.length c, .int .i64 v] w fun e w' => PutPost w l v e w' := by
  obtain ⟨i0, hi, hz0, hz1, hz2⟩ := info_parts info_int
  have HR := hid hr
  have HC := hid hc
  have HA := hid hA
  have HL := hid hl
  clear hr hc hA hl
  go_enter Tryz.func85, Tryz.ntmps85
  go_upto_region 2 with (fail)
  go_loopw [5] (fun kv wr => ∃ k : Nat, k ≤ l.length ∧ kv = .int .i64 k ∧ (∀ j (h : j < l.length), k ≤ j → v < l[j]) ∧ w = wr) (fun kv _ => (intOf kv).toNat)
  case atStart => exact ⟨l.length, Nat.le_refl _, rfl, fun j h hj => by omega, rfl⟩
  case round =>
    obtain ⟨k, hk, rfl, hall, rfl⟩ := hrel
    have HALL := hid hall
    clear hall
    have hl5 : (l.length : Int) ≤ 100000 := by have := unhid HL; omega
    by_cases hk0 : k = 0
    · have hki : ¬ (k : Int) > 0 := by omega
      have HLOW := hid (show ∀ j (h : j < l.length), j < k → l[j] < v from fun j h hj => by omega)
      clear hk0
      go_upto_region 6 with (fail)
      clear hki
      have hkl : (k : Int) ≤ (l.length : Int) := by omega
      have hkc : (k : Int) ≤ (c : Int) := by have := unhid HC; omega
      have hk0 : (0 : Int) ≤ (k : Int) := by omega
      have hlc : (l.length : Int) ≤ (c : Int) := by have := unhid HC; omega
      have HKL := hid hk
      refine wp_region_noPanic ?_
      refine wp_region_E (S := fun _ => True) 11 12 rfl (by kernel_rfl) (by kernel_rfl) trivial ?_
      intro hSE
      have HBe := hid (Below.drew (Below.refl w.heap.size w))
      generalize w.drew = Wd at *
      (refine WE_take (i := 0) (v := ?_) rfl (by kernel_rfl) (by decide) (by kernel_rfl) (by kernel_rfl) (fun _ _ _ h => h) (by rfl) hSE ?_ ?_; rotate_left; (focus (intro w hSw; (try dsimp only at hSw); go_simp; (try with_reducible rfl))); simp only [Act.put, List.setIfInBounds_toArray, List.set_cons_zero, List.set_cons_succ])
      (refine WE_take (i := 1) (v := ?_) rfl (by kernel_rfl) (by decide) (by kernel_rfl) (by kernel_rfl) (fun _ _ _ h => h) (by rfl) hSE ?_ ?_; rotate_left; (focus (intro w hSw; (try dsimp only at hSw); go_simp; (try with_reducible rfl))); simp only [Act.put, List.setIfInBounds_toArray, List.set_cons_zero, List.set_cons_succ])
      (refine WE_take (i := 2) (v := ?_) rfl (by kernel_rfl) (by decide) (by kernel_rfl) (by kernel_rfl) (fun _ _ _ h => h) (by rfl) hSE ?_ ?_; rotate_left; (focus (intro w hSw; (try dsimp only at hSw); go_simp; (try with_reducible rfl))); simp only [Act.put, List.setIfInBounds_toArray, List.set_cons_zero, List.set_cons_succ])
      (refine WE_take (i := 3) (v := ?_) rfl (by kernel_rfl) (by decide) (by kernel_rfl) (by kernel_rfl) (fun _ _ _ h => h) (by rfl) hSE ?_ ?_; rotate_left; (focus (intro w hSw; (try dsimp only at hSw); go_simp; (try with_reducible rfl))); simp only [Act.put, List.setIfInBounds_toArray, List.set_cons_zero, List.set_cons_succ])
      (refine WE_take (i := 4) (v := ?_) rfl (by kernel_rfl) (by decide) (by kernel_rfl) (by kernel_rfl) (fun _ _ _ h => h) (by rfl) hSE ?_ ?_; rotate_left; (focus (intro w hSw; (try dsimp only at hSw); go_simp; (try with_reducible rfl))); simp only [Act.put, List.setIfInBounds_toArray, List.set_cons_zero, List.set_cons_succ])
      (refine WE_take (i := 6) (v := ?_) rfl (by kernel_rfl) (by decide) (by kernel_rfl) (by kernel_rfl) (fun _ _ _ h => h) (by rfl) hSE ?_ ?_; rotate_left; (focus (intro w hSw; (try dsimp only at hSw); go_simp; (try with_reducible rfl))); simp only [Act.put, List.setIfInBounds_toArray, List.set_cons_zero, List.set_cons_succ])
      (refine WE_take (i := 7) (v := ?_) rfl (by kernel_rfl) (by decide) (by kernel_rfl) (by kernel_rfl) (fun _ _ _ h => h) (by rfl) hSE ?_ ?_; rotate_left; (focus (intro w hSw; (try dsimp only at hSw); go_simp; (try with_reducible rfl))); simp only [Act.put, List.setIfInBounds_toArray, List.set_cons_zero, List.set_cons_succ])
      (refine WE_take (i := 8) (v := ?_) rfl (by kernel_rfl) (by decide) (by kernel_rfl) (by kernel_rfl) (fun _ _ _ h => h) (by rfl) hSE ?_ ?_; rotate_left; (focus (intro w hSw; (try dsimp only at hSw); go_simp; (try with_reducible rfl))); simp only [Act.put, List.setIfInBounds_toArray, List.set_cons_zero, List.set_cons_succ])
      (refine WE_one (i := 5) rfl (by decide) (by kernel_rfl) ?_; intro K hK)
      go_simp
      change K _ (Wd.alloc (.cells #[.int .i64 v] 3))
      have HNR := hid (show Rd (Wd.alloc (.cells #[.int .i64 v] 3)) (some ⟨Wd.heap.size, 0, none⟩) (ints [v]) from fun _ => ⟨Wd.heap.size, 0, rfl, by simp, fun j u hu => by
        rw [Nat.zero_add, World.cell?_alloc_new]
        rw [← Array.getElem?_toList]
        exact hu⟩)
      obtain ⟨Bn, hBn⟩ : ∃ Bn, Bn = Wd.heap.size := ⟨_, rfl⟩
      rw [← hBn] at HNR ⊢
      have HBe := hid ((unhid HBe).alloc (unhid HBe).size (.cells #[.int .i64 v] 3))
      refine hK.out _ _ trivial ?_
      clear hSE hK K hBn
      intro hSE
      (try simp only [Act.put, List.setIfInBounds_toArray, List.set_cons_zero, List.set_cons_succ])
      generalize Wd.alloc (.cells #[.int .i64 v] 3) = Wa at *
      have hcut0 := ((unhid HR).below (unhid HBe)).cut k 1 c (fun h => by rw [ints_lenP] at h; have := unhid HC; omega)
      simp only [Nat.mul_one] at hcut0
      have HCUT := hid hcut0
      clear hcut0
      have HDL := hid (show ((ints l).drop k).length = (l.length - k) * 1 from by rw [List.length_drop, ints_lenP]; omega)
      have HTL := hid (show ((ints l).take k).length = k * 1 from by rw [List.length_take, ints_lenP]; have := unhid HKL; omega)
      have HDO := hid (show ∀ u ∈ (ints l).drop k, u.oneCell' = true from fun u hu => ints_oneP l u (List.mem_of_mem_drop hu))
      have HYO := hid (show ∀ u ∈ ints [v] ++ (ints l).drop k, u.oneCell' = true from fun u hu => by
        rcases List.mem_append.1 hu with h | h
        · exact ints_oneP [v] u h
        · exact unhid HDO u h)
      have HYL := hid (show (ints [v] ++ (ints l).drop k).length = (1 + (l.length - k)) * 1 from by
        rw [List.length_append, unhid HDL]
        show 1 + _ = _
        omega)
      have HNK := hid (show A = none → k = 0 from fun h => by
        rcases Nat.eq_zero_or_pos k with h0 | h0
        · exact h0
        · obtain ⟨b, off, e, -⟩ := (unhid HR) (ints_ne (k := 0) (by have := unhid HKL; omega))
          rw [h] at e; cases e)
      have HB1 := hid (show 1 + (l.length - k) ≤ maxLen ∧ (1 + (l.length - k)) * 8 ≤ 140737488355328 from by have := unhid HL; unfold maxLen; omega)
      have HB2 := hid (show k + (1 + (l.length - k)) ≤ maxLen ∧ (k + (1 + (l.length - k))) * 8 ≤ 140737488355328 ∧ k ≤ maxLen from by have := unhid HL; have := unhid HKL; unfold maxLen; omega)
      (refine WE_one (i := 9) rfl (by decide) (by kernel_rfl) ?_; intro K hK)
      refine step_app (by rfl) _ _ _ (by rfl) 3 i0 _ 1 8 Tryz.underlying43 hi hz0 hz1 hz2 rfl (by omega) (some ⟨Bn, 0, none⟩) 1 1 (ints [v]) (by rfl) (unhid HNR) (by rfl) (fun h => by cases h) (Nat.le_refl _) (by unfold maxLen; omega) _ (l.length - k) (c - k) ((ints l).drop k) (by rfl) (unhid HCUT) (unhid HDL) (unhid HDO) (by omega) (unhid HB1).1 (unhid HB1).2 ?_
      intro A3 c3 w3 hr3 hle3 hcm3 hn3 hg3
      have HR3 := hid hr3
      have HBe := hid ((unhid HBe).trans ((below_of_grown hg3).mono (unhid HBe).size))
      clear hr3 hg3 hle3 hcm3 hn3
      refine hK.out _ _ trivial ?_
      clear hSE hK K
      intro hSE
      (try simp only [Act.put, List.setIfInBounds_toArray, List.set_cons_zero, List.set_cons_succ])
      have HRT := hid (((unhid HR).below (unhid HBe)).take k)
      (refine WE_one (i := 10) rfl (by decide) (by kernel_rfl) ?_; intro K hK)
      refine step_app (by rfl) _ _ _ (by rfl) 3 i0 _ 1 8 Tryz.underlying43 hi hz0 hz1 hz2 rfl (by omega) A k k ((ints l).take k) (by rfl) (unhid HRT) (unhid HTL) (unhid HNK) (Nat.le_refl _) (unhid HB2).2.2 A3 (1 + (l.length - k)) c3 (ints [v] ++ (ints l).drop k) (by rfl) (unhid HR3) (unhid HYL) (unhid HYO) (.inr (by omega)) (unhid HB2).1 (unhid HB2).2.1 ?_
      intro A4 c4 w4 hr4 hle4 hcm4 hn4 hg4
      have HBe := hid ((unhid HBe).trans ((below_of_grown hg4).mono (unhid HBe).size))
      have HP := hid (show PutPost w l v (.returned (.slice A4 (k + (1 + (l.length - k))) c4)) w4 from by
        have hk' := unhid HKL
        have hlen : (l.take k ++ ([v] ++ l.drop k)).length = k + (1 + (l.length - k)) := by
          rw [List.length_append, List.length_append, List.length_take, List.length_drop]
          simp
          omega
        refine ⟨A4, c4, l.take k ++ ([v] ++ l.drop k), by rw [hlen], ?_, by rw [hlen]; exact hle4, put_asc (unhid HA) hk' (unhid HLOW) (unhid HALL), put_mem, by rw [hlen]; omega, unhid HBe⟩
        rw [ints_app, ints_app, ints_takeP, ints_dropP]
        exact hr4)
      clear hr4 hg4 hle4 hcm4 hn4
      refine hK.out _ _ trivial ?_
      clear hSE hK K
      intro hSE
      (try simp only [Act.put, List.setIfInBounds_toArray, List.set_cons_zero, List.set_cons_succ])
      (refine WE_last rfl (by kernel_rfl) (by kernel_rfl) (by kernel_rfl) ?_; intro K hK; go_simp; refine hK.out _ _ (NoPanic.normal ?_); clear hK K)
      go_wp2_with fail
      all_goals
        go_ret
        exact unhid HP
    · obtain ⟨q, rfl⟩ : ∃ q, k = q + 1 := ⟨k - 1, by omega⟩
      obtain ⟨b, off, hAe, hbl, hcc⟩ := (unhid HR) (ints_ne (k := q) (by omega))
      obtain ⟨x, hx⟩ : ∃ x, l[q]'(by omega) = x := ⟨_, rfl⟩
      have hck := hcc q (.int .i64 x) (by simp [ints, List.getElem?_eq_getElem (show q < l.length by omega), hx])
      have HX := hid hx
      clear hcc hx
      have hq1 : (q : Int) + 1 > 0 := by omega
      have hql : (q : Int) < (l.length : Int) := by omega
      have hwq : wrap64 (q : Int) = (q : Int) := by unfold wrap64; omega
      by_cases hgt : v < x
      · have hgt2 : x > v := hgt
        subst hAe
        go_wp2_with fail
        go_roundw
        case rel => exact ⟨q, by omega, by first | rfl | go_num, fun j h hj => by
          by_cases e : j = q
          · subst e
            rw [unhid HX]
            exact hgt
          · exact unhid HALL j h (by omega), by first | rfl | trivial⟩
        case measure => simp [intOf]; try omega
      · have hgt2 : ¬ x > v := hgt
        by_cases he : x = v
        · have hd : (x == v) = true := beq_iff_eq.2 he
          have HP := hid (show PutPost w l v (.returned (.slice A l.length c)) w from PutPost.same (unhid HR) (unhid HC) (unhid HA) (by rw [← he, ← unhid HX]; exact List.getElem_mem _))
          subst hAe
          clear he
          go_wp2_with fail
          go_ret
          exact unhid HP
        · have hd : (x == v) = false := beq_eq_false_iff_ne.2 he
          have HLOW := hid (show ∀ j (h : j < l.length), j < q + 1 → l[j] < v from fun j h hj => by
            by_cases e : j = q
            · subst e
              rw [unhid HX]
              omega
            · have h1 := List.pairwise_iff_getElem.1 (unhid HA) j q h (by omega) (by omega)
              rw [unhid HX] at h1
              omega)
          have HAE := hid hAe
          have hck2 : w.cell? ⟨b, off + q, none⟩ = some (.int .i64 x) := hck
          clear he
          subst hAe
          go_upto_region 6 with (fail)
          clear hck hck2 hd hgt hgt2 hwq hq1 hql hbl HX
          obtain ⟨k, hk'⟩ : ∃ k, k = q + 1 := ⟨_, rfl⟩
          (try rw [show (q : Int) + 1 = (k : Int) by omega])
          rw [← hk'] at hk HALL HLOW
          (try rw [← hk'])
          clear hk'
          obtain ⟨A, hA0⟩ : ∃ A : Option Addr, A = some ⟨b, off, none⟩ := ⟨_, rfl⟩
          rw [← hA0] at HR ⊢
          clear hA0 HAE
          have hkl : (k : Int) ≤ (l.length : Int) := by omega
          have hkc : (k : Int) ≤ (c : Int) := by have := unhid HC; omega
          have hk0 : (0 : Int) ≤ (k : Int) := by omega
          have hlc : (l.length : Int) ≤ (c : Int) := by have := unhid HC; omega
          have HKL := hid hk
          refine wp_region_noPanic ?_
          refine wp_region_E (S := fun _ => True) 11 12 rfl (by kernel_rfl) (by kernel_rfl) trivial ?_
          intro hSE
          have HBe := hid (Below.drew (Below.refl w.heap.size w))
          generalize w.drew = Wd at *
          (refine WE_take (i := 0) (v := ?_) rfl (by kernel_rfl) (by decide) (by kernel_rfl) (by kernel_rfl) (fun _ _ _ h => h) (by rfl) hSE ?_ ?_; rotate_left; (focus (intro w hSw; (try dsimp only at hSw); go_simp; (try with_reducible rfl))); simp only [Act.put, List.setIfInBounds_toArray, List.set_cons_zero, List.set_cons_succ])
          (refine WE_take (i := 1) (v := ?_) rfl (by kernel_rfl) (by decide) (by kernel_rfl) (by kernel_rfl) (fun _ _ _ h => h) (by rfl) hSE ?_ ?_; rotate_left; (focus (intro w hSw; (try dsimp only at hSw); go_simp; (try with_reducible rfl))); simp only [Act.put, List.setIfInBounds_toArray, List.set_cons_zero, List.set_cons_succ])
          (refine WE_take (i := 2) (v := ?_) rfl (by kernel_rfl) (by decide) (by kernel_rfl) (by kernel_rfl) (fun _ _ _ h => h) (by rfl) hSE ?_ ?_; rotate_left; (focus (intro w hSw; (try dsimp only at hSw); go_simp; (try with_reducible rfl))); simp only [Act.put, List.setIfInBounds_toArray, List.set_cons_zero, List.set_cons_succ])
          (refine WE_take (i := 3) (v := ?_) rfl (by kernel_rfl) (by decide) (by kernel_rfl) (by kernel_rfl) (fun _ _ _ h => h) (by rfl) hSE ?_ ?_; rotate_left; (focus (intro w hSw; (try dsimp only at hSw); go_simp; (try with_reducible rfl))); simp only [Act.put, List.setIfInBounds_toArray, List.set_cons_zero, List.set_cons_succ])
          (refine WE_take (i := 4) (v := ?_) rfl (by kernel_rfl) (by decide) (by kernel_rfl) (by kernel_rfl) (fun _ _ _ h => h) (by rfl) hSE ?_ ?_; rotate_left; (focus (intro w hSw; (try dsimp only at hSw); go_simp; (try with_reducible rfl))); simp only [Act.put, List.setIfInBounds_toArray, List.set_cons_zero, List.set_cons_succ])
          (refine WE_take (i := 6) (v := ?_) rfl (by kernel_rfl) (by decide) (by kernel_rfl) (by kernel_rfl) (fun _ _ _ h => h) (by rfl) hSE ?_ ?_; rotate_left; (focus (intro w hSw; (try dsimp only at hSw); go_simp; (try with_reducible rfl))); simp only [Act.put, List.setIfInBounds_toArray, List.set_cons_zero, List.set_cons_succ])
          (refine WE_take (i := 7) (v := ?_) rfl (by kernel_rfl) (by decide) (by kernel_rfl) (by kernel_rfl) (fun _ _ _ h => h) (by rfl) hSE ?_ ?_; rotate_left; (focus (intro w hSw; (try dsimp only at hSw); go_simp; (try with_reducible rfl))); simp only [Act.put, List.setIfInBounds_toArray, List.set_cons_zero, List.set_cons_succ])
          (refine WE_take (i := 8) (v := ?_) rfl (by kernel_rfl) (by decide) (by kernel_rfl) (by kernel_rfl) (fun _ _ _ h => h) (by rfl) hSE ?_ ?_; rotate_left; (focus (intro w hSw; (try dsimp only at hSw); go_simp; (try with_reducible rfl))); simp only [Act.put, List.setIfInBounds_toArray, List.set_cons_zero, List.set_cons_succ])
          (refine WE_one (i := 5) rfl (by decide) (by kernel_rfl) ?_; intro K hK)
          go_simp
          change K _ (Wd.alloc (.cells #[.int .i64 v] 3))
          have HNR := hid (show Rd (Wd.alloc (.cells #[.int .i64 v] 3)) (some ⟨Wd.heap.size, 0, none⟩) (ints [v]) from fun _ => ⟨Wd.heap.size, 0, rfl, by simp, fun j u hu => by
            rw [Nat.zero_add, World.cell?_alloc_new]
            rw [← Array.getElem?_toList]
            exact hu⟩)
          obtain ⟨Bn, hBn⟩ : ∃ Bn, Bn = Wd.heap.size := ⟨_, rfl⟩
          rw [← hBn] at HNR ⊢
          have HBe := hid ((unhid HBe).alloc (unhid HBe).size (.cells #[.int .i64 v] 3))
          refine hK.out _ _ trivial ?_
          clear hSE hK K hBn
          intro hSE
          (try simp only [Act.put, List.setIfInBounds_toArray, List.set_cons_zero, List.set_cons_succ])
          generalize Wd.alloc (.cells #[.int .i64 v] 3) = Wa at *
          have hcut0 := ((unhid HR).below (unhid HBe)).cut k 1 c (fun h => by rw [ints_lenP] at h; have := unhid HC; omega)
          simp only [Nat.mul_one] at hcut0
          have HCUT := hid hcut0
          clear hcut0
          have HDL := hid (show ((ints l).drop k).length = (l.length - k) * 1 from by rw [List.length_drop, ints_lenP]; omega)
          have HTL := hid (show ((ints l).take k).length = k * 1 from by rw [List.length_take, ints_lenP]; have := unhid HKL; omega)
          have HDO := hid (show ∀ u ∈ (ints l).drop k, u.oneCell' = true from fun u hu => ints_oneP l u (List.mem_of_mem_drop hu))
          have HYO := hid (show ∀ u ∈ ints [v] ++ (ints l).drop k, u.oneCell' = true from fun u hu => by
            rcases List.mem_append.1 hu with h | h
            · exact ints_oneP [v] u h
            · exact unhid HDO u h)
          have HYL := hid (show (ints [v] ++ (ints l).drop k).length = (1 + (l.length - k)) * 1 from by
            rw [List.length_append, unhid HDL]
            show 1 + _ = _
            omega)
          have HNK := hid (show A = none → k = 0 from fun h => by
            rcases Nat.eq_zero_or_pos k with h0 | h0
            · exact h0
            · obtain ⟨b, off, e, -⟩ := (unhid HR) (ints_ne (k := 0) (by have := unhid HKL; omega))
              rw [h] at e; cases e)
          have HB1 := hid (show 1 + (l.length - k) ≤ maxLen ∧ (1 + (l.length - k)) * 8 ≤ 140737488355328 from by have := unhid HL; unfold maxLen; omega)
          have HB2 := hid (show k + (1 + (l.length - k)) ≤ maxLen ∧ (k + (1 + (l.length - k))) * 8 ≤ 140737488355328 ∧ k ≤ maxLen from by have := unhid HL; have := unhid HKL; unfold maxLen; omega)
          (refine WE_one (i := 9) rfl (by decide) (by kernel_rfl) ?_; intro K hK)
          refine step_app (by rfl) _ _ _ (by rfl) 3 i0 _ 1 8 Tryz.underlying43 hi hz0 hz1 hz2 rfl (by omega) (some ⟨Bn, 0, none⟩) 1 1 (ints [v]) (by rfl) (unhid HNR) (by rfl) (fun h => by cases h) (Nat.le_refl _) (by unfold maxLen; omega) _ (l.length - k) (c - k) ((ints l).drop k) (by rfl) (unhid HCUT) (unhid HDL) (unhid HDO) (by omega) (unhid HB1).1 (unhid HB1).2 ?_
          intro A3 c3 w3 hr3 hle3 hcm3 hn3 hg3
          have HR3 := hid hr3
          have HBe := hid ((unhid HBe).trans ((below_of_grown hg3).mono (unhid HBe).size))
          clear hr3 hg3 hle3 hcm3 hn3
          refine hK.out _ _ trivial ?_
          clear hSE hK K
          intro hSE
          (try simp only [Act.put, List.setIfInBounds_toArray, List.set_cons_zero, List.set_cons_succ])
          have HRT := hid (((unhid HR).below (unhid HBe)).take k)
          (refine WE_one (i := 10) rfl (by decide) (by kernel_rfl) ?_; intro K hK)
          refine step_app (by rfl) _ _ _ (by rfl) 3 i0 _ 1 8 Tryz.underlying43 hi hz0 hz1 hz2 rfl (by omega) A k k ((ints l).take k) (by rfl) (unhid HRT) (unhid HTL) (unhid HNK) (Nat.le_refl _) (unhid HB2).2.2 A3 (1 + (l.length - k)) c3 (ints [v] ++ (ints l).drop k) (by rfl) (unhid HR3) (unhid HYL) (unhid HYO) (.inr (by omega)) (unhid HB2).1 (unhid HB2).2.1 ?_
          intro A4 c4 w4 hr4 hle4 hcm4 hn4 hg4
          have HBe := hid ((unhid HBe).trans ((below_of_grown hg4).mono (unhid HBe).size))
          have HP := hid (show PutPost w l v (.returned (.slice A4 (k + (1 + (l.length - k))) c4)) w4 from by
            have hk' := unhid HKL
            have hlen : (l.take k ++ ([v] ++ l.drop k)).length = k + (1 + (l.length - k)) := by
              rw [List.length_append, List.length_append, List.length_take, List.length_drop]
              simp
              omega
            refine ⟨A4, c4, l.take k ++ ([v] ++ l.drop k), by rw [hlen], ?_, by rw [hlen]; exact hle4, put_asc (unhid HA) hk' (unhid HLOW) (unhid HALL), put_mem, by rw [hlen]; omega, unhid HBe⟩
            rw [ints_app, ints_app, ints_takeP, ints_dropP]
            exact hr4)
          clear hr4 hg4 hle4 hcm4 hn4
          refine hK.out _ _ trivial ?_
          clear hSE hK K
          intro hSE
          (try simp only [Act.put, List.setIfInBounds_toArray, List.set_cons_zero, List.set_cons_succ])
          (refine WE_last rfl (by kernel_rfl) (by kernel_rfl) (by kernel_rfl) ?_; intro K hK; go_simp; refine hK.out _ _ (NoPanic.normal ?_); clear hK K)
          go_wp2_with fail
          all_goals
            go_ret
            exact unhid HP
end

section
open Go.RowKit Go.Shelf

/-- A list of numbers in the making by put: those that p says of the first k. -/
structure PutI (w0 : World) (p : Int → Nat → Prop) (k : Nat) (v : Value) (w : World) : Prop where
  is : ∃ (A : Option Addr) (c : Nat) (m : List Int), v = .slice A m.length c ∧ Rd w A (ints m) ∧ m.length ≤ c ∧ AscI m ∧ (∀ x, x ∈ m ↔ p x k) ∧ m.length ≤ k
  b : Below w0.heap.size w0 w
theorem PutI.start {w0 : World} {p : Int → Nat → Prop} (h : ∀ x, ¬ p x 0) : PutI w0 p 0 (.slice none 0 0) w0 :=
  ⟨⟨none, 0, [], rfl, Rd.nil _ _, Nat.le_refl _, List.Pairwise.nil, fun x => ⟨fun h => by simp at h, fun h2 => absurd h2 (h x)⟩, Nat.le_refl _⟩, Below.refl _ _⟩
theorem PutI.below {w0 w w' : World} {p : Int → Nat → Prop} {k : Nat} {v : Value} (h : PutI w0 p k v w) (hb : Below w.heap.size w w') : PutI w0 p k v w' := by
  obtain ⟨⟨A, c, m, h1, h2, h3⟩, h4⟩ := h
  exact ⟨⟨A, c, m, h1, h2.below hb, h3⟩, h4.trans (hb.mono h4.size)⟩
theorem PutI.keep {w0 w : World} {p : Int → Nat → Prop} {k : Nat} {v : Value} (h : PutI w0 p k v w) (hp : ∀ x, p x (k + 1) ↔ p x k) : PutI w0 p (k + 1) v w := by
  obtain ⟨⟨A, c, m, h1, h2, h3, h4, h5, h6⟩, h7⟩ := h
  exact ⟨⟨A, c, m, h1, h2, h3, h4, fun x => by rw [h5 x, hp x], by omega⟩, h7⟩

def RIntsPost (w : World) (l : List Int) (e : Ending) (w' : World) : Prop := ∃ A c, e = .returned (.slice A l.length c) ∧ Rd w' A (ints l) ∧ Below w.heap.size w w'
/-- The signs of the first k. -/
def sgK (C : List Rc) (x : Int) (k : Nat) : Prop := x ∈ (C.take k).map Rc.sign
theorem sgK_succ {C : List Rc} {k : Nat} (hk : k < C.length) {r : Rc} (hr : C[k] = r) (x : Int) : sgK C x (k + 1) ↔ x = r.sign ∨ sgK C x k := by
  unfold sgK
  rw [List.take_succ_eq_append_getElem hk, List.map_append, List.mem_append, hr]
  simp only [List.map_cons, List.map_nil, List.mem_singleton]
  exact Or.comm

set_option maxHeartbeats 4000000 in
set_option maxRecDepth 100000 in
theorem rsigns_calls {B : Nat} {L : List Rc} (w : World) (h : RbAt w B L) (hL : L.length ≤ 100000) :
    Calls Tryz.prog 45 #[.pointer (some ⟨B, 0, none⟩)] w fun e w' => RIntsPost w (signsP L) e w' := by
  have HC := hid (rcounting_calls w h (by omega))
  have HLL := hid (show (cntL L).length ≤ 100000 from Nat.le_trans (List.length_filter_le _ _) hL)
  have HE := hid (show ∀ m : List Int, AscI m → (∀ x, x ∈ m ↔ sgK (cntL L) x (cntL L).length) → m = signsP L from fun m h1 h2 => ascI_eq h1 (setI_asc _) (fun x => by
    unfold signsP
    rw [h2 x, mem_setI]
    unfold sgK
    rw [List.take_length]))
  clear h hL
  go_enter Tryz.func45, Tryz.ntmps45
  go_wp2_with fail
  refine (unhid HC).mono ?_
  rintro e w2 ⟨v, rfl, hrow, hb2⟩
  obtain ⟨A, c, rfl, hrd, -⟩ := own_slice hrow
  have HRD := hid hrd
  have HB2 := hid hb2
  clear hrow hrd hb2 HC
  generalize cntL L = C at *
  go_upto_region 4 with (fail)
  go_loopw [5, 4] (fun kv mv wr => ∃ k : Nat, k ≤ C.length ∧ kv = .int .i64 k ∧ PutI w2 (sgK C) k mv wr) (fun kv _ _ => C.length - (intOf kv).toNat)
  case atStart => exact ⟨0, Nat.zero_le _, rfl, PutI.start (fun x h => by simp [sgK] at h)⟩
  case round =>
    obtain ⟨k, hk, rfl, hi⟩ := hrel
    obtain ⟨⟨A3, c3, m, rfl, hm1, hm2, hm3, hm4, hm5⟩, hb⟩ := hi
    have HB := hid hb
    have HM := hid hm4
    have hlm : C.length ≤ 100000 := unhid HLL
    clear hb hm4
    by_cases hlt : k < C.length
    · have hki : (k : Int) < (C.length : Int) := by omega
      obtain ⟨b, off, hAe, hbl, hc⟩ := ((unhid HRD).below (unhid HB)) (recs_ne hlt)
      subst hAe
      obtain ⟨x, hx⟩ : ∃ x, C[k]'hlt = x := ⟨_, rfl⟩
      have HX := hid hx
      obtain ⟨a0, a1, a2, a3, a4, a5, a6, a7, a8', a9, a10, a11, a12, a13⟩ := rec_at14 hc hlt hx
      have HP := hid (rput_calls m x.sign A3 c3 wr hm1 hm2 hm3 (by omega))
      have HL5 := hid hm5
      clear hc hx hm1 hm2 hm3 hm5
      go_wp2_with fail
      refine (unhid HP).mono ?_
      rintro e w3 ⟨A4, c4, m4, rfl, h1, h2, h3, h4, h5, h6⟩
      have HN := hid (show PutI w2 (sgK C) (k + 1) (.slice A4 m4.length c4) w3 from ⟨⟨A4, c4, m4, rfl, h1, h2, h3, fun y => by rw [h4 y, sgK_succ hlt (unhid HX), unhid HM y], by have := unhid HL5; omega⟩, (unhid HB).trans (h6.mono (unhid HB).size)⟩)
      clear h1 h2 h3 h4 h5 h6 a0 a1 a2 a3 a4 a5 a6 a7 a8' a9 a10 a11 a12 a13 HP
      go_wp2_with fail
      go_roundw
      case rel => exact ⟨k + 1, by omega, by go_num, unhid HN⟩
      case measure => simp [intOf]; omega
    · obtain rfl : k = C.length := by omega
      have hme := unhid HE m hm3 (unhid HM)
      have HP := hid (show RIntsPost w (signsP L) (.returned (.slice A3 m.length c3)) wr from ⟨A3, c3, by rw [hme], by rw [← hme]; exact hm1, (unhid HB2).trans ((unhid HB).mono (unhid HB2).size)⟩)
      clear hm1 hm2 hm3 hm5 hme
      go_wp2_with fail
      go_ret
      exact unhid HP
end

section
open Go.RowKit Go.Shelf

/-- The heads among the first k of the case. -/
def vlK (C : List Rc) (s f x : Int) (k : Nat) : Prop := ∃ j, ∃ h : j < C.length, j < k ∧ csB s f C[j] = true ∧ headB (C.filter (csB s f)) C[j] = true ∧ C[j].val = x
theorem vlK_succ {C : List Rc} {s f : Int} {k : Nat} (hk : k < C.length) {r : Rc} (hr : C[k] = r) (x : Int) : vlK C s f x (k + 1) ↔ (csB s f r = true ∧ headB (C.filter (csB s f)) r = true ∧ x = r.val) ∨ vlK C s f x k := by
  unfold vlK
  constructor
  · rintro ⟨j, hj, h1, h2, h3, h4⟩
    by_cases e : j = k
    · subst e
      rw [hr] at h2 h3 h4
      exact .inl ⟨h2, h3, h4.symm⟩
    · exact .inr ⟨j, hj, by omega, h2, h3, h4⟩
  · rintro (⟨h1, h2, h3⟩ | ⟨j, hj, h1, h2⟩)
    · exact ⟨k, hk, by omega, by rw [hr]; exact h1, by rw [hr]; exact h2, by rw [hr]; exact h3.symm⟩
    · exact ⟨j, hj, by omega, h2⟩
theorem vlK_all (C : List Rc) (s f x : Int) : vlK C s f x C.length ↔ x ∈ valsP (C.filter (csB s f)) := by
  rw [mem_valsP]
  unfold vlK
  constructor
  · rintro ⟨j, hj, -, h2, h3, h4⟩
    exact ⟨C[j], List.mem_filter.2 ⟨List.getElem_mem hj, h2⟩, h3, h4⟩
  · rintro ⟨r, h1, h2, h3⟩
    obtain ⟨h4, h5⟩ := List.mem_filter.1 h1
    obtain ⟨j, hj, e⟩ := List.getElem_of_mem h4
    exact ⟨j, hj, hj, by rw [e]; exact h5, by rw [e]; exact h2, by rw [e]; exact h3⟩
/-- No later one of the first q of the case. -/
def hdK (C : List Rc) (s f : Int) (x : Rc) (q : Nat) : Bool := csB s f x && ((C.take q).filter (csB s f)).all fun r => !befB x r
theorem hdK_zero (C : List Rc) (s f : Int) (x : Rc) : hdK C s f x 0 = csB s f x := by simp [hdK]
theorem hdK_yes {C : List Rc} {s f : Int} {x y : Rc} {q : Nat} (hq : q < C.length) (hy : C[q] = y) (hc : csB s f y = true) : hdK C s f x (q + 1) = (hdK C s f x q && !befB x y) := by
  unfold hdK
  rw [List.take_succ_eq_append_getElem hq, List.filter_append, List.all_append, hy, List.filter_cons_of_pos hc, List.filter_nil, Bool.and_assoc]
  simp
theorem hdK_no {C : List Rc} {s f : Int} {x y : Rc} {q : Nat} (hq : q < C.length) (hy : C[q] = y) (hc : csB s f y = false) : hdK C s f x (q + 1) = hdK C s f x q := by
  unfold hdK
  rw [List.take_succ_eq_append_getElem hq, List.filter_append, List.all_append, hy, List.filter_cons_of_neg (by rw [hc]; simp), List.filter_nil]
  simp
theorem hdK_all (C : List Rc) (s f : Int) (x : Rc) : hdK C s f x C.length = (csB s f x && headB (C.filter (csB s f)) x) := by
  unfold hdK headB
  rw [List.take_length]
theorem csB_true {s f : Int} {r : Rc} (h1 : r.sign = s) (h2 : r.fld = f) : csB s f r = true := by simp [csB, h1, h2]
theorem csB_false1 {s f : Int} {r : Rc} (h1 : r.sign ≠ s) : csB s f r = false := by simp [csB, h1]
theorem csB_false2 {s f : Int} {r : Rc} (h2 : r.fld ≠ f) : csB s f r = false := by simp [csB, h2]
theorem after14 {w : World} {b off : Nat} {L : List Rc} {k : Nat} {x : Rc} (hb : b < w.heap.size) (hc : ∀ j u, (recs L)[j]? = some u → w.cell? ⟨b, off + j, none⟩ = some u) (hk : k < L.length) (hx : L[k]'hk = x) (p : After w) : p.w.cell? ⟨b, off + k * 14, none⟩ = some (.int .i64 x.tab) ∧ p.w.cell? ⟨b, off + k * 14 + 1, none⟩ = some (.int .i64 x.num) ∧ p.w.cell? ⟨b, off + k * 14 + 2, none⟩ = some (.int .i64 x.hour) ∧ p.w.cell? ⟨b, off + k * 14 + 3, none⟩ = some (.int .i64 x.sign) ∧ p.w.cell? ⟨b, off + k * 14 + 4, none⟩ = some (.int .i64 x.fld) ∧ p.w.cell? ⟨b, off + k * 14 + 5, none⟩ = some (.int .i64 x.val) ∧ p.w.cell? ⟨b, off + k * 14 + 6, none⟩ = some (.int .i64 x.s0) ∧ p.w.cell? ⟨b, off + k * 14 + 7, none⟩ = some (.int .i64 x.s1) ∧ p.w.cell? ⟨b, off + k * 14 + 8, none⟩ = some (.int .i64 x.s2) ∧ p.w.cell? ⟨b, off + k * 14 + 9, none⟩ = some (.int .i64 x.s3) ∧ p.w.cell? ⟨b, off + k * 14 + 10, none⟩ = some (.int .i64 x.s4) ∧ p.w.cell? ⟨b, off + k * 14 + 11, none⟩ = some (.int .i64 x.s5) ∧ p.w.cell? ⟨b, off + k * 14 + 12, none⟩ = some (.int .i64 x.s6) ∧ p.w.cell? ⟨b, off + k * 14 + 13, none⟩ = some (.int .i64 x.s7) := by
  have hc2 : ∀ j u, (recs L)[j]? = some u → p.w.cell? ⟨b, off + j, none⟩ = some u := fun j u hu => After.cell (a := ⟨b, off + j, none⟩) hb (hc j u hu) p
  exact rec_at14 hc2 hk hx

set_option maxHeartbeats 8000000 in
set_option maxRecDepth 100000 in
theorem rvalues_calls (sign fld : Int) {B : Nat} {L : List Rc} (w : World) (h : RbAt w B L) (hL : L.length ≤ 100000) :
    Calls Tryz.prog 43 #[.pointer (some ⟨B, 0, none⟩), .int .i64 sign, .int .i64 fld] w fun e w' => RIntsPost w (valuesP L sign fld) e w' := by
  have HC := hid (rcounting_calls w h (by omega))
  have HLL := hid (show (cntL L).length ≤ 100000 from Nat.le_trans (List.length_filter_le _ _) hL)
  have HE := hid (show ∀ m : List Int, AscI m → (∀ x, x ∈ m ↔ vlK (cntL L) sign fld x (cntL L).length) → m = valuesP L sign fld from fun m h1 h2 => ascI_eq h1 (valsP_asc _) (fun x => by
    rw [h2 x, vlK_all]
    rfl))
  have HCV := hid (show ∀ r ∈ cntL L, I64 r.num from fun r hr => by
    have := (rc_ok (h.v r (List.mem_filter.1 hr).1)).num
    unfold I64
    omega)
  clear h hL
  go_enter Tryz.func43, Tryz.ntmps43
  go_wp2_with fail
  refine (unhid HC).mono ?_
  rintro e w2 ⟨v, rfl, hrow, hb2⟩
  obtain ⟨A, c, rfl, hrd, -⟩ := own_slice hrow
  have HRD := hid hrd
  have HB2 := hid hb2
  clear hrow hrd hb2 HC
  generalize cntL L = C at *
  go_upto_region 4 with (fail)
  go_loopw [9, 8] (fun kv mv wr => ∃ k : Nat, k ≤ C.length ∧ kv = .int .i64 k ∧ PutI w2 (vlK C sign fld) k mv wr) (fun kv _ _ => C.length - (intOf kv).toNat)
  case atStart => exact ⟨0, Nat.zero_le _, rfl, PutI.start (fun x h => by obtain ⟨j, hj, h1, -⟩ := h; omega)⟩
  case round =>
    obtain ⟨k, hk, rfl, hi⟩ := hrel
    obtain ⟨⟨A0, c0, m0, hev, hm⟩, hb⟩ := hi
    subst hev
    have HI := hid (⟨⟨A0, c0, m0, rfl, hm⟩, hb⟩ : PutI w2 (vlK C sign fld) k (.slice A0 m0.length c0) wr)
    have hlm : C.length ≤ 100000 := unhid HLL
    clear hm hb
    by_cases hlt : k < C.length
    · have hki : (k : Int) < (C.length : Int) := by omega
      obtain ⟨b, off, hAe, -, -⟩ := ((unhid HRD).below (unhid HI).b) (recs_ne hlt)
      obtain ⟨x, hx⟩ : ∃ x, C[k]'hlt = x := ⟨_, rfl⟩
      have HX := hid hx
      have HXN := hid (unhid HCV x (hx ▸ List.getElem_mem hlt))
      have HAT := hid (show ∀ W : World, Below w2.heap.size w2 W → b < W.heap.size ∧ ∀ j u, (recs C)[j]? = some u → W.cell? ⟨b, off + j, none⟩ = some u from fun W hb => by
        obtain ⟨b', off', e, h1, h2⟩ := ((unhid HRD).below hb) (recs_ne hlt)
        rw [hAe] at e
        cases e
        exact ⟨h1, h2⟩)
      subst hAe
      clear hx
      obtain ⟨a0, a1, a2, a3, a4, a5, a6, a7, a8', a9, a10, a11, a12, a13⟩ := rec_at14 (unhid HAT _ (unhid HI).b).2 hlt (unhid HX)
      by_cases e1 : x.sign = sign
      · by_cases e2 : x.fld = fld
        · have hd1 : (x.sign == sign) = true := beq_iff_eq.2 e1
          have hd2 : (x.fld == fld) = true := beq_iff_eq.2 e2
          have HC0 := hid (show csB sign fld x = true from csB_true e1 e2)
          clear e1 e2
          go_upto_region 8 with (fail)
          clear a0 a1 a2 a3 a4 a5 a6 a7 a8' a9 a10 a11 a12 a13 hd1 hd2
          go_loopw [11, 10] (fun qv hv wz => ∃ q : Nat, q ≤ C.length ∧ qv = .int .i64 q ∧ hv = .bool (hdK C sign fld x q) ∧ PutI w2 (vlK C sign fld) k (.slice A0 m0.length c0) wz) (fun qv _ _ => C.length - (intOf qv).toNat)
          case atStart => exact ⟨0, Nat.zero_le _, rfl, by rw [hdK_zero, unhid HC0], unhid HI⟩
          case round =>
            clear HI
            obtain ⟨q, hq, rfl, rfl, hi⟩ := hrel
            have HI := hid hi
            clear hi
            by_cases hql : q < C.length
            · have hqi : (q : Int) < (C.length : Int) := by omega
              obtain ⟨y, hy⟩ : ∃ y, C[q]'hql = y := ⟨_, rfl⟩
              have HY := hid hy
              clear hy
              obtain ⟨hbl, hcc⟩ := unhid HAT _ (unhid HI).b
              have fx := fun p : After wr => after14 hbl hcc hlt (unhid HX) p
              have fy := fun p : After wr => after14 hbl hcc hql (unhid HY) p
              have x0 := fun p : After wr => (fx p).1
              have x1 := fun p : After wr => (fx p).2.1
              have x2 := fun p : After wr => (fx p).2.2.1
              have x3 := fun p : After wr => (fx p).2.2.2.1
              have x4 := fun p : After wr => (fx p).2.2.2.2.1
              have x5 := fun p : After wr => (fx p).2.2.2.2.2.1
              have x6 := fun p : After wr => (fx p).2.2.2.2.2.2.1
              have x7 := fun p : After wr => (fx p).2.2.2.2.2.2.2.1
              have x8 := fun p : After wr => (fx p).2.2.2.2.2.2.2.2.1
              have x9 := fun p : After wr => (fx p).2.2.2.2.2.2.2.2.2.1
              have x10 := fun p : After wr => (fx p).2.2.2.2.2.2.2.2.2.2.1
              have x11 := fun p : After wr => (fx p).2.2.2.2.2.2.2.2.2.2.2.1
              have x12 := fun p : After wr => (fx p).2.2.2.2.2.2.2.2.2.2.2.2.1
              have x13 := fun p : After wr => (fx p).2.2.2.2.2.2.2.2.2.2.2.2.2
              have y0 := fun p : After wr => (fy p).1
              have y1 := fun p : After wr => (fy p).2.1
              have y2 := fun p : After wr => (fy p).2.2.1
              have y3 := fun p : After wr => (fy p).2.2.2.1
              have y4 := fun p : After wr => (fy p).2.2.2.2.1
              have y5 := fun p : After wr => (fy p).2.2.2.2.2.1
              have y6 := fun p : After wr => (fy p).2.2.2.2.2.2.1
              have y7 := fun p : After wr => (fy p).2.2.2.2.2.2.2.1
              have y8 := fun p : After wr => (fy p).2.2.2.2.2.2.2.2.1
              have y9 := fun p : After wr => (fy p).2.2.2.2.2.2.2.2.2.1
              have y10 := fun p : After wr => (fy p).2.2.2.2.2.2.2.2.2.2.1
              have y11 := fun p : After wr => (fy p).2.2.2.2.2.2.2.2.2.2.2.1
              have y12 := fun p : After wr => (fy p).2.2.2.2.2.2.2.2.2.2.2.2.1
              have y13 := fun p : After wr => (fy p).2.2.2.2.2.2.2.2.2.2.2.2.2
              clear hbl hcc
              by_cases e1 : y.sign = sign
              · by_cases e2 : y.fld = fld
                · cases hb4 : befB x y with
                  | true =>
                    have hd1 : (y.sign == sign) = true := beq_iff_eq.2 e1
                    have hd2 : (y.fld == fld) = true := beq_iff_eq.2 e2
                    have HN := hid (show hdK C sign fld x (q + 1) = false from by rw [hdK_yes hql (unhid HY) (csB_true e1 e2), hb4]; simp)
                    have HBC := hid (fun W : World => rbefore_calls x y (unhid HXN) W)
                    rw [hb4] at HBC
                    clear hb4
                    clear e1 e2
                    go_wp2_with fail
                    (refine wp_region_below (by kernel_rfl) (by kernel_rfl) ?_; (repeat (go_big_quiet_step (first | (go_at_call 84; exact Calls.after_of ((unhid HBC) _))))); refine wpQuiet_nil ?_; intro wq hw'; obtain ⟨⟨wq2, hbq⟩, hw''⟩ := hw'; dsimp only at hw''; subst hw'')
                    have HI := hid ((unhid HI).below hbq)
                    clear hbq x0 x1 x2 x3 x4 x5 x6 x7 x8 x9 x10 x11 x12 x13 y0 y1 y2 y3 y4 y5 y6 y7 y8 y9 y10 y11 y12 y13 fx fy hd1 hd2 HBC
                    go_wp2_with fail
                    go_roundw
                    case rel => exact ⟨q + 1, by omega, by go_num, by rw [unhid HN], unhid HI⟩
                    case measure => simp [intOf]; omega
                  | false =>
                    have hd1 : (y.sign == sign) = true := beq_iff_eq.2 e1
                    have hd2 : (y.fld == fld) = true := beq_iff_eq.2 e2
                    have HN := hid (show hdK C sign fld x (q + 1) = hdK C sign fld x q from by rw [hdK_yes hql (unhid HY) (csB_true e1 e2), hb4]; simp)
                    have HBC := hid (fun W : World => rbefore_calls x y (unhid HXN) W)
                    rw [hb4] at HBC
                    clear hb4
                    clear e1 e2
                    go_wp2_with fail
                    (refine wp_region_below (by kernel_rfl) (by kernel_rfl) ?_; (repeat (go_big_quiet_step (first | (go_at_call 84; exact Calls.after_of ((unhid HBC) _))))); refine wpQuiet_nil ?_; intro wq hw'; obtain ⟨⟨wq2, hbq⟩, hw''⟩ := hw'; dsimp only at hw''; subst hw'')
                    have HI := hid ((unhid HI).below hbq)
                    clear hbq x0 x1 x2 x3 x4 x5 x6 x7 x8 x9 x10 x11 x12 x13 y0 y1 y2 y3 y4 y5 y6 y7 y8 y9 y10 y11 y12 y13 fx fy hd1 hd2 HBC
                    go_wp2_with fail
                    go_roundw
                    case rel => exact ⟨q + 1, by omega, by go_num, by rw [unhid HN], unhid HI⟩
                    case measure => simp [intOf]; omega
                · have hd1 : (y.sign == sign) = true := beq_iff_eq.2 e1
                  have hd2 : (y.fld == fld) = false := beq_eq_false_iff_ne.2 e2
                  have HN := hid (hdK_no (s := sign) (f := fld) (x := x) hql (unhid HY) (csB_false2 e2))
                  clear e1 e2
                  go_wp2_with fail
                  (refine wp_region_below (by kernel_rfl) (by kernel_rfl) ?_; (repeat (go_big_quiet_step (first | fail))); refine wpQuiet_nil ?_; intro wq hw'; obtain ⟨⟨wq2, hbq⟩, hw''⟩ := hw'; dsimp only at hw''; subst hw'')
                  have HI := hid ((unhid HI).below hbq)
                  clear hbq x0 x1 x2 x3 x4 x5 x6 x7 x8 x9 x10 x11 x12 x13 y0 y1 y2 y3 y4 y5 y6 y7 y8 y9 y10 y11 y12 y13 fx fy hd1 hd2
                  go_wp2_with fail
                  go_roundw
                  case rel => exact ⟨q + 1, by omega, by go_num, by rw [unhid HN], unhid HI⟩
                  case measure => simp [intOf]; omega
              · have hd1 : (y.sign == sign) = false := beq_eq_false_iff_ne.2 e1
                have HN := hid (hdK_no (s := sign) (f := fld) (x := x) hql (unhid HY) (csB_false1 e1))
                clear e1
                go_wp2_with fail
                (refine wp_region_below (by kernel_rfl) (by kernel_rfl) ?_; (repeat (go_big_quiet_step (first | fail))); refine wpQuiet_nil ?_; intro wq hw'; obtain ⟨⟨wq2, hbq⟩, hw''⟩ := hw'; dsimp only at hw''; subst hw'')
                have HI := hid ((unhid HI).below hbq)
                clear hbq x0 x1 x2 x3 x4 x5 x6 x7 x8 x9 x10 x11 x12 x13 y0 y1 y2 y3 y4 y5 y6 y7 y8 y9 y10 y11 y12 y13 fx fy hd1
                go_wp2_with fail
                go_roundw
                case rel => exact ⟨q + 1, by omega, by go_num, by rw [unhid HN], unhid HI⟩
                case measure => simp [intOf]; omega
            · obtain rfl : q = C.length := by omega
              rw [hdK_all]
              cases hhd : csB sign fld x && headB (C.filter (csB sign fld)) x with
              | true =>
                obtain ⟨g1, g2⟩ := (Bool.and_eq_true _ _).mp hhd
                have HG := hid (show csB sign fld x = true ∧ headB (C.filter (csB sign fld)) x = true from ⟨g1, g2⟩)
                clear hhd g1 g2
                obtain ⟨A3, c3, m, hev, hm1, hm2, hm3, hm4, hm5⟩ := (unhid HI).is
                rw [hev]
                clear hev
                have HPC := hid (rput_calls m x.val A3 c3 wr hm1 hm2 hm3 (by omega))
                have HM := hid hm4
                have HL5 := hid hm5
                clear hm1 hm2 hm3 hm4 hm5
                obtain ⟨a0, a1, a2, a3, a4, a5, a6, a7, a8', a9, a10, a11, a12, a13⟩ := rec_at14 (unhid HAT _ (unhid HI).b).2 hlt (unhid HX)
                go_wp2_with fail
                refine (unhid HPC).mono ?_
                rintro e w3 ⟨A4, c4, m4, rfl, h1, h2, h3, h4, h5, h6⟩
                have HN := hid (show PutI w2 (vlK C sign fld) (k + 1) (.slice A4 m4.length c4) w3 from ⟨⟨A4, c4, m4, rfl, h1, h2, h3, fun z => by
                  rw [h4 z, vlK_succ hlt (unhid HX), unhid HM z]
                  have hg := unhid HG
                  constructor
                  · rintro (h | h)
                    · exact .inl ⟨hg.1, hg.2, h⟩
                    · exact .inr h
                  · rintro (⟨-, -, h⟩ | h)
                    · exact .inl h
                    · exact .inr h, by have := unhid HL5; omega⟩, (unhid HI).b.trans (h6.mono (unhid HI).b.size)⟩)
                clear h1 h2 h3 h4 h5 h6 a0 a1 a2 a3 a4 a5 a6 a7 a8' a9 a10 a11 a12 a13 HPC
                go_wp2_with fail
                go_roundw
                case rel => exact ⟨k + 1, by omega, by go_num, unhid HN⟩
                case measure => simp [intOf]; omega
              | false =>
                have HN := hid ((unhid HI).keep (fun z => by
                  rw [vlK_succ hlt (unhid HX)]
                  constructor
                  · rintro (⟨h1, h2, -⟩ | h)
                    · rw [h1, h2] at hhd; cases hhd
                    · exact h
                  · exact .inr))
                clear hhd
                go_wp2_with fail
                go_roundw
                case rel => exact ⟨k + 1, by omega, by go_num, unhid HN⟩
                case measure => simp [intOf]; omega
        · have hd1 : (x.sign == sign) = true := beq_iff_eq.2 e1
          have hd2 : (x.fld == fld) = false := beq_eq_false_iff_ne.2 e2
          have HC0 := hid (show csB sign fld x = false from csB_false2 e2)
          clear e1 e2
          go_upto_region 8 with (fail)
          clear a0 a1 a2 a3 a4 a5 a6 a7 a8' a9 a10 a11 a12 a13 hd1 hd2
          go_loopw [11, 10] (fun qv hv wz => ∃ q : Nat, q ≤ C.length ∧ qv = .int .i64 q ∧ hv = .bool (hdK C sign fld x q) ∧ PutI w2 (vlK C sign fld) k (.slice A0 m0.length c0) wz) (fun qv _ _ => C.length - (intOf qv).toNat)
          case atStart => exact ⟨0, Nat.zero_le _, rfl, by rw [hdK_zero, unhid HC0], unhid HI⟩
          case round =>
            clear HI
            obtain ⟨q, hq, rfl, rfl, hi⟩ := hrel
            have HI := hid hi
            clear hi
            by_cases hql : q < C.length
            · have hqi : (q : Int) < (C.length : Int) := by omega
              obtain ⟨y, hy⟩ : ∃ y, C[q]'hql = y := ⟨_, rfl⟩
              have HY := hid hy
              clear hy
              obtain ⟨hbl, hcc⟩ := unhid HAT _ (unhid HI).b
              have fx := fun p : After wr => after14 hbl hcc hlt (unhid HX) p
              have fy := fun p : After wr => after14 hbl hcc hql (unhid HY) p
              have x0 := fun p : After wr => (fx p).1
              have x1 := fun p : After wr => (fx p).2.1
              have x2 := fun p : After wr => (fx p).2.2.1
              have x3 := fun p : After wr => (fx p).2.2.2.1
              have x4 := fun p : After wr => (fx p).2.2.2.2.1
              have x5 := fun p : After wr => (fx p).2.2.2.2.2.1
              have x6 := fun p : After wr => (fx p).2.2.2.2.2.2.1
              have x7 := fun p : After wr => (fx p).2.2.2.2.2.2.2.1
              have x8 := fun p : After wr => (fx p).2.2.2.2.2.2.2.2.1
              have x9 := fun p : After wr => (fx p).2.2.2.2.2.2.2.2.2.1
              have x10 := fun p : After wr => (fx p).2.2.2.2.2.2.2.2.2.2.1
              have x11 := fun p : After wr => (fx p).2.2.2.2.2.2.2.2.2.2.2.1
              have x12 := fun p : After wr => (fx p).2.2.2.2.2.2.2.2.2.2.2.2.1
              have x13 := fun p : After wr => (fx p).2.2.2.2.2.2.2.2.2.2.2.2.2
              have y0 := fun p : After wr => (fy p).1
              have y1 := fun p : After wr => (fy p).2.1
              have y2 := fun p : After wr => (fy p).2.2.1
              have y3 := fun p : After wr => (fy p).2.2.2.1
              have y4 := fun p : After wr => (fy p).2.2.2.2.1
              have y5 := fun p : After wr => (fy p).2.2.2.2.2.1
              have y6 := fun p : After wr => (fy p).2.2.2.2.2.2.1
              have y7 := fun p : After wr => (fy p).2.2.2.2.2.2.2.1
              have y8 := fun p : After wr => (fy p).2.2.2.2.2.2.2.2.1
              have y9 := fun p : After wr => (fy p).2.2.2.2.2.2.2.2.2.1
              have y10 := fun p : After wr => (fy p).2.2.2.2.2.2.2.2.2.2.1
              have y11 := fun p : After wr => (fy p).2.2.2.2.2.2.2.2.2.2.2.1
              have y12 := fun p : After wr => (fy p).2.2.2.2.2.2.2.2.2.2.2.2.1
              have y13 := fun p : After wr => (fy p).2.2.2.2.2.2.2.2.2.2.2.2.2
              clear hbl hcc
              by_cases e1 : y.sign = sign
              · by_cases e2 : y.fld = fld
                · cases hb4 : befB x y with
                  | true =>
                    have hd1 : (y.sign == sign) = true := beq_iff_eq.2 e1
                    have hd2 : (y.fld == fld) = true := beq_iff_eq.2 e2
                    have HN := hid (show hdK C sign fld x (q + 1) = false from by rw [hdK_yes hql (unhid HY) (csB_true e1 e2), hb4]; simp)
                    have HBC := hid (fun W : World => rbefore_calls x y (unhid HXN) W)
                    rw [hb4] at HBC
                    clear hb4
                    clear e1 e2
                    go_wp2_with fail
                    (refine wp_region_below (by kernel_rfl) (by kernel_rfl) ?_; (repeat (go_big_quiet_step (first | (go_at_call 84; exact Calls.after_of ((unhid HBC) _))))); refine wpQuiet_nil ?_; intro wq hw'; obtain ⟨⟨wq2, hbq⟩, hw''⟩ := hw'; dsimp only at hw''; subst hw'')
                    have HI := hid ((unhid HI).below hbq)
                    clear hbq x0 x1 x2 x3 x4 x5 x6 x7 x8 x9 x10 x11 x12 x13 y0 y1 y2 y3 y4 y5 y6 y7 y8 y9 y10 y11 y12 y13 fx fy hd1 hd2 HBC
                    go_wp2_with fail
                    go_roundw
                    case rel => exact ⟨q + 1, by omega, by go_num, by rw [unhid HN], unhid HI⟩
                    case measure => simp [intOf]; omega
                  | false =>
                    have hd1 : (y.sign == sign) = true := beq_iff_eq.2 e1
                    have hd2 : (y.fld == fld) = true := beq_iff_eq.2 e2
                    have HN := hid (show hdK C sign fld x (q + 1) = hdK C sign fld x q from by rw [hdK_yes hql (unhid HY) (csB_true e1 e2), hb4]; simp)
                    have HBC := hid (fun W : World => rbefore_calls x y (unhid HXN) W)
                    rw [hb4] at HBC
                    clear hb4
                    clear e1 e2
                    go_wp2_with fail
                    (refine wp_region_below (by kernel_rfl) (by kernel_rfl) ?_; (repeat (go_big_quiet_step (first | (go_at_call 84; exact Calls.after_of ((unhid HBC) _))))); refine wpQuiet_nil ?_; intro wq hw'; obtain ⟨⟨wq2, hbq⟩, hw''⟩ := hw'; dsimp only at hw''; subst hw'')
                    have HI := hid ((unhid HI).below hbq)
                    clear hbq x0 x1 x2 x3 x4 x5 x6 x7 x8 x9 x10 x11 x12 x13 y0 y1 y2 y3 y4 y5 y6 y7 y8 y9 y10 y11 y12 y13 fx fy hd1 hd2 HBC
                    go_wp2_with fail
                    go_roundw
                    case rel => exact ⟨q + 1, by omega, by go_num, by rw [unhid HN], unhid HI⟩
                    case measure => simp [intOf]; omega
                · have hd1 : (y.sign == sign) = true := beq_iff_eq.2 e1
                  have hd2 : (y.fld == fld) = false := beq_eq_false_iff_ne.2 e2
                  have HN := hid (hdK_no (s := sign) (f := fld) (x := x) hql (unhid HY) (csB_false2 e2))
                  clear e1 e2
                  go_wp2_with fail
                  (refine wp_region_below (by kernel_rfl) (by kernel_rfl) ?_; (repeat (go_big_quiet_step (first | fail))); refine wpQuiet_nil ?_; intro wq hw'; obtain ⟨⟨wq2, hbq⟩, hw''⟩ := hw'; dsimp only at hw''; subst hw'')
                  have HI := hid ((unhid HI).below hbq)
                  clear hbq x0 x1 x2 x3 x4 x5 x6 x7 x8 x9 x10 x11 x12 x13 y0 y1 y2 y3 y4 y5 y6 y7 y8 y9 y10 y11 y12 y13 fx fy hd1 hd2
                  go_wp2_with fail
                  go_roundw
                  case rel => exact ⟨q + 1, by omega, by go_num, by rw [unhid HN], unhid HI⟩
                  case measure => simp [intOf]; omega
              · have hd1 : (y.sign == sign) = false := beq_eq_false_iff_ne.2 e1
                have HN := hid (hdK_no (s := sign) (f := fld) (x := x) hql (unhid HY) (csB_false1 e1))
                clear e1
                go_wp2_with fail
                (refine wp_region_below (by kernel_rfl) (by kernel_rfl) ?_; (repeat (go_big_quiet_step (first | fail))); refine wpQuiet_nil ?_; intro wq hw'; obtain ⟨⟨wq2, hbq⟩, hw''⟩ := hw'; dsimp only at hw''; subst hw'')
                have HI := hid ((unhid HI).below hbq)
                clear hbq x0 x1 x2 x3 x4 x5 x6 x7 x8 x9 x10 x11 x12 x13 y0 y1 y2 y3 y4 y5 y6 y7 y8 y9 y10 y11 y12 y13 fx fy hd1
                go_wp2_with fail
                go_roundw
                case rel => exact ⟨q + 1, by omega, by go_num, by rw [unhid HN], unhid HI⟩
                case measure => simp [intOf]; omega
            · obtain rfl : q = C.length := by omega
              rw [hdK_all]
              cases hhd : csB sign fld x && headB (C.filter (csB sign fld)) x with
              | true =>
                obtain ⟨g1, g2⟩ := (Bool.and_eq_true _ _).mp hhd
                have HG := hid (show csB sign fld x = true ∧ headB (C.filter (csB sign fld)) x = true from ⟨g1, g2⟩)
                clear hhd g1 g2
                obtain ⟨A3, c3, m, hev, hm1, hm2, hm3, hm4, hm5⟩ := (unhid HI).is
                rw [hev]
                clear hev
                have HPC := hid (rput_calls m x.val A3 c3 wr hm1 hm2 hm3 (by omega))
                have HM := hid hm4
                have HL5 := hid hm5
                clear hm1 hm2 hm3 hm4 hm5
                obtain ⟨a0, a1, a2, a3, a4, a5, a6, a7, a8', a9, a10, a11, a12, a13⟩ := rec_at14 (unhid HAT _ (unhid HI).b).2 hlt (unhid HX)
                go_wp2_with fail
                refine (unhid HPC).mono ?_
                rintro e w3 ⟨A4, c4, m4, rfl, h1, h2, h3, h4, h5, h6⟩
                have HN := hid (show PutI w2 (vlK C sign fld) (k + 1) (.slice A4 m4.length c4) w3 from ⟨⟨A4, c4, m4, rfl, h1, h2, h3, fun z => by
                  rw [h4 z, vlK_succ hlt (unhid HX), unhid HM z]
                  have hg := unhid HG
                  constructor
                  · rintro (h | h)
                    · exact .inl ⟨hg.1, hg.2, h⟩
                    · exact .inr h
                  · rintro (⟨-, -, h⟩ | h)
                    · exact .inl h
                    · exact .inr h, by have := unhid HL5; omega⟩, (unhid HI).b.trans (h6.mono (unhid HI).b.size)⟩)
                clear h1 h2 h3 h4 h5 h6 a0 a1 a2 a3 a4 a5 a6 a7 a8' a9 a10 a11 a12 a13 HPC
                go_wp2_with fail
                go_roundw
                case rel => exact ⟨k + 1, by omega, by go_num, unhid HN⟩
                case measure => simp [intOf]; omega
              | false =>
                have HN := hid ((unhid HI).keep (fun z => by
                  rw [vlK_succ hlt (unhid HX)]
                  constructor
                  · rintro (⟨h1, h2, -⟩ | h)
                    · rw [h1, h2] at hhd; cases hhd
                    · exact h
                  · exact .inr))
                clear hhd
                go_wp2_with fail
                go_roundw
                case rel => exact ⟨k + 1, by omega, by go_num, unhid HN⟩
                case measure => simp [intOf]; omega
      · have hd1 : (x.sign == sign) = false := beq_eq_false_iff_ne.2 e1
        have HC0 := hid (show csB sign fld x = false from csB_false1 e1)
        clear e1
        go_upto_region 8 with (fail)
        clear a0 a1 a2 a3 a4 a5 a6 a7 a8' a9 a10 a11 a12 a13 hd1
        go_loopw [11, 10] (fun qv hv wz => ∃ q : Nat, q ≤ C.length ∧ qv = .int .i64 q ∧ hv = .bool (hdK C sign fld x q) ∧ PutI w2 (vlK C sign fld) k (.slice A0 m0.length c0) wz) (fun qv _ _ => C.length - (intOf qv).toNat)
        case atStart => exact ⟨0, Nat.zero_le _, rfl, by rw [hdK_zero, unhid HC0], unhid HI⟩
        case round =>
          clear HI
          obtain ⟨q, hq, rfl, rfl, hi⟩ := hrel
          have HI := hid hi
          clear hi
          by_cases hql : q < C.length
          · have hqi : (q : Int) < (C.length : Int) := by omega
            obtain ⟨y, hy⟩ : ∃ y, C[q]'hql = y := ⟨_, rfl⟩
            have HY := hid hy
            clear hy
            obtain ⟨hbl, hcc⟩ := unhid HAT _ (unhid HI).b
            have fx := fun p : After wr => after14 hbl hcc hlt (unhid HX) p
            have fy := fun p : After wr => after14 hbl hcc hql (unhid HY) p
            have x0 := fun p : After wr => (fx p).1
            have x1 := fun p : After wr => (fx p).2.1
            have x2 := fun p : After wr => (fx p).2.2.1
            have x3 := fun p : After wr => (fx p).2.2.2.1
            have x4 := fun p : After wr => (fx p).2.2.2.2.1
            have x5 := fun p : After wr => (fx p).2.2.2.2.2.1
            have x6 := fun p : After wr => (fx p).2.2.2.2.2.2.1
            have x7 := fun p : After wr => (fx p).2.2.2.2.2.2.2.1
            have x8 := fun p : After wr => (fx p).2.2.2.2.2.2.2.2.1
            have x9 := fun p : After wr => (fx p).2.2.2.2.2.2.2.2.2.1
            have x10 := fun p : After wr => (fx p).2.2.2.2.2.2.2.2.2.2.1
            have x11 := fun p : After wr => (fx p).2.2.2.2.2.2.2.2.2.2.2.1
            have x12 := fun p : After wr => (fx p).2.2.2.2.2.2.2.2.2.2.2.2.1
            have x13 := fun p : After wr => (fx p).2.2.2.2.2.2.2.2.2.2.2.2.2
            have y0 := fun p : After wr => (fy p).1
            have y1 := fun p : After wr => (fy p).2.1
            have y2 := fun p : After wr => (fy p).2.2.1
            have y3 := fun p : After wr => (fy p).2.2.2.1
            have y4 := fun p : After wr => (fy p).2.2.2.2.1
            have y5 := fun p : After wr => (fy p).2.2.2.2.2.1
            have y6 := fun p : After wr => (fy p).2.2.2.2.2.2.1
            have y7 := fun p : After wr => (fy p).2.2.2.2.2.2.2.1
            have y8 := fun p : After wr => (fy p).2.2.2.2.2.2.2.2.1
            have y9 := fun p : After wr => (fy p).2.2.2.2.2.2.2.2.2.1
            have y10 := fun p : After wr => (fy p).2.2.2.2.2.2.2.2.2.2.1
            have y11 := fun p : After wr => (fy p).2.2.2.2.2.2.2.2.2.2.2.1
            have y12 := fun p : After wr => (fy p).2.2.2.2.2.2.2.2.2.2.2.2.1
            have y13 := fun p : After wr => (fy p).2.2.2.2.2.2.2.2.2.2.2.2.2
            clear hbl hcc
            by_cases e1 : y.sign = sign
            · by_cases e2 : y.fld = fld
              · cases hb4 : befB x y with
                | true =>
                  have hd1 : (y.sign == sign) = true := beq_iff_eq.2 e1
                  have hd2 : (y.fld == fld) = true := beq_iff_eq.2 e2
                  have HN := hid (show hdK C sign fld x (q + 1) = false from by rw [hdK_yes hql (unhid HY) (csB_true e1 e2), hb4]; simp)
                  have HBC := hid (fun W : World => rbefore_calls x y (unhid HXN) W)
                  rw [hb4] at HBC
                  clear hb4
                  clear e1 e2
                  go_wp2_with fail
                  (refine wp_region_below (by kernel_rfl) (by kernel_rfl) ?_; (repeat (go_big_quiet_step (first | (go_at_call 84; exact Calls.after_of ((unhid HBC) _))))); refine wpQuiet_nil ?_; intro wq hw'; obtain ⟨⟨wq2, hbq⟩, hw''⟩ := hw'; dsimp only at hw''; subst hw'')
                  have HI := hid ((unhid HI).below hbq)
                  clear hbq x0 x1 x2 x3 x4 x5 x6 x7 x8 x9 x10 x11 x12 x13 y0 y1 y2 y3 y4 y5 y6 y7 y8 y9 y10 y11 y12 y13 fx fy hd1 hd2 HBC
                  go_wp2_with fail
                  go_roundw
                  case rel => exact ⟨q + 1, by omega, by go_num, by rw [unhid HN], unhid HI⟩
                  case measure => simp [intOf]; omega
                | false =>
                  have hd1 : (y.sign == sign) = true := beq_iff_eq.2 e1
                  have hd2 : (y.fld == fld) = true := beq_iff_eq.2 e2
                  have HN := hid (show hdK C sign fld x (q + 1) = hdK C sign fld x q from by rw [hdK_yes hql (unhid HY) (csB_true e1 e2), hb4]; simp)
                  have HBC := hid (fun W : World => rbefore_calls x y (unhid HXN) W)
                  rw [hb4] at HBC
                  clear hb4
                  clear e1 e2
                  go_wp2_with fail
                  (refine wp_region_below (by kernel_rfl) (by kernel_rfl) ?_; (repeat (go_big_quiet_step (first | (go_at_call 84; exact Calls.after_of ((unhid HBC) _))))); refine wpQuiet_nil ?_; intro wq hw'; obtain ⟨⟨wq2, hbq⟩, hw''⟩ := hw'; dsimp only at hw''; subst hw'')
                  have HI := hid ((unhid HI).below hbq)
                  clear hbq x0 x1 x2 x3 x4 x5 x6 x7 x8 x9 x10 x11 x12 x13 y0 y1 y2 y3 y4 y5 y6 y7 y8 y9 y10 y11 y12 y13 fx fy hd1 hd2 HBC
                  go_wp2_with fail
                  go_roundw
                  case rel => exact ⟨q + 1, by omega, by go_num, by rw [unhid HN], unhid HI⟩
                  case measure => simp [intOf]; omega
              · have hd1 : (y.sign == sign) = true := beq_iff_eq.2 e1
                have hd2 : (y.fld == fld) = false := beq_eq_false_iff_ne.2 e2
                have HN := hid (hdK_no (s := sign) (f := fld) (x := x) hql (unhid HY) (csB_false2 e2))
                clear e1 e2
                go_wp2_with fail
                (refine wp_region_below (by kernel_rfl) (by kernel_rfl) ?_; (repeat (go_big_quiet_step (first | fail))); refine wpQuiet_nil ?_; intro wq hw'; obtain ⟨⟨wq2, hbq⟩, hw''⟩ := hw'; dsimp only at hw''; subst hw'')
                have HI := hid ((unhid HI).below hbq)
                clear hbq x0 x1 x2 x3 x4 x5 x6 x7 x8 x9 x10 x11 x12 x13 y0 y1 y2 y3 y4 y5 y6 y7 y8 y9 y10 y11 y12 y13 fx fy hd1 hd2
                go_wp2_with fail
                go_roundw
                case rel => exact ⟨q + 1, by omega, by go_num, by rw [unhid HN], unhid HI⟩
                case measure => simp [intOf]; omega
            · have hd1 : (y.sign == sign) = false := beq_eq_false_iff_ne.2 e1
              have HN := hid (hdK_no (s := sign) (f := fld) (x := x) hql (unhid HY) (csB_false1 e1))
              clear e1
              go_wp2_with fail
              (refine wp_region_below (by kernel_rfl) (by kernel_rfl) ?_; (repeat (go_big_quiet_step (first | fail))); refine wpQuiet_nil ?_; intro wq hw'; obtain ⟨⟨wq2, hbq⟩, hw''⟩ := hw'; dsimp only at hw''; subst hw'')
              have HI := hid ((unhid HI).below hbq)
              clear hbq x0 x1 x2 x3 x4 x5 x6 x7 x8 x9 x10 x11 x12 x13 y0 y1 y2 y3 y4 y5 y6 y7 y8 y9 y10 y11 y12 y13 fx fy hd1
              go_wp2_with fail
              go_roundw
              case rel => exact ⟨q + 1, by omega, by go_num, by rw [unhid HN], unhid HI⟩
              case measure => simp [intOf]; omega
          · obtain rfl : q = C.length := by omega
            rw [hdK_all]
            cases hhd : csB sign fld x && headB (C.filter (csB sign fld)) x with
            | true =>
              obtain ⟨g1, g2⟩ := (Bool.and_eq_true _ _).mp hhd
              have HG := hid (show csB sign fld x = true ∧ headB (C.filter (csB sign fld)) x = true from ⟨g1, g2⟩)
              clear hhd g1 g2
              obtain ⟨A3, c3, m, hev, hm1, hm2, hm3, hm4, hm5⟩ := (unhid HI).is
              rw [hev]
              clear hev
              have HPC := hid (rput_calls m x.val A3 c3 wr hm1 hm2 hm3 (by omega))
              have HM := hid hm4
              have HL5 := hid hm5
              clear hm1 hm2 hm3 hm4 hm5
              obtain ⟨a0, a1, a2, a3, a4, a5, a6, a7, a8', a9, a10, a11, a12, a13⟩ := rec_at14 (unhid HAT _ (unhid HI).b).2 hlt (unhid HX)
              go_wp2_with fail
              refine (unhid HPC).mono ?_
              rintro e w3 ⟨A4, c4, m4, rfl, h1, h2, h3, h4, h5, h6⟩
              have HN := hid (show PutI w2 (vlK C sign fld) (k + 1) (.slice A4 m4.length c4) w3 from ⟨⟨A4, c4, m4, rfl, h1, h2, h3, fun z => by
                rw [h4 z, vlK_succ hlt (unhid HX), unhid HM z]
                have hg := unhid HG
                constructor
                · rintro (h | h)
                  · exact .inl ⟨hg.1, hg.2, h⟩
                  · exact .inr h
                · rintro (⟨-, -, h⟩ | h)
                  · exact .inl h
                  · exact .inr h, by have := unhid HL5; omega⟩, (unhid HI).b.trans (h6.mono (unhid HI).b.size)⟩)
              clear h1 h2 h3 h4 h5 h6 a0 a1 a2 a3 a4 a5 a6 a7 a8' a9 a10 a11 a12 a13 HPC
              go_wp2_with fail
              go_roundw
              case rel => exact ⟨k + 1, by omega, by go_num, unhid HN⟩
              case measure => simp [intOf]; omega
            | false =>
              have HN := hid ((unhid HI).keep (fun z => by
                rw [vlK_succ hlt (unhid HX)]
                constructor
                · rintro (⟨h1, h2, -⟩ | h)
                  · rw [h1, h2] at hhd; cases hhd
                  · exact h
                · exact .inr))
              clear hhd
              go_wp2_with fail
              go_roundw
              case rel => exact ⟨k + 1, by omega, by go_num, unhid HN⟩
              case measure => simp [intOf]; omega
    · obtain rfl : k = C.length := by omega
      obtain ⟨A3, c3, m, hev, hm1, hm2, hm3, hm4, hm5⟩ := (unhid HI).is
      rw [hev]
      clear hev
      have hme := unhid HE m hm3 hm4
      have HP := hid (show RIntsPost w (valuesP L sign fld) (.returned (.slice A3 m.length c3)) wr from ⟨A3, c3, by rw [hme], by rw [← hme]; exact hm1, (unhid HB2).trans ((unhid HI).b.mono (unhid HB2).size)⟩)
      clear hm1 hm2 hm3 hm4 hm5 hme
      go_wp2_with fail
      go_ret
      exact unhid HP
end

section
open Go.RowKit Go.Shelf

/-- The cases with several values: those of the first k signs, and of the next one those below a field. -/
structure DsK (L : List Rc) (sg : List Int) (k : Nat) (f : Int) (D : List (Int × Int)) : Prop where
  asc : AscP D
  mem : ∀ c, c ∈ D ↔ 1 < (valuesP L c.1 c.2).length ∧ 1 ≤ c.2 ∧ c.2 ≤ 6 ∧ ((∃ j, ∃ h : j < sg.length, j < k ∧ sg[j] = c.1) ∨ (∃ h : k < sg.length, sg[k] = c.1 ∧ c.2 < f))
  len : (D.length : Int) ≤ 6 * k + (f - 1)
section
variable {L : List Rc} {sg : List Int} {k : Nat} {f : Int} {D : List (Int × Int)}
theorem DsK.start (L : List Rc) (sg : List Int) : DsK L sg 0 1 [] :=
  ⟨List.Pairwise.nil, fun c => ⟨fun h => by simp at h, fun h => by
    obtain ⟨-, h1, -, h2⟩ := h
    rcases h2 with ⟨j, hj, h3, -⟩ | ⟨h, -, h3⟩ <;> omega⟩, by simp⟩
theorem DsK.yes (h : DsK L sg k f D) (hA : AscI sg) (hk : k < sg.length) {s : Int} (hs : sg[k] = s) (h1 : 1 ≤ f) (h6 : f ≤ 6) (hv : 1 < (valuesP L s f).length) : DsK L sg k (f + 1) (D ++ [(s, f)]) := by
  refine ⟨?_, fun c => ?_, by rw [List.length_append, List.length_singleton]; have := h.len; omega⟩
  · unfold AscP
    rw [List.pairwise_append]
    refine ⟨h.asc, by simp, fun c hc d hd => ?_⟩
    rw [List.mem_singleton] at hd
    subst hd
    obtain ⟨-, -, -, h5⟩ := (h.mem c).1 hc
    simp only [ltP, Bool.or_eq_true, Bool.and_eq_true, decide_eq_true_eq]
    rcases h5 with ⟨j, hj, h6, h7⟩ | ⟨_, h7, h8⟩
    · have := List.pairwise_iff_getElem.1 hA j k hj hk h6
      rw [hs, h7] at this
      exact .inl this
    · rw [hs] at h7
      exact .inr ⟨h7.symm, h8⟩
  · rw [List.mem_append, List.mem_singleton, h.mem c]
    constructor
    · rintro (⟨g1, g2, g3, g4⟩ | rfl)
      · refine ⟨g1, g2, g3, g4.imp id fun ⟨a, b, c⟩ => ⟨a, b, by omega⟩⟩
      · exact ⟨hv, h1, h6, .inr ⟨hk, hs, by show f < f + 1; omega⟩⟩
    · rintro ⟨g1, g2, g3, g4⟩
      rcases g4 with g4 | ⟨a, b, c0⟩
      · exact .inl ⟨g1, g2, g3, .inl g4⟩
      · by_cases e : c.2 = f
        · right
          rw [hs] at b
          exact Prod.ext b.symm e
        · exact .inl ⟨g1, g2, g3, .inr ⟨a, b, by omega⟩⟩
theorem DsK.no (h : DsK L sg k f D) (hk : k < sg.length) {s : Int} (hs : sg[k] = s) (hv : ¬ 1 < (valuesP L s f).length) : DsK L sg k (f + 1) D := by
  refine ⟨h.asc, fun c => ?_, by have := h.len; omega⟩
  rw [h.mem c]
  constructor
  · rintro ⟨g1, g2, g3, g4⟩
    exact ⟨g1, g2, g3, g4.imp id fun ⟨a, b, c⟩ => ⟨a, b, by omega⟩⟩
  · rintro ⟨g1, g2, g3, g4⟩
    refine ⟨g1, g2, g3, g4.imp id fun ⟨a, b, c0⟩ => ⟨a, b, ?_⟩⟩
    by_cases e : c.2 = f
    · rw [hs] at b
      rw [← b, e] at g1
      exact absurd g1 hv
    · omega
theorem DsK.next (h : DsK L sg k 7 D) (hk : k < sg.length) : DsK L sg (k + 1) 1 D := by
  refine ⟨h.asc, fun c => ?_, by have := h.len; omega⟩
  rw [h.mem c]
  constructor
  · rintro ⟨g1, g2, g3, g4⟩
    refine ⟨g1, g2, g3, .inl ?_⟩
    rcases g4 with ⟨j, hj, a, b⟩ | ⟨a, b, -⟩
    · exact ⟨j, hj, by omega, b⟩
    · exact ⟨k, a, by omega, b⟩
  · rintro ⟨g1, g2, g3, g4⟩
    refine ⟨g1, g2, g3, ?_⟩
    rcases g4 with ⟨j, hj, a, b⟩ | ⟨a, b, c0⟩
    · by_cases e : j = k
      · subst e
        exact .inr ⟨hj, b, by omega⟩
      · exact .inl ⟨j, hj, by omega, b⟩
    · omega
theorem DsK.all (hv : ∀ r ∈ L, rcB r = true) (h : DsK L (signsP L) (signsP L).length 1 D) : DispIs L D := by
  refine ⟨h.asc, fun c => ?_⟩
  rw [h.mem c]
  constructor
  · exact fun g => g.1
  · intro g
    have hne : valuesP L c.1 c.2 ≠ [] := fun e => by rw [e] at g; simp at g
    obtain ⟨v, hvm⟩ := List.exists_mem_of_ne_nil _ hne
    obtain ⟨r, hr, -, -⟩ := mem_valsP.1 hvm
    obtain ⟨hr1, hr2⟩ := List.mem_filter.1 hr
    simp only [csB, Bool.and_eq_true, decide_eq_true_eq] at hr2
    have o := rc_ok (hv r (List.mem_filter.1 hr1).1)
    have hsm : c.1 ∈ signsP L := by
      unfold signsP
      rw [mem_setI]
      exact List.mem_map.2 ⟨r, hr1, hr2.1⟩
    obtain ⟨j, hj, e⟩ := List.getElem_of_mem hsm
    have hf := o.fld
    rw [hr2.2] at hf
    exact ⟨g, hf.1, hf.2, .inl ⟨j, hj, hj, e⟩⟩
end
/-- The list of disputes in the making. -/
structure DsI (w0 : World) (L : List Rc) (sg : List Int) (k : Nat) (f : Int) (v : Value) (w : World) : Prop where
  is : ∃ D, DsK L sg k f D ∧ w.ownsRow w0.heap.size 116 2 v D.length (fks D)
  b : Below w0.heap.size w0 w
theorem DsI.below {w0 w w' : World} {L : List Rc} {sg : List Int} {k : Nat} {f : Int} {v : Value} (h : DsI w0 L sg k f v w) (hb : Below w.heap.size w w') : DsI w0 L sg k f v w' := by
  obtain ⟨⟨D, h1, h2⟩, h3⟩ := h
  exact ⟨⟨D, h1, own_below h2 hb⟩, h3.trans (hb.mono h3.size)⟩

set_option maxHeartbeats 8000000 in
set_option maxRecDepth 100000 in
theorem rdisputes_calls {B : Nat} {L : List Rc} (w : World) (h : RbAt w B L) (hL : L.length ≤ 100000) :
    Calls Tryz.prog 44 #[.pointer (some ⟨B, 0, none⟩)] w fun e w' => ∃ v D, e = .returned v ∧ DispIs L D ∧ D.length ≤ 600000 ∧ w'.ownsRow w.heap.size 116 2 v D.length (fks D) ∧ Below w.heap.size w w' := by
  obtain ⟨i0, hi, hz0, hz1, hz2⟩ := info_parts info_case
  have HK := hid h
  have HLL := hid hL
  have HS := hid (rsigns_calls w h hL)
  have HSA := hid (setI_asc ((cntL L).map Rc.sign))
  have HSN := hid (Nat.le_trans (signsP_len L) hL)
  have HALL := hid (fun D (hd : DsK L (signsP L) (signsP L).length 1 D) => DsK.all h.v hd)
  clear h hL
  go_enter Tryz.func44, Tryz.ntmps44
  go_wp2_with fail
  refine (unhid HS).mono ?_
  rintro e w2 ⟨A, c, rfl, hrd, hb2⟩
  have HRD := hid hrd
  have HB2 := hid hb2
  have HK := hid ((unhid HK).below hb2)
  clear hrd hb2 HS
  have HSA := hid (show AscI (signsP L) from unhid HSA)
  obtain ⟨sg, hsg⟩ : ∃ sg, sg = signsP L := ⟨_, rfl⟩
  rw [← hsg] at HSA HSN HALL HRD ⊢
  clear hsg
  have hsn : sg.length ≤ 100000 := unhid HSN
  go_upto_region 4 with (fail)
  go_loopw [5, 4] (fun kv dv wr => ∃ k : Nat, k ≤ sg.length ∧ kv = .int .i64 k ∧ DsI w2 L sg k 1 dv wr) (fun kv _ _ => sg.length - (intOf kv).toNat)
  case atStart => exact ⟨0, Nat.zero_le _, rfl, ⟨⟨[], DsK.start L sg, World.ownsRow_nil _ _ _ _⟩, Below.refl _ _⟩⟩
  case round =>
    obtain ⟨k, hk, rfl, hi2⟩ := hrel
    have HI := hid hi2
    clear hi2
    by_cases hlt : k < sg.length
    · have hki : (k : Int) < (sg.length : Int) := by omega
      obtain ⟨s, hs⟩ : ∃ s, sg[k] = s := ⟨_, rfl⟩
      have HSS := hid hs
      have HCK := hid (show ints sg ≠ [] ∧ (ints sg)[k]? = some (.int .i64 s) from ⟨ints_ne hlt, by simp [ints, List.getElem?_eq_getElem hlt, hs]⟩)
      clear hs
      go_upto_region 7 with (fail)
      go_loopw [6, 4] (fun fv dv wr => ∃ f : Nat, 1 ≤ f ∧ f ≤ 7 ∧ fv = .int .i64 f ∧ DsI w2 L sg k f dv wr) (fun fv _ _ => 7 - (intOf fv).toNat)
      case atStart => exact ⟨1, Nat.le_refl _, by omega, rfl, unhid HI⟩
      case round =>
        clear HI
        obtain ⟨f, hf1, hf2, rfl, hi2⟩ := hrel
        have HI := hid hi2
        clear hi2
        by_cases hf7 : f < 7
        · have hfi : (f : Int) ≤ 6 := by omega
          have HRK := hid ((unhid HK).below (unhid HI).b)
          obtain ⟨b, off, hAe, hbl, hc⟩ := ((unhid HRD).below (unhid HI).b) (unhid HCK).1
          have hck := hc k _ (unhid HCK).2
          clear hc
          subst hAe
          have HV := hid (rvalues_calls s (f : Int) wr (unhid HRK) (by have := (unhid HRK).asc; exact Nat.le_trans (Nat.le_of_eq rfl) (unhid HLL)))
          go_wp2_with fail
          refine (unhid HV).mono ?_
          rintro e w3 ⟨A5, c5, rfl, -, hb3⟩
          have HI := hid ((unhid HI).below hb3)
          have hck3 : w3.cell? ⟨b, off + k, none⟩ = some (.int .i64 s) := (World.cell?_of_block (hb3.block b hbl)).trans hck
          have HB3 := hid hb3
          clear hb3 HV hck hbl
          by_cases hv : 1 < (valuesP L s (f : Int)).length
          · have hvi : (((valuesP L s (f : Int)).length : Nat) : Int) > 1 := by omega
            have HVV := hid hv
            obtain ⟨⟨D, hD, hy⟩, hbb⟩ := unhid HI
            have HD := hid hD
            have HBB := hid hbb
            have hsz := hbb.size
            have hlc : D.length ≤ 1000000 := by have := hD.len; omega
            clear hv hD hbb
            go_wp2_with (at_builtin; refine wpList_append_own_at _ rfl _ _ 40 rfl w2.heap.size 116 i0 (.agg #[.int .i64 0, .int .i64 0]) 2 16 Tryz.underlying40 hi hz0 hz1 hz2 rfl (by decide) _ _ _ rfl (hy.alloc _) ⟨w3.heap.size, 0, none⟩ 1 1 (fkC (s, (f : Int))) rfl rfl (cs_news w3 (s, (f : Int))) (fkC_one _) (by unfold maxLen; omega) (by omega) (by simp; omega) ?_; intro v' w6 hown' hgrow hnil hat)
            have HN := hid (show DsI w2 L sg k ((f : Int) + 1) v' w6 from by
              refine ⟨⟨D ++ [(s, (f : Int))], (unhid HD).yes (unhid HSA) hlt (unhid HSS) (by omega) (by omega) (unhid HVV), ?_⟩, ?_⟩
              · rw [List.length_append, fks_append, fks_one]
                exact hown'
              · exact ((unhid HBB).alloc (unhid HBB).size _).grown hgrow (by simp; omega) (fun j hj => (own_block_lt hy hj).1))
            clear hy hlc hsz hown' hgrow hnil hat hck3
            go_wp2_with fail
            go_roundw
            case rel => exact ⟨f + 1, by omega, by omega, by go_num, unhid HN⟩
            case measure => simp [intOf]; omega
          · have hvi : ¬ (((valuesP L s (f : Int)).length : Nat) : Int) > 1 := by omega
            have HN := hid (show DsI w2 L sg k ((f : Int) + 1) _ w3 from by
              obtain ⟨⟨D, hD, hy⟩, hbb⟩ := unhid HI
              exact ⟨⟨D, hD.no hlt (unhid HSS) hv, hy⟩, hbb⟩)
            clear hv hck3
            go_wp2_with fail
            go_roundw
            case rel => exact ⟨f + 1, by omega, by omega, by go_num, unhid HN⟩
            case measure => simp [intOf]; omega
        · have hfi : ¬ (f : Int) ≤ 6 := by omega
          have hfe : f = 7 := by omega
          have HN := hid (show DsI w2 L sg (k + 1) 1 _ wr from by
            obtain ⟨⟨D, hD, hy⟩, hbb⟩ := unhid HI
            rw [hfe] at hD
            exact ⟨⟨D, DsK.next hD hlt, hy⟩, hbb⟩)
          clear hfe
          go_wp2_with fail
          go_roundw
          case rel => exact ⟨k + 1, by omega, by go_num, unhid HN⟩
          case measure => simp [intOf]; omega
    · obtain rfl : k = sg.length := by omega
      obtain ⟨⟨D, hD, hy⟩, hbb⟩ := unhid HI
      have hln : D.length ≤ 600000 := by have := hD.len; omega
      have HP := hid (⟨D, unhid HALL D hD, hln, own_base hy (unhid HB2).size, (unhid HB2).trans (hbb.mono (unhid HB2).size)⟩ : ∃ D, DispIs L D ∧ D.length ≤ 600000 ∧ wr.ownsRow w.heap.size 116 2 _ D.length (fks D) ∧ Below w.heap.size w wr)
      clear hD hy hbb hln
      go_wp2_with fail
      go_ret
      obtain ⟨D, h1, h2, h3, h4⟩ := unhid HP
      exact ⟨_, D, rfl, h1, h2, h3, h4⟩
end

end Go.Proofs.YtegghimjmbgghaaGreat
