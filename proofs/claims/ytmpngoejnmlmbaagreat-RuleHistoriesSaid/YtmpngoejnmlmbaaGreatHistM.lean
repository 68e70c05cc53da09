/-
  The reference's put. The reference's Moments. The reference's History; sameTold. Package rule's Moments and History. The law RuleHistories.
-/
import Derived.Test.YtmpngoejnmlmbaaGreatMomM
import Derived.Test.YtmpngoejnmlmbaaGreatKit2
import Derived.Test.YtmpngoejnmlmbaaGreatRowR
import Derived.Deep.DeepCutAuto
import Derived.Test.YtmpngoejnmlmbaaGreatRefKit
import Derived.Test.YtmpngoejnmlmbaaGreatEach
import Derived.Test.YtmpngoejnmlmbaaGreatAsk8
set_option linter.unusedSimpArgs false
set_option linter.unusedVariables false
namespace Go.Proofs.YtmpngoejnmlmbaaGreat
open Go.RowKit

section
theorem ints_len (l : List Int) : (ints l).length = l.length := by simp [ints]
def PutPost (hs L : List Int) (h : Int) (w : World) (e : Ending) (w' : World) : Prop :=
  ∃ (A' : Option Addr) (c' : Nat) (L' : List Int), e = .returned (.slice A' L'.length c') ∧ Mom (hs ++ [h]) L' ∧ Rd w' A' (ints L') ∧ L'.length ≤ c' ∧ c' ≤ maxLen ∧ (A' = none → c' = 0) ∧ L'.length ≤ L.length + 1 ∧ Below w.heap.size w w'

set_option maxHeartbeats 2000000 in
set_option maxRecDepth 100000 in
theorem put_calls (A : Option Addr) (L : List Int) (c : Nat) (x : Int) (hs : List Int) (w : World) (hr : Rd w A (ints L)) (hLc : L.length ≤ c) (hcm : c ≤ maxLen) (hcn : A = none → c = 0) (hM : Mom hs L) (hL : L.length ≤ 1000000) :
    Calls Tryz.prog 75 #[.slice A L.length c, .int .i64 x] w (PutPost hs L x w) := by
  have HRD := hid hr
  have HCM := hid hcm
  have HCN := hid hcn
  have HM := hid hM
  clear hr hcm hcn hM
  obtain ⟨i0, hi, hz0, hz1, hz2⟩ := info_parts info_int
  go_enter Tryz.func75, Tryz.ntmps75
  go_wp2_with fail
  go_loopw [5] (fun i wr => ∃ m : Nat, m ≤ L.length ∧ i = .int .i64 m ∧ (∀ j (hj : j < L.length), m ≤ j → x < L[j]) ∧ wr = w) (fun i _ => (intOf i).toNat)
  case atStart => exact ⟨L.length, Nat.le_refl _, rfl, fun j h hj => absurd h (by omega), rfl⟩
  case round =>
    obtain ⟨m, hm, rfl, hafter, hwr⟩ := hrel
    have hwr := hwr.symm
    subst hwr
    have HAF := hid hafter
    have hmc : m ≤ c := by omega
    clear hafter
    by_cases hm0 : 0 < m
    · have hml : m - 1 < L.length := by omega
      obtain ⟨b, off, hA, hb, hc⟩ := (unhid HRD) (ints_ne (k := m - 1) (by omega))
      have c0 := hc (m - 1) _ (ints_at L (m - 1) (by omega))
      clear hc
      have HZM := hid (show L[m - 1]'hml ∈ L from List.getElem_mem _)
      generalize hz : L[m - 1]'hml = z at c0 HZM
      have HZ := hid hz
      clear hz
      rw [hA]
      have HA := hid hA
      clear hA
      have := decide_eq_true (show 0 < m by omega)
      have hq1 : IntKind.i64.wrap ((m : Int) - 1) = (m : Int) - 1 := IntWalk.i64_in _ (by omega)
      have hq2 : (0 : Int) ≤ (m : Int) - 1 := by omega
      have hq2' : (1 : Int) ≤ (m : Int) := by omega
      have hq3 : ((m : Int) - 1).toNat = m - 1 := by omega
      have hq4 : (m : Int) - 1 < (L.length : Int) := by omega
      by_cases hzx : x < z
      · have hzx' : decide (x < z) = true := by simpa using hzx
        have HZX := hid hzx
        clear hzx
        go_wp2_with fail
        go_roundw
        case rel =>
          refine ⟨m - 1, by omega, by go_num, fun j hj hmj => ?_, trivial⟩
          by_cases e : j = m - 1
          · subst e; rw [unhid HZ]; exact unhid HZX
          · exact unhid HAF j hj (by omega)
        case measure => simp [intOf]; omega
      · have hzx' : decide (x < z) = false := by simpa using hzx
        by_cases hov : 10000000 < x
        · have := decide_eq_true (show 10000000 < x by omega)
          go_wp2_with fail
          rw [← unhid HA]
          go_ret
          exact ⟨A, c, L, by first | rfl | (simp; done), mom_over (unhid HM) hov, unhid HRD, hLc, unhid HCM, unhid HCN, by omega, Below.refl _ _⟩
        · have := decide_eq_false (show ¬ (10000000 < x) by omega)
          by_cases hzh : z = x
          · have hzh' : (z == x) = true := by simpa using hzh
            have HZH := hid (show x ∈ L from hzh ▸ unhid HZM)
            clear hzh
            go_wp2_with fail
            rw [← unhid HA]
            go_ret
            exact ⟨A, c, L, by first | rfl | (simp; done), mom_has (unhid HM) (unhid HZH), unhid HRD, hLc, unhid HCM, unhid HCN, by omega, Below.refl _ _⟩
          · have hzh' : (z == x) = false := by simpa using hzh
            have HEX := hid (show ∀ h0 : 0 < m, L[m - 1]'hml < x from fun _ => by rw [unhid HZ]; omega)
            clear hzh
            go_wp2_with fail
            rw [← unhid HA]
            have HTL := hid (show ((ints L).take m).length = m * 1 by rw [List.length_take, ints_len]; omega)
            have HMN := hid (show A = none → m = 0 from fun h => by have := unhid HCN h; omega)
            have HMM := hid (show m ≤ maxLen from Nat.le_trans hmc (unhid HCM))
            have HL2 := hid (show ([Value.int .i64 x] ++ (ints L).drop m).length = (1 + (L.length - m)) * 1 by rw [List.length_append, List.length_drop, ints_len]; simp)
            have HO2 := hid (show ∀ u ∈ [Value.int .i64 x] ++ (ints L).drop m, u.oneCell' = true from fun u hu => by
              rcases List.mem_append.1 hu with h | h
              · simp at h; subst h; rfl
              · have h2 := List.mem_of_mem_drop h
                simp [ints] at h2
                obtain ⟨y, -, rfl⟩ := h2
                rfl)
            have HCK := hid (show m < (ints L).length → c ≠ m from fun h => by rw [ints_len] at h; omega)
            have HDL := hid (show ((ints L).drop m).length = (L.length - m) * 1 by rw [List.length_drop, ints_len]; omega)
            have HCUT := hid (fun (w' : World) (h : Rd w' A (ints L)) => (show Rd w' (if c = m then A else A.map (·.add m)) ((ints L).drop m) from by simpa using h.cut m 1 c (by simpa using unhid HCK)))
            have HDO := hid (show ∀ u ∈ (ints L).drop m, u.oneCell' = true from fun u hu => by
              have h2 := List.mem_of_mem_drop hu
              simp [ints] at h2
              obtain ⟨y, -, rfl⟩ := h2
              rfl)
            go_region_held3 (fun w' => True) (first | trivial | go_keep) (first | (refine step_app (by rfl) _ _ _ (by rfl) 3 i0 _ 1 8 Tryz.underlying22 hi hz0 hz1 hz2 rfl (by omega) (some ⟨w.heap.size, 0, none⟩) 1 1 [Value.int .i64 x] (by rfl) (rdNew w [Value.int .i64 x] 3) (by rfl) (fun h => by cases h) (Nat.le_refl _) (by unfold maxLen; omega) _ (L.length - m) (c - m) ((ints L).drop m) (by rfl) ((unhid HCUT) _ ((unhid HRD).below (Below.drew (below_alloc w (.cells #[.int .i64 x] 3))))) (unhid HDL) (unhid HDO) (by omega) (by unfold maxLen; omega) (by omega) ?_; intro A3 c3 w3 hr3 hle3 hcm3 hn3 hg3) | (refine step_app (by rfl) _ _ _ (by rfl) 3 i0 _ 1 8 Tryz.underlying22 hi hz0 hz1 hz2 rfl (by omega) A m m ((ints L).take m) (by rfl) ((((unhid HRD).below (Below.drew (below_alloc w (.cells #[.int .i64 x] 3)))).below (below_of_grown hg3)).take m) (unhid HTL) (unhid HMN) (Nat.le_refl _) (unhid HMM) A3 (1 + (L.length - m)) c3 ([Value.int .i64 x] ++ (ints L).drop m) (by rfl) hr3 (unhid HL2) (unhid HO2) (Or.inr (by omega)) (by unfold maxLen; omega) (by omega) ?_; intro A4 c4 w4 hr4 hle4 hcm4 hn4 hg4))
            have hb4 : Below w.heap.size w w4 := ((Below.drew (below_alloc w (.cells #[.int .i64 x] 3))).trans ((below_of_grown hg3).mono (by simp))).trans ((below_of_grown hg4).mono (Nat.le_trans (by simp) hg3.size))
            clear hg3 hg4 hr3
            go_wp2_with fail
            all_goals
              go_ret
              have e1 : (L.take m ++ x :: L.drop m).length = m + (1 + (L.length - m)) := by simp; omega
              have e2 : ints (L.take m ++ x :: L.drop m) = (ints L).take m ++ ([Value.int .i64 x] ++ (ints L).drop m) := by simp [ints, List.map_take, List.map_drop]
              exact ⟨A4, c4, L.take m ++ x :: L.drop m, by rw [e1]; rfl, mom_ins (unhid HM) hm (unhid HAF) (unhid HEX) (by omega), by rw [e2]; exact hr4, by rw [e1]; exact hle4, hcm4, hn4, by rw [e1]; omega, hb4⟩
    · have := decide_eq_false (show ¬ (0 < m) by omega)
      have HEX := hid (show ∀ h0 : 0 < m, L[m - 1]'(by omega) < x from fun h0 => absurd h0 hm0)
      by_cases hov : 10000000 < x
      · have := decide_eq_true (show 10000000 < x by omega)
        go_wp2_with fail
        go_ret
        exact ⟨A, c, L, by first | rfl | (simp; done), mom_over (unhid HM) hov, unhid HRD, hLc, unhid HCM, unhid HCN, by omega, Below.refl _ _⟩
      · have := decide_eq_false (show ¬ (10000000 < x) by omega)
        go_wp2_with fail
        have HTL := hid (show ((ints L).take m).length = m * 1 by rw [List.length_take, ints_len]; omega)
        have HMN := hid (show A = none → m = 0 from fun h => by have := unhid HCN h; omega)
        have HMM := hid (show m ≤ maxLen from Nat.le_trans hmc (unhid HCM))
        have HL2 := hid (show ([Value.int .i64 x] ++ (ints L).drop m).length = (1 + (L.length - m)) * 1 by rw [List.length_append, List.length_drop, ints_len]; simp)
        have HO2 := hid (show ∀ u ∈ [Value.int .i64 x] ++ (ints L).drop m, u.oneCell' = true from fun u hu => by
          rcases List.mem_append.1 hu with h | h
          · simp at h; subst h; rfl
          · have h2 := List.mem_of_mem_drop h
            simp [ints] at h2
            obtain ⟨y, -, rfl⟩ := h2
            rfl)
        have HCK := hid (show m < (ints L).length → c ≠ m from fun h => by rw [ints_len] at h; omega)
        have HDL := hid (show ((ints L).drop m).length = (L.length - m) * 1 by rw [List.length_drop, ints_len]; omega)
        have HCUT := hid (fun (w' : World) (h : Rd w' A (ints L)) => (show Rd w' (if c = m then A else A.map (·.add m)) ((ints L).drop m) from by simpa using h.cut m 1 c (by simpa using unhid HCK)))
        have HDO := hid (show ∀ u ∈ (ints L).drop m, u.oneCell' = true from fun u hu => by
          have h2 := List.mem_of_mem_drop hu
          simp [ints] at h2
          obtain ⟨y, -, rfl⟩ := h2
          rfl)
        go_region_held3 (fun w' => True) (first | trivial | go_keep) (first | (refine step_app (by rfl) _ _ _ (by rfl) 3 i0 _ 1 8 Tryz.underlying22 hi hz0 hz1 hz2 rfl (by omega) (some ⟨w.heap.size, 0, none⟩) 1 1 [Value.int .i64 x] (by rfl) (rdNew w [Value.int .i64 x] 3) (by rfl) (fun h => by cases h) (Nat.le_refl _) (by unfold maxLen; omega) _ (L.length - m) (c - m) ((ints L).drop m) (by rfl) ((unhid HCUT) _ ((unhid HRD).below (Below.drew (below_alloc w (.cells #[.int .i64 x] 3))))) (unhid HDL) (unhid HDO) (by omega) (by unfold maxLen; omega) (by omega) ?_; intro A3 c3 w3 hr3 hle3 hcm3 hn3 hg3) | (refine step_app (by rfl) _ _ _ (by rfl) 3 i0 _ 1 8 Tryz.underlying22 hi hz0 hz1 hz2 rfl (by omega) A m m ((ints L).take m) (by rfl) ((((unhid HRD).below (Below.drew (below_alloc w (.cells #[.int .i64 x] 3)))).below (below_of_grown hg3)).take m) (unhid HTL) (unhid HMN) (Nat.le_refl _) (unhid HMM) A3 (1 + (L.length - m)) c3 ([Value.int .i64 x] ++ (ints L).drop m) (by rfl) hr3 (unhid HL2) (unhid HO2) (Or.inr (by omega)) (by unfold maxLen; omega) (by omega) ?_; intro A4 c4 w4 hr4 hle4 hcm4 hn4 hg4))
        have hb4 : Below w.heap.size w w4 := ((Below.drew (below_alloc w (.cells #[.int .i64 x] 3))).trans ((below_of_grown hg3).mono (by simp))).trans ((below_of_grown hg4).mono (Nat.le_trans (by simp) hg3.size))
        clear hg3 hg4 hr3
        go_wp2_with fail
        all_goals
          go_ret
          have e1 : (L.take m ++ x :: L.drop m).length = m + (1 + (L.length - m)) := by simp; omega
          have e2 : ints (L.take m ++ x :: L.drop m) = (ints L).take m ++ ([Value.int .i64 x] ++ (ints L).drop m) := by simp [ints, List.map_take, List.map_drop]
          exact ⟨A4, c4, L.take m ++ x :: L.drop m, by rw [e1]; rfl, mom_ins (unhid HM) hm (unhid HAF) (unhid HEX) (by omega), by rw [e2]; exact hr4, by rw [e1]; exact hle4, hcm4, hn4, by rw [e1]; omega, hb4⟩
end

section
theorem spans_cells' {w : World} {b off : Nat} {l : List (Int × Int)} (h : ∀ j u, (spans l)[j]? = some u → w.cell? ⟨b, off + j, none⟩ = some u) {k : Nat} (hk : k < l.length) :
    w.cell? ⟨b, off + k * 2, none⟩ = some (.int .i64 l[k].1) ∧ w.cell? ⟨b, off + k * 2 + 1, none⟩ = some (.int .i64 l[k].2) := ⟨h _ _ (spans_0 hk), h _ _ (spans_1 hk)⟩
def RMomPost (l : List Sg) (ed : List Ed) (w : World) (e : Ending) (w' : World) : Prop :=
  ∃ (A' : Option Addr) (c' : Nat) (L : List Int), e = .returned (.slice A' L.length c') ∧ Mom (momH l ed) L ∧ Rd w' A' (ints L) ∧ L.length ≤ c' ∧ c' ≤ maxLen ∧ (A' = none → c' = 0) ∧ L.length ≤ 3000 ∧ Below w.heap.size w w'

set_option maxHeartbeats 1000000 in
set_option maxRecDepth 100000 in
theorem rmoments_calls (A2 : Option Addr) (l : List Sg) (c2 : Nat) (A3 : Option Addr) (ed : List Ed) (c3 : Nat) (w : World) (hs : SgsOk w A2 l) (he : EdsOk w A3 ed) (hl100 : l.length ≤ 100) (hc10 : ∀ s ∈ l, s.cov.length ≤ 10) (he50 : ed.length ≤ 50) :
    Calls Tryz.prog 34 #[.slice A2 l.length c2, .slice A3 ed.length c3] w (RMomPost l ed w) := by
  have HS := hid hs
  have HE := hid he
  have HC := hid hc10
  clear hs he hc10
  go_enter Tryz.func34, Tryz.ntmps34
  go_wp2_with fail
  go_loopw [6, 5] (fun i v wr => ∃ (k : Nat) (A' : Option Addr) (c' : Nat) (L : List Int), k ≤ l.length ∧ i = .int .i64 k ∧ v = .slice A' L.length c' ∧ Mom ((l.take k).flatMap sgH) L ∧ (Rd wr A' (ints L) ∧ L.length ≤ c' ∧ c' ≤ maxLen ∧ (A' = none → c' = 0)) ∧ L.length ≤ 22 * k ∧ Below w.heap.size w wr) (fun i _ _ => l.length - (intOf i).toNat)
  case atStart => exact ⟨0, none, 0, [], Nat.zero_le _, rfl, rfl, Mom.nil, ⟨Rd.nil _ _, Nat.le_refl _, Nat.zero_le _, fun _ => rfl⟩, by simp, Below.refl _ _⟩
  case round =>
    obtain ⟨k, A', c', L, hk, rfl, rfl, hM, ⟨hRd, hLc, hcm, hcn⟩, hLl, hbel⟩ := hrel
    have HM := hid hM
    have HRD := hid hRd
    have HCN := hid hcn
    have HCM := hid hcm
    have HBL := hid hbel
    clear hM hRd hcn hcm hbel
    by_cases hlt : k < l.length
    · have hrd := (unhid HS).rd.below (unhid HBL)
      have hcv := ((unhid HS).all _ (List.getElem_mem hlt)).rd
      have hc1 := (unhid HC) _ (List.getElem_mem hlt)
      obtain ⟨b, off, hA2, hb, hc⟩ := hrd (signs_ne hlt)
      obtain ⟨m0, m1, m2, m3, m4, m5, m6, m7, m8⟩ := signs_cells hc hlt
      have HTK := hid (show (l.take (k + 1)).flatMap sgH = (l.take k).flatMap sgH ++ sgH l[k] from by rw [List.take_succ_eq_append_getElem hlt, List.flatMap_append]; simp)
      have HXX := hid (show l[k]'hlt = l[k]'hlt from rfl)
      have HCELL := hid (fun (w' : World) (h : Below w.heap.size w w') => (show w'.cell? ⟨b, off + k * 9 + 8, none⟩ = some (.slice (l[k]'hlt).cA (l[k]'hlt).cov.length (l[k]'hlt).cc) from by
        obtain ⟨b', off', hA', hb', hc'⟩ := ((unhid HS).rd.below h) (signs_ne hlt)
        rw [hA2] at hA'
        injection hA' with hA'
        injection hA' with e1 e2
        subst e1 e2
        exact (signs_cells hc' hlt).2.2.2.2.2.2.2.2))
      have HBLT := hid (show b < w.heap.size from by
        obtain ⟨b', off', hA', hb', hc'⟩ := (unhid HS).rd (signs_ne hlt)
        rw [hA2] at hA'
        injection hA' with hA'
        injection hA' with e1 e2
        subst e1 e2
        exact hb')
      clear HXX
      generalize l[k] = x at *
      have HCV := hid hcv
      have HA2 := hid hA2
      clear hc hrd hcv hA2
      rw [unhid HA2]
      go_wp2_with fail
      have tok1 : True := trivial
      go_region_held3 (fun w' => w'.cell? ⟨b, off + k * 9 + 6, none⟩ = some (.int .i64 x.up) ∧ w'.cell? ⟨b, off + k * 9 + 7, none⟩ = some (.int .i64 x.down) ∧ Below wr.heap.size wr w') (first | (refine ⟨?_, ?_, ?_⟩ <;> assumption) | (exact ⟨by assumption, by assumption, Below.drew (Below.refl _ _)⟩) | go_keep)
        (first
          | (go_at_call 75; have _t := tok1; have hh := ‹_ ∧ _ ∧ Below wr.heap.size wr _›; refine (put_calls A' L c' x.up ((l.take k).flatMap sgH) _ ((unhid HRD).below hh.2.2) hLc (unhid HCM) (unhid HCN) (unhid HM) (by omega)).mono ?_; rintro e w2 ⟨A3, c3, L3, rfl, hM3, hr3, hle3, hcm3, hcn3, hll3, hb3⟩; have HM3 := hid hM3; have HR3 := hid hr3; have HCM3 := hid hcm3; have HCN3 := hid hcn3; clear hM3 hr3 hcm3 hcn3; have hB2 := hh.2.2.trans (hb3.mono hh.2.2.size); have q0 := (hB2.cell (p := ⟨b, off + k * 9 + 6, none⟩) hb).trans m6; have q1 := (hB2.cell (p := ⟨b, off + k * 9 + 7, none⟩) hb).trans m7; clear hh tok1 _t)
          | (go_at_call 75; have hh := ‹_ ∧ _ ∧ Below wr.heap.size wr _›; refine (put_calls A3 L3 c3 x.down (((l.take k).flatMap sgH) ++ [x.up]) _ (by first | exact unhid HR3 | exact (unhid HR3).below (Below.drew (Below.refl _ _))) hle3 (unhid HCM3) (unhid HCN3) (unhid HM3) (by omega)).mono ?_; rintro e w3 ⟨A4, c4, L4, rfl, hM4, hr4, hle4, hcm4, hcn4, hll4, hb4⟩; have HM4 := hid hM4; have HR4 := hid hr4; have HCM4 := hid hcm4; have HCN4 := hid hcn4; clear hM4 hr4 hcm4 hcn4; have hB2 := hh.2.2.trans (hb4.mono hh.2.2.size); have q0 := (hB2.cell (p := ⟨b, off + k * 9 + 6, none⟩) hb).trans m6; have q1 := (hB2.cell (p := ⟨b, off + k * 9 + 7, none⟩) hb).trans m7; clear hh))
      have hh := ‹_ ∧ _ ∧ Below wr.heap.size wr _›
      have HB4 := hid ((unhid HBL).trans (hh.2.2.mono (unhid HBL).size))
      clear hh HM3 HR3 hle3 HCM3 HCN3 hb3 hb4 hB2 q0 q1
      go_wp2_with fail
      go_loopw [7, 5] (fun i v wr => ∃ (q : Nat) (A' : Option Addr) (c' : Nat) (L : List Int), q ≤ x.cov.length ∧ i = .int .i64 q ∧ v = .slice A' L.length c' ∧ Mom ((l.take k).flatMap sgH ++ [x.up] ++ [x.down] ++ (x.cov.take q).flatMap fun c => [c.1, c.2]) L ∧ (Rd wr A' (ints L) ∧ L.length ≤ c' ∧ c' ≤ maxLen ∧ (A' = none → c' = 0)) ∧ L.length ≤ 22 * k + 2 + 2 * q ∧ Below w.heap.size w wr) (fun i _ _ => x.cov.length - (intOf i).toNat)
      case atStart => exact ⟨0, A4, c4, L4, Nat.zero_le _, rfl, rfl, by simpa using unhid HM4, ⟨unhid HR4, hle4, unhid HCM4, unhid HCN4⟩, by omega, unhid HB4⟩
      case round =>
        clear m0 m1 m2 m3 m4 m5 m6 m7 m8 HM HRD HCN HCM HBL HM4 HR4 HCM4 HCN4 HB4 hLc hLl hle4 hll4 hll3
        obtain ⟨q, A', c', L, hq, rfl, rfl, hM, ⟨hRd, hLc, hcm, hcn⟩, hLl, hbel⟩ := hrel
        have HM := hid hM
        have HRD := hid hRd
        have HCN := hid hcn
        have HCM := hid hcm
        have HBL := hid hbel
        clear hM hRd hcn hcm hbel
        have m8 := (unhid HCELL) _ (unhid HBL)
        have hb : b < wr.heap.size := Nat.lt_of_lt_of_le (unhid HBLT) (unhid HBL).size
        by_cases hqt : q < x.cov.length
        · obtain ⟨bc, oc, hcA, hbc, hcc⟩ := ((unhid HCV).below (unhid HBL)) (spans_ne hqt)
          obtain ⟨n0, n1⟩ := spans_cells' hcc hqt
          have HCK := hid (show (x.cov.take (q + 1)).flatMap (fun c => [c.1, c.2]) = (x.cov.take q).flatMap (fun c => [c.1, c.2]) ++ ([x.cov[q].1] ++ [x.cov[q].2]) from by rw [List.take_succ_eq_append_getElem hqt, List.flatMap_append]; simp)
          generalize x.cov[q] = y at *
          clear hcc
          rw [hcA] at m8
          go_wp2_with fail
          have tok1 : True := trivial
          go_region_held3 (fun w' => w'.cell? ⟨b, off + k * 9 + 8, none⟩ = some (.slice (some ⟨bc, oc, none⟩) x.cov.length x.cc) ∧ w'.cell? ⟨bc, oc + q * 2, none⟩ = some (.int .i64 y.1) ∧ w'.cell? ⟨bc, oc + q * 2 + 1, none⟩ = some (.int .i64 y.2) ∧ Below wr.heap.size wr w') (first | (refine ⟨?_, ?_, ?_, ?_⟩ <;> assumption) | (exact ⟨by assumption, by assumption, by assumption, Below.drew (Below.refl _ _)⟩) | go_keep)
            (first
              | (go_at_call 75; have _t := tok1; have hh := ‹_ ∧ _ ∧ _ ∧ Below wr.heap.size wr _›; refine (put_calls A' L c' y.1 ((l.take k).flatMap sgH ++ [x.up] ++ [x.down] ++ (x.cov.take q).flatMap fun c => [c.1, c.2]) _ ((unhid HRD).below hh.2.2.2) hLc (unhid HCM) (unhid HCN) (unhid HM) (by omega)).mono ?_; rintro e w2 ⟨A3, c3, L3, rfl, hM3, hr3, hle3, hcm3, hcn3, hll3, hb3⟩; have HM3 := hid hM3; have HR3 := hid hr3; have HCM3 := hid hcm3; have HCN3 := hid hcn3; clear hM3 hr3 hcm3 hcn3; have hB2 := hh.2.2.2.trans (hb3.mono hh.2.2.2.size); have q0 := (hB2.cell (p := ⟨b, off + k * 9 + 8, none⟩) hb).trans m8; have q1 := (hB2.cell (p := ⟨bc, oc + q * 2, none⟩) hbc).trans n0; have q2 := (hB2.cell (p := ⟨bc, oc + q * 2 + 1, none⟩) hbc).trans n1; clear hh tok1 _t)
              | (go_at_call 75; have hh := ‹_ ∧ _ ∧ _ ∧ Below wr.heap.size wr _›; refine (put_calls A3 L3 c3 y.2 (((l.take k).flatMap sgH ++ [x.up] ++ [x.down] ++ (x.cov.take q).flatMap fun c => [c.1, c.2]) ++ [y.1]) _ (by first | exact unhid HR3 | exact (unhid HR3).below (Below.drew (Below.refl _ _))) hle3 (unhid HCM3) (unhid HCN3) (unhid HM3) (by omega)).mono ?_; rintro e w3 ⟨A4, c4, L4, rfl, hM4, hr4, hle4, hcm4, hcn4, hll4, hb4⟩; have HM4 := hid hM4; have HR4 := hid hr4; have HCM4 := hid hcm4; have HCN4 := hid hcn4; clear hM4 hr4 hcm4 hcn4; have hB2 := hh.2.2.2.trans (hb4.mono hh.2.2.2.size); have q0 := (hB2.cell (p := ⟨b, off + k * 9 + 8, none⟩) hb).trans m8; have q1 := (hB2.cell (p := ⟨bc, oc + q * 2, none⟩) hbc).trans n0; have q2 := (hB2.cell (p := ⟨bc, oc + q * 2 + 1, none⟩) hbc).trans n1; clear hh))
          have hh := ‹_ ∧ _ ∧ _ ∧ Below wr.heap.size wr _›
          have HB4 := hid ((unhid HBL).trans (hh.2.2.2.mono (unhid HBL).size))
          clear hh HM3 HR3 hle3 HCM3 HCN3 hb3 hb4 hB2 q0 q1 q2
          go_wp2_with fail
          go_roundw
          case rel => exact ⟨q + 1, A4, c4, L4, by omega, by go_num, rfl, by rw [unhid HCK, ← List.append_assoc, ← List.append_assoc]; exact unhid HM4, ⟨unhid HR4, hle4, unhid HCM4, unhid HCN4⟩, by omega, unhid HB4⟩
          case measure => simp [intOf]; omega
        · obtain rfl : q = x.cov.length := by omega
          go_wp2_with fail
          go_roundw
          case rel =>
            refine ⟨k + 1, A', c', L, by omega, by go_num, rfl, ?_, ⟨unhid HRD, hLc, unhid HCM, unhid HCN⟩, by omega, unhid HBL⟩
            refine (unhid HM).congr fun y => ?_
            rw [unhid HTK, List.take_length]
            simp only [sgH, List.mem_append, List.mem_cons, List.not_mem_nil, or_false]
            simp [or_assoc]
          case measure => simp [intOf]; omega
    · obtain rfl : k = l.length := by omega
      have HM0 := hid (show Mom (l.flatMap sgH ++ (ed.take 0).flatMap edH) L from by simpa using unhid HM)
      go_wp2_with fail
      go_loopw [8, 5] (fun i v wr => ∃ (k : Nat) (A' : Option Addr) (c' : Nat) (L : List Int), k ≤ ed.length ∧ i = .int .i64 k ∧ v = .slice A' L.length c' ∧ Mom (l.flatMap sgH ++ (ed.take k).flatMap edH) L ∧ (Rd wr A' (ints L) ∧ L.length ≤ c' ∧ c' ≤ maxLen ∧ (A' = none → c' = 0)) ∧ L.length ≤ 22 * l.length + 2 * k ∧ Below w.heap.size w wr) (fun i _ _ => ed.length - (intOf i).toNat)
      case atStart => exact ⟨0, A', c', L, Nat.zero_le _, rfl, rfl, unhid HM0, ⟨unhid HRD, hLc, unhid HCM, unhid HCN⟩, by omega, unhid HBL⟩
      case round =>
        clear HM HRD HCN HCM HBL HM0 hLc hLl
        obtain ⟨k, A', c', L, hk, rfl, rfl, hM, ⟨hRd, hLc, hcm, hcn⟩, hLl, hbel⟩ := hrel
        have HM := hid hM
        have HRD := hid hRd
        have HCN := hid hcn
        have HCM := hid hcm
        have HBL := hid hbel
        clear hM hRd hcn hcm hbel
        by_cases hlt : k < ed.length
        · have hrd := (unhid HE).rd.below (unhid HBL)
          obtain ⟨b, off, hA3, hb, hc⟩ := hrd (edicts_ne hlt)
          obtain ⟨m0, m1, m2, m3, m4, m5, m6, m7⟩ := edicts_cells hc hlt
          have HTK := hid (show (ed.take (k + 1)).flatMap edH = (ed.take k).flatMap edH ++ edH ed[k] from by rw [List.take_succ_eq_append_getElem hlt, List.flatMap_append]; simp)
          generalize ed[k] = x at *
          have HA3 := hid hA3
          clear hc hrd hA3
          rw [unhid HA3]
          go_wp2_with fail
          have tok1 : True := trivial
          go_region_held3 (fun w' => w'.cell? ⟨b, off + k * 8 + 6, none⟩ = some (.int .i64 x.st) ∧ w'.cell? ⟨b, off + k * 8 + 7, none⟩ = some (.int .i64 x.en) ∧ Below wr.heap.size wr w') (first | (refine ⟨?_, ?_, ?_⟩ <;> assumption) | (exact ⟨by assumption, by assumption, Below.drew (Below.refl _ _)⟩) | go_keep)
            (first
              | (go_at_call 75; have _t := tok1; have hh := ‹_ ∧ _ ∧ Below wr.heap.size wr _›; refine (put_calls A' L c' x.st (l.flatMap sgH ++ (ed.take k).flatMap edH) _ ((unhid HRD).below hh.2.2) hLc (unhid HCM) (unhid HCN) (unhid HM) (by omega)).mono ?_; rintro e w2 ⟨A3, c3, L3, rfl, hM3, hr3, hle3, hcm3, hcn3, hll3, hb3⟩; have HM3 := hid hM3; have HR3 := hid hr3; have HCM3 := hid hcm3; have HCN3 := hid hcn3; clear hM3 hr3 hcm3 hcn3; have hB2 := hh.2.2.trans (hb3.mono hh.2.2.size); have q0 := (hB2.cell (p := ⟨b, off + k * 8 + 6, none⟩) hb).trans m6; have q1 := (hB2.cell (p := ⟨b, off + k * 8 + 7, none⟩) hb).trans m7; clear hh tok1 _t)
              | (go_at_call 75; have hh := ‹_ ∧ _ ∧ Below wr.heap.size wr _›; refine (put_calls A3 L3 c3 x.en ((l.flatMap sgH ++ (ed.take k).flatMap edH) ++ [x.st]) _ (by first | exact unhid HR3 | exact (unhid HR3).below (Below.drew (Below.refl _ _))) hle3 (unhid HCM3) (unhid HCN3) (unhid HM3) (by omega)).mono ?_; rintro e w3 ⟨A4, c4, L4, rfl, hM4, hr4, hle4, hcm4, hcn4, hll4, hb4⟩; have HM4 := hid hM4; have HR4 := hid hr4; have HCM4 := hid hcm4; have HCN4 := hid hcn4; clear hM4 hr4 hcm4 hcn4; have hB2 := hh.2.2.trans (hb4.mono hh.2.2.size); have q0 := (hB2.cell (p := ⟨b, off + k * 8 + 6, none⟩) hb).trans m6; have q1 := (hB2.cell (p := ⟨b, off + k * 8 + 7, none⟩) hb).trans m7; clear hh))
          have hh := ‹_ ∧ _ ∧ Below wr.heap.size wr _›
          have HB4 := hid ((unhid HBL).trans (hh.2.2.mono (unhid HBL).size))
          clear hh HM3 HR3 hle3 HCM3 HCN3 hb3 hb4 hB2 q0 q1
          go_wp2_with fail
          go_roundw
          case rel => exact ⟨k + 1, A4, c4, L4, by omega, by go_num, rfl, by rw [unhid HTK, show edH x = [x.st] ++ [x.en] from rfl, ← List.append_assoc, ← List.append_assoc]; exact unhid HM4, ⟨unhid HR4, hle4, unhid HCM4, unhid HCN4⟩, by omega, unhid HB4⟩
          case measure => simp [intOf]; omega
        · obtain rfl : k = ed.length := by omega
          rw [List.take_length] at HM
          go_wp2_with fail
          go_ret
          exact ⟨A', c', L, rfl, unhid HM, unhid HRD, hLc, unhid HCM, unhid HCN, by omega, unhid HBL⟩
end

section
theorem EdsOk.nilR (w : World) : EdsOk w none [] := ⟨by simp, Rd.nil _ _, fun s h => by cases h⟩
def RHistPost (n : Nat) (js : List Int) (l : List Sg) (dir topic m : Int) (w : World) (e : Ending) (w' : World) : Prop :=
  ∃ (A' : Option Addr) (c' : Nat) (T : List Td), e = .returned (.slice A' T.length c') ∧ (∃ hl, Mom (momH l [] ++ [0]) hl ∧ T = tdRun hl (tdV n js l dir topic m) hl.length) ∧ Rd w' A' (tds T) ∧ T.length ≤ 4000 ∧ Below w.heap.size w w'

set_option maxHeartbeats 4000000 in
set_option maxRecDepth 100000 in
theorem rhistory_calls (n : Nat) (A : Option Addr) (js : List Int) (c : Nat) (A2 : Option Addr) (l : List Sg) (c2 : Nat) (dir topic m : Int) (w : World) (hl : LnOk w A js) (hs : SgsOk w A2 l) (hv : lineB n js = true) (hv2 : sgsB n js l = true) (hm1 : 0 ≤ m) (hm2 : m ≤ (n : Int) - 1) :
    Calls Tryz.prog 35 #[.agg #[.int .i64 n, .slice A js.length c], .slice A2 l.length c2, .int .i64 dir, .int .i64 topic, .int .i64 m] w (RHistPost n js l dir topic m w) := by
  have HL := hid hl
  have HS := hid hs
  have HV1 := hid hv
  have HV2 := hid hv2
  have hl100 := sgsB_len hv2
  have HCB := hid (cov_bounds hv2)
  have HVV := hid (fun h R (hr : InsRow n h dir l R) => (show holdP n js (mtl n dir R) dir topic (metreI n dir m) = tdV n js l dir topic m h from by rw [tdV, rowM_ins hr (sgsB_nodup hv2)]))
  clear hl hs hv hv2
  generalize hV : tdV n js l dir topic m = V at HVV
  have HVE := hid hV
  clear hV
  obtain ⟨i0, hi, hz0, hz1, hz2⟩ := info_parts info_told
  go_enter Tryz.func35, Tryz.ntmps35
  go_wp2_with fail
  generalize hW : w.alloc _ = w1
  have hB1 : w.heap.size < w1.heap.size := by rw [← hW]; simp
  have d0 : w1.cell? ⟨w.heap.size, 0, none⟩ = some (.int .i64 n) := by rw [← hW]; simp [go_sem]
  have d1 : w1.cell? ⟨w.heap.size, 1, none⟩ = some (.slice A js.length c) := by rw [← hW]; simp [go_sem]
  have hbw1 : Below w.heap.size w w1 := by rw [← hW]; exact below_alloc _ _
  clear hW
  refine (rmoments_calls A2 l c2 none [] 0 _ ((unhid HS).below hbw1) (EdsOk.nilR _) hl100 (unhid HCB) (by simp)).mono ?_
  rintro e w2 ⟨A6, c6, L, rfl, hM, hrdL, hLc, hcm, hcn, hL3, hb2⟩
  have HM := hid hM
  have HCM := hid hcm
  have HCN := hid hcn
  have HRL := hid hrdL
  clear hM hcm hcn hrdL
  go_wp2_with fail
  refine (put_calls A6 L c6 0 (momH l []) _ (unhid HRL) hLc (unhid HCM) (unhid HCN) (unhid HM) (by omega)).mono ?_
  rintro e w3 ⟨A7, c7, HQ, rfl, hHM, hrdH, -, -, -, hHl, hb3⟩
  have HHM := hid hHM
  have HRH := hid hrdH
  have hb13 := hb2.trans (hb3.mono hb2.size)
  have d0w := (hb13.cell (p := ⟨w.heap.size, 0, none⟩) hB1).trans d0
  have d1w := (hb13.cell (p := ⟨w.heap.size, 1, none⟩) hB1).trans d1
  have hB3 : w.heap.size < w3.heap.size := Nat.lt_of_lt_of_le hB1 hb13.size
  have HW3 := hid (hbw1.trans (hb13.mono hbw1.size))
  clear hHM hrdH hb2 hb3 hb13 HM HCM HCN HRL hLc d0 d1
  go_wp2_with fail
  go_loopw [12, 13] (fun v i wr => ∃ (k : Nat) (A6 : Option Addr) (c6 : Nat) (o : List Td), k ≤ HQ.length ∧ i = .int .i64 k ∧ v = .slice A6 o.length c6 ∧ tdRun HQ V k = o ∧ wr.ownsRow w3.heap.size 76 3 (.slice A6 o.length c6) o.length (tds o) ∧ Below w3.heap.size w3 wr) (fun _ i _ => HQ.length - (intOf i).toNat)
  case atStart => exact ⟨0, none, 0, [], Nat.zero_le _, rfl, rfl, rfl, World.ownsRow_nil _ _ _ _, Below.refl _ _⟩
  case round =>
    obtain ⟨k, A6, c6, o, hk, rfl, rfl, ho, hown, hbel⟩ := hrel
    have HO := hid hown
    have HOE := hid ho
    have holen : o.length ≤ 3001 := by have := tdRun_len HQ V k; rw [ho] at this; omega
    clear hown ho
    by_cases hkt : k < HQ.length
    · have f0 := (hbel.cell (p := ⟨w.heap.size, 0, none⟩) hB3).trans d0w
      have f1 := (hbel.cell (p := ⟨w.heap.size, 1, none⟩) hB3).trans d1w
      have hBr := Nat.lt_of_lt_of_le hB3 hbel.size
      have HBW := hid ((unhid HW3).trans (hbel.mono (unhid HW3).size))
      obtain ⟨bh, oh, hA, hbh, hch⟩ := ((unhid HRH).below hbel) (ints_ne hkt)
      subst hA
      have c0 := hch k _ (ints_at HQ k hkt)
      have HSC := hid (show tdRun HQ V (k + 1) = tdStep o HQ[k] (HQ.getD (k + 1) 10000001) (V HQ[k]) from by
        rw [tdRun_succ, unhid HOE, List.getD_eq_getElem?_getD, List.getD_eq_getElem?_getD, List.getElem?_eq_getElem hkt]; rfl)
      generalize HQ[k] = hrr at *
      by_cases hk1 : k + 1 < HQ.length
      · have c1 := hch (k + 1) _ (ints_at HQ (k + 1) hk1)
        have hnx : HQ.getD (k + 1) 10000001 = HQ[k + 1] := by rw [List.getD_eq_getElem?_getD, List.getElem?_eq_getElem hk1]; rfl
        rw [hnx] at HSC
        generalize HQ[k + 1] = nx at *
        have hj1 : ((k : Int) + 1) < (HQ.length : Int) := by omega
        have hj2 : IntKind.i64.wrap ((k : Int) + 1) = (k : Int) + 1 := IntWalk.i64_in _ (by omega)
        have hj3 : ((k : Int) + 1).toNat = k + 1 := by omega
        have hj4 : (0 : Int) ≤ (k : Int) + 1 := by omega
        have := decide_eq_true (show ((k : Int) + 1) < (HQ.length : Int) by omega)
        clear hch hnx
        go_wp2_with fail
        go_region_held3 (fun w' => w'.cell? ⟨w.heap.size, 0, none⟩ = some (.int .i64 n) ∧ w'.cell? ⟨w.heap.size, 1, none⟩ = some (.slice A js.length c) ∧ w'.cell? ⟨bh, oh + k, none⟩ = some (.int .i64 hrr) ∧ Below wr.heap.size wr w') (first | (refine ⟨?_, ?_, ?_, ?_⟩ <;> assumption) | (exact ⟨by assumption, by assumption, by assumption, Below.drew (Below.refl _ _)⟩) | go_keep)
          (first
            | (go_at_call 76; have hh := ‹_ ∧ _ ∧ _ ∧ Below wr.heap.size wr _›; refine (rholds_calls n A js c A2 l c2 hrr dir topic m _ ((unhid HL).below ((unhid HBW).trans (hh.2.2.2.mono (unhid HBW).size))) ((unhid HS).below ((unhid HBW).trans (hh.2.2.2.mono (unhid HBW).size))) (unhid HV1) (unhid HV2) hm1 hm2).mono ?_; rintro e v2 ⟨R, hrow, rfl, hb2⟩; have hB2 := hh.2.2.2.trans (hb2.mono hh.2.2.2.size); have e0 := (hB2.cell (p := ⟨w.heap.size, 0, none⟩) hBr).trans f0; have e1 := (hB2.cell (p := ⟨w.heap.size, 1, none⟩) hBr).trans f1; have e2 := (hB2.cell (p := ⟨bh, oh + k, none⟩) hbh).trans c0; clear hh))
        have hh := ‹_ ∧ _ ∧ _ ∧ Below wr.heap.size wr _›
        rw [(unhid HVV) hrr R hrow]
        have c0 := hh.2.2.1
        have HO := hid (own_below (unhid HO) hh.2.2.2)
        have HBX := hid (hbel.trans (hh.2.2.2.mono hbel.size))
        generalize V hrr = v at *
        clear hh hrow hb2 HBW f0 f1 hBr e0 e1 hB2
        by_cases hol : 0 < o.length
        · have := decide_eq_true (show (0 : Int) < (o.length : Int) by omega)
          obtain ⟨g2, cg, hvv, hbg, hgs, hcells⟩ := own_some (unhid HO) hol
          injection hvv with hv1 hv2 hv3
          subst hv1 hv3
          obtain ⟨q, hq⟩ : ∃ q, o.length = q + 1 := ⟨o.length - 1, by omega⟩
          have hq1 : IntKind.i64.wrap ((o.length : Int) - 1) = (o.length : Int) - 1 := IntWalk.i64_in _ (by omega)
          have hq2 : (0 : Int) ≤ (o.length : Int) - 1 := by omega
          have hq3 : ((o.length : Int) - 1).toNat = q := by omega
          have hq4 : (o.length : Int) - 1 < (o.length : Int) := by omega
          have hq5 : q < o.length := by omega
          have HQ5 := hid hq
          clear hq
          obtain ⟨t0, t1, t2⟩ := tds_cells (b := g2) (off := 0) (l := o) (fun j u hu => by rw [Nat.zero_add]; exact hcells j u hu) hq5
          rw [Nat.zero_add] at t0 t1 t2
          have HLA := hid (last_of (unhid HQ5))
          have HST := hid (tds_set o q nx hq5)
          clear hcells t0
          generalize o[q]'hq5 = y at *
          have tf := (unhid HO).frozenAt (q * 3 + 1)
          by_cases hyv : y.val = v
          · have hyv' : (y.val == v) = true := by simpa using hyv
            have HNX := hid (show tdRun HQ V (k + 1) = o.set q ⟨y.fr, nx, y.val⟩ from by rw [unhid HSC]; exact td_same (unhid HQ5) (unhid HLA) hyv)
            clear hyv
            go_wp2_with fail
            go_roundw
            case rel =>
              have h9 := (unhid HO).stored (q * 3 + 1) (.int .i64 nx)
              refine ⟨k + 1, _, c6, o.set q ⟨y.fr, nx, y.val⟩, by omega, by go_num, by rw [List.length_set], unhid HNX, ?_, Below.setCell (unhid HBX) hbg _⟩
              rw [List.length_set, ← unhid HST]; exact h9.1
            case measure => simp [intOf]; omega
          · have hyv' : (y.val == v) = false := by simpa using hyv
            have HNX := hid (show tdRun HQ V (k + 1) = o ++ [⟨hrr, nx, v⟩] from by rw [unhid HSC]; exact td_diff (unhid HLA) hyv)
            clear hyv
            go_wp2_with (at_builtin; refine wpList_append_lies _ rfl _ _ 62 rfl w3.heap.size 76 i0 (.agg #[.int .i64 0, .int .i64 0, .int .i64 0]) 3 24 Tryz.underlying62 hi hz0 hz1 hz2 rfl (by decide) _ _ _ rfl ((unhid HO).alloc _) ⟨v2.heap.size, 0, none⟩ 1 1 [.int .i64 hrr, .int .i64 nx, .int .i64 v] rfl rfl (World.news_of_block (cs := #[.int .i64 hrr, .int .i64 nx, .int .i64 v]) (t := 76) (fr := (0, 0)) (heap_alloc_new v2 _)) ?_ (by decide) ?_ ?_ ?_ (v2.heap.size + 1) (by simp) ?_)
            all_goals try (first | (unfold maxLen; omega) | omega | (have := (unhid HBX).size; simp; omega) | exact ⟨rfl, rfl, rfl⟩ | (intro u hu; simp at hu; rcases hu with rfl | rfl | rfl <;> rfl))
            intro g8 c8 w8 hown8 hg8 hat8 hlt8
            have hb8 : Below w3.heap.size w3 w8 := by
              have hbx := unhid HBX
              refine Below.grown (hbx.alloc hbx.size _) hg8 (by have := hbx.size; simp; omega) (fun i hi => ?_)
              exact (own_lt' (unhid HO) hi).1
            have HO8 := hid hown8
            clear hown8 hg8 hat8 hlt8
            go_wp2_with fail
            go_roundw
            case rel =>
              refine ⟨k + 1, some ⟨g8, 0, none⟩, c8, o ++ [⟨hrr, nx, v⟩], by omega, by go_num, by simp, unhid HNX, ?_, hb8⟩
              have h5 := unhid HO8
              rw [show (o ++ [(⟨hrr, nx, v⟩ : Td)]).length = o.length + 1 from by simp, show tds (o ++ [(⟨hrr, nx, v⟩ : Td)]) = tds o ++ [.int .i64 hrr, .int .i64 nx, .int .i64 v] from by simp [tds, tdC]]
              exact h5
            case measure => simp [intOf]; omega
        · have := decide_eq_false (show ¬ ((0 : Int) < (o.length : Int)) by omega)
          have HNX := hid (show tdRun HQ V (k + 1) = o ++ [⟨hrr, nx, v⟩] from by rw [unhid HSC]; exact td_nil (by omega))
          go_wp2_with (at_builtin; refine wpList_append_lies _ rfl _ _ 62 rfl w3.heap.size 76 i0 (.agg #[.int .i64 0, .int .i64 0, .int .i64 0]) 3 24 Tryz.underlying62 hi hz0 hz1 hz2 rfl (by decide) _ _ _ rfl ((unhid HO).alloc _) ⟨v2.heap.size, 0, none⟩ 1 1 [.int .i64 hrr, .int .i64 nx, .int .i64 v] rfl rfl (World.news_of_block (cs := #[.int .i64 hrr, .int .i64 nx, .int .i64 v]) (t := 76) (fr := (0, 0)) (heap_alloc_new v2 _)) ?_ (by decide) ?_ ?_ ?_ (v2.heap.size + 1) (by simp) ?_)
          all_goals try (first | (unfold maxLen; omega) | omega | (have := (unhid HBX).size; simp; omega) | exact ⟨rfl, rfl, rfl⟩ | (intro u hu; simp at hu; rcases hu with rfl | rfl | rfl <;> rfl))
          intro g8 c8 w8 hown8 hg8 hat8 hlt8
          have hb8 : Below w3.heap.size w3 w8 := by
            have hbx := unhid HBX
            refine Below.grown (hbx.alloc hbx.size _) hg8 (by have := hbx.size; simp; omega) (fun i hi => ?_)
            exact (own_lt' (unhid HO) hi).1
          have HO8 := hid hown8
          clear hown8 hg8 hat8 hlt8
          go_wp2_with fail
          go_roundw
          case rel =>
            refine ⟨k + 1, some ⟨g8, 0, none⟩, c8, o ++ [⟨hrr, nx, v⟩], by omega, by go_num, by simp, unhid HNX, ?_, hb8⟩
            have h5 := unhid HO8
            rw [show (o ++ [(⟨hrr, nx, v⟩ : Td)]).length = o.length + 1 from by simp, show tds (o ++ [(⟨hrr, nx, v⟩ : Td)]) = tds o ++ [.int .i64 hrr, .int .i64 nx, .int .i64 v] from by simp [tds, tdC]]
            exact h5
          case measure => simp [intOf]; omega
      · have hnx : HQ.getD (k + 1) 10000001 = 10000001 := by rw [List.getD_eq_getElem?_getD, List.getElem?_eq_none (by omega)]; rfl
        rw [hnx] at HSC
        obtain ⟨nx, hne⟩ : ∃ nx : Int, nx = 10000001 := ⟨_, rfl⟩
        rw [← hne] at HSC
        have HNE := hid hne
        have hj2 : IntKind.i64.wrap ((k : Int) + 1) = (k : Int) + 1 := IntWalk.i64_in _ (by omega)
        have := decide_eq_false (show ¬ (((k : Int) + 1) < (HQ.length : Int)) by omega)
        clear hch hnx hne
        go_wp2_with fail
        rw [← unhid HNE]
        go_region_held3 (fun w' => w'.cell? ⟨w.heap.size, 0, none⟩ = some (.int .i64 n) ∧ w'.cell? ⟨w.heap.size, 1, none⟩ = some (.slice A js.length c) ∧ w'.cell? ⟨bh, oh + k, none⟩ = some (.int .i64 hrr) ∧ Below wr.heap.size wr w') (first | (refine ⟨?_, ?_, ?_, ?_⟩ <;> assumption) | (exact ⟨by assumption, by assumption, by assumption, Below.drew (Below.refl _ _)⟩) | go_keep)
          (first
            | (go_at_call 76; have hh := ‹_ ∧ _ ∧ _ ∧ Below wr.heap.size wr _›; refine (rholds_calls n A js c A2 l c2 hrr dir topic m _ ((unhid HL).below ((unhid HBW).trans (hh.2.2.2.mono (unhid HBW).size))) ((unhid HS).below ((unhid HBW).trans (hh.2.2.2.mono (unhid HBW).size))) (unhid HV1) (unhid HV2) hm1 hm2).mono ?_; rintro e v2 ⟨R, hrow, rfl, hb2⟩; have hB2 := hh.2.2.2.trans (hb2.mono hh.2.2.2.size); have e0 := (hB2.cell (p := ⟨w.heap.size, 0, none⟩) hBr).trans f0; have e1 := (hB2.cell (p := ⟨w.heap.size, 1, none⟩) hBr).trans f1; have e2 := (hB2.cell (p := ⟨bh, oh + k, none⟩) hbh).trans c0; clear hh))
        have hh := ‹_ ∧ _ ∧ _ ∧ Below wr.heap.size wr _›
        rw [(unhid HVV) hrr R hrow]
        have c0 := hh.2.2.1
        have HO := hid (own_below (unhid HO) hh.2.2.2)
        have HBX := hid (hbel.trans (hh.2.2.2.mono hbel.size))
        generalize V hrr = v at *
        clear hh hrow hb2 HBW f0 f1 hBr e0 e1 hB2
        by_cases hol : 0 < o.length
        · have := decide_eq_true (show (0 : Int) < (o.length : Int) by omega)
          obtain ⟨g2, cg, hvv, hbg, hgs, hcells⟩ := own_some (unhid HO) hol
          injection hvv with hv1 hv2 hv3
          subst hv1 hv3
          obtain ⟨q, hq⟩ : ∃ q, o.length = q + 1 := ⟨o.length - 1, by omega⟩
          have hq1 : IntKind.i64.wrap ((o.length : Int) - 1) = (o.length : Int) - 1 := IntWalk.i64_in _ (by omega)
          have hq2 : (0 : Int) ≤ (o.length : Int) - 1 := by omega
          have hq3 : ((o.length : Int) - 1).toNat = q := by omega
          have hq4 : (o.length : Int) - 1 < (o.length : Int) := by omega
          have hq5 : q < o.length := by omega
          have HQ5 := hid hq
          clear hq
          obtain ⟨t0, t1, t2⟩ := tds_cells (b := g2) (off := 0) (l := o) (fun j u hu => by rw [Nat.zero_add]; exact hcells j u hu) hq5
          rw [Nat.zero_add] at t0 t1 t2
          have HLA := hid (last_of (unhid HQ5))
          have HST := hid (tds_set o q nx hq5)
          clear hcells t0
          generalize o[q]'hq5 = y at *
          have tf := (unhid HO).frozenAt (q * 3 + 1)
          by_cases hyv : y.val = v
          · have hyv' : (y.val == v) = true := by simpa using hyv
            have HNX := hid (show tdRun HQ V (k + 1) = o.set q ⟨y.fr, nx, y.val⟩ from by rw [unhid HSC]; exact td_same (unhid HQ5) (unhid HLA) hyv)
            clear hyv
            go_wp2_with fail
            go_roundw
            case rel =>
              have h9 := (unhid HO).stored (q * 3 + 1) (.int .i64 nx)
              refine ⟨k + 1, _, c6, o.set q ⟨y.fr, nx, y.val⟩, by omega, by go_num, by rw [List.length_set], unhid HNX, ?_, Below.setCell (unhid HBX) hbg _⟩
              rw [List.length_set, ← unhid HST]; exact h9.1
            case measure => simp [intOf]; omega
          · have hyv' : (y.val == v) = false := by simpa using hyv
            have HNX := hid (show tdRun HQ V (k + 1) = o ++ [⟨hrr, nx, v⟩] from by rw [unhid HSC]; exact td_diff (unhid HLA) hyv)
            clear hyv
            go_wp2_with (at_builtin; refine wpList_append_lies _ rfl _ _ 62 rfl w3.heap.size 76 i0 (.agg #[.int .i64 0, .int .i64 0, .int .i64 0]) 3 24 Tryz.underlying62 hi hz0 hz1 hz2 rfl (by decide) _ _ _ rfl ((unhid HO).alloc _) ⟨v2.heap.size, 0, none⟩ 1 1 [.int .i64 hrr, .int .i64 nx, .int .i64 v] rfl rfl (World.news_of_block (cs := #[.int .i64 hrr, .int .i64 nx, .int .i64 v]) (t := 76) (fr := (0, 0)) (heap_alloc_new v2 _)) ?_ (by decide) ?_ ?_ ?_ (v2.heap.size + 1) (by simp) ?_)
            all_goals try (first | (unfold maxLen; omega) | omega | (have := (unhid HBX).size; simp; omega) | exact ⟨rfl, rfl, rfl⟩ | (intro u hu; simp at hu; rcases hu with rfl | rfl | rfl <;> rfl))
            intro g8 c8 w8 hown8 hg8 hat8 hlt8
            have hb8 : Below w3.heap.size w3 w8 := by
              have hbx := unhid HBX
              refine Below.grown (hbx.alloc hbx.size _) hg8 (by have := hbx.size; simp; omega) (fun i hi => ?_)
              exact (own_lt' (unhid HO) hi).1
            have HO8 := hid hown8
            clear hown8 hg8 hat8 hlt8
            go_wp2_with fail
            go_roundw
            case rel =>
              refine ⟨k + 1, some ⟨g8, 0, none⟩, c8, o ++ [⟨hrr, nx, v⟩], by omega, by go_num, by simp, unhid HNX, ?_, hb8⟩
              have h5 := unhid HO8
              rw [show (o ++ [(⟨hrr, nx, v⟩ : Td)]).length = o.length + 1 from by simp, show tds (o ++ [(⟨hrr, nx, v⟩ : Td)]) = tds o ++ [.int .i64 hrr, .int .i64 nx, .int .i64 v] from by simp [tds, tdC]]
              exact h5
            case measure => simp [intOf]; omega
        · have := decide_eq_false (show ¬ ((0 : Int) < (o.length : Int)) by omega)
          have HNX := hid (show tdRun HQ V (k + 1) = o ++ [⟨hrr, nx, v⟩] from by rw [unhid HSC]; exact td_nil (by omega))
          go_wp2_with (at_builtin; refine wpList_append_lies _ rfl _ _ 62 rfl w3.heap.size 76 i0 (.agg #[.int .i64 0, .int .i64 0, .int .i64 0]) 3 24 Tryz.underlying62 hi hz0 hz1 hz2 rfl (by decide) _ _ _ rfl ((unhid HO).alloc _) ⟨v2.heap.size, 0, none⟩ 1 1 [.int .i64 hrr, .int .i64 nx, .int .i64 v] rfl rfl (World.news_of_block (cs := #[.int .i64 hrr, .int .i64 nx, .int .i64 v]) (t := 76) (fr := (0, 0)) (heap_alloc_new v2 _)) ?_ (by decide) ?_ ?_ ?_ (v2.heap.size + 1) (by simp) ?_)
          all_goals try (first | (unfold maxLen; omega) | omega | (have := (unhid HBX).size; simp; omega) | exact ⟨rfl, rfl, rfl⟩ | (intro u hu; simp at hu; rcases hu with rfl | rfl | rfl <;> rfl))
          intro g8 c8 w8 hown8 hg8 hat8 hlt8
          have hb8 : Below w3.heap.size w3 w8 := by
            have hbx := unhid HBX
            refine Below.grown (hbx.alloc hbx.size _) hg8 (by have := hbx.size; simp; omega) (fun i hi => ?_)
            exact (own_lt' (unhid HO) hi).1
          have HO8 := hid hown8
          clear hown8 hg8 hat8 hlt8
          go_wp2_with fail
          go_roundw
          case rel =>
            refine ⟨k + 1, some ⟨g8, 0, none⟩, c8, o ++ [⟨hrr, nx, v⟩], by omega, by go_num, by simp, unhid HNX, ?_, hb8⟩
            have h5 := unhid HO8
            rw [show (o ++ [(⟨hrr, nx, v⟩ : Td)]).length = o.length + 1 from by simp, show tds (o ++ [(⟨hrr, nx, v⟩ : Td)]) = tds o ++ [.int .i64 hrr, .int .i64 nx, .int .i64 v] from by simp [tds, tdC]]
            exact h5
          case measure => simp [intOf]; omega
    · obtain rfl : k = HQ.length := by omega
      obtain ⟨A9, c9, hv9, hrd9, -⟩ := own_slice (unhid HO)
      injection hv9 with r1 r2 r3
      subst r1
      go_wp2_with fail
      go_ret
      exact ⟨A6, c6, o, by rw [r3]; rfl, ⟨HQ, unhid HHM, by rw [unhid HVE]; exact (unhid HOE).symm⟩, hrd9, by omega, (unhid HW3).trans (hbel.mono (unhid HW3).size)⟩

set_option maxHeartbeats 1000000 in
theorem sameTold_calls (A : Option Addr) (l : List Td) (c : Nat) (A2 : Option Addr) (c2 : Nat) (w : World) (h : Rd w A (tds l)) (h2 : Rd w A2 (tds l)) (hn : l.length ≤ 100000000000) :
    Calls Tryz.prog 36 #[.slice A l.length c, .slice A2 l.length c2] w fun e w' => e = .returned (.bool true) ∧ Below w.heap.size w w' := by
  have H1 := hid h
  have H2 := hid h2
  clear h h2
  have hlen' : ((l.length : Int) != (l.length : Int)) = false := by simp
  go_enter Tryz.func36, Tryz.ntmps36
  go_wp2_with fail
  go_loopw [5] (fun i wr => ∃ k : Nat, k ≤ l.length ∧ i = .int .i64 k ∧ ∃ n, wr = w.drewN n) (fun i _ => l.length - (intOf i).toNat)
  case atStart => exact ⟨0, Nat.zero_le _, rfl, 0, rfl⟩
  case round =>
    obtain ⟨k, hk, rfl, n, rfl⟩ := hrel
    by_cases hlt : k < l.length
    · obtain ⟨b, off, rfl, hb, hc⟩ := (unhid H1) (tds_ne hlt)
      obtain ⟨b2, off2, rfl, hb2, hc2⟩ := (unhid H2) (tds_ne hlt)
      obtain ⟨m0, m1, m2⟩ := tds_cells hc hlt
      obtain ⟨n0, n1, n2⟩ := tds_cells hc2 hlt
      clear hc hc2
      generalize hx : l[k] = x at *
      clear hx
      have b0 : (x.fr == x.fr) = true := by simp
      have b1 : (x.til == x.til) = true := by simp
      have b2 : (x.val == x.val) = true := by simp
      go_wp2_with fail
      go_quiet (fail)
      go_wp2_with fail
      go_roundw
      case rel => exact ⟨k + 1, by omega, by go_num, _, rfl⟩
      case measure => simp [intOf]; omega
    · go_wp2_with fail
      go_ret
      exact ⟨rfl, below_drewN' (Below.refl _ _) _⟩
end

section
def MomentsPost (len : Int) (js : List Int) (l : List Sg) (ed : List Ed) (w : World) (e : Ending) (w' : World) : Prop :=
  ∃ (A' : Option Addr) (c' : Nat) (L : List Int), e = .returned (.tuple #[.slice A' L.length c', .int .i64 (allE len js l ed 0)]) ∧ (allE len js l ed 0 = 0 → Mom (momH l ed) L) ∧ (allE len js l ed 0 ≠ 0 → L = []) ∧ Rd w' A' (ints L) ∧ L.length ≤ 3000 ∧ Below w.heap.size w w'
theorem allE_zeroM {len : Int} {js : List Int} {l : List Sg} {ed : List Ed} {hour : Int} (h : allE len js l ed hour = 0) : lineB len js = true ∧ sgsB len js l = true ∧ edsB len js ed = true := by
  unfold allE at h
  split at h
  · omega
  · rename_i h1
    split at h
    · omega
    · rename_i h2
      split at h
      · omega
      · rename_i h3
        exact ⟨by simpa using h1, by simpa using h2, by simpa using h3⟩
set_option maxHeartbeats 1000000 in
theorem rmomentsL_calls (len : Int) (A : Option Addr) (js : List Int) (c : Nat) (A2 : Option Addr) (l : List Sg) (c2 : Nat) (A3 : Option Addr) (ed : List Ed) (c3 : Nat) (w : World) (hl : LnOk w A js) (hs : SgsOk w A2 l) (he : EdsOk w A3 ed) :
    Calls Tryz.prog 32 #[.agg #[.int .i64 len, .slice A js.length c], .slice A2 l.length c2, .slice A3 ed.length c3] w (MomentsPost len js l ed w) := by
  have HL := hid hl
  have HS := hid hs
  have HE := hid he
  clear hl hs he
  go_enter Tryz.func32, Tryz.ntmps32
  go_wp2_with fail
  refine (all_calls len A js c A2 l c2 A3 ed c3 0 _ ((unhid HL).below (below_alloc _ _)) ((unhid HS).below (below_alloc _ _)) ((unhid HE).below (below_alloc _ _))).mono ?_
  rintro e w1 ⟨rfl, hb1⟩
  have hbw1 : Below w.heap.size w w1 := (below_alloc w _).trans (hb1.mono (by simp))
  clear hb1
  generalize hal : allE len js l ed 0 = al
  by_cases h0 : al = 0
  · subst h0
    have hv := allE_zeroM hal
    have HAL := hid hal
    clear hal
    go_wp2_with fail
    refine (moments_calls A2 l c2 A3 ed c3 _ ((unhid HS).below hbw1) ((unhid HE).below hbw1) (sgsB_len hv.2.1) (cov_bounds hv.2.1) (edsB_len hv.2.2) (mom_bounds hv.2.1 hv.2.2)).mono ?_
    rintro e w2 ⟨A6, c6, L, rfl, hM, hrd, hL, hb2⟩
    go_wp2_with fail
    go_ret2
    exact ⟨A6, c6, L, by rw [unhid HAL]; rfl, fun _ => hM, fun h => absurd (unhid HAL) h, hrd, hL, hbw1.trans (hb2.mono hbw1.size)⟩
  · have h0' : (al != 0) = true := by simpa using h0
    have HAL := hid hal
    have H0 := hid h0
    clear hal h0
    go_wp2_with fail
    go_ret2
    exact ⟨none, 0, [], by rw [unhid HAL]; rfl, fun h => absurd ((unhid HAL).symm.trans h) (unhid H0), fun _ => rfl, Rd.nil _ _, by simp, hbw1⟩

theorem edsB_nilH {len : Int} {js : List Int} (h : lineB len js = true) : edsB len js [] = true := by simp [edsB, h]
theorem EdsOk.nilH (w : World) : EdsOk w none [] := ⟨by simp, Rd.nil _ _, fun s h => by cases h⟩
def HistPost (len : Int) (js : List Int) (l : List Sg) (dir topic m : Int) (w : World) (e : Ending) (w' : World) : Prop :=
  ∃ (A' : Option Addr) (c' : Nat) (T : List Td), e = .returned (.tuple #[.slice A' T.length c', .int .i64 (holdsE len js l 0 dir topic m)]) ∧
    (holdsE len js l 0 dir topic m = 0 → ∃ hl, Mom (momH l [] ++ [0]) hl ∧ T = tdRun hl (tdV len js l dir topic m) hl.length) ∧ (holdsE len js l 0 dir topic m ≠ 0 → T = []) ∧ Rd w' A' (tds T) ∧ T.length ≤ 4000 ∧ Below w.heap.size w w'

set_option maxHeartbeats 4000000 in
set_option maxRecDepth 100000 in
theorem history_calls (len : Int) (A : Option Addr) (js : List Int) (c : Nat) (A2 : Option Addr) (l : List Sg) (c2 : Nat) (dir topic m : Int) (w : World) (hl : LnOk w A js) (hs : SgsOk w A2 l) (hlen : I64 len) :
    Calls Tryz.prog 33 #[.agg #[.int .i64 len, .slice A js.length c], .slice A2 l.length c2, .int .i64 dir, .int .i64 topic, .int .i64 m] w (HistPost len js l dir topic m w) := by
  have HL := hid hl
  have HS := hid hs
  clear hl hs
  obtain ⟨i0, hi, hz0, hz1, hz2⟩ := info_parts info_told
  go_enter Tryz.func33, Tryz.ntmps33
  go_wp2_with fail
  refine (asked_calls len A js c A2 l c2 0 dir topic _ ((unhid HL).below (below_alloc _ _)) ((unhid HS).below (below_alloc _ _))).mono ?_
  rintro e w1 ⟨rfl, hb1⟩
  have d0 := hb1.cell (p := ⟨w.heap.size, 0, none⟩) (by simp)
  have d1 := hb1.cell (p := ⟨w.heap.size, 1, none⟩) (by simp)
  simp [go_sem] at d0 d1
  have hbw1 : Below w.heap.size w w1 := (below_alloc w _).trans (hb1.mono (by simp))
  have hB1 : w.heap.size < w1.heap.size := Nat.lt_of_lt_of_le (by simp) hb1.size
  clear hb1
  have hee : holdsE len js l 0 dir topic m = if askedE len js l 0 dir topic ≠ 0 then askedE len js l 0 dir topic else if 0 ≤ m ∧ m ≤ len - 1 then 0 else 2 := rfl
  generalize he : askedE len js l 0 dir topic = er at *
  by_cases h0 : er = 0
  · subst h0
    have hv := askedE_zero he
    clear he
    have hlen2 := lineB_len hv.1
    obtain ⟨n, rfl⟩ := Int.eq_ofNat_of_zero_le (show 0 ≤ len by omega)
    have hn : (n : Int) ≤ 100000 := by omega
    have HJ := hid (lineB_mem hv.1)
    have HB := hid (sgsB_bounds hv.2.1)
    have HC := hid (sgsB_chain hv.2.1)
    have hl100 := sgsB_len hv.2.1
    have HND := hid (sgsB_nodup hv.2.1)
    have HCB := hid (cov_bounds hv.2.1)
    have HMB := hid (mom_bounds hv.2.1 (edsB_nilH hv.1))
    clear hv
    simp only [ne_eq, not_true, if_false] at hee
    by_cases hm : 0 ≤ m ∧ m ≤ (n : Int) - 1
    · rw [if_pos hm] at hee
      have HEE := hid hee
      have hmi := metreI_lt2 (dir := dir) hm.1 hm.2
      have hdm := decide_eq_true hm
      obtain ⟨hm1, hm2⟩ := hm
      clear hee
      have hrw : ∀ w, Calls Tryz.prog 50 #[.int .i64 0, .int .i64 m, .int .i64 (n - 1)] w fun e w' => e = .returned (.bool true) ∧ w = w' := fun w => (within_calls 0 m (n - 1) w).mono fun _ _ h => ⟨h.1.trans (by rw [hdm]), h.2⟩
      have HRW := hid hrw
      clear hrw hdm
      have HROK := hid (fun h R (hr : IsRow n h dir l R) => rowOk_of hr (unhid HB))
      have HRL := hid (fun h R (hr : IsRow n h dir l R) => (show R.length ≤ 100 from by have := selP_len n h dir l; have := hr.perm.length_eq; omega))
      have HEL := hid (fun R (h : R.length ≤ 100) => (show (eventsP n js R dir topic).length ≤ 1000 from by
        have h1 := evRun_len n js R dir topic R.length
        have h2 := stopP_len (evRun n js R dir topic R.length).1 (evRun n js R dir topic R.length).2 n
        unfold eventsP
        omega))
      have HVV := hid (fun h R (hr : IsRow n h dir l R) => (show atP (eventsP n js R dir topic) (metreI n dir m) = tdV n js l dir topic m h from by
        rw [at_events (unhid HROK h R hr) hmi.2, tdV, ← rowM_eq hr (unhid HND)]))
      generalize hV : tdV n js l dir topic m = V at HVV
      have HVE := hid hV
      clear hV
      go_wp2_with (first | (go_at_call 50; refine ((unhid HRW) _).mono ?_; rintro e w' ⟨rfl, rfl⟩) | (go_at_call 73; refine (moments_calls A2 l c2 none [] 0 _ ((unhid HS).below (hbw1.alloc hbw1.size _)) (EdsOk.nilH _) hl100 (unhid HCB) (by simp) (unhid HMB)).mono ?_; rintro e w2 ⟨A6, c6, L, rfl, hM, hrdL, hL3, hb2⟩; have hOL := own_below (own_new1 w1 (.int .i64 0) 3) hb2) | (at_builtin; refine wpList_app_hours rfl _ _ 22 rfl Tryz.underlying22 hOL rfl rfl hrdL hL3 (by have := hb2.size; simp at this; omega) ?_; intro g cap w3 hown3 hb3) | (go_at_call 74; refine (compactM_calls w1.heap.size g cap (0 :: L) w3 hown3 (by simp; omega)).mono ?_; rintro e w4 ⟨rfl, hrdH, hg4⟩))
      have hLge : ∀ x ∈ L, 0 ≤ x := fun x hx => ((unhid HMB) x ((hM.2 x).1 hx).1).1
      have hHM := compact_new hM hLge
      have hcl := compact_len (0 :: L)
      have h0in : (0 : Int) ∈ Lib.compact (0 :: L) := (hHM.2 0).2 ⟨by simp, by omega⟩
      obtain ⟨HQ, hHQ⟩ : ∃ z, z = Lib.compact (0 :: L) := ⟨_, rfl⟩
      rw [← hHQ] at hrdH hHM hcl h0in ⊢
      have hHl : HQ.length ≤ 3001 := by simp at hcl; omega
      have hHp : 0 < HQ.length := List.length_pos_of_mem h0in
      have hgb := (own_lt' hown3 (show (Value.slice (some ⟨g, 0, none⟩) (0 :: L).length cap).ownBlock = some g from rfl)).1
      have hb14 : Below w1.heap.size w1 w4 := Below.grown (((below_alloc w1 (.cells #[.int .i64 0] 3)).trans (hb2.mono (by simp))).trans hb3) hg4 (Nat.le_trans (by have := hb2.size; simp at this; omega) hb3.size) (fun j hj => by cases hj; exact hgb)
      have d0w := (hb14.cell (p := ⟨w.heap.size, 0, none⟩) hB1).trans d0
      have d1w := (hb14.cell (p := ⟨w.heap.size, 1, none⟩) hB1).trans d1
      have hB4 : w.heap.size < w4.heap.size := Nat.lt_of_lt_of_le hB1 hb14.size
      have hbw4 := hbw1.trans (hb14.mono hbw1.size)
      have HHM := hid hHM
      have HRH := hid hrdH
      have HW4 := hid hbw4
      have HHB := hid (show ∀ x ∈ HQ, 0 ≤ x ∧ x ≤ 10000000 from fun x hx => by
        obtain ⟨h1, h2⟩ := (hHM.2 x).1 hx
        rcases List.mem_append.1 h1 with h3 | h3
        · exact ⟨((unhid HMB) x h3).1, h2⟩
        · simp at h3; subst h3; omega)
      clear hLge hHM hcl h0in hHQ hM hrdL hL3 hb2 hown3 hb3 hrdH hg4 hgb hOL hb14 hbw4 d0 d1
      go_loopw [13, 38] (fun v i wr => ∃ (k : Nat) (A6 : Option Addr) (c6 : Nat) (o : List Td), k ≤ HQ.length ∧ i = .int .i64 k ∧ v = .slice A6 o.length c6 ∧ rtRun HQ V k = o ∧ wr.ownsRow w4.heap.size 76 3 (.slice A6 o.length c6) o.length (tds o) ∧ Below w4.heap.size w4 wr) (fun _ i _ => HQ.length - (intOf i).toNat)
      case atStart => exact ⟨0, none, 0, [], Nat.zero_le _, rfl, rfl, rfl, World.ownsRow_nil _ _ _ _, Below.refl _ _⟩
      case round =>
        obtain ⟨k, A6, c6, o, hk, rfl, rfl, ho, hown, hbel⟩ := hrel
        have HO := hid hown
        have HOE := hid ho
        have holen : o.length ≤ 3001 := by have := rtRun_len HQ V k; rw [ho] at this; omega
        clear hown ho
        by_cases hkt : k < HQ.length
        · have f0 := (hbel.cell (p := ⟨w.heap.size, 0, none⟩) hB4).trans d0w
          have f1 := (hbel.cell (p := ⟨w.heap.size, 1, none⟩) hB4).trans d1w
          have hBr := Nat.lt_of_lt_of_le hB4 hbel.size
          have HBW := hid ((unhid HW4).trans (hbel.mono (unhid HW4).size))
          obtain ⟨bh, oh, hA, hbh, hch⟩ := ((unhid HRH).below hbel) (ints_ne hkt)
          injection hA with hA
          injection hA with e1 e2
          subst e1 e2
          have c0 : wr.cell? ⟨g, k, none⟩ = some (.int .i64 HQ[k]) := by simpa using hch k _ (ints_at HQ k hkt)
          have hhb := (unhid HHB) _ (List.getElem_mem hkt)
          have HSC := hid (show rtRun HQ V (k + 1) = rtStep o HQ[k] (V HQ[k]) from by
            rw [rtRun_succ, unhid HOE, List.getD_eq_getElem?_getD, List.getElem?_eq_getElem hkt]; rfl)
          generalize HQ[k] = hrr at *
          clear hch
          go_wp2_with fail
          go_region_held3 (fun w' => w'.cell? ⟨w.heap.size, 0, none⟩ = some (.int .i64 n) ∧ w'.cell? ⟨w.heap.size, 1, none⟩ = some (.slice A js.length c) ∧ Below wr.heap.size wr w') (first | (refine ⟨?_, ?_, ?_⟩ <;> assumption) | (exact ⟨by assumption, by assumption, Below.drew (Below.refl _ _)⟩) | go_keep)
            (first
              | (go_at_call 49; have hh := ‹_ ∧ _ ∧ Below wr.heap.size wr _›; refine (rowOf_calls n A js.length c A2 l c2 hrr dir _ ((unhid HS).below ((unhid HBW).trans (hh.2.2.mono (unhid HBW).size))) (by omega) hn (unhid HC)).mono ?_; rintro e v2 ⟨A3, c3, R, rfl, hrow, hrd, hb2⟩; have hB2 := hh.2.2.trans (hb2.mono hh.2.2.size); have e0 := (hB2.cell (p := ⟨w.heap.size, 0, none⟩) hBr).trans f0; have e1 := (hB2.cell (p := ⟨w.heap.size, 1, none⟩) hBr).trans f1; clear hh)
              | (go_at_call 52; have hh := ‹_ ∧ _ ∧ Below wr.heap.size wr _›; refine (events_calls n A js c A3 R c3 dir topic _ ((unhid HL).below ((unhid HBW).trans (hh.2.2.mono (unhid HBW).size))) (unhid HJ) hn (by first | exact hrd | exact hrd.alloc _) (by have := unhid HRL hrr R hrow; omega) (unhid HROK hrr R hrow)).mono ?_; rintro e v3 ⟨A4, c4, rfl, hrd4, -, hb2⟩; have hB2 := hh.2.2.trans (hb2.mono hh.2.2.size); have e0 := (hB2.cell (p := ⟨w.heap.size, 0, none⟩) hBr).trans f0; have e1 := (hB2.cell (p := ⟨w.heap.size, 1, none⟩) hBr).trans f1; clear hh)
              | (go_at_call 53; have hh := ‹_ ∧ _ ∧ Below wr.heap.size wr _›; refine (metre_calls n A js.length c dir m _ hm1 (by omega) hn).mono ?_; rintro e v5 ⟨rfl, rfl⟩; have e0 := (World.cell?_alloc_lt _ (.cells #[.int .i64 n, .slice A js.length c] 24) ⟨w.heap.size, 0, none⟩ (Nat.lt_of_lt_of_le hBr hh.2.2.size)).trans hh.1; have e1 := (World.cell?_alloc_lt _ (.cells #[.int .i64 n, .slice A js.length c] 24) ⟨w.heap.size, 1, none⟩ (Nat.lt_of_lt_of_le hBr hh.2.2.size)).trans hh.2.1; have hB2 := below_alloc' hh.2.2 (.cells #[.int .i64 n, .slice A js.length c] 24); clear hh)
              | (go_at_call 51; have hh := ‹_ ∧ _ ∧ Below wr.heap.size wr _›; refine (at_calls A4 (eventsP n js R dir topic) c4 (metreI n dir m) _ (by first | exact hrd4 | exact hrd4.alloc _) (by have := unhid HEL R (unhid HRL hrr R hrow); omega)).mono ?_; rintro e v6 ⟨rfl, hb2⟩; have hB2 := hh.2.2.trans (hb2.mono hh.2.2.size); have e0 := (hB2.cell (p := ⟨w.heap.size, 0, none⟩) hBr).trans f0; have e1 := (hB2.cell (p := ⟨w.heap.size, 1, none⟩) hBr).trans f1; clear hh))
          have hh := ‹_ ∧ _ ∧ Below wr.heap.size wr _›
          rw [(unhid HVV) hrr R hrow]
          have HO := hid (own_below (unhid HO) hh.2.2)
          have HBX := hid (hbel.trans (hh.2.2.mono hbel.size))
          generalize V hrr = v at *
          clear hh hrow hrd hb2 hrd4 HBW f0 f1 c0 hBr e0 e1 hB2
          by_cases hol : 0 < o.length
          · have := decide_eq_true (show (0 : Int) < (o.length : Int) by omega)
            obtain ⟨g2, cg, hvv, hbg, hgs, hcells⟩ := own_some (unhid HO) hol
            injection hvv with hv1 hv2 hv3
            subst hv1 hv3
            obtain ⟨q, hq⟩ : ∃ q, o.length = q + 1 := ⟨o.length - 1, by omega⟩
            have hq1 : IntKind.i64.wrap ((o.length : Int) - 1) = (o.length : Int) - 1 := IntWalk.i64_in _ (by omega)
            have hq2 : (0 : Int) ≤ (o.length : Int) - 1 := by omega
            have hq3 : ((o.length : Int) - 1).toNat = q := by omega
            have hq4 : (o.length : Int) - 1 < (o.length : Int) := by omega
            have hq5 : q < o.length := by omega
            have HQ5 := hid hq
            clear hq
            obtain ⟨t0, t1, t2⟩ := tds_cells (b := g2) (off := 0) (l := o) (fun j u hu => by rw [Nat.zero_add]; exact hcells j u hu) hq5
            rw [Nat.zero_add] at t0 t1 t2
            have HLA := hid (last_of (unhid HQ5))
            have HST := hid (tds_set o q hrr hq5)
            have HY := hid (show o[q]'hq5 = o[q]'hq5 from rfl)
            clear HY hcells t0
            generalize o[q]'hq5 = y at *
            have tf := (unhid HO).frozenAt (q * 3 + 1)
            by_cases hyv : y.val = v
            · have hyv' : (y.val == v) = true := by simpa using hyv
              have HNX := hid (show rtRun HQ V (k + 1) = o from by rw [unhid HSC]; exact rt_same (q := q) (unhid HLA) hyv)
              clear hyv
              go_wp2_with fail
              go_roundw
              case rel => exact ⟨k + 1, _, c6, o, by omega, by go_num, rfl, unhid HNX, unhid HO, unhid HBX⟩
              case measure => simp [intOf]; omega
            · have hyv' : (y.val == v) = false := by simpa using hyv
              have HNX := hid (show rtRun HQ V (k + 1) = o.set q ⟨y.fr, hrr, y.val⟩ ++ [⟨hrr, 0, v⟩] from by rw [unhid HSC]; exact rt_diff (unhid HQ5) (unhid HLA) hyv)
              have h9 := (unhid HO).stored (q * 3 + 1) (.int .i64 hrr)
              have HO := hid (show (v6.setCell ⟨g2, q * 3 + 1, none⟩ (.int .i64 hrr)).ownsRow w4.heap.size 76 3 (.slice (some ⟨g2, 0, none⟩) o.length c6) o.length (tds (o.set q ⟨y.fr, hrr, y.val⟩)) from by rw [← unhid HST]; exact h9.1)
              have HBX := hid (show Below w4.heap.size w4 (v6.setCell ⟨g2, q * 3 + 1, none⟩ (.int .i64 hrr)) from Below.setCell (unhid HBX) hbg _)
              clear hyv h9
              have hnb : ((v6.setCell ⟨g2, q * 3 + 1, none⟩ (.int .i64 hrr)).alloc (.cells #[.int .i64 hrr, .int .i64 0, .int .i64 v] 76)).heap[v6.heap.size]? = some (.cells #[.int .i64 hrr, .int .i64 0, .int .i64 v] 76 (0, 0)) := by
                have h := heap_alloc_new (v6.setCell ⟨g2, q * 3 + 1, none⟩ (.int .i64 hrr)) (.cells #[.int .i64 hrr, .int .i64 0, .int .i64 v] 76)
                rwa [show (v6.setCell ⟨g2, q * 3 + 1, none⟩ (.int .i64 hrr)).heap.size = v6.heap.size from by simp] at h
              go_wp2_with (at_builtin; refine wpList_append_lies _ rfl _ _ 62 rfl w4.heap.size 76 i0 (.agg #[.int .i64 0, .int .i64 0, .int .i64 0]) 3 24 Tryz.underlying62 hi hz0 hz1 hz2 rfl (by decide) _ _ _ rfl ((unhid HO).alloc _) ⟨v6.heap.size, 0, none⟩ 1 1 [.int .i64 hrr, .int .i64 0, .int .i64 v] rfl rfl (World.news_of_block (cs := #[.int .i64 hrr, .int .i64 0, .int .i64 v]) (t := 76) (fr := (0, 0)) hnb) ?_ (by decide) ?_ ?_ ?_ (v6.heap.size + 1) (by simp) ?_)
              all_goals try (first | (unfold maxLen; omega) | omega | (have := (unhid HBX).size; simp; omega) | exact ⟨rfl, rfl, rfl⟩ | (intro u hu; simp at hu; rcases hu with rfl | rfl | rfl <;> rfl))
              intro g8 c8 w8 hown8 hg8 hat8 hlt8
              have hb8 : Below w4.heap.size w4 w8 := by
                have hbx := unhid HBX
                refine Below.grown (hbx.alloc hbx.size _) hg8 (by have := hbx.size; simp; omega) (fun i hi => ?_)
                exact (own_lt' (unhid HO) hi).1
              have HO8 := hid hown8
              clear hown8 hg8 hat8 hlt8
              go_wp2_with fail
              go_roundw
              case rel =>
                refine ⟨k + 1, some ⟨g8, 0, none⟩, c8, (o.set q ⟨y.fr, hrr, y.val⟩) ++ [⟨hrr, 0, v⟩], by omega, by go_num, by simp, unhid HNX, ?_, hb8⟩
                have h5 := unhid HO8
                rw [show ((o.set q ⟨y.fr, hrr, y.val⟩) ++ [(⟨hrr, 0, v⟩ : Td)]).length = (o.set q ⟨y.fr, hrr, y.val⟩).length + 1 from by simp, show tds ((o.set q ⟨y.fr, hrr, y.val⟩) ++ [(⟨hrr, 0, v⟩ : Td)]) = tds (o.set q ⟨y.fr, hrr, y.val⟩) ++ [.int .i64 hrr, .int .i64 0, .int .i64 v] from by simp [tds, tdC]]
                rw [List.length_set]
                exact h5
              case measure => simp [intOf]; omega
          · have := decide_eq_false (show ¬ ((0 : Int) < (o.length : Int)) by omega)
            have HNX := hid (show rtRun HQ V (k + 1) = o ++ [⟨hrr, 0, v⟩] from by rw [unhid HSC]; exact rt_nil (by omega))
            go_wp2_with (at_builtin; refine wpList_append_lies _ rfl _ _ 62 rfl w4.heap.size 76 i0 (.agg #[.int .i64 0, .int .i64 0, .int .i64 0]) 3 24 Tryz.underlying62 hi hz0 hz1 hz2 rfl (by decide) _ _ _ rfl ((unhid HO).alloc _) ⟨v6.heap.size, 0, none⟩ 1 1 [.int .i64 hrr, .int .i64 0, .int .i64 v] rfl rfl (World.news_of_block (cs := #[.int .i64 hrr, .int .i64 0, .int .i64 v]) (t := 76) (fr := (0, 0)) (heap_alloc_new v6 _)) ?_ (by decide) ?_ ?_ ?_ (v6.heap.size + 1) (by simp) ?_)
            all_goals try (first | (unfold maxLen; omega) | omega | (have := (unhid HBX).size; simp; omega) | exact ⟨rfl, rfl, rfl⟩ | (intro u hu; simp at hu; rcases hu with rfl | rfl | rfl <;> rfl))
            intro g8 c8 w8 hown8 hg8 hat8 hlt8
            have hb8 : Below w4.heap.size w4 w8 := by
              have hbx := unhid HBX
              refine Below.grown (hbx.alloc hbx.size _) hg8 (by have := hbx.size; simp; omega) (fun i hi => ?_)
              exact (own_lt' (unhid HO) hi).1
            have HO8 := hid hown8
            clear hown8 hg8 hat8 hlt8
            go_wp2_with fail
            go_roundw
            case rel =>
              refine ⟨k + 1, some ⟨g8, 0, none⟩, c8, o ++ [⟨hrr, 0, v⟩], by omega, by go_num, by simp, unhid HNX, ?_, hb8⟩
              have h5 := unhid HO8
              rw [show (o ++ [(⟨hrr, 0, v⟩ : Td)]).length = o.length + 1 from by simp, show tds (o ++ [(⟨hrr, 0, v⟩ : Td)]) = tds o ++ [.int .i64 hrr, .int .i64 0, .int .i64 v] from by simp [tds, tdC]]
              exact h5
            case measure => simp [intOf]; omega
        · obtain rfl : k = HQ.length := by omega
          have hrl : 0 < o.length := by
            rcases rt_td HQ V HQ.length (Nat.le_refl _) with ⟨-, -, h⟩ | ⟨I, t, h1, h2⟩
            · omega
            · rw [← unhid HOE, h1]; simp
          obtain ⟨g2, cg, hvv, hbg, hgs, hcells⟩ := own_some (unhid HO) hrl
          injection hvv with hv1 hv2 hv3
          subst hv1 hv3
          obtain ⟨q, hq⟩ : ∃ q, o.length = q + 1 := ⟨o.length - 1, by omega⟩
          have hq1 : IntKind.i64.wrap ((o.length : Int) - 1) = (o.length : Int) - 1 := IntWalk.i64_in _ (by omega)
          have hq2 : (0 : Int) ≤ (o.length : Int) - 1 := by omega
          have hq3 : ((o.length : Int) - 1).toNat = q := by omega
          have hq4 : (o.length : Int) - 1 < (o.length : Int) := by omega
          have hq5 : q < o.length := by omega
          have HQ5 := hid hq
          clear hq
          obtain ⟨t0, t1, t2⟩ := tds_cells (b := g2) (off := 0) (l := o) (fun j u hu => by rw [Nat.zero_add]; exact hcells j u hu) hq5
          rw [Nat.zero_add] at t0 t1 t2
          have HEND := hid (show o.set q ⟨(o[q]'hq5).fr, 10000001, (o[q]'hq5).val⟩ = tdRun HQ V HQ.length from by
            have h1 := rt_end (hs := HQ) (v := V) (q := q) (y := o[q]'hq5) hHp (by rw [unhid HOE]; exact unhid HQ5) (by rw [unhid HOE]; exact last_of (unhid HQ5))
            rwa [unhid HOE] at h1)
          have HST := hid (tds_set o q 10000001 hq5)
          have tf := (unhid HO).frozenAt (q * 3 + 1)
          clear hcells
          go_wp2_with fail
          go_ret2
          have h9 := (unhid HO).stored (q * 3 + 1) (.int .i64 10000001)
          have hlT : (tdRun HQ V HQ.length).length = o.length := by rw [← unhid HEND, List.length_set]
          obtain ⟨A9, c9, hv9, hrd9, -⟩ := own_slice h9.1
          injection hv9 with r1 r2 r3
          subst r1
          rw [unhid HST, unhid HEND] at hrd9
          exact ⟨some ⟨g2, 0, none⟩, c6, tdRun HQ V HQ.length, by rw [unhid HEE, hlT]; rfl, fun _ => ⟨HQ, unhid HHM, by rw [unhid HVE]⟩, fun h => absurd (unhid HEE) h, hrd9, by omega, (unhid HW4).trans ((Below.setCell hbel hbg _).mono (unhid HW4).size)⟩
    · rw [if_neg hm] at hee
      have HEE := hid hee
      have hdm := decide_eq_false hm
      clear hee hm
      have hrw : ∀ w, Calls Tryz.prog 50 #[.int .i64 0, .int .i64 m, .int .i64 (n - 1)] w fun e w' => e = .returned (.bool false) ∧ w = w' := fun w => (within_calls 0 m (n - 1) w).mono fun _ _ h => ⟨h.1.trans (by rw [hdm]), h.2⟩
      have HRW := hid hrw
      clear hrw hdm
      go_wp2_with (go_at_call 50; refine ((unhid HRW) _).mono ?_; rintro e w' ⟨rfl, rfl⟩)
      go_ret2
      exact ⟨none, 0, [], by rw [unhid HEE]; rfl, fun h => absurd ((unhid HEE).symm.trans h) (by omega), fun _ => rfl, Rd.nil _ _, by simp, hbw1⟩
  · have h0' : (er != 0) = true := by simpa using h0
    rw [if_pos h0] at hee
    have HEE := hid hee
    have H0 := hid h0
    clear he hee h0
    go_wp2_with fail
    go_ret2
    exact ⟨none, 0, [], by rw [unhid HEE]; rfl, fun h => absurd ((unhid HEE).symm.trans h) (unhid H0), fun _ => rfl, Rd.nil _ _, by simp, hbw1⟩
end

section
theorem why_moments (len : Int) (js : List Int) (l : List Sg) (ed : List Ed) : whyE len js l ed true true true = allE len js l ed 0 := by
  unfold whyE allE
  simp
theorem why_hist (len : Int) (js : List Int) (l : List Sg) (ed : List Ed) (dir topic m : Int) : whyE len js l ed true false (dirB dir && decide (topic = 1 ∨ topic = 2) && decide (0 ≤ m) && decide (m < len)) = holdsE len js l 0 dir topic m := by
  unfold whyE holdsE askedE
  have h3 : decide (1 ≤ topic ∧ topic ≤ 2) = decide (topic = 1 ∨ topic = 2) := by congr 1; apply propext; omega
  have h4 : m ≤ len - 1 ↔ m < len := by omega
  rw [h3]
  simp only [h4]
  generalize dirB dir = g2
  generalize decide (topic = 1 ∨ topic = 2) = g3
  generalize lineB len js = b1
  generalize sgsB len js l = b2
  by_cases h1 : 0 ≤ m <;> by_cases h2 : m < len <;> cases b1 <;> cases b2 <;> cases g2 <;> cases g3 <;> simp [h1, h2]
theorem holdsE_zeroH {len : Int} {js : List Int} {l : List Sg} {hour dir topic m : Int} (h : holdsE len js l hour dir topic m = 0) : lineB len js = true ∧ sgsB len js l = true ∧ 0 ≤ m ∧ m ≤ len - 1 := by
  unfold holdsE at h
  split at h
  · omega
  · rename_i h0
    have := askedE_zero (by simpa using h0)
    split at h
    · exact ⟨this.1, this.2.1, by omega, by omega⟩
    · omega

set_option maxHeartbeats 4000000 in
set_option maxRecDepth 100000 in
theorem histories_calls (len : Int) (A : Option Addr) (js : List Int) (c : Nat) (A2 : Option Addr) (l : List Sg) (c2 : Nat) (A3 : Option Addr) (ed : List Ed) (c3 : Nat) (hour dir topic metre : Int) (w : World) (hl : LnOk w A js) (hs : SgsOk w A2 l) (he : EdsOk w A3 ed) (il : I64 len) (_ : I64 hour) (_ : I64 dir) (_ : I64 topic) (_ : I64 metre) :
    Calls Tryz.prog 6 #[.agg #[.int .i64 len, .slice A js.length c, .slice A2 l.length c2, .slice A3 ed.length c3, .int .i64 hour, .int .i64 dir, .int .i64 topic, .int .i64 metre]] w fun e w' => e = .returned (.bool true) ∧ Below w.heap.size w w' := by
  have HL := hid hl
  have HS := hid hs
  have HE := hid he
  have hln := hl.n
  have hsn := hs.n
  have hen := he.n
  clear hl hs he
  go_enter Tryz.func6, Tryz.ntmps6
  go_wp2_with fail
  refine (heavy_calls len A js c A2 l c2 A3 ed.length c3 hour dir topic metre _ ((unhid HL).below (below_alloc _ _)) ((unhid HS).below (below_alloc _ _)) (by omega)).mono ?_
  rintro e W ⟨rfl, hb1⟩
  have HA := (Ask8.new w (.int .i64 len) (.slice A js.length c) (.slice A2 l.length c2) (.slice A3 ed.length c3) (.int .i64 hour) (.int .i64 dir) (.int .i64 topic) (.int .i64 metre) 28).below hb1
  have hbw1 : Below w.heap.size w W := (below_alloc w _).trans (hb1.mono (by simp))
  have HL := hid ((unhid HL).below hbw1)
  have HS := hid ((unhid HS).below hbw1)
  have HE := hid ((unhid HE).below hbw1)
  clear hb1
  have HBW := hid hbw1
  cases hh : heavyB len js l ed.length with
  | true =>
    clear HA
    go_wp2_with fail
    refine (first_calls _).mono ?_
    rintro e w2 ⟨rfl, hb2⟩
    go_wp2_with fail
    go_ret
    exact ⟨rfl, hbw1.trans (hb2.mono hbw1.size)⟩
  | false =>
    clear hbw1
    have hlb : ¬ heavyB len js l ed.length = true := by rw [hh]; simp
    have HH := hid hlb
    clear hh hlb
    obtain ⟨e0, e1, e2, e3, e4, e5, e6, e7⟩ := HA.cells
    go_wp2_with fail
    generalize hBB : w.heap.size = B at *
    refine (rmomentsL_calls len A js c A2 l c2 A3 ed c3 _ (unhid HL) (unhid HS) (unhid HE)).mono ?_
    rintro e w2 ⟨A5, c5, L, rfl, hz, hnz, hrdL, hlL, hb2⟩
    have HZ := hid hz
    have HNZ := hid hnz
    have HRDL := hid hrdL
    clear hz hnz hrdL e0 e1 e2 e3 e4 e5 e6 e7
    obtain ⟨e0, e1, e2, e3, e4, e5, e6, e7⟩ := (HA.below hb2).cells
    go_wp2_with fail
    refine (history_calls len A js c A2 l c2 dir topic metre _ ((unhid HL).below hb2) ((unhid HS).below hb2) il).mono ?_
    rintro e w3 ⟨A6, c6, T, rfl, hz, hnz, hrdT, hlT, hb3⟩
    have HZ2 := hid hz
    have HNZ2 := hid hnz
    have HRDT := hid hrdT
    have HRDL := hid ((unhid HRDL).below hb3)
    have hbel : Below W.heap.size W w3 := hb2.trans (hb3.mono hb2.size)
    clear hz hnz hrdT hb2 hb3 e0 e1 e2 e3 e4 e5 e6 e7
    obtain ⟨e0, e1, e2, e3, e4, e5, e6, e7⟩ := (HA.below hbel).cells
    have HW1 := hid (why_moments len js l ed)
    have HW2 := hid (why_hist len js l ed dir topic metre)
    have KW := hid (way_calls dir)
    have KT := hid (topic_calls topic)
    go_wp2_with fail
    refine (why_calls len A js c A2 l c2 A3 ed c3 hour dir topic metre true true true _ ((unhid HL).below hbel) ((unhid HS).below hbel) ((unhid HE).below hbel)).mono ?_
    rintro e w4 ⟨rfl, hb4⟩
    rw [unhid HW1]
    have HRDL := hid ((unhid HRDL).below hb4)
    have HRDT := hid ((unhid HRDT).below hb4)
    have hbel : Below W.heap.size W w4 := hbel.trans (hb4.mono hbel.size)
    clear hb4 e0 e1 e2 e3 e4 e5 e6 e7
    have HA3 := HA.below hbel
    obtain ⟨q0, q1, q2, q3, q4, q5, q6, q7⟩ := HA3.after
    have HL3 := hid ((unhid HL).below hbel)
    have HS3 := hid ((unhid HS).below hbel)
    have HE3 := hid ((unhid HE).below hbel)
    generalize dirB dir = g2 at *
    generalize decide (topic = 1 ∨ topic = 2) = g3 at *
    generalize hE1 : allE len js l ed 0 = E1 at *
    generalize hE2 : holdsE len js l 0 dir topic metre = E2 at *
    have K1 := hid (fun (b : Bool) (p : After w4) => why_calls len A js c A2 l c2 A3 ed c3 hour dir topic metre true false b p.w ((unhid HL3).below p.below) ((unhid HS3).below p.below) ((unhid HE3).below p.below))
    have HE1 := hid hE1
    have HE2 := hid hE2
    clear hE1 hE2
    go_wp2_with fail
    go_cut [8] (fun s8 wx => s8 = .int .i64 E2 ∧ Below w4.heap.size w4 wx)
    case first =>
      cases g2 with
      | false =>
        (refine wp_region_below (by kernel_rfl) (by kernel_rfl) ?_; (repeat (go_big_quiet_step (first | (go_at_call 14; exact Calls.after_same ((unhid KW) _)) | (go_at_call 15; exact Calls.after_same ((unhid KT) _)) | (go_at_call 16; exact Calls.after_of ((unhid K1) false _))))); refine wpQuiet_nil ?_; intro wq hw'; obtain ⟨⟨wq2, hbq⟩, hw''⟩ := hw'; dsimp only at hw''; subst hw'')
        (try go_wp2_with fail)
        go_meet
        case rel => exact ⟨by rw [← unhid HW2]; simp, hbq⟩
      | true =>
        cases g3 with
        | false =>
          (refine wp_region_below (by kernel_rfl) (by kernel_rfl) ?_; (repeat (go_big_quiet_step (first | (go_at_call 14; exact Calls.after_same ((unhid KW) _)) | (go_at_call 15; exact Calls.after_same ((unhid KT) _)) | (go_at_call 16; exact Calls.after_of ((unhid K1) false _))))); refine wpQuiet_nil ?_; intro wq hw'; obtain ⟨⟨wq2, hbq⟩, hw''⟩ := hw'; dsimp only at hw''; subst hw'')
          (try go_wp2_with fail)
          go_meet
          case rel => exact ⟨by rw [← unhid HW2]; simp, hbq⟩
        | true =>
          by_cases hm0 : 0 ≤ metre
          · have hm0' := decide_eq_true hm0
            by_cases hm1 : metre < len
            · have hm1' := decide_eq_true hm1
              (refine wp_region_below (by kernel_rfl) (by kernel_rfl) ?_; (repeat (go_big_quiet_step (first | (go_at_call 14; exact Calls.after_same ((unhid KW) _)) | (go_at_call 15; exact Calls.after_same ((unhid KT) _)) | (go_at_call 16; exact Calls.after_of ((unhid K1) true _))))); refine wpQuiet_nil ?_; intro wq hw'; obtain ⟨⟨wq2, hbq⟩, hw''⟩ := hw'; dsimp only at hw''; subst hw'')
              (try go_wp2_with fail)
              go_meet
              case rel => exact ⟨by rw [← unhid HW2, hm0', hm1']; simp, hbq⟩
            · have hm1' := decide_eq_false hm1
              (refine wp_region_below (by kernel_rfl) (by kernel_rfl) ?_; (repeat (go_big_quiet_step (first | (go_at_call 14; exact Calls.after_same ((unhid KW) _)) | (go_at_call 15; exact Calls.after_same ((unhid KT) _)) | (go_at_call 16; exact Calls.after_of ((unhid K1) false _))))); refine wpQuiet_nil ?_; intro wq hw'; obtain ⟨⟨wq2, hbq⟩, hw''⟩ := hw'; dsimp only at hw''; subst hw'')
              (try go_wp2_with fail)
              go_meet
              case rel => exact ⟨by rw [← unhid HW2, hm0', hm1']; simp, hbq⟩
          · have hm0' := decide_eq_false hm0
            (refine wp_region_below (by kernel_rfl) (by kernel_rfl) ?_; (repeat (go_big_quiet_step (first | (go_at_call 14; exact Calls.after_same ((unhid KW) _)) | (go_at_call 15; exact Calls.after_same ((unhid KT) _)) | (go_at_call 16; exact Calls.after_of ((unhid K1) false _))))); refine wpQuiet_nil ?_; intro wq hw'; obtain ⟨⟨wq2, hbq⟩, hw''⟩ := hw'; dsimp only at hw''; subst hw'')
            (try go_wp2_with fail)
            go_meet
            case rel => exact ⟨by rw [← unhid HW2, hm0']; simp, hbq⟩
    case rest =>
      obtain ⟨rfl, hbq⟩ := hcut
      clear q0 q1 q2 q3 q4 q5 q6 q7 K1 HW1 HW2 HL3 HS3 HE3 KW KT
      have hbel4 : Below W.heap.size W wc := hbel.trans (hbq.mono hbel.size)
      obtain ⟨e0, e1, e2, e3, e4, e5, e6, e7⟩ := (HA.below hbel4).cells
      have HBL4 := hid hbel4
      have HRDL := hid ((unhid HRDL).below hbq)
      have HRDT := hid ((unhid HRDT).below hbq)
      clear hbel4 hbq hbel
      have t1 : (E1 != E1) = false := by simp
      have t2 : (E2 != E2) = false := by simp
      have hv0 : E1 = 0 ∨ (¬ E1 = 0 ∧ L = []) := by
        by_cases h : E1 = 0
        · exact .inl h
        · exact .inr ⟨h, unhid HNZ h⟩
      have hu0 : E2 = 0 ∨ (¬ E2 = 0 ∧ T = []) := by
        by_cases h : E2 = 0
        · exact .inl h
        · exact .inr ⟨h, unhid HNZ2 h⟩
      clear HNZ HNZ2
      rcases hv0 with rfl | ⟨h1, rfl⟩
      · have hv := allE_zeroM (unhid HE1)
        have hM := unhid HZ rfl
        have HM := hid hM
        have KM := hid (fun w hs he => rmoments_calls A2 l c2 A3 ed c3 w hs he (sgsB_len hv.2.1) (cov_bounds hv.2.1) (edsB_len hv.2.2))
        clear HZ hv hM
        go_wp2_with fail
        refine ((unhid KM) _ ((unhid HS).below (unhid HBL4)) ((unhid HE).below (unhid HBL4))).mono ?_
        rintro e w6 ⟨A7, c7, L2, rfl, hM2, hrd7, -, -, -, -, hb6⟩
        have hll := (unhid HM).unique hM2
        subst hll
        have HRDX := hid hrd7
        have HRDL := hid ((unhid HRDL).below hb6)
        have HRDT := hid ((unhid HRDT).below hb6)
        have HBL4 := hid ((unhid HBL4).trans (hb6.mono (unhid HBL4).size))
        clear hM2 hrd7 hb6 HM KM e0 e1 e2 e3 e4 e5 e6 e7
        obtain ⟨e0, e1, e2, e3, e4, e5, e6, e7⟩ := (HA.below (unhid HBL4)).cells
        rcases hu0 with rfl | ⟨h2, rfl⟩
        · obtain ⟨hv1, hv2, hv3, hv4⟩ := holdsE_zeroH (unhid HE2)
          obtain ⟨hq, hM1, hT1⟩ := unhid HZ2 rfl
          obtain ⟨n, rfl⟩ := Int.eq_ofNat_of_zero_le (show 0 ≤ len by have := (lineB_len hv1).1; omega)
          have HT1 := hid hT1
          have HM1 := hid hM1
          have KR := hid (fun w hl hs => rhistory_calls n A js c A2 l c2 dir topic metre w hl hs hv1 hv2 hv3 hv4)
          clear HZ2 hT1 hM1 hv1 hv2
          go_wp2_with fail
          refine ((unhid KR) _ ((unhid HL).below (unhid HBL4)) ((unhid HS).below (unhid HBL4))).mono ?_
          rintro e w7 ⟨A8, c8, T2, rfl, ⟨hq2, hM2, hT2⟩, hrd8, -, hb7⟩
          have hqq := (unhid HM1).unique hM2
          have htt : T = T2 := by rw [unhid HT1, hT2, hqq]
          subst htt
          have HRDL := hid ((unhid HRDL).below hb7)
          have HRDX := hid ((unhid HRDX).below hb7)
          have HRDT := hid ((unhid HRDT).below hb7)
          have HRDY := hid hrd8
          have HBL4 := hid ((unhid HBL4).trans (hb7.mono (unhid HBL4).size))
          clear hM2 hT2 hrd8 hb7 hqq HT1 HM1 KR e0 e1 e2 e3 e4 e5 e6 e7
          go_wp2_with fail
          refine (sameInts_calls A5 L c5 A7 L c7 _ (unhid HRDL) (unhid HRDX) (by omega) (by omega)).mono ?_
          rintro e w8 ⟨rfl, hb8⟩
          rw [decide_eq_true rfl]
          have HRDT := hid ((unhid HRDT).below hb8)
          have HRDY := hid ((unhid HRDY).below hb8)
          have hbel8 := (unhid HBL4).trans (hb8.mono (unhid HBL4).size)
          go_wp2_with fail
          refine (sameTold_calls A6 T c6 A8 c8 _ (unhid HRDT) (unhid HRDY) (by omega)).mono ?_
          rintro e w9 ⟨rfl, hb9⟩
          have hbel9 := hbel8.trans (hb9.mono hbel8.size)
          go_wp2_with fail
          refine (first_calls _).mono ?_
          rintro e w10 ⟨rfl, hb10⟩
          go_wp2_with fail
          go_ret
          have hW := unhid HBW
          have hf2 := hbel9.trans (hb10.mono hbel9.size)
          exact ⟨rfl, by rw [hBB]; exact hW.trans (hf2.mono (by rw [← hBB]; exact (hBB ▸ hW).size))⟩
        · have hb2 : (E2 == 0) = false := by simpa using h2
          have H2 := hid h2
          have HRDY := hid (show ∀ w, Rd w none (tds []) from fun w => Rd.nil _ _)
          clear HZ2 h2
          go_wp2_with fail
          refine (sameInts_calls A5 L c5 A7 L c7 _ (unhid HRDL) (unhid HRDX) (by omega) (by omega)).mono ?_
          rintro e w8 ⟨rfl, hb8⟩
          rw [decide_eq_true rfl]
          have HRDT := hid ((unhid HRDT).below hb8)
          have hbel8 := (unhid HBL4).trans (hb8.mono (unhid HBL4).size)
          go_wp2_with fail
          refine (sameTold_calls A6 [] c6 none 0 _ (unhid HRDT) ((unhid HRDY) _) (by omega)).mono ?_
          rintro e w9 ⟨rfl, hb9⟩
          have hbel9 := hbel8.trans (hb9.mono hbel8.size)
          go_wp2_with fail
          refine (first_calls _).mono ?_
          rintro e w10 ⟨rfl, hb10⟩
          go_wp2_with fail
          go_ret
          have hW := unhid HBW
          have hf2 := hbel9.trans (hb10.mono hbel9.size)
          exact ⟨rfl, by rw [hBB]; exact hW.trans (hf2.mono (by rw [← hBB]; exact (hBB ▸ hW).size))⟩
      · have hb1 : (E1 == 0) = false := by simpa using h1
        have H1 := hid h1
        have HRDX := hid (Rd.nil wc none)
        clear HZ h1
        rcases hu0 with rfl | ⟨h2, rfl⟩
        · obtain ⟨hv1, hv2, hv3, hv4⟩ := holdsE_zeroH (unhid HE2)
          obtain ⟨hq, hM1, hT1⟩ := unhid HZ2 rfl
          obtain ⟨n, rfl⟩ := Int.eq_ofNat_of_zero_le (show 0 ≤ len by have := (lineB_len hv1).1; omega)
          have HT1 := hid hT1
          have HM1 := hid hM1
          have KR := hid (fun w hl hs => rhistory_calls n A js c A2 l c2 dir topic metre w hl hs hv1 hv2 hv3 hv4)
          clear HZ2 hT1 hM1 hv1 hv2
          go_wp2_with fail
          refine ((unhid KR) _ ((unhid HL).below (unhid HBL4)) ((unhid HS).below (unhid HBL4))).mono ?_
          rintro e w7 ⟨A8, c8, T2, rfl, ⟨hq2, hM2, hT2⟩, hrd8, -, hb7⟩
          have hqq := (unhid HM1).unique hM2
          have htt : T = T2 := by rw [unhid HT1, hT2, hqq]
          subst htt
          have HRDL := hid ((unhid HRDL).below hb7)
          have HRDX := hid ((unhid HRDX).below hb7)
          have HRDT := hid ((unhid HRDT).below hb7)
          have HRDY := hid hrd8
          have HBL4 := hid ((unhid HBL4).trans (hb7.mono (unhid HBL4).size))
          clear hM2 hT2 hrd8 hb7 hqq HT1 HM1 KR e0 e1 e2 e3 e4 e5 e6 e7
          go_wp2_with fail
          refine (sameInts_calls A5 [] c5 none [] 0 _ (unhid HRDL) (unhid HRDX) (by omega) (by omega)).mono ?_
          rintro e w8 ⟨rfl, hb8⟩
          rw [decide_eq_true rfl]
          have HRDT := hid ((unhid HRDT).below hb8)
          have HRDY := hid ((unhid HRDY).below hb8)
          have hbel8 := (unhid HBL4).trans (hb8.mono (unhid HBL4).size)
          go_wp2_with fail
          refine (sameTold_calls A6 T c6 A8 c8 _ (unhid HRDT) (unhid HRDY) (by omega)).mono ?_
          rintro e w9 ⟨rfl, hb9⟩
          have hbel9 := hbel8.trans (hb9.mono hbel8.size)
          go_wp2_with fail
          refine (first_calls _).mono ?_
          rintro e w10 ⟨rfl, hb10⟩
          go_wp2_with fail
          go_ret
          have hW := unhid HBW
          have hf2 := hbel9.trans (hb10.mono hbel9.size)
          exact ⟨rfl, by rw [hBB]; exact hW.trans (hf2.mono (by rw [← hBB]; exact (hBB ▸ hW).size))⟩
        · have hb2 : (E2 == 0) = false := by simpa using h2
          have H2 := hid h2
          have HRDY := hid (show ∀ w, Rd w none (tds []) from fun w => Rd.nil _ _)
          clear HZ2 h2
          go_wp2_with fail
          refine (sameInts_calls A5 [] c5 none [] 0 _ (unhid HRDL) (unhid HRDX) (by omega) (by omega)).mono ?_
          rintro e w8 ⟨rfl, hb8⟩
          rw [decide_eq_true rfl]
          have HRDT := hid ((unhid HRDT).below hb8)
          have hbel8 := (unhid HBL4).trans (hb8.mono (unhid HBL4).size)
          go_wp2_with fail
          refine (sameTold_calls A6 [] c6 none 0 _ (unhid HRDT) ((unhid HRDY) _) (by omega)).mono ?_
          rintro e w9 ⟨rfl, hb9⟩
          have hbel9 := hbel8.trans (hb9.mono hbel8.size)
          go_wp2_with fail
          refine (first_calls _).mono ?_
          rintro e w10 ⟨rfl, hb10⟩
          go_wp2_with fail
          go_ret
          have hW := unhid HBW
          have hf2 := hbel9.trans (hb10.mono hbel9.size)
          exact ⟨rfl, by rw [hBB]; exact hW.trans (hf2.mono (by rw [← hBB]; exact (hBB ▸ hW).size))⟩
end

end Go.Proofs.YtmpngoejnmlmbaaGreat
