/-
  The law WorksInvoices.
-/
import Derived.Test.YtbnnnjkfhffekaaGreatDoorWoX
import Derived.Test.YtbnnnjkfhffekaaGreatDoorWoY
set_option linter.unusedSimpArgs false
set_option linter.unusedVariables false
namespace Go.Proofs.YtbnnnjkfhffekaaGreatDoor
open Go.RowKit

/-- The lines of the invoice, none where there is a mistake. -/
def invLL (p : Prc) (ts : List Ty) (ns : List Int) : List Int := if invE p ts ns = 0 then invL p ts ns ts.length else []
theorem invR_both {p : Prc} {ts : List Ty} {ns : List Int} {w w' : World} {e : Ending} (h : invR p ts ns w e w') :
    Below w.heap.size w w' ∧ ∃ (B : Option Addr) (k : Nat), e = .returned (.tuple #[.slice B (invLL p ts ns).length k, .int .i64 (sumL (invLL p ts ns)), .int .i64 (invE p ts ns)]) ∧ Rd w' B (ints (invLL p ts ns)) := by
  obtain ⟨hb, h1, h2⟩ := h
  refine ⟨hb, ?_⟩
  unfold invLL
  by_cases h0 : invE p ts ns = 0
  · obtain ⟨B, k, he, hr⟩ := h2 h0
    rw [if_pos h0, invL_len, h0]
    exact ⟨B, k, he, hr⟩
  · rw [if_neg h0]
    exact ⟨none, 0, h1 h0, Rd.nil _ _⟩
theorem invE_zero {p : Prc} {ts : List Ty} {ns : List Int} (h : invE p ts ns = 0) : prcB p = true ∧ (∀ j, j < ts.length → tyB (ts.getD j ⟨0, 0, 0, 0, []⟩) = true) ∧ (ts.length = ns.length ∧ ts.length ≤ 100) ∧ (∀ j, j < ns.length → 1 ≤ ns.getD j 0 ∧ ns.getD j 0 ≤ 10000) := by
  unfold invE at h
  by_cases h1 : prcB p = true
  · rw [if_pos h1] at h
    by_cases h2 : ts.all tyB = true
    · rw [if_pos h2] at h
      by_cases h3 : ts.length = ns.length ∧ ts.length ≤ 100
      · rw [if_pos h3] at h
        by_cases h4 : ns.all (fun n => decide (1 ≤ n ∧ n ≤ 10000)) = true
        · refine ⟨h1, fun j hj => ?_, h3, fun j hj => ?_⟩
          · rw [getD_at hj]
            exact List.all_eq_true.1 h2 _ (List.getElem_mem hj)
          · rw [getD_at hj]
            exact of_decide_eq_true (List.all_eq_true.1 h4 _ (List.getElem_mem hj))
        · rw [if_neg h4] at h; cases h
      · rw [if_neg h3] at h; cases h
    · rw [if_neg h2] at h; cases h
  · rw [if_neg h1] at h; cases h
theorem invL_mem {p : Prc} {ts : List Ty} {ns : List Int} (h : prcB p = true) (h2 : ∀ j, j < ts.length → tyB (ts.getD j ⟨0, 0, 0, 0, []⟩) = true) (h4 : ∀ j, j < ts.length → 1 ≤ ns.getD j 0 ∧ ns.getD j 0 ≤ 10000) : ∀ k, k ≤ ts.length → ∀ x ∈ invL p ts ns k, 0 ≤ x ∧ x ≤ 3600080000000000
  | 0, _, x, hx => by simp [invL] at hx
  | k + 1, hk, x, hx => by
    rcases List.mem_append.1 hx with hx | hx
    · exact invL_mem h h2 h4 k (by omega) x hx
    · rw [List.mem_singleton.1 hx]
      exact quo_bounds h (tyB_face (h2 k (by omega))) (h4 k (by omega))
theorem invLL_facts (p : Prc) (ts : List Ty) (ns : List Int) : (invLL p ts ns).length ≤ 100 ∧ ∀ x ∈ invLL p ts ns, 0 ≤ x ∧ x ≤ 3600080000000000 := by
  unfold invLL
  by_cases h0 : invE p ts ns = 0
  · obtain ⟨h1, h2, h3, h4⟩ := invE_zero h0
    rw [if_pos h0, invL_len]
    exact ⟨h3.2, invL_mem h1 h2 (fun j hj => h4 j (by omega)) _ (Nat.le_refl _)⟩
  · rw [if_neg h0]
    exact ⟨by simp, by simp⟩
theorem sum_take {l : List Int} {k : Nat} (hk : k < l.length) : sumL (l.take (k + 1)) = sumL (l.take k) + l.getD k 0 := by
  rw [List.take_add_one, List.getElem?_eq_getElem hk, getD_at hk]
  exact sumL_app _ _
theorem sum_bounds {l : List Int} (h : ∀ x ∈ l, 0 ≤ x ∧ x ≤ 3600080000000000) : ∀ k, k ≤ l.length → 0 ≤ sumL (l.take k) ∧ sumL (l.take k) ≤ 3600080000000000 * k
  | 0, _ => by simp [sumL]
  | k + 1, hk => by
    have ih := sum_bounds h k (by omega)
    rw [sum_take (by omega)]
    have := h (l.getD k 0) (by rw [getD_at (by omega : k < l.length)]; exact List.getElem_mem _)
    omega

set_option maxHeartbeats 4000000 in
set_option maxRecDepth 100000 in
theorem linvoices_calls (p : Prc) (A : Option Addr) (c : Nat) (ts : List Ty) (A2 : Option Addr) (c2 : Nat) (ns : List Int) (A3 : Option Addr) (c3 : Nat) (w : World) (hg : Gl w) (hst : StpsOk w A p.steps) (hts : TysOk w A2 ts) (hns : IntsOk w A3 ns) :
    Calls Tryz.prog 4 #[.agg #[.int .i64 p.dot, .int .i64 p.scr, .slice A p.steps.length c], .slice A2 ts.length c2, .slice A3 ns.length c3] w fun e w' => e = .returned (.bool true) ∧ Below w.heap.size w w' := by
  have zsb : ∀ l : List UInt8, (SB l).size = l.length := fun _ => rfl
  have hsn := hst.n
  have htn := hts.n
  have hnn := hns.n
  have hb0 := below_alloc w (.cells #[.int .i64 p.dot, .int .i64 p.scr, .slice A p.steps.length c] 24)
  have HO := hid ((On.start hg).lay (.cells #[.int .i64 p.dot, .int .i64 p.scr, .slice A p.steps.length c] 24))
  have HP := hid (PrAt.new w c hst)
  have HTS := hid (hts.below hb0)
  have HNS := hid (hns.below hb0)
  clear hst hg hts hns hb0
  go_enter Tryz.func4, Tryz.ntmps4
  go_upto_region 1 with (fail)
  change Code.wp _ _ _ _ (w.alloc (.cells #[.int .i64 p.dot, .int .i64 p.scr, .slice A p.steps.length c] 24))
  generalize w.alloc (.cells #[.int .i64 p.dot, .int .i64 p.scr, .slice A p.steps.length c] 24) = W at *
  obtain ⟨p0, p1, p2⟩ := (unhid HP).cells
  by_cases l1 : 8 < ts.length
  · have d1 : (8 : Int) < (ts.length : Int) := by omega
    go_wp2_with fail
    refine (unhid HO).awake.mono ?_
    rintro e w9 ⟨rfl, hb2⟩
    have HB2 := hid hb2
    clear hb2
    go_wp2_with fail
    go_ret
    exact ⟨rfl, unhid HB2⟩
  have d1 : ¬ (8 : Int) < (ts.length : Int) := by omega
  by_cases l2 : 12 < ns.length
  · have d2 : (12 : Int) < (ns.length : Int) := by omega
    go_wp2_with fail
    refine (unhid HO).awake.mono ?_
    rintro e w9 ⟨rfl, hb2⟩
    have HB2 := hid hb2
    clear hb2
    go_wp2_with fail
    go_ret
    exact ⟨rfl, unhid HB2⟩
  have d2 : ¬ (12 : Int) < (ns.length : Int) := by omega
  by_cases l3 : 30 < p.steps.length
  · have d3 : (30 : Int) < (p.steps.length : Int) := by omega
    go_wp2_with fail
    refine (unhid HO).awake.mono ?_
    rintro e w9 ⟨rfl, hb2⟩
    have HB2 := hid hb2
    clear hb2
    go_wp2_with fail
    go_ret
    exact ⟨rfl, unhid HB2⟩
  have d3 : ¬ (30 : Int) < (p.steps.length : Int) := by omega
  clear l1 l2 l3
  go_wp2_with fail
  clear d1 d2 d3 p0 p1 p2
  go_loopw [7] (fun iv wr => ∃ k : Nat, k ≤ ts.length ∧ iv = .int .i64 k ∧ (∀ j, j < k → (ts.getD j ⟨0, 0, 0, 0, []⟩).text.length ≤ 300) ∧ wr = W) (fun iv _ => ts.length - (intOf iv).toNat)
  case atStart => exact ⟨0, Nat.zero_le _, rfl, fun j h => absurd h (by omega), rfl⟩
  case round =>
    obtain ⟨k, hk, rfl, hall, rfl⟩ := hrel
    have HALL := hid hall
    clear hall
    by_cases hlt : k < ts.length
    · obtain ⟨b, off, rfl, hb, hc⟩ := (unhid HTS).rd (tys_ne hlt)
      obtain ⟨-, -, -, -, m4⟩ := tys_cells hc hlt
      have hki : (k : Int) < (ts.length : Int) := by omega
      obtain ⟨tx, htx⟩ : ∃ x, x = (ts.getD k ⟨0, 0, 0, 0, []⟩).text := ⟨_, rfl⟩
      rw [← htx] at m4
      have HTX := hid htx
      have hz := zsb tx
      clear htx hb hc
      by_cases hl : 300 < tx.length
      · have d : (300 : Int) < (tx.length : Int) := by omega
        go_wp2_with fail
        refine (unhid HO).awake.mono ?_
        rintro e w9 ⟨rfl, hb2⟩
        have HB2 := hid hb2
        clear hb2
        go_wp2_with fail
        go_ret
        exact ⟨rfl, unhid HB2⟩
      · have d : ¬ (300 : Int) < (tx.length : Int) := by omega
        have HL := hid hl
        go_wp2_with fail
        go_roundw
        case rel => exact ⟨k + 1, by omega, by go_num, fun j hj => by
          rcases Nat.lt_succ_iff_lt_or_eq.1 hj with h | rfl
          · exact (unhid HALL) j h
          · rw [← unhid HTX]; have := unhid HL; omega, by first | rfl | trivial⟩
        case measure => simp [intOf]; omega
    · obtain rfl : k = ts.length := by omega
      obtain ⟨p0, p1, p2⟩ := (unhid HP).cells
      have HI1 := hid (fun W h1 h2 h3 h4 => (winvoice_calls p A c ts A2 c2 ns A3 c3 W h1 h2 h3 h4).mono fun _ _ h => invR_both h)
      have HI2 := hid (fun W h2 h3 h4 => (rinvoice_calls p A c ts A2 c2 ns A3 c3 W h2 h3 h4 (fun k hk => by have := (unhid HALL) k hk; omega)).mono fun _ _ h => invR_both h)
      obtain ⟨f1, f2⟩ := invLL_facts p ts ns
      have HF2 := hid f2
      clear f2
      obtain ⟨L, hL⟩ : ∃ x, x = invLL p ts ns := ⟨_, rfl⟩
      rw [← hL] at HI1 HI2 HF2 f1
      obtain ⟨er, her⟩ : ∃ x, x = invE p ts ns := ⟨_, rfl⟩
      rw [← her] at HI1 HI2
      clear hL her
      go_wp2_with fail
      refine ((unhid HI1) wr (unhid HO).gl (unhid HP).ok (unhid HTS) (unhid HNS)).mono ?_
      rintro e w1 ⟨hb, B1, k1, rfl, hr1⟩
      have HO := hid ((unhid HO).next hb)
      have HP := hid ((unhid HP).below hb)
      have HTS := hid ((unhid HTS).below hb)
      have HNS := hid ((unhid HNS).below hb)
      have HR1 := hid hr1
      clear hb hr1 p0 p1 p2 HI1
      obtain ⟨p0, p1, p2⟩ := (unhid HP).cells
      go_wp2_with fail
      refine ((unhid HI2) w1 (unhid HP).ok (unhid HTS) (unhid HNS)).mono ?_
      rintro e w2 ⟨hb, B2, k2, rfl, hr2⟩
      have HO := hid ((unhid HO).next hb)
      have HR1 := hid ((unhid HR1).below hb)
      have HR2 := hid hr2
      clear hb hr2 p0 p1 p2 HI2 HP HTS HNS
      have HSA := hid (fun W h1 h2 => sameW_self L B1 B2 k1 k2 W h1 h2 (by omega))
      go_wp2_with fail
      refine ((unhid HSA) w2 (unhid HR1) (unhid HR2)).mono ?_
      rintro e w3 ⟨rfl, hb⟩
      have HO := hid ((unhid HO).next hb)
      have HR1 := hid ((unhid HR1).below hb)
      clear hb HR2 HSA
      obtain ⟨s, hs⟩ : ∃ x, x = sumL L := ⟨_, rfl⟩
      rw [← hs]
      have HSM := hid hs
      clear hs
      have ds : (s != s) = false := by simp
      have de : (er != er) = false := by simp
      go_wp2_with fail
      clear ds de
      go_loopw [15, 14] (fun iv sv wz => ∃ k : Nat, k ≤ L.length ∧ iv = .int .i64 k ∧ sv = .int .i64 (sumL (L.take k)) ∧ wz = w3) (fun iv _ _ => L.length - (intOf iv).toNat)
      case atStart => exact ⟨0, Nat.zero_le _, rfl, by simp [sumL], rfl⟩
      case round =>
        obtain ⟨k, hk, rfl, rfl, rfl⟩ := hrel
        by_cases hlt : k < L.length
        · obtain ⟨b, off, rfl, hb, hc⟩ := (unhid HR1) (nums_ne hlt)
          have m0 := hc k _ (nums_at hlt)
          have hki : (k : Int) < (L.length : Int) := by omega
          have HST := hid (sum_take hlt)
          obtain ⟨x0, x1⟩ := sum_bounds (unhid HF2) k (by omega)
          obtain ⟨y0, y1⟩ := (unhid HF2) (L.getD k 0) (by rw [getD_at hlt]; exact List.getElem_mem _)
          obtain ⟨x, hx⟩ : ∃ x, x = L.getD k 0 := ⟨_, rfl⟩
          rw [← hx] at m0 HST y0 y1
          obtain ⟨sm, hsm⟩ : ∃ x, x = sumL (L.take k) := ⟨_, rfl⟩
          rw [← hsm] at HST x0 x1 ⊢
          clear hx hsm hb hc
          go_wp2_with fail
          go_roundw
          case rel => exact ⟨k + 1, by omega, by go_num, by rw [unhid HST], by first | rfl | trivial⟩
          case measure => simp [intOf]; omega
        · obtain rfl : k = L.length := by omega
          rw [List.take_length, ← unhid HSM]
          have ds : (s == s) = true := by simp
          go_wp2_with fail
          refine (unhid HO).awake.mono ?_
          rintro e w9 ⟨rfl, hb2⟩
          have HB2 := hid hb2
          clear hb2
          go_wp2_with fail
          go_ret
          exact ⟨rfl, unhid HB2⟩

end Go.Proofs.YtbnnnjkfhffekaaGreatDoor
