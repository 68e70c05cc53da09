/-
  The law WorksDearer.
-/
import Derived.Test.YtbnnnjkfhffekaaGreatDoorWoX
import Derived.Test.YtbnnnjkfhffekaaGreatDoorWaK
set_option linter.unusedSimpArgs false
set_option linter.unusedVariables false
namespace Go.Proofs.YtbnnnjkfhffekaaGreatDoor
open Go.RowKit

theorem quoE_ab {p : Prc} {t : Ty} {a b : Int} (ha : 1 ≤ a ∧ a ≤ 10000) (hb : 1 ≤ b ∧ b ≤ 10000) : quoE p t a = quoE p t b := by
  unfold quoE
  rw [if_pos ha, if_pos hb]
theorem quoE_zero {p : Prc} {t : Ty} {a : Int} (h : quoE p t a = 0) : prcB p = true ∧ tyB t = true := by
  unfold quoE at h
  by_cases h1 : prcB p = true
  · rw [if_pos h1] at h
    by_cases h2 : tyB t = true
    · exact ⟨h1, h2⟩
    · rw [if_neg h2] at h; cases h
  · rw [if_neg h1] at h; cases h

set_option maxHeartbeats 4000000 in
set_option maxRecDepth 100000 in
theorem ldearer_calls (p : Prc) (A : Option Addr) (c : Nat) (t : Ty) (m n : Int) (w : World) (hg : Gl w) (hst : StpsOk w A p.steps) (ht : t.text.length ≤ 140737488355328) (hmn : (0 ≤ m ∧ m ≤ 65535) ∧ (0 ≤ n ∧ n ≤ 65535)) :
    Calls Tryz.prog 7 #[.agg #[.int .i64 p.dot, .int .i64 p.scr, .slice A p.steps.length c], .agg #[.int .i64 t.code, .int .i64 t.grade, .int .i64 t.frm, .int .i64 t.to, .string (SB t.text)], .agg #[.int .u16 m, .int .u16 n]] w fun e w' => e = .returned (.bool true) ∧ Below w.heap.size w w' := by
  have zsb : (SB t.text).size = t.text.length := rfl
  have hsn := hst.n
  obtain ⟨⟨m0, m1⟩, n0, n1⟩ := hmn
  have HO := hid ((((On.start hg).lay (.cells #[.int .i64 p.dot, .int .i64 p.scr, .slice A p.steps.length c] 24)).lay (.cells #[.int .i64 t.code, .int .i64 t.grade, .int .i64 t.frm, .int .i64 t.to, .string (SB t.text)] 26)).lay (.cells #[.int .u16 m, .int .u16 n] 47))
  have HP := hid (((PrAt.new w c hst).below (below_alloc _ (.cells #[.int .i64 t.code, .int .i64 t.grade, .int .i64 t.frm, .int .i64 t.to, .string (SB t.text)] 26))).below (below_alloc _ (.cells #[.int .u16 m, .int .u16 n] 47)))
  have hT := (TyAt.new (w.alloc (.cells #[.int .i64 p.dot, .int .i64 p.scr, .slice A p.steps.length c] 24)) t).below (below_alloc _ (.cells #[.int .u16 m, .int .u16 n] 47))
  rw [World.size_alloc] at hT
  have HT := hid hT
  have hW := heap_alloc_new ((w.alloc (.cells #[.int .i64 p.dot, .int .i64 p.scr, .slice A p.steps.length c] 24)).alloc (.cells #[.int .i64 t.code, .int .i64 t.grade, .int .i64 t.frm, .int .i64 t.to, .string (SB t.text)] 26)) (.cells #[.int .u16 m, .int .u16 n] 47)
  simp only [World.size_alloc] at hW
  have HW := hid hW
  have HTX := hid ht
  clear hT hst hg hW
  go_enter Tryz.func7, Tryz.ntmps7
  go_upto_region 1 with (fail)
  change Code.wp _ _ _ _ (((w.alloc (.cells #[.int .i64 p.dot, .int .i64 p.scr, .slice A p.steps.length c] 24)).alloc (.cells #[.int .i64 t.code, .int .i64 t.grade, .int .i64 t.frm, .int .i64 t.to, .string (SB t.text)] 26)).alloc (.cells #[.int .u16 m, .int .u16 n] 47))
  generalize ((w.alloc (.cells #[.int .i64 p.dot, .int .i64 p.scr, .slice A p.steps.length c] 24)).alloc (.cells #[.int .i64 t.code, .int .i64 t.grade, .int .i64 t.frm, .int .i64 t.to, .string (SB t.text)] 26)).alloc (.cells #[.int .u16 m, .int .u16 n] 47) = W at *
  have hlt := (Array.getElem?_eq_some_iff.1 (unhid HW)).1
  have c0 := cell_of_row _ (w.heap.size + 2) 0 _ _ _ (unhid HW)
  have c1 := cell_of_row _ (w.heap.size + 2) 1 _ _ _ (unhid HW)
  simp at c0 c1
  have q0 := fun P : After W => After.cell (a := ⟨w.heap.size + 2, 0, none⟩) hlt c0 P
  have q1 := fun P : After W => After.cell (a := ⟨w.heap.size + 2, 1, none⟩) hlt c1 P
  clear c0 c1
  (refine wp_region_below (by kernel_rfl) (by kernel_rfl) ?_; (repeat (go_big_quiet_step (first | fail))); refine wpQuiet_nil ?_; intro wq hw'; obtain ⟨⟨wq2, hbq⟩, hw''⟩ := hw'; dsimp only at hw''; subst hw'')
  have HO := hid ((unhid HO).next hbq)
  have HP := hid ((unhid HP).below hbq)
  have HT := hid ((unhid HT).below hbq)
  clear hbq q0 q1 hlt HW
  obtain ⟨p0, p1, p2⟩ := (unhid HP).cells
  obtain ⟨s0, s1, s2, s3, s4⟩ := (unhid HT).cells
  by_cases l1 : 400 < t.text.length
  · have d1 : (400 : Int) < (t.text.length : Int) := by omega
    go_wp2_with fail
    refine (unhid HO).awake.mono ?_
    rintro e w9 ⟨rfl, hb2⟩
    have HB2 := hid hb2
    clear hb2
    go_wp2_with fail
    go_ret
    exact ⟨rfl, unhid HB2⟩
  have d1 : ¬ (400 : Int) < (t.text.length : Int) := by omega
  by_cases l2 : 30 < p.steps.length
  · have d2 : (30 : Int) < (p.steps.length : Int) := by omega
    go_wp2_with fail
    refine (unhid HO).awake.mono ?_
    rintro e w9 ⟨rfl, hb2⟩
    have HB2 := hid hb2
    clear hb2
    go_wp2_with fail
    go_ret
    exact ⟨rfl, unhid HB2⟩
  have d2 : ¬ (30 : Int) < (p.steps.length : Int) := by omega
  have HQ := hid (fun k W h1 h2 => wquote_calls p A c t k W h1 h2 (unhid HTX))
  obtain ⟨mm, rfl⟩ : ∃ k : Nat, m = (k : Int) := ⟨m.toNat, by omega⟩
  obtain ⟨nn, rfl⟩ : ∃ k : Nat, n = (k : Int) := ⟨n.toNat, by omega⟩
  go_upto_region 6 with (fail)
  obtain ⟨a, ha⟩ : ∃ a : Int, a = 1 + (mm : Int) % 10000 := ⟨_, rfl⟩
  rw [← ha]
  obtain ⟨b, hb⟩ : ∃ b : Int, b = min 10000 (a + (nn : Int) % 200) := ⟨_, rfl⟩
  rw [← hb]
  have ha1 : 1 ≤ a ∧ a ≤ 10000 := by omega
  have hb1 : 1 ≤ b ∧ b ≤ 10000 := by omega
  have HAB := hid (show a ≤ b by omega)
  have HQE := hid (quoE_ab (p := p) (t := t) ha1 hb1)
  have HA1 := hid ha1
  clear ha hb ha1 hb1 l1 l2 d1 d2
  by_cases h0 : quoE p t a = 0
  rotate_left
  · have HA := hid ((unhid HQ) a)
    have HBQ := hid ((unhid HQ) b)
    have ra : quoR p t a = .tuple #[.int .i64 0, .int .i64 (quoE p t a)] := by unfold quoR; rw [if_neg h0]
    have rb : quoR p t b = .tuple #[.int .i64 0, .int .i64 (quoE p t a)] := by unfold quoR; rw [← unhid HQE, if_neg h0]
    rw [ra] at HA
    rw [rb] at HBQ
    obtain ⟨er, her⟩ : ∃ x, x = quoE p t a := ⟨_, rfl⟩
    rw [← her] at HA HBQ h0
    have de : (er != 0) = true := by simp [h0]
    have de2 : (er == er) = true := by simp
    clear ra rb her h0 HQ HQE
    go_wp2_with fail
    refine ((unhid HA) wq (unhid HO).gl (unhid HP).ok).mono ?_
    rintro e w1 ⟨rfl, hb⟩
    have HO := hid ((unhid HO).next hb)
    have HP := hid ((unhid HP).below hb)
    have HT := hid ((unhid HT).below hb)
    clear hb p0 p1 p2 s0 s1 s2 s3 s4
    obtain ⟨p0, p1, p2⟩ := (unhid HP).cells
    obtain ⟨s0, s1, s2, s3, s4⟩ := (unhid HT).cells
    go_wp2_with fail
    refine ((unhid HBQ) w1 (unhid HO).gl (unhid HP).ok).mono ?_
    rintro e w2 ⟨rfl, hb⟩
    have HO := hid ((unhid HO).next hb)
    clear hb p0 p1 p2 s0 s1 s2 s3 s4
    go_wp2_with fail
    refine (unhid HO).awake.mono ?_
    rintro e w9 ⟨rfl, hb2⟩
    have HB2 := hid hb2
    clear hb2
    go_wp2_with fail
    go_ret
    exact ⟨rfl, unhid HB2⟩
  · obtain ⟨z1, z2⟩ := quoE_zero h0
    have HA := hid ((unhid HQ) a)
    have HBQ := hid ((unhid HQ) b)
    have ra : quoR p t a = .tuple #[.int .i64 (quoP p (facP t) a), .int .i64 0] := by unfold quoR; rw [h0]; rfl
    have rb : quoR p t b = .tuple #[.int .i64 (quoP p (facP t) b), .int .i64 0] := by unfold quoR; rw [← unhid HQE, h0]; rfl
    rw [ra] at HA
    rw [rb] at HBQ
    have HMORE := hid (fun h => quo_more z1 (tyB_face z2) (unhid HA1).1 (unhid HAB) h)
    obtain ⟨u, hu⟩ : ∃ x, x = quoP p (facP t) a := ⟨_, rfl⟩
    rw [← hu] at HA HMORE
    obtain ⟨v, hv⟩ : ∃ x, x = quoP p (facP t) b := ⟨_, rfl⟩
    rw [← hv] at HBQ HMORE
    clear ra rb hu hv h0 HQ HQE z1 z2
    go_wp2_with fail
    refine ((unhid HA) wq (unhid HO).gl (unhid HP).ok).mono ?_
    rintro e w1 ⟨rfl, hb⟩
    have HO := hid ((unhid HO).next hb)
    have HP := hid ((unhid HP).below hb)
    have HT := hid ((unhid HT).below hb)
    clear hb p0 p1 p2 s0 s1 s2 s3 s4
    obtain ⟨p0, p1, p2⟩ := (unhid HP).cells
    obtain ⟨s0, s1, s2, s3, s4⟩ := (unhid HT).cells
    go_wp2_with fail
    refine ((unhid HBQ) w1 (unhid HO).gl (unhid HP).ok).mono ?_
    rintro e w2 ⟨rfl, hb⟩
    have HO := hid ((unhid HO).next hb)
    have HP := hid ((unhid HP).below hb)
    clear hb p0 p1 p2 s0 s1 s2 s3 s4
    go_wp2_with fail
    go_loopw [15] (fun iv wr => ∃ k : Nat, k ≤ p.steps.length ∧ iv = .int .i64 k ∧ (∀ j, j < k → ¬ (a < (p.steps.getD j ⟨0, 0⟩).count ∧ (p.steps.getD j ⟨0, 0⟩).count ≤ b)) ∧ wr = w2) (fun iv _ => p.steps.length - (intOf iv).toNat)
    case atStart => exact ⟨0, Nat.zero_le _, rfl, fun j h => absurd h (by omega), rfl⟩
    case round =>
      obtain ⟨k, hk, rfl, hall, rfl⟩ := hrel
      have HALL := hid hall
      clear hall
      obtain ⟨q0, q1, q2⟩ := (unhid HP).cells
      by_cases hlt : k < p.steps.length
      · obtain ⟨sb, so, rfl, hb, hc⟩ := (unhid HP).ok.rd (stps_ne hlt)
        obtain ⟨m0, -⟩ := stps_cells hc hlt
        have hki : (k : Int) < (p.steps.length : Int) := by omega
        obtain ⟨cn, hcn⟩ : ∃ x, x = (p.steps.getD k ⟨0, 0⟩).count := ⟨_, rfl⟩
        rw [← hcn] at m0
        have HCN := hid hcn
        clear hcn hb hc
        by_cases h1 : a < cn
        · by_cases h2 : cn ≤ b
          · go_wp2_with fail
            refine (unhid HO).awake.mono ?_
            rintro e w9 ⟨rfl, hb2⟩
            have HB2 := hid hb2
            clear hb2
            go_wp2_with fail
            go_ret
            exact ⟨rfl, unhid HB2⟩
          · have HS := hid h2
            go_wp2_with fail
            go_roundw
            case rel => exact ⟨k + 1, by omega, by go_num, fun j hj => by
              rcases Nat.lt_succ_iff_lt_or_eq.1 hj with h | rfl
              · exact (unhid HALL) j h
              · rw [← unhid HCN]; exact fun h => (unhid HS) h.2, by first | rfl | trivial⟩
            case measure => simp [intOf]; omega
        · have HS := hid h1
          go_wp2_with fail
          go_roundw
          case rel => exact ⟨k + 1, by omega, by go_num, fun j hj => by
            rcases Nat.lt_succ_iff_lt_or_eq.1 hj with h | rfl
            · exact (unhid HALL) j h
            · rw [← unhid HCN]; exact fun h => (unhid HS) h.1, by first | rfl | trivial⟩
          case measure => simp [intOf]; omega
      · obtain rfl : k = p.steps.length := by omega
        have huv := (unhid HMORE) (unhid HALL)
        go_wp2_with fail
        refine (unhid HO).awake.mono ?_
        rintro e w9 ⟨rfl, hb2⟩
        have HB2 := hid hb2
        clear hb2
        go_wp2_with fail
        go_ret
        exact ⟨rfl, unhid HB2⟩

end Go.Proofs.YtbnnnjkfhffekaaGreatDoor
