/-
  The law WorksMany.
-/
import Derived.Test.YtbnnnjkfhffekaaGreatDoorWoX
set_option linter.unusedSimpArgs false
set_option linter.unusedVariables false
namespace Go.Proofs.YtbnnnjkfhffekaaGreatDoor
open Go.RowKit

/-- Rows of unlike elements lie apart. -/
theorem own_apart {w : World} {b1 e1 z1 n1 b2 e2 z2 n2 : Nat} {v1 v2 : Value} {x1 x2 : List Value} (h1 : w.ownsRow b1 e1 z1 v1 n1 x1) (h2 : w.ownsRow b2 e2 z2 v2 n2 x2) (he : e1 ≠ e2) : v2.ownBlock = none ∨ v2.ownBlock ≠ v1.ownBlock := by
  rcases h2.2 with ⟨rfl, -⟩ | ⟨g, cap, cur, rfl, -, hh, -⟩
  · exact .inl rfl
  · right
    rcases h1.2 with ⟨rfl, -⟩ | ⟨g2, cap2, cur2, rfl, -, hh2, -⟩
    · simp [Value.ownBlock]
    · intro e
      simp [Value.ownBlock] at e
      subst e
      rw [hh] at hh2
      injection hh2 with hh2
      injection hh2 with _ h3
      exact he h3.symm
theorem ty_one (t : Ty) : ∀ u ∈ tyC t, u.oneCell' = true := by
  intro u hu
  simp [tyC] at hu
  rcases hu with rfl | rfl | rfl | rfl | rfl <;> rfl
theorem info_ty : (Tryz.prog.info? 26).map (fun i => (i.zero, i.size, i.bytes)) = some (some (.agg #[.int .i64 0, .int .i64 0, .int .i64 0, .int .i64 0, .string ByteArray.empty]), 5, 48) := by kernel_rfl
theorem rep_tys (t : Ty) (k : Nat) : (List.replicate (k + 1) t).flatMap tyC = (List.replicate k t).flatMap tyC ++ tyC t := by
  rw [List.replicate_succ', List.flatMap_append]
  simp
theorem rep_getD {α : Type} {k j : Nat} (h : j < k) (a d : α) : (List.replicate k a).getD j d = a := by
  rw [getD_at (by simpa using h)]
  simp
theorem many_E {p : Prc} {t : Ty} {k : Nat} (hk : 101 ≤ k) : invE p (List.replicate k t) (List.replicate k 1) = if prcB p = true then if tyB t = true then 2 else 101 else 103 := by
  by_cases h1 : prcB p = true
  · rw [if_pos h1]
    by_cases h2 : tyB t = true
    · rw [if_pos h2]
      exact invE_3 h1 (fun j hj => by rw [rep_getD (by simpa using hj)]; exact h2) (by simp; omega)
    · rw [if_neg h2]
      exact invE_2 h1 (k := 0) (by simp; omega) (by rw [rep_getD (by omega)]; simpa using h2)
  · rw [if_neg h1]
    exact invE_1 (by simpa using h1)

set_option maxHeartbeats 4000000 in
set_option maxRecDepth 100000 in
theorem lmany_calls (p : Prc) (A : Option Addr) (c : Nat) (t : Ty) (n : Int) (w : World) (hg : Gl w) (hst : StpsOk w A p.steps) (ht : t.text.length ≤ 140737488355328) (hn : 0 ≤ n ∧ n ≤ 255) :
    Calls Tryz.prog 5 #[.agg #[.int .i64 p.dot, .int .i64 p.scr, .slice A p.steps.length c], .agg #[.int .i64 t.code, .int .i64 t.grade, .int .i64 t.frm, .int .i64 t.to, .string (SB t.text)], .int .u8 n] w fun e w' => e = .returned (.bool true) ∧ Below w.heap.size w w' := by
  obtain ⟨i0, hi, hz0, hz1, hz2⟩ := info_partsd info_i64d
  obtain ⟨it, hit, ht0, ht1, ht2⟩ := info_partsd info_ty
  have zsb : (SB t.text).size = t.text.length := rfl
  have hsn := hst.n
  obtain ⟨n0, n1⟩ := hn
  have HO := hid (((On.start hg).lay (.cells #[.int .i64 p.dot, .int .i64 p.scr, .slice A p.steps.length c] 24)).lay (.cells #[.int .i64 t.code, .int .i64 t.grade, .int .i64 t.frm, .int .i64 t.to, .string (SB t.text)] 26))
  have HP := hid ((PrAt.new w c hst).below (below_alloc _ (.cells #[.int .i64 t.code, .int .i64 t.grade, .int .i64 t.frm, .int .i64 t.to, .string (SB t.text)] 26)))
  have hT := TyAt.new (w.alloc (.cells #[.int .i64 p.dot, .int .i64 p.scr, .slice A p.steps.length c] 24)) t
  rw [World.size_alloc] at hT
  have HT := hid hT
  have HTX := hid ht
  clear hT hst hg
  go_enter Tryz.func5, Tryz.ntmps5
  go_upto_region 1 with (fail)
  change Code.wp _ _ _ _ ((w.alloc (.cells #[.int .i64 p.dot, .int .i64 p.scr, .slice A p.steps.length c] 24)).alloc (.cells #[.int .i64 t.code, .int .i64 t.grade, .int .i64 t.frm, .int .i64 t.to, .string (SB t.text)] 26))
  generalize (w.alloc (.cells #[.int .i64 p.dot, .int .i64 p.scr, .slice A p.steps.length c] 24)).alloc (.cells #[.int .i64 t.code, .int .i64 t.grade, .int .i64 t.frm, .int .i64 t.to, .string (SB t.text)] 26) = W at *
  obtain ⟨p0, p1, p2⟩ := (unhid HP).cells
  obtain ⟨s0, s1, s2, s3, s4⟩ := (unhid HT).cells
  by_cases l1 : 60 < t.text.length
  · have d1 : (60 : Int) < (t.text.length : Int) := by omega
    go_wp2_with fail
    refine (unhid HO).awake.mono ?_
    rintro e w9 ⟨rfl, hb2⟩
    have HB2 := hid hb2
    clear hb2
    go_wp2_with fail
    go_ret
    exact ⟨rfl, unhid HB2⟩
  have d1 : ¬ (60 : Int) < (t.text.length : Int) := by omega
  by_cases l2 : 30 < p.steps.length
  · have d2 : (30 : Int) < (p.steps.length : Int) := by omega
    go_wp2_with fail
    refine (unhid HO).awake.mono ?_
    rintro e w9 ⟨rfl, hb2⟩
    have HB2 := hid hb2
    clear hb2
    go_wp2_with fail
    go_ret
    exact ⟨rfl, unhid HB2⟩
  have d2 : ¬ (30 : Int) < (p.steps.length : Int) := by omega
  obtain ⟨nn, rfl⟩ : ∃ k : Nat, n = (k : Int) := ⟨n.toNat, by omega⟩
  obtain ⟨mx, hmx⟩ : ∃ k, k = 101 + nn % 4 := ⟨_, rfl⟩
  have hm1 : 101 ≤ mx ∧ mx ≤ 104 := by omega
  have HMX := hid hmx
  have HM1 := hid hm1
  clear hmx hm1 l2
  go_wp2_with fail
  clear d1 d2 p0 p1 p2 s0 s1 s2 s3 s4
  go_loopw [9, 7, 8] (fun iv tv cv wr => ∃ k : Nat, k ≤ mx ∧ iv = .int .i64 k ∧ wr.ownsRow W.heap.size 26 5 tv k ((List.replicate k t).flatMap tyC) ∧ wr.ownsRow W.heap.size 3 1 cv k (ints (List.replicate k 1)) ∧ Below W.heap.size W wr) (fun iv _ _ _ => mx - (intOf iv).toNat)
  case atStart => exact ⟨0, Nat.zero_le _, rfl, World.ownsRow_nil _ _ _ _, World.ownsRow_nil _ _ _ _, Below.refl _ _⟩
  case round =>
    obtain ⟨k, hk, rfl, hown1, hown2, hbel⟩ := hrel
    have HR1 := hid hown1
    have HR2 := hid hown2
    have HBEL := hid hbel
    have HT1 := hid ((unhid HT).below hbel)
    clear hown1 hown2 hbel
    obtain ⟨s0, s1, s2, s3, s4⟩ := (unhid HT1).cells
    by_cases hlt : k < mx
    · have hkl : (k : Int) < 101 + ((nn % 4 : Nat) : Int) := by have := unhid HMX; omega
      obtain ⟨A4, c4, rfl, -, -⟩ := own_slice (unhid HR1)
      obtain ⟨A5, c5, rfl, -, -⟩ := own_slice (unhid HR2)
      have hk104 : k ≤ 104 := by have := unhid HM1; omega
      go_wp2_with (at_builtin; refine wpList_append_own _ rfl _ _ 33 rfl W.heap.size 26 it _ 5 48 Tryz.underlying33 hit ht0 ht1 ht2 rfl (by decide) _ _ _ rfl ((unhid HR1).alloc _) ⟨wr.heap.size, 0, none⟩ 1 1 (tyC t) rfl rfl (by exact World.news_of_block (cs := (tyC t).toArray) (t := 26) (fr := (0, 0)) (by simpa [tyC] using heap_alloc_new wr (.cells (tyC t).toArray 26))) ?a2 ?a3 ?a4 ?a5 ?_)
      case a2 => exact ty_one t
      case a3 => unfold maxLen; omega
      case a4 => omega
      case a5 => have := (unhid HBEL).size; simp; omega
      intro v5 w5 hown5 hg5 _
      have hap := own_apart ((unhid HR1).alloc (.cells (tyC t).toArray 26)) ((unhid HR2).alloc (.cells (tyC t).toArray 26)) (by decide)
      have HR25 := hid (((unhid HR2).alloc (.cells (tyC t).toArray 26)).kept hg5 hap)
      have hb5 := Below.grown ((unhid HBEL).alloc (unhid HBEL).size (.cells (tyC t).toArray 26)) hg5 (by have := (unhid HBEL).size; simp; omega) (fun q hq => by
        rcases Nat.lt_or_ge q W.heap.size with h | h
        · exact absurd hq (own_ne (unhid HR1) (Or.inl h))
        · exact h)
      have HBL5 := hid hb5
      have HR15 := hid hown5
      clear hap hb5 hown5 hg5
      go_wp2_with (at_builtin; refine wpList_append_own _ rfl _ _ 34 rfl W.heap.size 3 i0 (.int .i64 0) 1 8 Tryz.underlying34 hi hz0 hz1 hz2 rfl (by decide) _ _ _ rfl ((unhid HR25).alloc _) ⟨w5.heap.size, 0, none⟩ 1 1 [.int .i64 1] rfl rfl (by exact World.news_of_block (cs := #[.int .i64 1]) (t := 3) (fr := (0, 0)) (by simpa [tyC] using heap_alloc_new w5 (.cells #[.int .i64 1] 3))) ?b2 ?b3 ?b4 ?b5 ?_)
      case b2 => first | rfl | (intro u hu; simp at hu; subst hu; rfl)
      case b3 => unfold maxLen; omega
      case b4 => omega
      case b5 => have := (unhid HBL5).size; simp; omega
      intro v6 w6 hown6 hg6 _
      have hap := own_apart ((unhid HR25).alloc (.cells #[.int .i64 1] 3)) ((unhid HR15).alloc (.cells #[.int .i64 1] 3)) (by decide)
      have HR16 := hid (((unhid HR15).alloc (.cells #[.int .i64 1] 3)).kept hg6 hap)
      have hb6 := Below.grown ((unhid HBL5).alloc (unhid HBL5).size (.cells #[.int .i64 1] 3)) hg6 (by have := (unhid HBL5).size; simp; omega) (fun q hq => by
        rcases Nat.lt_or_ge q W.heap.size with h | h
        · exact absurd hq (own_ne (unhid HR25) (Or.inl h))
        · exact h)
      have HBL6 := hid hb6
      have HR26 := hid hown6
      clear hap hb6 hown6 hg6 s0 s1 s2 s3 s4
      go_wp2_with fail
      go_roundw
      case rel => exact ⟨k + 1, by omega, by go_num, by rw [rep_tys]; exact unhid HR16, by rw [List.replicate_succ']; simpa [ints] using unhid HR26, unhid HBL6⟩
      case measure => simp [intOf]; omega
    · obtain rfl : k = mx := by omega
      have hkl : ¬ (k : Int) < 101 + ((nn % 4 : Nat) : Int) := by have := unhid HMX; omega
      have hk101 := unhid HM1
      have HO := hid ((unhid HO).next (unhid HBEL))
      have HP := hid ((unhid HP).below (unhid HBEL))
      obtain ⟨A4, c4, rfl, hr1, -⟩ := own_slice (unhid HR1)
      obtain ⟨A5, c5, rfl, hr2, -⟩ := own_slice (unhid HR2)
      have HTS := hid (⟨by simp; omega, hr1, fun x hx => by rw [List.eq_of_mem_replicate hx]; exact unhid HTX⟩ : TysOk wr A4 (List.replicate k t))
      have HNS := hid (⟨by simp; omega, hr2⟩ : IntsOk wr A5 (List.replicate k 1))
      have HIN := hid (fun W h1 h2 h3 h4 => winvoice_calls p A c (List.replicate k t) A4 c4 (List.replicate k 1) A5 c5 W h1 h2 h3 h4)
      have HME := hid (many_E (p := p) (t := t) (k := k) hk101.1)
      simp only [List.length_replicate] at HIN
      clear hr1 hr2 HR1 HR2 HBEL s0 s1 s2 s3 s4 hk101
      obtain ⟨p0, p1, p2⟩ := (unhid HP).cells
      go_wp2_with fail
      refine (rvalidPrices_calls p A c wr (unhid HP).ok).mono ?_
      rintro e w1 ⟨rfl, hb⟩
      have HO := hid ((unhid HO).next hb)
      have HP := hid ((unhid HP).below hb)
      have HT := hid ((unhid HT1).below hb)
      have HTS := hid ((unhid HTS).below hb)
      have HNS := hid ((unhid HNS).below hb)
      clear hb p0 p1 p2 HT1 hkl
      cases hpb : prcB p with
      | false =>
        rw [hpb] at HME
        have HM3 := hid (show invE p (List.replicate k t) (List.replicate k 1) = 103 from unhid HME)
        clear hpb HME
        obtain ⟨p0, p1, p2⟩ := (unhid HP).cells
        go_wp2_with fail
        refine ((unhid HIN) w1 (unhid HO).gl (unhid HP).ok (unhid HTS) (unhid HNS)).mono ?_
        rintro e w9 ⟨hb, h1, -⟩
        rw [unhid HM3] at h1
        obtain rfl := h1 (by decide)
        have HO := hid ((unhid HO).next hb)
        clear hb h1 p0 p1 p2
        go_wp2_with fail
        refine (unhid HO).awake.mono ?_
        rintro e w9 ⟨rfl, hb2⟩
        have HB2 := hid hb2
        clear hb2
        go_wp2_with fail
        go_ret
        exact ⟨rfl, unhid HB2⟩
      | true =>
        rw [hpb] at HME
        obtain ⟨s0, s1, s2, s3, s4⟩ := (unhid HT).cells
        clear hpb
        go_wp2_with fail
        refine (rvalidType_calls t w1 (by omega)).mono ?_
        rintro e w2 ⟨rfl, hb⟩
        have HO := hid ((unhid HO).next hb)
        have HP := hid ((unhid HP).below hb)
        have HTS := hid ((unhid HTS).below hb)
        have HNS := hid ((unhid HNS).below hb)
        clear hb s0 s1 s2 s3 s4 HT
        obtain ⟨p0, p1, p2⟩ := (unhid HP).cells
        cases htb : tyB t with
        | false =>
          rw [htb] at HME
          have HM3 := hid (show invE p (List.replicate k t) (List.replicate k 1) = 101 from unhid HME)
          clear htb HME
          go_wp2_with fail
          refine ((unhid HIN) w2 (unhid HO).gl (unhid HP).ok (unhid HTS) (unhid HNS)).mono ?_
          rintro e w9 ⟨hb, h1, -⟩
          rw [unhid HM3] at h1
          obtain rfl := h1 (by decide)
          have HO := hid ((unhid HO).next hb)
          clear hb h1 p0 p1 p2
          go_wp2_with fail
          refine (unhid HO).awake.mono ?_
          rintro e w9 ⟨rfl, hb2⟩
          have HB2 := hid hb2
          clear hb2
          go_wp2_with fail
          go_ret
          exact ⟨rfl, unhid HB2⟩
        | true =>
          rw [htb] at HME
          have HM3 := hid (show invE p (List.replicate k t) (List.replicate k 1) = 2 from unhid HME)
          clear htb HME
          go_wp2_with fail
          refine ((unhid HIN) w2 (unhid HO).gl (unhid HP).ok (unhid HTS) (unhid HNS)).mono ?_
          rintro e w9 ⟨hb, h1, -⟩
          rw [unhid HM3] at h1
          obtain rfl := h1 (by decide)
          have HO := hid ((unhid HO).next hb)
          clear hb h1 p0 p1 p2
          go_wp2_with fail
          refine (unhid HO).awake.mono ?_
          rintro e w9 ⟨rfl, hb2⟩
          have HB2 := hid hb2
          clear hb2
          go_wp2_with fail
          go_ret
          exact ⟨rfl, unhid HB2⟩

end Go.Proofs.YtbnnnjkfhffekaaGreatDoor
