/-
  filled of the laws; the law BookKeeps.
-/
import Derived.Test.YtegghimjmbgghaaBkCo
import Derived.Test.YtegghimjmbgghaaBkAdL
set_option linter.unusedSimpArgs false
set_option linter.unusedVariables false
namespace Go.Proofs.Ytegghimjmbgghaa
open Go.RowKit Go.Shelf

/-! ### Plain -/
/-- What counts keeps counting in a greater book in which its tablet is straight up to it. -/
theorem cnt_mono {S T : List Rc} (hsub : ∀ r ∈ S, r ∈ T) {x : Rc} (h : Cnt S x) : Straight T x.tb x.num → Cnt T x := by
  induction h with
  | mk x hx hst ha hc ih =>
    intro hT
    have hdown : ∀ t n, Straight T t n → Straight S t n := fun t n h a ha b hb => h a (hsub a ha) b (hsub b hb)
    refine .mk x (hsub x hx) hT (fun s h1 n h2 h3 h4 => ?_) (fun q hq h1 h2 h3 h4 => ?_)
    · obtain ⟨q, hq, e⟩ := ha s h1 n h2 h3 (hdown _ _ h4)
      exact ⟨q, hsub q hq, e⟩
    · obtain ⟨q0, hq0, e1, e2⟩ := ha q.tb h1 q.num h2 h3 (hdown _ _ h4)
      have e : q = q0 := h4 q hq q0 (hsub q0 hq0) rfl e1 e2.symm (Int.le_refl _)
      subst e
      exact ih q hq0 h1 h2 h3 (hdown _ _ h4) h4
/-- A list of forks tells that a record is at or behind one. -/
def fkB (F : List (Int × Int)) (x : Rc) : Bool := F.any fun f => decide (f.1 = x.tab) && decide (f.2 ≤ x.num)
theorem fkB_nil (x : Rc) : fkB [] x = false := rfl
theorem fkB_take {Q : List (Int × Int)} {x : Rc} {k : Nat} (hk : k < Q.length) {f : Int × Int} (hf : Q[k]'hk = f) : fkB (Q.take (k + 1)) x = (fkB (Q.take k) x || (decide (f.1 = x.tab) && decide (f.2 ≤ x.num))) := by
  rw [List.take_succ_eq_append_getElem hk, hf]
  simp [fkB, List.any_append]
theorem fkB_forks {L : List Rc} (hv : ∀ r ∈ L, rcB r = true) {x : Rc} (hx : rcB x = true) : fkB (forksP L) x = decide (frk L x.tb ≤ x.num) := by
  have o := rc_ok hx
  have h1 := o.tb
  have h2 := o.num
  rw [Bool.eq_iff_iff, decide_eq_true_eq]
  simp only [fkB, forksP, forkK, List.any_eq_true, List.mem_map, List.mem_filter, List.mem_range, Bool.and_eq_true, decide_eq_true_eq]
  constructor
  · rintro ⟨f, ⟨t, ⟨ht, -⟩, rfl⟩, e1, e2⟩
    dsimp only at e1 e2
    have : t = x.tb := by omega
    subst this
    exact e2
  · intro h
    exact ⟨_, ⟨x.tb, ⟨h1.1, by omega⟩, rfl⟩, by dsimp only; omega, h⟩
open Classical in
/-- What the law asks of a record. -/
theorem keeps {L T : List Rc} (hv : ∀ r ∈ T, rcB r = true) (hsub : ∀ r ∈ L, r ∈ T) {x : Rc} (hx : x ∈ T) {f a b : Bool} (hf : f = decide (frk T x.tb ≤ x.num)) (ha : a = decide (x ∈ T ∧ cntB T x = true)) (hb : b = decide (x ∈ L ∧ cntB L x = true)) :
    (f = true → a = false) ∧ (f = false → b = true → a = true) := by
  have o := rc_ok (hv x hx)
  have hst := (frk_is hv x.tb).straight hv (n := x.num) (by have := o.num; omega)
  constructor
  · intro h
    rw [hf, decide_eq_true_eq] at h
    rw [ha, decide_eq_false_iff_not]
    rintro ⟨-, hc⟩
    have hc2 : Cnt T x := by unfold cntB at hc; exact of_decide_eq_true hc
    have := hst.1 hc2.straight
    omega
  · intro h1 h2
    rw [hf, decide_eq_false_iff_not] at h1
    rw [hb, decide_eq_true_eq] at h2
    rw [ha, decide_eq_true_eq]
    refine ⟨hx, ?_⟩
    have hc2 : Cnt L x := by have := h2.2; unfold cntB at this; exact of_decide_eq_true this
    unfold cntB
    exact decide_eq_true (cnt_mono hsub hc2 (hst.2 (by omega)))

theorem len_same' {S L : List Rc} (h1 : S.Nodup) (h2 : L.Nodup) (h : ∀ r, r ∈ S ↔ r ∈ L) : S.length = L.length := ((List.perm_ext_iff_of_nodup h1 h2).2 h).length_eq
/-! ### A book in memory of its own -/
structure One (w0 : World) (B m : Nat) (S : List Rc) (n : Nat) (w : World) : Prop where
  bk : BkAt w B m S
  lS : S.length ≤ n
  fr : w0.heap.size ≤ B ∧ w0.heap.size ≤ m
  b : Below w0.heap.size w0 w
theorem One.below {w0 w w' : World} {B m n : Nat} {S : List Rc} (h : One w0 B m S n w) (hb : Below w.heap.size w w') : One w0 B m S n w' := ⟨h.bk.below' hb, h.lS, h.fr, h.b.trans (hb.mono h.b.size)⟩
theorem One.add {w0 w w1 : World} {B m n : Nat} {S : List Rc} {r : Rc} (h : One w0 B m S n w) (hk : BkAt w1 B m (addS S r)) (hg : w.grownBy w1 (some m)) : One w0 B m (addS S r) (n + 1) w1 :=
  ⟨hk, by have := len_addS S r; have := h.lS; omega, h.fr, h.b.grown hg h.b.size (fun j e => by cases e; exact h.fr.2)⟩
def FillPost (w : World) (n : Nat) (e : Ending) (w' : World) : Prop := ∃ B m S, e = .returned (.pointer (some ⟨B, 0, none⟩)) ∧ One w B m S n w'

set_option maxHeartbeats 8000000 in
set_option maxRecDepth 100000 in
theorem filled_calls (l : List Rc) (A : Option Addr) (c : Nat) (w : World) (h : Rd w A (recs l)) (hL : l.length ≤ 1000) :
    Calls Try.prog 27 #[.slice A l.length c] w fun e w' => FillPost w l.length e w' := by
  have HRD := hid h
  have HLL := hid hL
  clear h hL
  go_enter Try.func27, Try.ntmps27
  go_wp2_with fail
  refine (bookNew_calls w).mono ?_
  rintro e W1 ⟨rfl, hk1, hb1⟩
  have HT := hid (⟨hk1, Nat.le_refl _, ⟨by omega, Nat.le_refl _⟩, hb1⟩ : One w (w.heap.size + 1) w.heap.size [] 0 W1)
  obtain ⟨B, hB⟩ : ∃ B, B = w.heap.size + 1 := ⟨_, rfl⟩
  rw [← hB] at HT ⊢
  obtain ⟨m, hm⟩ : ∃ m, m = w.heap.size := ⟨_, rfl⟩
  have HT2 := hid (show One w B m [] 0 W1 from by rw [hm]; exact unhid HT)
  clear hk1 hb1 HT hB hm
  go_upto_region 3 with (fail)
  go_loopw [4] (fun iv wr => ∃ (k : Nat) (S : List Rc), k ≤ l.length ∧ iv = .int .i64 k ∧ One w B m S k wr) (fun iv _ => l.length - (intOf iv).toNat)
  case atStart => exact ⟨0, [], Nat.zero_le _, rfl, unhid HT2⟩
  case round =>
    clear HT2
    obtain ⟨k, S, hk, rfl, ht⟩ := hrel
    have HT := hid ht
    clear ht
    by_cases hlt : k < l.length
    · have hki : (k : Int) < (l.length : Int) := by omega
      obtain ⟨b, off, hAe, hbl, hc⟩ := ((unhid HRD).below (unhid HT).b) (recs_ne hlt)
      subst hAe
      obtain ⟨x, hx⟩ : ∃ x, l[k]'hlt = x := ⟨_, rfl⟩
      obtain ⟨a0, a1, a2, a3, a4, a5, a6, a7, a8', a9, a10, a11, a12, a13⟩ := rec_at14 hc hlt hx
      have HW1 := hid (show wrap64 ((k : Int) + 1) = ((k + 1 : Nat) : Int) from by have h1 := unhid HLL; unfold wrap64; omega)
      clear hc hx
      go_wp2_with fail
      refine (add_calls x wr (unhid HT).bk (by have := (unhid HT).lS; have := unhid HLL; omega)).mono ?_
      rintro e w2 ⟨rfl, hk2, hg2⟩
      have HT := hid ((unhid HT).add hk2 hg2)
      clear hk2 hg2 a0 a1 a2 a3 a4 a5 a6 a7 a8' a9 a10 a11 a12 a13 hbl
      go_wp2_with fail
      go_roundw
      case rel => exact ⟨k + 1, _, by omega, by rw [unhid HW1], unhid HT⟩
      case measure => rw [unhid HW1]; simp [intOf]; omega
    · obtain rfl : k = l.length := by omega
      have HP := hid (show FillPost w l.length (.returned (.pointer (some ⟨B, 0, none⟩))) wr from ⟨B, m, S, rfl, unhid HT⟩)
      go_wp2_with fail
      go_ret
      exact unhid HP

/-! ### The law -/
set_option maxHeartbeats 8000000 in
set_option maxRecDepth 100000 in
theorem lkeeps_calls (l : List Rc) (A : Option Addr) (c : Nat) (r : Rc) (w : World) (h : RecsIn w A l c) (_ : RcW r) :
    Calls Try.prog 6 #[.slice A l.length c, .agg #[.int .i64 r.tab, .int .i64 r.num, .int .i64 r.hour, .int .i64 r.sign, .int .i64 r.fld, .int .i64 r.val, .int .i64 r.s0, .int .i64 r.s1, .int .i64 r.s2, .int .i64 r.s3, .int .i64 r.s4, .int .i64 r.s5, .int .i64 r.s6, .int .i64 r.s7]] w fun e w' => e = .returned (.bool true) ∧ Below w.heap.size w w' := by
  have hb0 := below_alloc w (.cells (rcA r) 33)
  have HR := hid (RcAt.new w r)
  have HB := hid hb0
  have HRD := hid (h.rd.below hb0)
  clear h hb0
  go_enter Try.func6, Try.ntmps6
  go_upto_region 1 with (fail)
  change Code.wp _ _ _ _ (w.alloc (.cells (rcA r) 33))
  generalize w.alloc (.cells (rcA r) 33) = W at *
  obtain ⟨X, hX⟩ : ∃ X, X = w.heap.size := ⟨_, rfl⟩
  rw [← hX] at HR ⊢
  have HXE := hid hX
  clear hX
  obtain ⟨c0, c1, c2, c3, c4, c5⟩ := (unhid HR).cells
  obtain ⟨e0, e1, e2, e3, e4, e5, e6, e7⟩ := (unhid HR).seen8
  by_cases h1 : 20 < l.length
  · have hni : (20 : Int) < (l.length : Int) := by omega
    go_wp2_with fail
    refine (first_calls W).mono ?_
    rintro e w2 ⟨rfl, hb2⟩
    have HB := hid ((unhid HB).trans (hb2.mono (unhid HB).size))
    clear hb2
    go_wp2_with fail
    go_ret
    exact ⟨rfl, unhid HB⟩
  · have hni : ¬ (20 : Int) < (l.length : Int) := by omega
    go_wp2_with fail
    refine (rvalid_calls r W).mono ?_
    rintro e W2 ⟨rfl, hb2⟩
    have HR := hid ((unhid HR).below hb2 (unhid HR).lt)
    have HRD := hid ((unhid HRD).below hb2)
    have HB := hid ((unhid HB).trans (hb2.mono (unhid HB).size))
    clear hb2 c0 c1 c2 c3 c4 c5 e0 e1 e2 e3 e4 e5 e6 e7
    cases hv : rcB r with
    | false =>
      go_wp2_with fail
      refine (first_calls W2).mono ?_
      rintro e w2 ⟨rfl, hb2⟩
      have HB := hid ((unhid HB).trans (hb2.mono (unhid HB).size))
      clear hb2
      go_wp2_with fail
      go_ret
      exact ⟨rfl, unhid HB⟩
    | true =>
      have HVR := hid hv
      have HLL := hid (show l.length ≤ 20 from by omega)
      clear hv h1 hni
      go_wp2_with fail
      refine (filled_calls l A c W2 (unhid HRD) (by have := unhid HLL; omega)).mono ?_
      rintro e W3 ⟨B, m, S, rfl, ho⟩
      have HO := hid ho
      have HR := hid ((unhid HR).below ho.b (unhid HR).lt)
      have HSL := hid (show S.length ≤ 20 from Nat.le_trans ho.lS (unhid HLL))
      have HBs := hid (unhid HB).size
      clear ho HRD
      obtain ⟨L, hL⟩ : ∃ L, L = setR S := ⟨_, rfl⟩
      have HL := hid (⟨by rw [hL]; exact asc_setR S, fun r => by rw [hL]; exact mem_setR.symm, by rw [hL]; exact Nat.le_trans (len_setR S) (unhid HSL)⟩ : Asc L ∧ (∀ r, r ∈ S ↔ r ∈ L) ∧ L.length ≤ 20)
      clear hL
      go_wp2_with fail
      refine (counts_calls' W3 (unhid HO).bk (by have := unhid HSL; omega) (unhid HL).1 (unhid HL).2.1 (by have := (unhid HL).2.2; omega)).mono ?_
      rintro e W4 ⟨mm1, K1, rfl, hr1, hm1, hl1, hf1, hb4⟩
      have HF1 := hid (show m ≠ mm1 ∧ X ≠ m from ⟨by have := (unhid HO).bk.lt.2; omega, by
        rintro rfl
        obtain ⟨es, cc, hmm⟩ := GMap.isMap (unhid HO).bk.m
        have h2 := unhid HR
        unfold RcAt at h2
        rw [hmm] at h2
        cases h2⟩)
      have HO := hid ((unhid HO).below hb4)
      have HR := hid ((unhid HR).below hb4 (unhid HR).lt)
      have HK1 := hid hr1
      have HM1 := hid (⟨hm1, hl1⟩ : _ ∧ _)
      clear hr1 hm1 hl1 hf1 hb4
      obtain ⟨c0, c1, c2, c3, c4, c5⟩ := (unhid HR).cells
      obtain ⟨e0, e1, e2, e3, e4, e5, e6, e7⟩ := (unhid HR).seen8
      go_wp2_with fail
      refine (add_calls r W4 (unhid HO).bk (by have := unhid HSL; omega)).mono ?_
      rintro e W5 ⟨rfl, hk5, hg5⟩
      have HO := hid ((unhid HO).add hk5 hg5)
      have HK1 := hid (show RSet W5 mm1 K1 from GMap.grown (unhid HK1) hg5 (fun e => (unhid HF1).1 (Option.some.inj e).symm))
      clear hk5 hg5 c0 c1 c2 c3 c4 c5 e0 e1 e2 e3 e4 e5 e6 e7 HR HF1
      have HSL' := hid (show (addS S r).length ≤ 21 from by have := len_addS S r; have := unhid HSL; omega)
      obtain ⟨S', hS'⟩ : ∃ S', S' = addS S r := ⟨_, rfl⟩
      rw [← hS'] at HO HSL'
      have HS' := hid hS'
      obtain ⟨T, hT⟩ : ∃ T, T = setR S' := ⟨_, rfl⟩
      have HT := hid (⟨by rw [hT]; exact asc_setR S', fun r => by rw [hT]; exact mem_setR.symm, by rw [hT]; exact Nat.le_trans (len_setR S') (unhid HSL')⟩ : Asc T ∧ (∀ r, r ∈ S' ↔ r ∈ T) ∧ T.length ≤ 21)
      clear hS' hT
      go_wp2_with fail
      refine (counts_calls' W5 (unhid HO).bk (by have := unhid HSL'; omega) (unhid HT).1 (unhid HT).2.1 (by have := (unhid HT).2.2; omega)).mono ?_
      rintro e W6 ⟨mm2, K2, rfl, hr2, hm2, hl2, hf2, hb6⟩
      have HO := hid ((unhid HO).below hb6)
      have HK1 := hid (show RSet W6 mm1 K1 from GMap.below (unhid HK1) hb6 (GMap.lt (unhid HK1)))
      have HK2 := hid hr2
      have HM2 := hid hm2
      have HB := hid ((unhid HB).trans ((unhid HO).b.mono (unhid HBs)))
      clear hr2 hm2 hl2 hf2 hb6
      by_cases hm : r ∈ S
      · have HE := hid (show addE S r = 22 from by unfold addE; rw [if_neg (by rw [unhid HVR]; simp), if_pos hm])
        have hKK : (setE K2).length = (setE K1).length := by
          rw [setE_len, setE_len]
          refine len_same' (RSet.nodup (unhid HK2)) (RSet.nodup (unhid HK1)) (fun x => ?_)
          rw [unhid HM2 x, (unhid HM1).1 x]
          have e1 : S' = S := by rw [unhid HS']; unfold addS; rw [if_neg (fun h => h.2 hm)]
          have e2 : ∀ x, x ∈ T ↔ x ∈ L := fun x => by rw [← (unhid HT).2.1 x, e1, (unhid HL).2.1 x]
          rw [cntB_perm e2 x, e2 x]
        rw [unhid HE]
        have hll : (((setE K2).length : Int) == ((setE K1).length : Int)) = true := by rw [hKK]; simp
        clear hm hKK
        have hlen2 : ∀ ty, (Builtin.len_ #[52] ty #[.map (some mm2)]).run Try.prog W6 = .ok (.int .i64 (setE K2).length) W6 := fun ty => GMap.len (unhid HK2) Try.underlying52 ty
        have hlen1 : ∀ ty, (Builtin.len_ #[52] ty #[.map (some mm1)]).run Try.prog W6 = .ok (.int .i64 (setE K1).length) W6 := fun ty => GMap.len (unhid HK1) Try.underlying52 ty
        go_wp2_with fail
        refine (first_calls W6).mono ?_
        rintro e w2 ⟨rfl, hb2⟩
        have HB := hid ((unhid HB).trans (hb2.mono (unhid HB).size))
        clear hb2
        go_wp2_with fail
        go_ret
        exact ⟨rfl, unhid HB⟩
      · have HE := hid (show addE S r = 0 from by unfold addE; rw [if_neg (by rw [unhid HVR]; simp), if_neg hm])
        rw [unhid HE]
        have HVT := hid (show ∀ q ∈ T, rcB q = true from fun q hq => (unhid HO).bk.v q (((unhid HT).2.1 q).2 hq))
        have HSUB := hid (show ∀ q ∈ L, q ∈ T from fun q hq => ((unhid HT).2.1 q).1 (by
          rw [unhid HS']
          have h2 := ((unhid HL).2.1 q).2 hq
          unfold addS
          split
          · exact List.mem_append.2 (.inl h2)
          · exact h2))
        clear hm
        go_wp2_with fail
        refine (pforks_calls W6 (unhid HO).bk (by have := unhid HSL'; omega) (unhid HT).2.1).mono ?_
        rintro e W7 ⟨v, rfl, hrow, hb⟩
        obtain ⟨Af, cf, rfl, hrd, -⟩ := own_slice hrow
        have HFR := hid hrd
        have HO := hid ((unhid HO).below hb)
        have HK1 := hid (show RSet W7 mm1 K1 from GMap.below (unhid HK1) hb (GMap.lt (unhid HK1)))
        have HK2 := hid (show RSet W7 mm2 K2 from GMap.below (unhid HK2) hb (GMap.lt (unhid HK2)))
        have HB := hid ((unhid HB).trans (hb.mono (unhid HB).size))
        clear hrow hb hrd
        go_wp2_with fail
        refine (records_calls W7 (unhid HO).bk (by have := unhid HSL'; omega)).mono ?_
        rintro e W8 ⟨v, T2, rfl, hp, hA2, hrow, hb⟩
        obtain rfl : T2 = T := recs_sorted hp hA2 (unhid HT).1 (unhid HT).2.1
        obtain ⟨Av, cv, rfl, hrd, -⟩ := own_slice hrow
        have HRD := hid hrd
        have HFR := hid ((unhid HFR).below hb)
        have HO := hid ((unhid HO).below hb)
        have HK1 := hid (show RSet W8 mm1 K1 from GMap.below (unhid HK1) hb (GMap.lt (unhid HK1)))
        have HK2 := hid (show RSet W8 mm2 K2 from GMap.below (unhid HK2) hb (GMap.lt (unhid HK2)))
        have HB := hid ((unhid HB).trans (hb.mono (unhid HB).size))
        have HFL := hid (show (forksP T2).length ≤ 8 from forkK_len T2 8)
        obtain ⟨F_, hF⟩ : ∃ F_, F_ = forksP T2 := ⟨_, rfl⟩
        rw [← hF] at HFR HFL ⊢
        have HFE := hid hF
        clear hp hA2 hrow hb hrd hF
        go_upto_region 14 with (fail)
        go_loopw [11] (fun iv wr => ∃ k : Nat, k ≤ T2.length ∧ iv = .int .i64 k ∧ Below W8.heap.size W8 wr) (fun iv _ => T2.length - (intOf iv).toNat)
        case atStart => exact ⟨0, Nat.zero_le _, rfl, Below.refl _ _⟩
        case round =>
          obtain ⟨k, hk, rfl, hb⟩ := hrel
          have HBR := hid hb
          clear hb
          by_cases hlt : k < T2.length
          · have hki : (k : Int) < (T2.length : Int) := by omega
            obtain ⟨x, hx⟩ : ∃ x, T2[k]'hlt = x := ⟨_, rfl⟩
            have HX := hid hx
            have HXM := hid (hx ▸ List.getElem_mem hlt : x ∈ T2)
            clear hx
            go_upto_region 18 with (fail)
            go_loopw [13, 12] (fun jv fv wz => ∃ (j : Nat) (f : Bool), j ≤ F_.length ∧ jv = .int .i64 j ∧ fv = .bool f ∧ f = fkB (F_.take j) x ∧ Below W8.heap.size W8 wz) (fun jv _ _ => F_.length - (intOf jv).toNat)
            case atStart => exact ⟨0, false, Nat.zero_le _, rfl, rfl, rfl, unhid HBR⟩
            case round =>
              clear HBR
              obtain ⟨j, f, hj, rfl, rfl, hf, hb⟩ := hrel
              have HF := hid hf
              have HBR := hid hb
              clear hf hb
              obtain ⟨b, off, hAe, hbl, hc⟩ := ((unhid HRD).below (unhid HBR)) (recs_ne hlt)
              have HAE := hid hAe
              by_cases hjl : j < F_.length
              · have hji : (j : Int) < (F_.length : Int) := by omega
                obtain ⟨b2, off2, hAe2, hbl2, hc2⟩ := ((unhid HFR).below (unhid HBR)) (fks_ne hjl)
                obtain ⟨y, hy⟩ : ∃ y, F_[j]'hjl = y := ⟨_, rfl⟩
                have HFT := hid (fkB_take (x := x) hjl hy)
                have hcx := rec_at14 hc hlt (unhid HX)
                have hcy := fks_cells hc2 hjl hy
                have m0 := fun p : After wr => After.cell (by dsimp only; exact hbl2) hcy.1 p
                have m1 := fun p : After wr => After.cell (by dsimp only; exact hbl2) hcy.2 p
                have m2 := fun p : After wr => After.cell (by dsimp only; exact hbl) hcx.1 p
                have m3 := fun p : After wr => After.cell (by dsimp only; exact hbl) hcx.2.1 p
                subst hAe2
                have HW1 := hid (show wrap64 ((j : Int) + 1) = ((j + 1 : Nat) : Int) from by have h1 := unhid HFL; unfold wrap64; omega)
                obtain ⟨y1, hy1⟩ : ∃ y1, y.1 = y1 := ⟨_, rfl⟩
                obtain ⟨y2, hy2⟩ : ∃ y2, y.2 = y2 := ⟨_, rfl⟩
                rw [hy1, hy2] at HFT
                rw [hy1] at m0
                rw [hy2] at m1
                rw [← unhid HF] at HFT
                rw [hAe]
                clear hc hc2 hy hcx hcy hbl hbl2 hy1 hy2 hAe
                go_upto_region 20 with (fail)
                cases f with
                | true =>
                  have HN := hid (show fkB (F_.take (j + 1)) x = true from by rw [unhid HFT]; rfl)
                  (refine wp_region_below (by kernel_rfl) (by kernel_rfl) ?_; (repeat (go_big_quiet_step (first | fail))); refine wpQuiet_nil ?_; intro wq hw'; obtain ⟨⟨wq2, hbq⟩, hw''⟩ := hw'; dsimp only at hw''; subst hw'')
                  have HBR := hid ((unhid HBR).trans (hbq.mono (unhid HBR).size))
                  clear hbq m0 m1 m2 m3
                  go_wp2_with fail
                  go_roundw
                  case rel => exact ⟨j + 1, true, by omega, by first | go_num | rw [unhid HW1], rfl, (unhid HN).symm, unhid HBR⟩
                  case measure => first | (simp [intOf]; omega) | (rw [unhid HW1]; simp [intOf]; omega)
                | false =>
                  by_cases e1 : y1 = x.tab
                  · have q1 : (y1 == x.tab) = true := by simp [e1]
                    by_cases e2 : y2 ≤ x.num
                    · have q2 := decide_eq_true e2
                      have HN := hid (show fkB (F_.take (j + 1)) x = true from by rw [unhid HFT, decide_eq_true e1, q2]; rfl)
                      (refine wp_region_below (by kernel_rfl) (by kernel_rfl) ?_; (repeat (go_big_quiet_step (first | fail))); refine wpQuiet_nil ?_; intro wq hw'; obtain ⟨⟨wq2, hbq⟩, hw''⟩ := hw'; dsimp only at hw''; subst hw'')
                      have HBR := hid ((unhid HBR).trans (hbq.mono (unhid HBR).size))
                      clear hbq m0 m1 m2 m3
                      go_wp2_with fail
                      go_roundw
                      case rel => exact ⟨j + 1, true, by omega, by first | go_num | rw [unhid HW1], rfl, (unhid HN).symm, unhid HBR⟩
                      case measure => first | (simp [intOf]; omega) | (rw [unhid HW1]; simp [intOf]; omega)
                    · have q2 := decide_eq_false e2
                      have HN := hid (show fkB (F_.take (j + 1)) x = false from by rw [unhid HFT, decide_eq_true e1, q2]; rfl)
                      (refine wp_region_below (by kernel_rfl) (by kernel_rfl) ?_; (repeat (go_big_quiet_step (first | fail))); refine wpQuiet_nil ?_; intro wq hw'; obtain ⟨⟨wq2, hbq⟩, hw''⟩ := hw'; dsimp only at hw''; subst hw'')
                      have HBR := hid ((unhid HBR).trans (hbq.mono (unhid HBR).size))
                      clear hbq m0 m1 m2 m3
                      go_wp2_with fail
                      go_roundw
                      case rel => exact ⟨j + 1, false, by omega, by first | go_num | rw [unhid HW1], rfl, (unhid HN).symm, unhid HBR⟩
                      case measure => first | (simp [intOf]; omega) | (rw [unhid HW1]; simp [intOf]; omega)
                  · have q1 : (y1 == x.tab) = false := by simp [e1]
                    have HN := hid (show fkB (F_.take (j + 1)) x = false from by rw [unhid HFT, decide_eq_false e1]; rfl)
                    (refine wp_region_below (by kernel_rfl) (by kernel_rfl) ?_; (repeat (go_big_quiet_step (first | fail))); refine wpQuiet_nil ?_; intro wq hw'; obtain ⟨⟨wq2, hbq⟩, hw''⟩ := hw'; dsimp only at hw''; subst hw'')
                    have HBR := hid ((unhid HBR).trans (hbq.mono (unhid HBR).size))
                    clear hbq m0 m1 m2 m3
                    go_wp2_with fail
                    go_roundw
                    case rel => exact ⟨j + 1, false, by omega, by first | go_num | rw [unhid HW1], rfl, (unhid HN).symm, unhid HBR⟩
                    case measure => first | (simp [intOf]; omega) | (rw [unhid HW1]; simp [intOf]; omega)
              · obtain rfl : j = F_.length := by omega
                have HFX := hid (show f = decide (frk T2 x.tb ≤ x.num) from by
                  rw [unhid HF, List.take_length, unhid HFE]
                  exact fkB_forks (unhid HVT) (unhid HVT x (unhid HXM)))
                obtain ⟨va, hva⟩ : ∃ va, va = decide (x ∈ K2) := ⟨_, rfl⟩
                obtain ⟨vb, hvb⟩ : ∃ vb, vb = decide (x ∈ K1) := ⟨_, rfl⟩
                have HKP := hid (keeps (unhid HVT) (unhid HSUB) (unhid HXM) (unhid HFX) (a := va) (b := vb) (by rw [hva]; exact decide_eq_decide.2 (unhid HM2 x)) (by rw [hvb]; exact decide_eq_decide.2 ((unhid HM1).1 x)))
                have hlk := fun (mm : Nat) (K : List Rc) (h : RSet wr mm K) => GMap.look h false Try.underlying52 (z := .bool false) (Try.zeroValue4 wr) (a := x) (rcW_of (unhid HVT x (unhid HXM)))
                have hl2 : (Instr.lookup 52 (.map (some mm2)) (.agg #[.int .i64 x.tab, .int .i64 x.num, .int .i64 x.hour, .int .i64 x.sign, .int .i64 x.fld, .int .i64 x.val, .int .i64 x.s0, .int .i64 x.s1, .int .i64 x.s2, .int .i64 x.s3, .int .i64 x.s4, .int .i64 x.s5, .int .i64 x.s6, .int .i64 x.s7]) false).run Try.prog wr = .ok (.bool va) wr := by
                  have h := hlk mm2 K2 (GMap.below (unhid HK2) (unhid HBR) (GMap.lt (unhid HK2)))
                  rw [get_setE] at h
                  refine h.trans ?_
                  rw [hva]
                  by_cases hm : x ∈ K2 <;> simp [hm]
                have hl1 : (Instr.lookup 52 (.map (some mm1)) (.agg #[.int .i64 x.tab, .int .i64 x.num, .int .i64 x.hour, .int .i64 x.sign, .int .i64 x.fld, .int .i64 x.val, .int .i64 x.s0, .int .i64 x.s1, .int .i64 x.s2, .int .i64 x.s3, .int .i64 x.s4, .int .i64 x.s5, .int .i64 x.s6, .int .i64 x.s7]) false).run Try.prog wr = .ok (.bool vb) wr := by
                  have h := hlk mm1 K1 (GMap.below (unhid HK1) (unhid HBR) (GMap.lt (unhid HK1)))
                  rw [get_setE] at h
                  refine h.trans ?_
                  rw [hvb]
                  by_cases hm : x ∈ K1 <;> simp [hm]
                subst hAe
                obtain ⟨a0, a1, a2, a3, a4, a5, a6, a7, a8', a9, a10, a11, a12, a13⟩ := rec_at14 hc hlt (unhid HX)
                have HW1 := hid (show wrap64 ((k : Int) + 1) = ((k + 1 : Nat) : Int) from by have h1 := (unhid HT).2.2; unfold wrap64; omega)
                clear hc hva hvb hlk HF HFX HAE
                cases f with
                | true =>
                  cases va with
                  | true => exact absurd ((unhid HKP).1 rfl) (by simp)
                  | false =>
                    cases vb
                    all_goals
                      go_wp2_with fail
                      go_roundw
                      case rel => exact ⟨k + 1, by omega, by first | go_num | rw [unhid HW1], unhid HBR⟩
                      case measure => first | (simp [intOf]; omega) | (rw [unhid HW1]; simp [intOf]; omega)
                | false =>
                  cases vb with
                  | true =>
                    cases va with
                    | false => exact absurd ((unhid HKP).2 rfl rfl) (by simp)
                    | true =>
                      go_wp2_with fail
                      go_roundw
                      case rel => exact ⟨k + 1, by omega, by first | go_num | rw [unhid HW1], unhid HBR⟩
                      case measure => first | (simp [intOf]; omega) | (rw [unhid HW1]; simp [intOf]; omega)
                  | false =>
                    go_wp2_with fail
                    go_roundw
                    case rel => exact ⟨k + 1, by omega, by first | go_num | rw [unhid HW1], unhid HBR⟩
                    case measure => first | (simp [intOf]; omega) | (rw [unhid HW1]; simp [intOf]; omega)
          · obtain rfl : k = T2.length := by omega
            have HB := hid ((unhid HB).trans ((unhid HBR).mono (unhid HB).size))
            go_wp2_with fail
            refine (first_calls wr).mono ?_
            rintro e w2 ⟨rfl, hb2⟩
            have HB := hid ((unhid HB).trans (hb2.mono (unhid HB).size))
            clear hb2
            go_wp2_with fail
            go_ret
            exact ⟨rfl, unhid HB⟩

end Go.Proofs.Ytegghimjmbgghaa
