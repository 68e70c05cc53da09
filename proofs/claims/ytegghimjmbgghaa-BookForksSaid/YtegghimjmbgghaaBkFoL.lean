/-
  The law BookForks.
-/
import Derived.Test.YtegghimjmbgghaaBkGo
import Derived.Test.YtegghimjmbgghaaBkJn
import Derived.Test.YtegghimjmbgghaaBkCo
import Derived.Test.YtegghimjmbgghaaBkFs
import Derived.Test.YtegghimjmbgghaaBkSr
set_option linter.unusedSimpArgs false
set_option linter.unusedVariables false
namespace Go.Proofs.Ytegghimjmbgghaa
open Go.RowKit Go.Shelf

/-! ### Plain -/
/-- What both copies had in common counts when they are joined. -/
theorem common_cnt {S0 C D E : List Rc} {k1 k2 : Nat} (hv : ∀ r ∈ S0, rcB r = true) (hG : Good S0) (h1 : Wn S0 C k1) (h2 : Wn S0 D k2) (hE : ∀ r, r ∈ E ↔ r ∈ C ∨ r ∈ D) {r : Rc} (hr : r ∈ S0) : Cnt E r := by
  have hin : ∀ a ∈ E, a.tb = r.tb → a.num ≤ r.num → a ∈ S0 := fun a ha e1 e2 => by
    have hu := hG.up hv hr
    rcases (hE a).1 ha with h | h
    · rcases h1.far a h with h | h
      · exact h
      · rw [e1] at h; omega
    · rcases h2.far a h with h | h
      · exact h
      · rw [e1] at h; omega
  refine hG.mono (fun q hq => (hE q).2 (.inl (h1.sub q hq))) hr (fun a ha b hb e1 e2 e3 e4 => ?_)
  exact hG.straight r.tb a.num a (hin a ha e1 e4) b (hin b hb e2 (by omega)) e1 e2 e3 (Int.le_refl _)
open Classical in
theorem cnt_true {S : List Rc} {r : Rc} (h : Cnt S r) : cntB S r = true := decide_eq_true h
open Classical in
theorem differ_cnt {E : List Rc} {x y : Rc} (hx : x ∈ E) (hy : y ∈ E) (e1 : x.tb = y.tb) (e2 : x.num = y.num) (hne : x ≠ y) : cntB E x = false ∧ cntB E y = false := by
  constructor
  · exact decide_eq_false fun h => hne (h.straight x hx y hy rfl e1.symm e2 (Int.le_refl _))
  · exact decide_eq_false fun h => hne (h.straight x hx y hy e1 rfl e2 (by omega))

/-- A book beside one that changes. -/
theorem BkAt.beside {w w' : World} {B m B' m' : Nat} {S S' : List Rc} (h' : BkAt w B' m' S') (h : BkAt w B m S) (hg : w.grownBy w' (some m)) (hne : m' ≠ m) : BkAt w' B' m' S' :=
  h'.grown hg (fun e => by
    have := Option.some.inj e
    subst this
    obtain ⟨es, c, hm⟩ := GMap.isMap h.m
    rw [h'.b] at hm
    cases hm) (fun e => hne (Option.some.inj e))
theorem set_look {w : World} {mm : Nat} {K : List Rc} (h : RSet w mm K) {x : Rc} (hx : rcB x = true) {b : Bool} (hb : b = decide (x ∈ K)) : (Instr.lookup 52 (.map (some mm)) (.agg #[.int .i64 x.tab, .int .i64 x.num, .int .i64 x.hour, .int .i64 x.sign, .int .i64 x.fld, .int .i64 x.val, .int .i64 x.s0, .int .i64 x.s1, .int .i64 x.s2, .int .i64 x.s3, .int .i64 x.s4, .int .i64 x.s5, .int .i64 x.s6, .int .i64 x.s7]) false).run Try.prog w = .ok (.bool b) w := by
  have h := GMap.look h false Try.underlying52 (z := .bool false) (Try.zeroValue4 w) (a := x) (rcW_of hx)
  rw [get_setE] at h
  refine h.trans ?_
  rw [hb]
  by_cases hm : x ∈ K <;> simp [hm]

set_option maxHeartbeats 16000000 in
set_option maxRecDepth 100000 in
theorem lforks_calls (n0 : List Nt) (A0 : Option Addr) (c0 : Nat) (n1 : List Nt) (A1 : Option Addr) (c1 : Nat) (n2 : List Nt) (A2 : Option Addr) (c2 : Nat) (w : World) (h0 : NtsIn w A0 n0 c0) (h1 : NtsIn w A1 n1 c1) (h2 : NtsIn w A2 n2 c2) :
    Calls Try.prog 9 #[.slice A0 n0.length c0, .slice A1 n1.length c1, .slice A2 n2.length c2] w fun e w' => e = .returned (.bool true) ∧ Below w.heap.size w w' := by
  have H0 := hid (⟨h0.rd, h0.ok⟩ : _ ∧ _)
  have H1 := hid (⟨h1.rd, h1.ok⟩ : _ ∧ _)
  have H2 := hid (⟨h2.rd, h2.ok⟩ : _ ∧ _)
  clear h0 h1 h2
  go_enter Try.func9, Try.ntmps9
  by_cases hx : 8 < n0.length ∨ 4 < n1.length ∨ 4 < n2.length
  · have hF := first_calls w
    by_cases hx0 : 8 < n0.length
    · have hi0 : (8 : Int) < (n0.length : Int) := by omega
      go_wp2_with fail
      refine hF.mono ?_
      rintro e w2 ⟨rfl, hb2⟩
      have HB := hid hb2
      clear hb2
      go_wp2_with fail
      go_ret
      exact ⟨rfl, unhid HB⟩
    · have hi0 : ¬ (8 : Int) < (n0.length : Int) := by omega
      by_cases hx1 : 4 < n1.length
      · have hi1 : (4 : Int) < (n1.length : Int) := by omega
        go_wp2_with fail
        refine hF.mono ?_
        rintro e w2 ⟨rfl, hb2⟩
        have HB := hid hb2
        clear hb2
        go_wp2_with fail
        go_ret
        exact ⟨rfl, unhid HB⟩
      · have hi1 : ¬ (4 : Int) < (n1.length : Int) := by omega
        have hi2 : (4 : Int) < (n2.length : Int) := by omega
        go_wp2_with fail
        refine hF.mono ?_
        rintro e w2 ⟨rfl, hb2⟩
        have HB := hid hb2
        clear hb2
        go_wp2_with fail
        go_ret
        exact ⟨rfl, unhid HB⟩
  · have HLL := hid (show n0.length ≤ 8 ∧ n1.length ≤ 4 ∧ n2.length ≤ 4 from by omega)
    have hi0 : ¬ (8 : Int) < (n0.length : Int) := by omega
    have hi1 : ¬ (4 : Int) < (n1.length : Int) := by omega
    have hi2 : ¬ (4 : Int) < (n2.length : Int) := by omega
    clear hx
    go_wp2_with fail
    refine (bookNew_calls w).mono ?_
    rintro e W1 ⟨rfl, hk1, hb1⟩
    obtain ⟨m, hm⟩ : ∃ m, m = w.heap.size := ⟨_, rfl⟩
    obtain ⟨B, hB⟩ : ∃ B, B = w.heap.size + 1 := ⟨_, rfl⟩
    rw [← hB] at hk1 ⊢
    rw [← hm] at hk1
    have HK := hid hk1
    have HB := hid hb1
    have HM := hid (show w.heap.size ≤ m from by omega)
    clear hk1 hb1 hm hB hi0 hi1 hi2
    go_wp2_with fail
    refine (wwrite_calls n0 A0 c0 W1 ((unhid H0).1.below (unhid HB)) (unhid H0).2 (unhid HK) Wn.nil (by have := unhid HLL; omega)).mono ?_
    rintro e W2 ⟨S, rfl, hk2, hw2, hg2⟩
    have HK := hid hk2
    have HW := hid (⟨hk2.v, hw2.base⟩ : (∀ r ∈ S, rcB r = true) ∧ Wn S S _)
    have HB := hid ((unhid HB).grown hg2 (unhid HB).size (fun j e => by cases e; exact unhid HM))
    clear hk2 hw2 hg2
    go_wp2_with fail
    refine (pcopy_calls W2 (unhid HK)).mono ?_
    rintro e W3 ⟨rfl, hk3, hb3⟩
    obtain ⟨mc, hmc⟩ : ∃ mc, mc = W2.heap.size := ⟨_, rfl⟩
    obtain ⟨Bc, hBc⟩ : ∃ Bc, Bc = W2.heap.size + 1 := ⟨_, rfl⟩
    rw [← hBc] at hk3 ⊢
    rw [← hmc] at hk3
    have HM := hid (show w.heap.size ≤ m ∧ m < mc from ⟨unhid HM, by have := (unhid HK).lt.2; omega⟩)
    have HK := hid ((unhid HK).below' hb3)
    have HKC := hid hk3
    have HB := hid ((unhid HB).trans (hb3.mono (unhid HB).size))
    clear hk3 hb3 hmc hBc
    go_wp2_with fail
    refine (pcopy_calls W3 (unhid HK)).mono ?_
    rintro e W4 ⟨rfl, hk4, hb4⟩
    obtain ⟨md, hmd⟩ : ∃ md, md = W3.heap.size := ⟨_, rfl⟩
    obtain ⟨Bd, hBd⟩ : ∃ Bd, Bd = W3.heap.size + 1 := ⟨_, rfl⟩
    rw [← hBd] at hk4 ⊢
    rw [← hmd] at hk4
    have HM := hid (show w.heap.size ≤ m ∧ m < mc ∧ mc < md from ⟨(unhid HM).1, (unhid HM).2, by have := (unhid HKC).lt.2; omega⟩)
    have HK := hid ((unhid HK).below' hb4)
    have HKC := hid ((unhid HKC).below' hb4)
    have HKD := hid hk4
    have HB := hid ((unhid HB).trans (hb4.mono (unhid HB).size))
    clear hk4 hb4 hmd hBd
    go_wp2_with fail
    refine (wwrite_calls n1 A1 c1 W4 ((unhid H1).1.below (unhid HB)) (unhid H1).2 (unhid HKC) (unhid HW).2 (by have := unhid HLL; omega)).mono ?_
    rintro e W5 ⟨C, rfl, hk5, hw5, hg5⟩
    have HK := hid ((unhid HK).beside (unhid HKC) hg5 (by have := unhid HM; omega))
    have HKD := hid ((unhid HKD).beside (unhid HKC) hg5 (by have := unhid HM; omega))
    have HKC := hid hk5
    have HWC := hid hw5
    have HB := hid ((unhid HB).grown hg5 (unhid HB).size (fun j e => by cases e; have := unhid HM; omega))
    clear hk5 hw5 hg5
    go_wp2_with fail
    refine (wwrite_calls n2 A2 c2 W5 ((unhid H2).1.below (unhid HB)) (unhid H2).2 (unhid HKD) (unhid HW).2 (by have := unhid HLL; omega)).mono ?_
    rintro e W6 ⟨D, rfl, hk6, hw6, hg6⟩
    have HK := hid ((unhid HK).beside (unhid HKD) hg6 (by have := unhid HM; omega))
    have HKC := hid ((unhid HKC).beside (unhid HKD) hg6 (by have := unhid HM; omega))
    have HKD := hid hk6
    have HWD := hid hw6
    have HB := hid ((unhid HB).grown hg6 (unhid HB).size (fun j e => by cases e; have := unhid HM; omega))
    have HLN := hid (show S.length ≤ 1000 ∧ C.length ≤ 100 ∧ D.length ≤ 100 from by have h1 := (unhid HW).2.len; have h2 := (unhid HWC).len; have h3 := (unhid HWD).len; have := unhid HLL; omega)
    clear hk6 hw6 hg6 H0 H1 H2
    go_wp2_with fail
    refine (pcopy_calls W6 (unhid HKC)).mono ?_
    rintro e W7 ⟨rfl, hk7, hb7⟩
    obtain ⟨me, hme⟩ : ∃ me, me = W6.heap.size := ⟨_, rfl⟩
    obtain ⟨Be, hBe⟩ : ∃ Be, Be = W6.heap.size + 1 := ⟨_, rfl⟩
    rw [← hBe] at hk7 ⊢
    rw [← hme] at hk7
    have HM := hid (show w.heap.size ≤ m ∧ m < mc ∧ mc < md ∧ md < me from ⟨(unhid HM).1, (unhid HM).2.1, (unhid HM).2.2, by have := (unhid HKD).lt.2; omega⟩)
    have HK := hid ((unhid HK).below' hb7)
    have HKC := hid ((unhid HKC).below' hb7)
    have HKD := hid ((unhid HKD).below' hb7)
    have HKE := hid hk7
    have HB := hid ((unhid HB).trans (hb7.mono (unhid HB).size))
    clear hk7 hb7 hme hBe
    go_wp2_with fail
    refine (pcopy_calls W7 (unhid HKD)).mono ?_
    rintro e W8 ⟨rfl, hk8, hb8⟩
    obtain ⟨mf, hmf⟩ : ∃ mf, mf = W7.heap.size := ⟨_, rfl⟩
    obtain ⟨Bf, hBf⟩ : ∃ Bf, Bf = W7.heap.size + 1 := ⟨_, rfl⟩
    rw [← hBf] at hk8 ⊢
    rw [← hmf] at hk8
    have HM := hid (show w.heap.size ≤ m ∧ m < mc ∧ mc < md ∧ md < me ∧ me < mf from ⟨(unhid HM).1, (unhid HM).2.1, (unhid HM).2.2.1, (unhid HM).2.2.2, by have := (unhid HKE).lt.2; omega⟩)
    have HK := hid ((unhid HK).below' hb8)
    have HKC := hid ((unhid HKC).below' hb8)
    have HKD := hid ((unhid HKD).below' hb8)
    have HKE := hid ((unhid HKE).below' hb8)
    have HKF := hid hk8
    have HB := hid ((unhid HB).trans (hb8.mono (unhid HB).size))
    clear hk8 hb8 hmf hBf
    go_wp2_with fail
    refine (join_calls W8 (unhid HKE) (unhid HKD) (by have := unhid HM; omega) (by have := unhid HLN; omega)).mono ?_
    rintro e W9 ⟨E, rfl, hk9, hm9, hl9, hg9⟩
    have HK := hid ((unhid HK).beside (unhid HKE) hg9 (by have := unhid HM; omega))
    have HKC := hid ((unhid HKC).beside (unhid HKE) hg9 (by have := unhid HM; omega))
    have HKD := hid ((unhid HKD).beside (unhid HKE) hg9 (by have := unhid HM; omega))
    have HKF := hid ((unhid HKF).beside (unhid HKE) hg9 (by have := unhid HM; omega))
    have HKE := hid hk9
    have HME := hid hm9
    have HEL := hid (show E.length ≤ 200 from by have := unhid HLN; omega)
    have HB := hid ((unhid HB).grown hg9 (unhid HB).size (fun j e => by cases e; have := unhid HM; omega))
    clear hk9 hm9 hl9 hg9
    go_wp2_with fail
    refine (join_calls W9 (unhid HKF) (unhid HKC) (by have := unhid HM; omega) (by have := unhid HLN; omega)).mono ?_
    rintro e W10 ⟨F_, rfl, hk10, hm10, hl10, hg10⟩
    have HK := hid ((unhid HK).beside (unhid HKF) hg10 (by have := unhid HM; omega))
    have HKC := hid ((unhid HKC).beside (unhid HKF) hg10 (by have := unhid HM; omega))
    have HKD := hid ((unhid HKD).beside (unhid HKF) hg10 (by have := unhid HM; omega))
    have HKE := hid ((unhid HKE).beside (unhid HKF) hg10 (by have := unhid HM; omega))
    have HKF := hid hk10
    have HEF := hid (show ∀ r, r ∈ F_ ↔ r ∈ E from fun r => by rw [hm10 r, unhid HME r]; exact Or.comm)
    have HFL := hid (show F_.length ≤ 200 from by have := unhid HLN; omega)
    have HB := hid ((unhid HB).grown hg10 (unhid HB).size (fun j e => by cases e; have := unhid HM; omega))
    clear hk10 hm10 hl10 hg10 HM
    go_wp2_with fail
    refine (records_calls W10 (unhid HKE) (by have := unhid HEL; omega)).mono ?_
    rintro e W11 ⟨v, L, rfl, hp, hA, hrow, hb11⟩
    have HLA := hid (⟨hA, fun r => hp.mem_iff.symm, by rw [hp.length_eq]; exact unhid HEL⟩ : Asc L ∧ (∀ r, r ∈ E ↔ r ∈ L) ∧ L.length ≤ 200)
    obtain ⟨Av, cv, rfl, hrd, -⟩ := own_slice hrow
    have HR1 := hid hrd
    have HK := hid ((unhid HK).below' hb11)
    have HKC := hid ((unhid HKC).below' hb11)
    have HKD := hid ((unhid HKD).below' hb11)
    have HKE := hid ((unhid HKE).below' hb11)
    have HKF := hid ((unhid HKF).below' hb11)
    have HB := hid ((unhid HB).trans (hb11.mono (unhid HB).size))
    clear hp hA hrow hrd hb11
    go_wp2_with fail
    refine (records_calls W11 (unhid HKF) (by have := unhid HFL; omega)).mono ?_
    rintro e W12 ⟨v, L2, rfl, hp, hA, hrow, hb12⟩
    obtain rfl : L2 = L := asc_eq hA (unhid HLA).1 (fun r => by rw [hp.mem_iff, unhid HEF r]; exact (unhid HLA).2.1 r)
    obtain ⟨Aw, cw, rfl, hrd, -⟩ := own_slice hrow
    have HR2 := hid hrd
    have HR1 := hid ((unhid HR1).below hb12)
    have HK := hid ((unhid HK).below' hb12)
    have HKC := hid ((unhid HKC).below' hb12)
    have HKD := hid ((unhid HKD).below' hb12)
    have HKE := hid ((unhid HKE).below' hb12)
    have HKF := hid ((unhid HKF).below' hb12)
    have HB := hid ((unhid HB).trans (hb12.mono (unhid HB).size))
    clear hp hA hrow hrd hb12
    go_wp2_with fail
    refine (sameRecords_calls L2 L2 Av Aw cv cw W12 (unhid HR1) (unhid HR2) (by have := (unhid HLA).2.2; omega)).mono ?_
    rintro e W13 ⟨rfl, hb13⟩
    rw [decide_eq_true (rfl : L2 = L2)]
    have HK := hid ((unhid HK).below' hb13)
    have HKC := hid ((unhid HKC).below' hb13)
    have HKD := hid ((unhid HKD).below' hb13)
    have HKE := hid ((unhid HKE).below' hb13)
    have HKF := hid ((unhid HKF).below' hb13)
    have HB := hid ((unhid HB).trans (hb13.mono (unhid HB).size))
    clear hb13 HR1 HR2
    go_wp2_with fail
    refine (pwaiting_calls W13 (unhid HKE) (by have := unhid HEL; omega) (unhid HLA).1 (unhid HLA).2.1).mono ?_
    rintro e W14 ⟨v, rfl, hrow, hb14⟩
    obtain ⟨Av, cv, rfl, hrd, -⟩ := own_slice hrow
    have HR1 := hid hrd
    have HK := hid ((unhid HK).below' hb14)
    have HKC := hid ((unhid HKC).below' hb14)
    have HKD := hid ((unhid HKD).below' hb14)
    have HKE := hid ((unhid HKE).below' hb14)
    have HKF := hid ((unhid HKF).below' hb14)
    have HB := hid ((unhid HB).trans (hb14.mono (unhid HB).size))
    clear hrow hrd hb14
    go_wp2_with fail
    refine (pwaiting_calls W14 (unhid HKF) (by have := unhid HFL; omega) (unhid HLA).1 (fun r => by rw [unhid HEF r]; exact (unhid HLA).2.1 r)).mono ?_
    rintro e W15 ⟨v, rfl, hrow, hb15⟩
    obtain ⟨Aw, cw, rfl, hrd, -⟩ := own_slice hrow
    have HR2 := hid hrd
    have HR1 := hid ((unhid HR1).below hb15)
    have HK := hid ((unhid HK).below' hb15)
    have HKC := hid ((unhid HKC).below' hb15)
    have HKD := hid ((unhid HKD).below' hb15)
    have HKE := hid ((unhid HKE).below' hb15)
    have HKF := hid ((unhid HKF).below' hb15)
    have HB := hid ((unhid HB).trans (hb15.mono (unhid HB).size))
    clear hrow hrd hb15
    go_wp2_with fail
    refine (sameRecords_calls (waitL L2) (waitL L2) Av Aw cv cw W15 (unhid HR1) (unhid HR2) (Nat.le_trans (List.length_filter_le _ _) (by have := (unhid HLA).2.2; omega))).mono ?_
    rintro e W16 ⟨rfl, hb16⟩
    rw [decide_eq_true (rfl : waitL L2 = waitL L2)]
    have HK := hid ((unhid HK).below' hb16)
    have HKC := hid ((unhid HKC).below' hb16)
    have HKD := hid ((unhid HKD).below' hb16)
    have HKE := hid ((unhid HKE).below' hb16)
    have HKF := hid ((unhid HKF).below' hb16)
    have HB := hid ((unhid HB).trans (hb16.mono (unhid HB).size))
    clear hb16 HR1 HR2
    go_wp2_with fail
    refine (pforks_calls W16 (unhid HKE) (by have := unhid HEL; omega) (unhid HLA).2.1).mono ?_
    rintro e W17 ⟨v, rfl, hrow, hb17⟩
    obtain ⟨Av, cv, rfl, hrd, -⟩ := own_slice hrow
    have HR1 := hid hrd
    have HK := hid ((unhid HK).below' hb17)
    have HKC := hid ((unhid HKC).below' hb17)
    have HKD := hid ((unhid HKD).below' hb17)
    have HKE := hid ((unhid HKE).below' hb17)
    have HKF := hid ((unhid HKF).below' hb17)
    have HB := hid ((unhid HB).trans (hb17.mono (unhid HB).size))
    clear hrow hrd hb17
    go_wp2_with fail
    refine (pforks_calls (L := L2) W17 (unhid HKF) (by have := unhid HFL; omega) (fun r => (unhid HEF r).trans ((unhid HLA).2.1 r))).mono ?_
    rintro e W18 ⟨v, rfl, hrow, hb18⟩
    obtain ⟨Aw, cw, rfl, hrd, -⟩ := own_slice hrow
    have HR2 := hid hrd
    have HR1 := hid ((unhid HR1).below hb18)
    have HK := hid ((unhid HK).below' hb18)
    have HKC := hid ((unhid HKC).below' hb18)
    have HKD := hid ((unhid HKD).below' hb18)
    have HKE := hid ((unhid HKE).below' hb18)
    have HB := hid ((unhid HB).trans (hb18.mono (unhid HB).size))
    clear hrow hrd hb18 HKF
    go_wp2_with fail
    refine (sameForks_calls (forksP L2) (forksP L2) Av Aw cv cw W18 (unhid HR1) (unhid HR2) (Nat.le_trans (forkK_len L2 8) (by omega))).mono ?_
    rintro e W19 ⟨rfl, hb19⟩
    rw [decide_eq_true (rfl : forksP L2 = forksP L2)]
    have HK := hid ((unhid HK).below' hb19)
    have HKC := hid ((unhid HKC).below' hb19)
    have HKD := hid ((unhid HKD).below' hb19)
    have HKE := hid ((unhid HKE).below' hb19)
    have HB := hid ((unhid HB).trans (hb19.mono (unhid HB).size))
    clear hb19 HR1 HR2
    go_wp2_with fail
    refine (counts_calls' W19 (unhid HKE) (by have := unhid HEL; omega) (unhid HLA).1 (unhid HLA).2.1 (by have := (unhid HLA).2.2; omega)).mono ?_
    rintro e W20 ⟨mm, K, rfl, hr20, hm20, -, -, hb20⟩
    have HRS := hid hr20
    have HMK := hid hm20
    have HK := hid ((unhid HK).below' hb20)
    have HKC := hid ((unhid HKC).below' hb20)
    have HKD := hid ((unhid HKD).below' hb20)
    have HB := hid ((unhid HB).trans (hb20.mono (unhid HB).size))
    clear hr20 hm20 hb20 HKE
    go_wp2_with fail
    refine (records_calls W20 (unhid HKC) (by have := unhid HLN; omega)).mono ?_
    rintro e W21 ⟨v, LC, rfl, hp, -, hrow, hb21⟩
    have HLC := hid (⟨fun r hr => hp.mem_iff.1 hr, by rw [hp.length_eq]; exact (unhid HLN).2.1⟩ : (∀ r ∈ LC, r ∈ C) ∧ LC.length ≤ 100)
    obtain ⟨Av, cv, rfl, hrd, -⟩ := own_slice hrow
    have HR1 := hid hrd
    have HVC := hid (unhid HKC).v
    have HK := hid ((unhid HK).below' hb21)
    have HKD := hid ((unhid HKD).below' hb21)
    have HRS := hid (show RSet W21 mm K from GMap.below (unhid HRS) hb21 (GMap.lt (unhid HRS)))
    have HB := hid ((unhid HB).trans (hb21.mono (unhid HB).size))
    clear hp hrow hrd hb21 HKC
    go_wp2_with fail
    refine (records_calls W21 (unhid HKD) (by have := unhid HLN; omega)).mono ?_
    rintro e W22 ⟨v, LD, rfl, hp, -, hrow, hb22⟩
    have HLD := hid (⟨fun r hr => hp.mem_iff.1 hr, by rw [hp.length_eq]; exact (unhid HLN).2.2⟩ : (∀ r ∈ LD, r ∈ D) ∧ LD.length ≤ 100)
    obtain ⟨Aw, cw, rfl, hrd, -⟩ := own_slice hrow
    have HR2 := hid hrd
    have HR1 := hid ((unhid HR1).below hb22)
    have HVD := hid (unhid HKD).v
    have HK := hid ((unhid HK).below' hb22)
    have HRS := hid (show RSet W22 mm K from GMap.below (unhid HRS) hb22 (GMap.lt (unhid HRS)))
    have HB := hid ((unhid HB).trans (hb22.mono (unhid HB).size))
    clear hp hrow hrd hb22 HKD
    go_upto_region 18 with (fail)
    go_loopw [19] (fun iv wr => ∃ i : Nat, i ≤ LC.length ∧ iv = .int .i64 i ∧ Below W22.heap.size W22 wr) (fun iv _ => LC.length - (intOf iv).toNat)
    case atStart => exact ⟨0, Nat.zero_le _, rfl, Below.refl _ _⟩
    case round =>
      obtain ⟨i, hi, rfl, hb⟩ := hrel
      have HBR := hid hb
      clear hb
      by_cases hlt : i < LC.length
      · have hki : (i : Int) < (LC.length : Int) := by omega
        obtain ⟨x, hx⟩ : ∃ x, LC[i]'hlt = x := ⟨_, rfl⟩
        have HX := hid hx
        have HXC := hid ((unhid HLC).1 x (hx ▸ List.getElem_mem hlt))
        clear hx
        go_upto_region 21 with (fail)
        go_loopw [20] (fun jv wz => ∃ j : Nat, j ≤ LD.length ∧ jv = .int .i64 j ∧ Below W22.heap.size W22 wz) (fun jv _ => LD.length - (intOf jv).toNat)
        case atStart => exact ⟨0, Nat.zero_le _, rfl, unhid HBR⟩
        case round =>
          clear HBR
          obtain ⟨j, hj, rfl, hb⟩ := hrel
          have HBR := hid hb
          clear hb
          by_cases hjl : j < LD.length
          · have hji : (j : Int) < (LD.length : Int) := by omega
            obtain ⟨b, off, hAe, hbl, hc⟩ := ((unhid HR1).below (unhid HBR)) (recs_ne hlt)
            obtain ⟨b2, off2, hAe2, hbl2, hc2⟩ := ((unhid HR2).below (unhid HBR)) (recs_ne hjl)
            subst hAe hAe2
            obtain ⟨y, hy⟩ : ∃ y, LD[j]'hjl = y := ⟨_, rfl⟩
            have HYD := hid ((unhid HLD).1 y (hy ▸ List.getElem_mem hjl))
            have HCX := hid ((rec_at14 hc hlt (unhid HX)).after hbl)
            have HCY := hid ((rec_at14 hc2 hjl hy).after hbl2)
            have HRR := hid (fun p : After wr => (show RSet p.w mm K from GMap.below (GMap.below (unhid HRS) (unhid HBR) (GMap.lt (unhid HRS))) p.below (Nat.lt_of_lt_of_le (GMap.lt (unhid HRS)) (unhid HBR).size)))
            have HW1 := hid (show wrap64 ((j : Int) + 1) = ((j + 1 : Nat) : Int) from by have h1 := (unhid HLD).2; unfold wrap64; omega)
            clear hc hc2 hy hbl hbl2
            have m0 := fun p => (unhid HCX p).1
            have m1 := fun p => (unhid HCX p).2.1
            have m2 := fun p => (unhid HCX p).2.2.1
            have m3 := fun p => (unhid HCX p).2.2.2.1
            have m4 := fun p => (unhid HCX p).2.2.2.2.1
            have m5 := fun p => (unhid HCX p).2.2.2.2.2.1
            have m6 := fun p => (unhid HCX p).2.2.2.2.2.2.1
            have m7 := fun p => (unhid HCX p).2.2.2.2.2.2.2.1
            have m8 := fun p => (unhid HCX p).2.2.2.2.2.2.2.2.1
            have m9 := fun p => (unhid HCX p).2.2.2.2.2.2.2.2.2.1
            have m10 := fun p => (unhid HCX p).2.2.2.2.2.2.2.2.2.2.1
            have m11 := fun p => (unhid HCX p).2.2.2.2.2.2.2.2.2.2.2.1
            have m12 := fun p => (unhid HCX p).2.2.2.2.2.2.2.2.2.2.2.2.1
            have m13 := fun p => (unhid HCX p).2.2.2.2.2.2.2.2.2.2.2.2.2
            have n0 := fun p => (unhid HCY p).1
            have n1 := fun p => (unhid HCY p).2.1
            have n2 := fun p => (unhid HCY p).2.2.1
            have n3 := fun p => (unhid HCY p).2.2.2.1
            have n4 := fun p => (unhid HCY p).2.2.2.2.1
            have n5 := fun p => (unhid HCY p).2.2.2.2.2.1
            have n6 := fun p => (unhid HCY p).2.2.2.2.2.2.1
            have n7 := fun p => (unhid HCY p).2.2.2.2.2.2.2.1
            have n8 := fun p => (unhid HCY p).2.2.2.2.2.2.2.2.1
            have n9 := fun p => (unhid HCY p).2.2.2.2.2.2.2.2.2.1
            have n10 := fun p => (unhid HCY p).2.2.2.2.2.2.2.2.2.2.1
            have n11 := fun p => (unhid HCY p).2.2.2.2.2.2.2.2.2.2.2.1
            have n12 := fun p => (unhid HCY p).2.2.2.2.2.2.2.2.2.2.2.2.1
            have n13 := fun p => (unhid HCY p).2.2.2.2.2.2.2.2.2.2.2.2.2
            go_upto_region 23 with (fail)
            by_cases e1 : x.tab = y.tab
            · have q1 : (x.tab == y.tab) = true := by simp [e1]
              have HE1 := hid e1
              clear e1
              by_cases e2 : x.num = y.num
              · have q2 : (x.num == y.num) = true := by simp [e2]
                have HE2 := hid e2
                clear e2
                have hnq := neq_rc x y
                by_cases e3 : x = y
                · have q3 : decide (x = y) = true := by simp [e3]
                  rw [q3] at hnq
                  clear q3 e3
                  (refine wp_region_below (by kernel_rfl) (by kernel_rfl) ?_; (repeat (go_big_quiet_step (first | fail))); refine wpQuiet_nil ?_; intro wq hw'; obtain ⟨⟨wq2, hbq⟩, hw''⟩ := hw'; dsimp only at hw''; subst hw'')
                  have HBR := hid ((unhid HBR).trans (hbq.mono (unhid HBR).size))
                  clear hbq m0 m1 m2 m3 m4 m5 m6 m7 m8 m9 m10 m11 m12 m13 n0 n1 n2 n3 n4 n5 n6 n7 n8 n9 n10 n11 n12 n13
                  try clear hlx hly hnq
                  go_wp2_with fail
                  go_roundw
                  case rel => exact ⟨j + 1, by omega, by first | go_num | rw [unhid HW1], unhid HBR⟩
                  case measure => first | (simp [intOf]; omega) | (rw [unhid HW1]; simp [intOf]; omega)
                · have q3 : decide (x = y) = false := by simp [e3]
                  rw [q3] at hnq
                  clear q3
                  have HDC := hid (differ_cnt (E := L2) (x := x) (y := y) (((unhid HLA).2.1 x).1 ((unhid HME x).2 (.inl (unhid HXC)))) (((unhid HLA).2.1 y).1 ((unhid HME y).2 (.inr (unhid HYD)))) (by unfold Rc.tb; rw [unhid HE1]) (unhid HE2) e3)
                  clear e3
                  have hlx := fun p : After wr => set_look (unhid HRR p) (unhid HVC x (unhid HXC)) (b := false) (decide_eq_false (fun hm => by have h1 := ((unhid HMK x).1 hm).2; rw [(unhid HDC).1] at h1; cases h1)).symm
                  have hly := fun p : After wr => set_look (unhid HRR p) (unhid HVD y (unhid HYD)) (b := false) (decide_eq_false (fun hm => by have h1 := ((unhid HMK y).1 hm).2; rw [(unhid HDC).2] at h1; cases h1)).symm
                  (refine wp_region_below (by kernel_rfl) (by kernel_rfl) ?_; (repeat (go_big_quiet_step (first | fail))); refine wpQuiet_nil ?_; intro wq hw'; obtain ⟨⟨wq2, hbq⟩, hw''⟩ := hw'; dsimp only at hw''; subst hw'')
                  have HBR := hid ((unhid HBR).trans (hbq.mono (unhid HBR).size))
                  clear hbq m0 m1 m2 m3 m4 m5 m6 m7 m8 m9 m10 m11 m12 m13 n0 n1 n2 n3 n4 n5 n6 n7 n8 n9 n10 n11 n12 n13
                  try clear hlx hly hnq
                  go_wp2_with fail
                  go_roundw
                  case rel => exact ⟨j + 1, by omega, by first | go_num | rw [unhid HW1], unhid HBR⟩
                  case measure => first | (simp [intOf]; omega) | (rw [unhid HW1]; simp [intOf]; omega)
              · have q2 : (x.num == y.num) = false := by simp [e2]
                (refine wp_region_below (by kernel_rfl) (by kernel_rfl) ?_; (repeat (go_big_quiet_step (first | fail))); refine wpQuiet_nil ?_; intro wq hw'; obtain ⟨⟨wq2, hbq⟩, hw''⟩ := hw'; dsimp only at hw''; subst hw'')
                have HBR := hid ((unhid HBR).trans (hbq.mono (unhid HBR).size))
                clear hbq m0 m1 m2 m3 m4 m5 m6 m7 m8 m9 m10 m11 m12 m13 n0 n1 n2 n3 n4 n5 n6 n7 n8 n9 n10 n11 n12 n13
                try clear hlx hly hnq
                go_wp2_with fail
                go_roundw
                case rel => exact ⟨j + 1, by omega, by first | go_num | rw [unhid HW1], unhid HBR⟩
                case measure => first | (simp [intOf]; omega) | (rw [unhid HW1]; simp [intOf]; omega)
            · have q1 : (x.tab == y.tab) = false := by simp [e1]
              (refine wp_region_below (by kernel_rfl) (by kernel_rfl) ?_; (repeat (go_big_quiet_step (first | fail))); refine wpQuiet_nil ?_; intro wq hw'; obtain ⟨⟨wq2, hbq⟩, hw''⟩ := hw'; dsimp only at hw''; subst hw'')
              have HBR := hid ((unhid HBR).trans (hbq.mono (unhid HBR).size))
              clear hbq m0 m1 m2 m3 m4 m5 m6 m7 m8 m9 m10 m11 m12 m13 n0 n1 n2 n3 n4 n5 n6 n7 n8 n9 n10 n11 n12 n13
              try clear hlx hly hnq
              go_wp2_with fail
              go_roundw
              case rel => exact ⟨j + 1, by omega, by first | go_num | rw [unhid HW1], unhid HBR⟩
              case measure => first | (simp [intOf]; omega) | (rw [unhid HW1]; simp [intOf]; omega)
          · obtain rfl : j = LD.length := by omega
            have HW1 := hid (show wrap64 ((i : Int) + 1) = ((i + 1 : Nat) : Int) from by have h1 := (unhid HLC).2; unfold wrap64; omega)
            go_wp2_with fail
            go_roundw
            case rel => exact ⟨i + 1, by omega, by first | go_num | rw [unhid HW1], unhid HBR⟩
            case measure => first | (simp [intOf]; omega) | (rw [unhid HW1]; simp [intOf]; omega)
      · obtain rfl : i = LC.length := by omega
        have HK := hid ((unhid HK).below' (unhid HBR))
        have HRS := hid (show RSet wr mm K from GMap.below (unhid HRS) (unhid HBR) (GMap.lt (unhid HRS)))
        have HB := hid ((unhid HB).trans ((unhid HBR).mono (unhid HB).size))
        go_wp2_with fail
        refine (records_calls wr (unhid HK) (by have := unhid HLN; omega)).mono ?_
        rintro e W23 ⟨v, LS, rfl, hp, -, hrow, hb23⟩
        have HLS := hid (⟨fun r hr => hp.mem_iff.1 hr, by rw [hp.length_eq]; exact (unhid HLN).1⟩ : (∀ r ∈ LS, r ∈ S) ∧ LS.length ≤ 1000)
        obtain ⟨Ax, cx, rfl, hrd, -⟩ := own_slice hrow
        have HR3 := hid hrd
        have HRS := hid (show RSet W23 mm K from GMap.below (unhid HRS) hb23 (GMap.lt (unhid HRS)))
        have HB := hid ((unhid HB).trans (hb23.mono (unhid HB).size))
        clear hp hrow hrd hb23 HBR
        go_upto_region 27 with (fail)
        go_loopw [22] (fun iv wz => ∃ q : Nat, q ≤ LS.length ∧ iv = .int .i64 q ∧ W23 = wz) (fun iv _ => LS.length - (intOf iv).toNat)
        case atStart => exact ⟨0, Nat.zero_le _, rfl, rfl⟩
        case round =>
          obtain ⟨q, hq, rfl, rfl⟩ := hrel
          by_cases hql : q < LS.length
          · have hqi : (q : Int) < (LS.length : Int) := by omega
            obtain ⟨b, off, hAe, hbl, hc⟩ := (unhid HR3) (recs_ne hql)
            subst hAe
            obtain ⟨z, hz⟩ : ∃ z, LS[q]'hql = z := ⟨_, rfl⟩
            have HZ := hid ((unhid HLS).1 z (hz ▸ List.getElem_mem hql))
            obtain ⟨a0, a1, a2, a3, a4, a5, a6, a7, a8', a9, a10, a11, a12, a13⟩ := rec_at14 hc hql hz
            have hlz := set_look (unhid HRS) ((unhid HW).1 z (unhid HZ)) (b := true) (decide_eq_true ((unhid HMK z).2 ⟨((unhid HLA).2.1 z).1 ((unhid HME z).2 (.inl ((unhid HWC).sub z (unhid HZ)))), by
              have h := common_cnt (unhid HW).1 (unhid HW).2.good (unhid HWC) (unhid HWD) (fun r => (((unhid HLA).2.1 r).symm.trans (unhid HME r))) (unhid HZ)
              exact cnt_true h⟩)).symm
            have HW1 := hid (show wrap64 ((q : Int) + 1) = ((q + 1 : Nat) : Int) from by have h1 := (unhid HLS).2; unfold wrap64; omega)
            clear hc hz
            go_wp2_with fail
            go_roundw
            case rel => exact ⟨q + 1, by omega, by first | go_num | rw [unhid HW1], by first | rfl | trivial⟩
            case measure => first | (simp [intOf]; omega) | (rw [unhid HW1]; simp [intOf]; omega)
          · obtain rfl : q = LS.length := by omega
            go_wp2_with fail
            refine (first_calls _).mono ?_
            rintro e w2 ⟨rfl, hb2⟩
            have HB := hid ((unhid HB).trans (hb2.mono (unhid HB).size))
            clear hb2
            go_wp2_with fail
            go_ret
            exact ⟨rfl, unhid HB⟩

end Go.Proofs.Ytegghimjmbgghaa
