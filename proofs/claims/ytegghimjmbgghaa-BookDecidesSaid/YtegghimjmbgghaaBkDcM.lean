/-
  The law BookDecides, where the first note is fine.
-/
import Derived.Test.YtegghimjmbgghaaBkDcL
set_option linter.unusedSimpArgs false
set_option linter.unusedVariables false
namespace Go.Proofs.Ytegghimjmbgghaa
open Go.RowKit Go.Shelf

set_option maxHeartbeats 16000000 in
set_option maxRecDepth 100000 in
theorem ldec_ybad (ns : List Nt) (An : Option Addr) (cn : Nat) (x y : Nt) (w : World) (hn : NtsIn w An ns cn) (hx : NtW x) (hy : NtW y) (hfx : fineB x.tab x.hour x.sign x.fld x.val = true) (hfy : fineB y.tab y.hour x.sign x.fld y.val = false) :
    Calls Try.prog 10 #[.slice An ns.length cn, .agg #[.int .i64 x.tab, .int .i64 x.hour, .int .i64 x.sign, .int .i64 x.fld, .int .i64 x.val], .agg #[.int .i64 y.tab, .int .i64 y.hour, .int .i64 y.sign, .int .i64 y.fld, .int .i64 y.val]] w fun e w' => e = .returned (.bool true) ∧ Below w.heap.size w w' := by
  have HFX := hid hfx
  clear hfx
  have HFY := hid hfy
  clear hfy
  have HNO := hid hn.ok
  have HND := hid hn.rd
  have HXW := hid hx
  have HYW := hid hy
  have hb0 := below_alloc w (.cells #[.int .i64 x.tab, .int .i64 x.hour, .int .i64 x.sign, .int .i64 x.fld, .int .i64 x.val] 30)
  have hx0 := heap_alloc_new w (.cells #[.int .i64 x.tab, .int .i64 x.hour, .int .i64 x.sign, .int .i64 x.fld, .int .i64 x.val] 30)
  have hs0 : (w.alloc (.cells #[.int .i64 x.tab, .int .i64 x.hour, .int .i64 x.sign, .int .i64 x.fld, .int .i64 x.val] 30)).heap.size = w.heap.size + 1 := by simp
  have hb1 := below_alloc (w.alloc (.cells #[.int .i64 x.tab, .int .i64 x.hour, .int .i64 x.sign, .int .i64 x.fld, .int .i64 x.val] 30)) (.cells #[.int .i64 y.tab, .int .i64 y.hour, .int .i64 y.sign, .int .i64 y.fld, .int .i64 y.val] 30)
  have hy0 := heap_alloc_new (w.alloc (.cells #[.int .i64 x.tab, .int .i64 x.hour, .int .i64 x.sign, .int .i64 x.fld, .int .i64 x.val] 30)) (.cells #[.int .i64 y.tab, .int .i64 y.hour, .int .i64 y.sign, .int .i64 y.fld, .int .i64 y.val] 30)
  rw [hs0] at hy0
  clear hn hx hy
  go_enter Try.func10, Try.ntmps10
  go_upto_region 1 with (fail)
  change Code.wp _ _ _ _ ((w.alloc (.cells #[.int .i64 x.tab, .int .i64 x.hour, .int .i64 x.sign, .int .i64 x.fld, .int .i64 x.val] 30)).alloc (.cells #[.int .i64 y.tab, .int .i64 y.hour, .int .i64 y.sign, .int .i64 y.fld, .int .i64 y.val] 30))
  have HX := hid (show NtAt _ w.heap.size x from (hb1.block _ (by omega)).trans hx0)
  have HY := hid (show NtAt _ (w.heap.size + 1) y from hy0)
  have HB := hid (hb0.trans (hb1.mono hb0.size))
  clear hb0 hx0 hb1 hy0 hs0
  generalize (w.alloc (.cells #[.int .i64 x.tab, .int .i64 x.hour, .int .i64 x.sign, .int .i64 x.fld, .int .i64 x.val] 30)).alloc (.cells #[.int .i64 y.tab, .int .i64 y.hour, .int .i64 y.sign, .int .i64 y.fld, .int .i64 y.val] 30) = W0 at *
  obtain ⟨X, hX⟩ : ∃ X, X = w.heap.size := ⟨_, rfl⟩
  obtain ⟨Y, hY⟩ : ∃ Y, Y = w.heap.size + 1 := ⟨_, rfl⟩
  rw [← hX] at HX
  rw [← hY] at HY
  rw [← hY, ← hX]
  have HXE := hid (⟨hX, hY⟩ : X = w.heap.size ∧ Y = w.heap.size + 1)
  clear hX hY
  by_cases h1 : 10 < ns.length
  · have hni : (10 : Int) < (ns.length : Int) := by omega
    go_wp2_with fail
    refine (first_calls _).mono ?_
    rintro e w9 ⟨rfl, hb9⟩
    have HB := hid ((unhid HB).trans (hb9.mono (unhid HB).size))
    clear hb9
    go_wp2_with fail
    go_ret
    exact ⟨rfl, unhid HB⟩
  · have hni : ¬ (10 : Int) < (ns.length : Int) := by omega
    have HLL := hid (show ns.length ≤ 10 from by omega)
    clear h1
    go_wp2_with fail
    refine (bookNew_calls W0).mono ?_
    rintro e W1 ⟨rfl, hk1, hb1⟩
    obtain ⟨m, hm⟩ : ∃ m, m = W0.heap.size := ⟨_, rfl⟩
    obtain ⟨B, hB⟩ : ∃ B, B = W0.heap.size + 1 := ⟨_, rfl⟩
    rw [← hB] at hk1 ⊢
    rw [← hm] at hk1
    have HK := hid hk1
    have HM := hid (show w.heap.size ≤ m ∧ w.heap.size ≤ W0.heap.size from by have := (unhid HB).size; omega)
    have HX := hid (NtAt.below (unhid HX) hb1)
    have HY := hid (NtAt.below (unhid HY) hb1)
    have HB := hid ((unhid HB).trans (hb1.mono (unhid HB).size))
    clear hk1 hb1 hm hB hni
    go_upto_region 5 with (fail)
    go_loopw [8] (fun iv wr => ∃ (k : Nat) (S : List Rc), k ≤ ns.length ∧ iv = .int .i64 k ∧ BkAt wr B m S ∧ Wn [] S k ∧ NtAt wr X x ∧ NtAt wr Y y ∧ Below w.heap.size w wr) (fun iv _ => ns.length - (intOf iv).toNat)
    case atStart => exact ⟨0, [], Nat.zero_le _, rfl, unhid HK, Wn.nil, unhid HX, unhid HY, unhid HB⟩
    case round =>
      clear HK HX HY HB
      obtain ⟨k, S, hk, rfl, hbk, hw, hx, hy, hb⟩ := hrel
      have HK := hid hbk
      have HW := hid hw
      have HX := hid hx
      have HY := hid hy
      have HB := hid hb
      clear hbk hw hx hy hb
      by_cases hlt : k < ns.length
      · have hki : (k : Int) < (ns.length : Int) := by omega
        obtain ⟨b, off, hAe, hbl, hc⟩ := ((unhid HND).below (unhid HB)) (nts_ne hlt)
        subst hAe
        obtain ⟨z, hz⟩ : ∃ z, ns[k]'hlt = z := ⟨_, rfl⟩
        have HZO := hid (unhid HNO z (hz ▸ List.getElem_mem hlt))
        obtain ⟨a0, a1, a2, a3, a4⟩ := nts_cells hc hlt hz
        have HW1 := hid (show wrap64 ((k : Int) + 1) = ((k + 1 : Nat) : Int) from by have h1 := unhid HLL; unfold wrap64; omega)
        clear hc hz
        go_upto_region 8 with (fail)
        have hb1 := below_alloc wr (.cells #[.int .i64 z.tab, .int .i64 z.hour, .int .i64 z.sign, .int .i64 z.fld, .int .i64 z.val] 30)
        have hz1 := heap_alloc_new wr (.cells #[.int .i64 z.tab, .int .i64 z.hour, .int .i64 z.sign, .int .i64 z.fld, .int .i64 z.val] 30)
        have HK := hid ((unhid HK).below' hb1)
        have HX := hid (NtAt.below (unhid HX) hb1)
        have HY := hid (NtAt.below (unhid HY) hb1)
        have HB := hid ((unhid HB).trans (hb1.mono (unhid HB).size))
        obtain ⟨N, hN⟩ : ∃ N, N = wr.heap.size := ⟨_, rfl⟩
        rw [← hN] at hz1 ⊢
        have HZ := hid (show NtAt _ N z from hz1)
        clear hb1 hz1 hN a0 a1 a2 a3 a4 hbl
        generalize wr.alloc (.cells #[.int .i64 z.tab, .int .i64 z.hour, .int .i64 z.sign, .int .i64 z.fld, .int .i64 z.val] 30) = W2 at *
        obtain ⟨a0, a1, a2, a3, a4⟩ := NtAt.cells (unhid HZ)
        go_wp2_with fail
        refine (write_calls z.tab z.hour z.sign z.fld z.val W2 (unhid HK) (by have := (unhid HW).len; have := unhid HLL; omega) (unhid HZO).1).mono ?_
        rintro e W3 ⟨rfl, hk3, hg3⟩
        have HX := hid ((unhid HX).beside (unhid HK) hg3)
        have HY := hid ((unhid HY).beside (unhid HK) hg3)
        have HW := hid ((unhid HW).write (unhid HK).v z.tab z.hour z.sign z.fld z.val)
        have HK := hid hk3
        have HB := hid ((unhid HB).grown hg3 (unhid HB).size (fun j e => by cases e; exact (unhid HM).1))
        clear hk3 hg3 a0 a1 a2 a3 a4 HZ
        go_wp2_with fail
        go_roundw
        case rel => exact ⟨k + 1, _, by omega, by first | go_num | rw [unhid HW1], unhid HK, unhid HW, unhid HX, unhid HY, unhid HB⟩
        case measure => first | (simp [intOf]; omega) | (rw [unhid HW1]; simp [intOf]; omega)
      · obtain rfl : k = ns.length := by omega
        have HV := hid (unhid HK).v
        have HG := hid (unhid HW).good
        have HC := hid (unhid HW).chain
        have HU1 := hid (show ∀ t, t < 8 → upT S t ≤ 100 from fun t ht => by have := (unhid HW).up t ht; have := unhid HLL; omega)
        have HU := hid (show ∀ t, t < 8 → upT S t ≤ 1000 from fun t ht => by have := unhid HU1 t ht; omega)
        have HLN := hid (show S.length ≤ 10 from Nat.le_trans (unhid HW).len (unhid HLL))
        clear HW HND HNO hlt hk
        go_wp2_with fail
        refine (pwaiting_calls (L := setR S) wr (unhid HK) (by have := unhid HLN; omega) (asc_setR S) (fun r => mem_setR.symm)).mono ?_
        rintro e W2 ⟨v, rfl, hrow, hb⟩
        rw [((unhid HG).perm (fun r => mem_setR.symm)).wait] at hrow
        obtain ⟨Av, cv, rfl, -, -⟩ := own_slice hrow
        have HK := hid ((unhid HK).below' hb)
        have HX := hid (NtAt.below (unhid HX) hb)
        have HY := hid (NtAt.below (unhid HY) hb)
        have HB := hid ((unhid HB).trans (hb.mono (unhid HB).size))
        simp only [List.length_nil]
        clear hrow hb
        go_upto_region 11 with (fail)
        have hXY : X ≠ Y := by have := unhid HXE; omega
        have HNE := hid hXY
        have hYB : w.heap.size ≤ Y := by have := unhid HXE; omega
        have HYB := hid hYB
        have HSF := hid (show ∀ w', NtAt w' X x → (w'.cell? ⟨X, 2, none⟩ = some (.int .i64 x.sign) ∧ w'.cell? ⟨X, 3, none⟩ = some (.int .i64 x.fld)) from fun w' h => ⟨h.cells.2.2.1, h.cells.2.2.2.1⟩)
        have hbd := Below.drew (Below.refl W2.heap.size W2)
        refine wp_region_noPanic ?_
        refine wp_region_E (S := fun w' => (w'.cell? ⟨X, 2, none⟩ = some (.int .i64 x.sign) ∧ w'.cell? ⟨X, 3, none⟩ = some (.int .i64 x.fld))) 7 8 rfl (by kernel_rfl) (by kernel_rfl) ((unhid HSF) _ ((unhid HX).below hbd)) ?_
        intro hSE
        have HK := hid ((unhid HK).below' hbd)
        have HX := hid (NtAt.below (unhid HX) hbd)
        have HY := hid (NtAt.below (unhid HY) hbd)
        have HB := hid ((unhid HB).trans (hbd.mono (unhid HB).size))
        clear hbd hXY hYB
        generalize W2.drew = Wd at *
        (refine WE_take (i := 0) (v := ?_) rfl (by kernel_rfl) (by decide) (by kernel_rfl) (by kernel_rfl) (fun _ _ _ h => h) (by rfl) hSE ?_ ?_; rotate_left; (focus (intro w hSw; (try dsimp only at hSw); go_simp; (try with_reducible rfl))); simp only [Act.put, List.setIfInBounds_toArray, List.set_cons_zero, List.set_cons_succ])
        (refine WE_take (i := 1) (v := ?_) rfl (by kernel_rfl) (by decide) (by kernel_rfl) (by kernel_rfl) (fun _ _ _ h => h) (by rfl) hSE ?_ ?_; rotate_left; (focus (intro w hSw; (try dsimp only at hSw); go_simp; (try with_reducible rfl))); simp only [Act.put, List.setIfInBounds_toArray, List.set_cons_zero, List.set_cons_succ])
        (refine WE_take (i := 2) (v := ?_) rfl (by kernel_rfl) (by decide) (by kernel_rfl) (by kernel_rfl) (fun _ _ _ h => h) (by rfl) hSE ?_ ?_; rotate_left; (focus (intro w hSw; (try dsimp only at hSw); go_simp; (try with_reducible rfl))); simp only [Act.put, List.setIfInBounds_toArray, List.set_cons_zero, List.set_cons_succ])
        (refine WE_take (i := 3) (v := ?_) rfl (by kernel_rfl) (by decide) (by kernel_rfl) (by kernel_rfl) (fun _ _ _ h => h) (by rfl) hSE ?_ ?_; rotate_left; (focus (intro w hSw; (try dsimp only at hSw); go_simp; (try with_reducible rfl))); simp only [Act.put, List.setIfInBounds_toArray, List.set_cons_zero, List.set_cons_succ])
        (refine WE_take (i := 4) (v := ?_) rfl (by kernel_rfl) (by decide) (by kernel_rfl) (by kernel_rfl) (fun _ _ _ h => h) (by rfl) hSE ?_ ?_; rotate_left; (focus (intro w hSw; (try dsimp only at hSw); go_simp; (try with_reducible rfl))); simp only [Act.put, List.setIfInBounds_toArray, List.set_cons_zero, List.set_cons_succ])
        have y2 := (unhid HY).cells.2.2.1
        have fz : Wd.frozen? ⟨Y, 2, none⟩ = false := frozen_of_row _ _ _ _ _ (unhid HY)
        (refine WE_one (i := 5) rfl (by decide) (by kernel_rfl) ?_; intro K hK)
        go_simp
        have HX := hid ((unhid HX).other (i := 2) (v := .int .i64 x.sign) (unhid HNE))
        have HK := hid ((unhid HK).note (i := 2) (v := .int .i64 x.sign) (unhid HY))
        have HY := hid ((unhid HY).set2 x.sign)
        have HB := hid (Below.setCell (unhid HB) (p := ⟨Y, 2, none⟩) (unhid HYB) (.int .i64 x.sign))
        refine hK.out _ _ ((unhid HSF) _ (unhid HX)) ?_
        clear hSE hK K y2 fz
        intro hSE
        (try simp only [Act.put, List.setIfInBounds_toArray, List.set_cons_zero, List.set_cons_succ])
        generalize Wd.setCell ⟨Y, 2, none⟩ (.int .i64 x.sign) = We at *
        (refine WE_take (i := 6) (v := ?_) rfl (by kernel_rfl) (by decide) (by kernel_rfl) (by kernel_rfl) (fun _ _ _ h => h) (by rfl) hSE ?_ ?_; rotate_left; (focus (intro w hSw; (try dsimp only at hSw); go_simp; (try with_reducible rfl))); simp only [Act.put, List.setIfInBounds_toArray, List.set_cons_zero, List.set_cons_succ])
        have y3 := (unhid HY).cells.2.2.2.1
        have fz : We.frozen? ⟨Y, 3, none⟩ = false := frozen_of_row _ _ _ _ _ (unhid HY)
        dsimp only at y3
        (refine WE_last rfl (by kernel_rfl) (by kernel_rfl) (by kernel_rfl) ?_; intro K hK; go_simp; refine hK.out _ _ (NoPanic.normal ?_); clear hK K)
        have HX := hid ((unhid HX).other (i := 3) (v := .int .i64 x.fld) (unhid HNE))
        have HK := hid ((unhid HK).note (i := 3) (v := .int .i64 x.fld) (unhid HY))
        have HY := hid ((unhid HY).set3 x.fld)
        have HB := hid (Below.setCell (unhid HB) (p := ⟨Y, 3, none⟩) (unhid HYB) (.int .i64 x.fld))
        clear hSE y3 fz HSF
        generalize We.setCell ⟨Y, 3, none⟩ (.int .i64 x.fld) = W3 at *
        have HMB := hid (Nat.le_trans (unhid HM).1 (Nat.le_of_lt (unhid HK).lt.2))
        go_wp2_with fail
        refine (pcopy_calls W3 (unhid HK)).mono ?_
        rintro e W4 ⟨rfl, hkc, hb⟩
        obtain ⟨mc, hmc⟩ : ∃ mc, mc = W3.heap.size := ⟨_, rfl⟩
        obtain ⟨Bc, hBc⟩ : ∃ Bc, Bc = W3.heap.size + 1 := ⟨_, rfl⟩
        rw [← hBc] at hkc ⊢
        rw [← hmc] at hkc
        have HKC := hid hkc
        have HMC := hid (show m < mc ∧ w.heap.size ≤ mc from by have := (unhid HK).lt.2; have := (unhid HB).size; omega)
        have HK := hid ((unhid HK).below' hb)
        have HX := hid (NtAt.below (unhid HX) hb)
        have HY := hid (NtAt.below (unhid HY) hb)
        have HB := hid ((unhid HB).trans (hb.mono (unhid HB).size))
        clear hkc hb hmc hBc
        go_wp2_with fail
        refine (pcopy_calls W4 (unhid HK)).mono ?_
        rintro e W5 ⟨rfl, hkd, hb⟩
        obtain ⟨md, hmd⟩ : ∃ md, md = W4.heap.size := ⟨_, rfl⟩
        obtain ⟨Bd, hBd⟩ : ∃ Bd, Bd = W4.heap.size + 1 := ⟨_, rfl⟩
        rw [← hBd] at hkd ⊢
        rw [← hmd] at hkd
        have HKD := hid hkd
        have HMD := hid (show mc < md ∧ w.heap.size ≤ md from by have := (unhid HKC).lt.2; have := (unhid HB).size; omega)
        have HK := hid ((unhid HK).below' hb)
        have HKC := hid ((unhid HKC).below' hb)
        have HX := hid (NtAt.below (unhid HX) hb)
        have HY := hid (NtAt.below (unhid HY) hb)
        have HB := hid ((unhid HB).trans (hb.mono (unhid HB).size))
        clear hkd hb hmd hBd
        obtain ⟨a0, a1, a2, a3, a4⟩ := NtAt.cells (unhid HX)
        go_wp2_with fail
        refine (write_calls x.tab x.hour x.sign x.fld x.val W5 (unhid HKC) (by have := unhid HLN; omega) (unhid HXW).1).mono ?_
        rintro e W6 ⟨rfl, hk6, hg6⟩
        have HX := hid ((unhid HX).beside (unhid HKC) hg6)
        have HY := hid ((unhid HY).beside (unhid HKC) hg6)
        have HK := hid ((unhid HK).beside (unhid HKC) hg6 (by have := unhid HMC; omega))
        have HKD := hid ((unhid HKD).beside (unhid HKC) hg6 (by have := unhid HMD; omega))
        have HKC := hid hk6
        have HB := hid ((unhid HB).grown hg6 (unhid HB).size (fun j e => by cases e; exact (unhid HMC).2))
        obtain ⟨r1, hr1⟩ : ∃ r1, r1 = (writeR S x.tab x.hour x.sign x.fld x.val).1 := ⟨_, rfl⟩
        obtain ⟨E1, hE1⟩ : ∃ E1, E1 = (writeR S x.tab x.hour x.sign x.fld x.val).2.1 := ⟨_, rfl⟩
        obtain ⟨C, hC1⟩ : ∃ C, C = (writeR S x.tab x.hour x.sign x.fld x.val).2.2 := ⟨_, rfl⟩
        rw [← hr1, ← hE1]
        rw [← hC1] at HKC
        have HR1 := hid (show writeR S x.tab x.hour x.sign x.fld x.val = (r1, E1, C) from by rw [hr1, hE1, hC1])
        clear hk6 hg6 hr1 hE1 hC1 a0 a1 a2 a3 a4
        simp only [rcV, rcA]
        go_upto_region 14 with (fail)
        change Code.wp _ _ _ _ (W6.alloc (.cells (rcA r1) 33))
        have hb := below_alloc W6 (.cells (rcA r1) 33)
        have HK := hid ((unhid HK).below' hb)
        have HKC := hid ((unhid HKC).below' hb)
        have HKD := hid ((unhid HKD).below' hb)
        have HX := hid (NtAt.below (unhid HX) hb)
        have HY := hid (NtAt.below (unhid HY) hb)
        have HB := hid ((unhid HB).trans (hb.mono (unhid HB).size))
        clear hb
        generalize W6.alloc (.cells (rcA r1) 33) = W7 at *
        obtain ⟨a0, a1, a2, a3, a4⟩ := NtAt.cells (unhid HY)
        dsimp only at a0 a1 a2 a3 a4
        go_wp2_with fail
        refine (write_calls y.tab y.hour x.sign x.fld y.val W7 (unhid HKD) (by have := unhid HLN; omega) (unhid HYW).1).mono ?_
        rintro e W8 ⟨rfl, hk8, hg8⟩
        have HX := hid ((unhid HX).beside (unhid HKD) hg8)
        have HY := hid ((unhid HY).beside (unhid HKD) hg8)
        have HK := hid ((unhid HK).beside (unhid HKD) hg8 (by have := unhid HMC; have := unhid HMD; omega))
        have HKC := hid ((unhid HKC).beside (unhid HKD) hg8 (by have := unhid HMD; omega))
        have HKD := hid hk8
        have HB := hid ((unhid HB).grown hg8 (unhid HB).size (fun j e => by cases e; exact (unhid HMD).2))
        obtain ⟨r2, hr1⟩ : ∃ r1, r1 = (writeR S y.tab y.hour x.sign x.fld y.val).1 := ⟨_, rfl⟩
        obtain ⟨E2, hE1⟩ : ∃ E1, E1 = (writeR S y.tab y.hour x.sign x.fld y.val).2.1 := ⟨_, rfl⟩
        obtain ⟨D, hC1⟩ : ∃ C, C = (writeR S y.tab y.hour x.sign x.fld y.val).2.2 := ⟨_, rfl⟩
        rw [← hr1, ← hE1]
        rw [← hC1] at HKD
        have HR2 := hid (show writeR S y.tab y.hour x.sign x.fld y.val = (r2, E2, D) from by rw [hr1, hE1, hC1])
        clear hk8 hg8 hr1 hE1 hC1 a0 a1 a2 a3 a4
        simp only [rcV, rcA]
        go_upto_region 15 with (fail)
        change Code.wp _ _ _ _ (W8.alloc (.cells (rcA r2) 33))
        have hb := below_alloc W8 (.cells (rcA r2) 33)
        have HK := hid ((unhid HK).below' hb)
        have HKC := hid ((unhid HKC).below' hb)
        have HKD := hid ((unhid HKD).below' hb)
        have HX := hid (NtAt.below (unhid HX) hb)
        have HY := hid (NtAt.below (unhid HY) hb)
        have HB := hid ((unhid HB).trans (hb.mono (unhid HB).size))
        clear hb
        generalize W8.alloc (.cells (rcA r2) 33) = W9 at *
        have HSF6 := hid (show (btw 1 x.sign 1000000000 && btw 1 x.fld 6) = true from by have h := unhid HFX; simp only [fineB, btw, Bool.and_eq_true, decide_eq_true_eq] at h ⊢; omega)
        have HNX := hid (fine_write (unhid HV) (unhid HG) (unhid HU) (unhid HFX))
        have he := unhid HR1
        rw [(unhid HNX).1] at he
        simp only [Prod.mk.injEq] at he
        obtain ⟨hr, rfl, hCC⟩ := he
        have HN1 := hid (show Nxt S r1 from by rw [← hr]; exact (unhid HNX).2)
        have HF1 := hid (show r1.tab = x.tab ∧ r1.sign = x.sign ∧ r1.fld = x.fld ∧ r1.val = x.val from by rw [← hr]; exact ⟨rfl, rfl, rfl, rfl⟩)
        rw [hr] at hCC
        subst hCC
        have HCL := hid (show (S ++ [r1]).length ≤ 1000000 from by have := unhid HLN; rw [List.length_append, List.length_singleton]; omega)
        have HV1 := hid (show valuesP (S ++ [r1]) x.sign x.fld = [x.val] from by
          have h := (unhid HN1).value (unhid HV) (unhid HG)
          rw [(unhid HF1).2.1, (unhid HF1).2.2.1, (unhid HF1).2.2.2] at h
          exact h)
        clear hr HNX HR1
        obtain ⟨a0, a1, a2, a3, a4⟩ := NtAt.cells (unhid HX)
        have d0 := decide_eq_true (show 1 ≤ x.tab from by have h := unhid HFX; simp only [fineB, btw, Bool.and_eq_true, decide_eq_true_eq] at h; omega)
        have d1 := decide_eq_true (show x.tab ≤ 8 from by have h := unhid HFX; simp only [fineB, btw, Bool.and_eq_true, decide_eq_true_eq] at h; omega)
        have d2 := decide_eq_true (show 0 ≤ x.hour from by have h := unhid HFX; simp only [fineB, btw, Bool.and_eq_true, decide_eq_true_eq] at h; omega)
        have d3 := decide_eq_true (show x.hour ≤ 10000000 from by have h := unhid HFX; simp only [fineB, btw, Bool.and_eq_true, decide_eq_true_eq] at h; omega)
        have d4 := decide_eq_true (show 1 ≤ x.sign from by have h := unhid HFX; simp only [fineB, btw, Bool.and_eq_true, decide_eq_true_eq] at h; omega)
        have d5 := decide_eq_true (show x.sign ≤ 1000000000 from by have h := unhid HFX; simp only [fineB, btw, Bool.and_eq_true, decide_eq_true_eq] at h; omega)
        have d6 := decide_eq_true (show 1 ≤ x.fld from by have h := unhid HFX; simp only [fineB, btw, Bool.and_eq_true, decide_eq_true_eq] at h; omega)
        have d7 := decide_eq_true (show x.fld ≤ 6 from by have h := unhid HFX; simp only [fineB, btw, Bool.and_eq_true, decide_eq_true_eq] at h; omega)
        have d8 := decide_eq_true (show -1099511627776 ≤ x.val from by have h := unhid HFX; simp only [fineB, btw, Bool.and_eq_true, decide_eq_true_eq] at h; omega)
        have d9 := decide_eq_true (show x.val ≤ 1099511627776 from by have h := unhid HFX; simp only [fineB, btw, Bool.and_eq_true, decide_eq_true_eq] at h; omega)
        go_wp2_with fail
        clear d0 d1 d2 d3 d4 d5 d6 d7 d8 d9 a0 a1 a2 a3 a4
        refine (pvalues_calls x.sign x.fld _ (BkAt.asc (unhid HKC)) (asc_setR _) (Nat.le_trans (len_setR _) (unhid HCL))).mono ?_
        rintro e w3 ⟨v, rfl, hown, hb⟩
        rw [unhid HSF6] at hown ⊢
        simp only [if_true] at hown ⊢
        rw [valuesP_congr (fun r => mem_setR) x.sign x.fld, unhid HV1] at hown
        obtain ⟨Av, cv, rfl, hrd, -⟩ := own_slice hown
        have HK := hid ((unhid HK).below' hb)
        have HKC := hid ((unhid HKC).below' hb)
        have HKD := hid ((unhid HKD).below' hb)
        have HX := hid (NtAt.below (unhid HX) hb)
        have HY := hid (NtAt.below (unhid HY) hb)
        have HB := hid ((unhid HB).trans (hb.mono (unhid HB).size))
        obtain ⟨b, off, rfl, hbl, hc⟩ := hrd (by simp [ints])
        have i0 : w3.cell? ⟨b, off, none⟩ = some (.int .i64 x.val) := hc 0 _ rfl
        have m0 := fun p : After w3 => After.cell (by dsimp only; exact hbl) i0 p
        have m1 := fun p : After w3 => After.cell (by dsimp only; exact lt_of_heap (unhid HX)) (unhid HX).cells.2.2.2.2 p
        have hnn : (x.val != x.val) = false := by simp
        clear hown hrd hb hc i0 hbl
        go_upto_region 19 with (fail)
        (refine wp_region_below (by kernel_rfl) (by kernel_rfl) ?_; (repeat (go_big_quiet_step (first | fail))); refine wpQuiet_nil ?_; intro wq hw'; obtain ⟨⟨wq2, hbq⟩, hw''⟩ := hw'; dsimp only at hw''; subst hw'')
        have HK := hid ((unhid HK).below' hbq)
        have HKC := hid ((unhid HKC).below' hbq)
        have HKD := hid ((unhid HKD).below' hbq)
        have HX := hid (NtAt.below (unhid HX) hbq)
        have HY := hid (NtAt.below (unhid HY) hbq)
        have HB := hid ((unhid HB).trans (hbq.mono (unhid HB).size))
        clear hbq m0 m1 hnn
        obtain ⟨a0, a1, a2, a3, a4⟩ := NtAt.cells (unhid HX)
        obtain ⟨e0, e1, e2, e3, e4⟩ := NtAt.cells (unhid HY)
        dsimp only at e0 e1 e2 e3 e4
        have he := unhid HR2
        rw [unfine_write (unhid HFY)] at he
        simp only [Prod.mk.injEq] at he
        obtain ⟨rfl, rfl, rfl⟩ := he
        go_wp2_with fail
        refine (first_calls _).mono ?_
        rintro e w9 ⟨rfl, hb9⟩
        have HB := hid ((unhid HB).trans (hb9.mono (unhid HB).size))
        clear hb9
        go_wp2_with fail
        go_ret
        exact ⟨rfl, unhid HB⟩

set_option maxHeartbeats 16000000 in
set_option maxRecDepth 100000 in
theorem ldec_same (ns : List Nt) (An : Option Addr) (cn : Nat) (x y : Nt) (w : World) (hn : NtsIn w An ns cn) (hx : NtW x) (hy : NtW y) (hfx : fineB x.tab x.hour x.sign x.fld x.val = true) (hfy : fineB y.tab y.hour x.sign x.fld y.val = true) (het : x.tab = y.tab) :
    Calls Try.prog 10 #[.slice An ns.length cn, .agg #[.int .i64 x.tab, .int .i64 x.hour, .int .i64 x.sign, .int .i64 x.fld, .int .i64 x.val], .agg #[.int .i64 y.tab, .int .i64 y.hour, .int .i64 y.sign, .int .i64 y.fld, .int .i64 y.val]] w fun e w' => e = .returned (.bool true) ∧ Below w.heap.size w w' := by
  have HFX := hid hfx
  clear hfx
  have HFY := hid hfy
  have HET := hid het
  clear hfy het
  have HNO := hid hn.ok
  have HND := hid hn.rd
  have HXW := hid hx
  have HYW := hid hy
  have hb0 := below_alloc w (.cells #[.int .i64 x.tab, .int .i64 x.hour, .int .i64 x.sign, .int .i64 x.fld, .int .i64 x.val] 30)
  have hx0 := heap_alloc_new w (.cells #[.int .i64 x.tab, .int .i64 x.hour, .int .i64 x.sign, .int .i64 x.fld, .int .i64 x.val] 30)
  have hs0 : (w.alloc (.cells #[.int .i64 x.tab, .int .i64 x.hour, .int .i64 x.sign, .int .i64 x.fld, .int .i64 x.val] 30)).heap.size = w.heap.size + 1 := by simp
  have hb1 := below_alloc (w.alloc (.cells #[.int .i64 x.tab, .int .i64 x.hour, .int .i64 x.sign, .int .i64 x.fld, .int .i64 x.val] 30)) (.cells #[.int .i64 y.tab, .int .i64 y.hour, .int .i64 y.sign, .int .i64 y.fld, .int .i64 y.val] 30)
  have hy0 := heap_alloc_new (w.alloc (.cells #[.int .i64 x.tab, .int .i64 x.hour, .int .i64 x.sign, .int .i64 x.fld, .int .i64 x.val] 30)) (.cells #[.int .i64 y.tab, .int .i64 y.hour, .int .i64 y.sign, .int .i64 y.fld, .int .i64 y.val] 30)
  rw [hs0] at hy0
  clear hn hx hy
  go_enter Try.func10, Try.ntmps10
  go_upto_region 1 with (fail)
  change Code.wp _ _ _ _ ((w.alloc (.cells #[.int .i64 x.tab, .int .i64 x.hour, .int .i64 x.sign, .int .i64 x.fld, .int .i64 x.val] 30)).alloc (.cells #[.int .i64 y.tab, .int .i64 y.hour, .int .i64 y.sign, .int .i64 y.fld, .int .i64 y.val] 30))
  have HX := hid (show NtAt _ w.heap.size x from (hb1.block _ (by omega)).trans hx0)
  have HY := hid (show NtAt _ (w.heap.size + 1) y from hy0)
  have HB := hid (hb0.trans (hb1.mono hb0.size))
  clear hb0 hx0 hb1 hy0 hs0
  generalize (w.alloc (.cells #[.int .i64 x.tab, .int .i64 x.hour, .int .i64 x.sign, .int .i64 x.fld, .int .i64 x.val] 30)).alloc (.cells #[.int .i64 y.tab, .int .i64 y.hour, .int .i64 y.sign, .int .i64 y.fld, .int .i64 y.val] 30) = W0 at *
  obtain ⟨X, hX⟩ : ∃ X, X = w.heap.size := ⟨_, rfl⟩
  obtain ⟨Y, hY⟩ : ∃ Y, Y = w.heap.size + 1 := ⟨_, rfl⟩
  rw [← hX] at HX
  rw [← hY] at HY
  rw [← hY, ← hX]
  have HXE := hid (⟨hX, hY⟩ : X = w.heap.size ∧ Y = w.heap.size + 1)
  clear hX hY
  by_cases h1 : 10 < ns.length
  · have hni : (10 : Int) < (ns.length : Int) := by omega
    go_wp2_with fail
    refine (first_calls _).mono ?_
    rintro e w9 ⟨rfl, hb9⟩
    have HB := hid ((unhid HB).trans (hb9.mono (unhid HB).size))
    clear hb9
    go_wp2_with fail
    go_ret
    exact ⟨rfl, unhid HB⟩
  · have hni : ¬ (10 : Int) < (ns.length : Int) := by omega
    have HLL := hid (show ns.length ≤ 10 from by omega)
    clear h1
    go_wp2_with fail
    refine (bookNew_calls W0).mono ?_
    rintro e W1 ⟨rfl, hk1, hb1⟩
    obtain ⟨m, hm⟩ : ∃ m, m = W0.heap.size := ⟨_, rfl⟩
    obtain ⟨B, hB⟩ : ∃ B, B = W0.heap.size + 1 := ⟨_, rfl⟩
    rw [← hB] at hk1 ⊢
    rw [← hm] at hk1
    have HK := hid hk1
    have HM := hid (show w.heap.size ≤ m ∧ w.heap.size ≤ W0.heap.size from by have := (unhid HB).size; omega)
    have HX := hid (NtAt.below (unhid HX) hb1)
    have HY := hid (NtAt.below (unhid HY) hb1)
    have HB := hid ((unhid HB).trans (hb1.mono (unhid HB).size))
    clear hk1 hb1 hm hB hni
    go_upto_region 5 with (fail)
    go_loopw [8] (fun iv wr => ∃ (k : Nat) (S : List Rc), k ≤ ns.length ∧ iv = .int .i64 k ∧ BkAt wr B m S ∧ Wn [] S k ∧ NtAt wr X x ∧ NtAt wr Y y ∧ Below w.heap.size w wr) (fun iv _ => ns.length - (intOf iv).toNat)
    case atStart => exact ⟨0, [], Nat.zero_le _, rfl, unhid HK, Wn.nil, unhid HX, unhid HY, unhid HB⟩
    case round =>
      clear HK HX HY HB
      obtain ⟨k, S, hk, rfl, hbk, hw, hx, hy, hb⟩ := hrel
      have HK := hid hbk
      have HW := hid hw
      have HX := hid hx
      have HY := hid hy
      have HB := hid hb
      clear hbk hw hx hy hb
      by_cases hlt : k < ns.length
      · have hki : (k : Int) < (ns.length : Int) := by omega
        obtain ⟨b, off, hAe, hbl, hc⟩ := ((unhid HND).below (unhid HB)) (nts_ne hlt)
        subst hAe
        obtain ⟨z, hz⟩ : ∃ z, ns[k]'hlt = z := ⟨_, rfl⟩
        have HZO := hid (unhid HNO z (hz ▸ List.getElem_mem hlt))
        obtain ⟨a0, a1, a2, a3, a4⟩ := nts_cells hc hlt hz
        have HW1 := hid (show wrap64 ((k : Int) + 1) = ((k + 1 : Nat) : Int) from by have h1 := unhid HLL; unfold wrap64; omega)
        clear hc hz
        go_upto_region 8 with (fail)
        have hb1 := below_alloc wr (.cells #[.int .i64 z.tab, .int .i64 z.hour, .int .i64 z.sign, .int .i64 z.fld, .int .i64 z.val] 30)
        have hz1 := heap_alloc_new wr (.cells #[.int .i64 z.tab, .int .i64 z.hour, .int .i64 z.sign, .int .i64 z.fld, .int .i64 z.val] 30)
        have HK := hid ((unhid HK).below' hb1)
        have HX := hid (NtAt.below (unhid HX) hb1)
        have HY := hid (NtAt.below (unhid HY) hb1)
        have HB := hid ((unhid HB).trans (hb1.mono (unhid HB).size))
        obtain ⟨N, hN⟩ : ∃ N, N = wr.heap.size := ⟨_, rfl⟩
        rw [← hN] at hz1 ⊢
        have HZ := hid (show NtAt _ N z from hz1)
        clear hb1 hz1 hN a0 a1 a2 a3 a4 hbl
        generalize wr.alloc (.cells #[.int .i64 z.tab, .int .i64 z.hour, .int .i64 z.sign, .int .i64 z.fld, .int .i64 z.val] 30) = W2 at *
        obtain ⟨a0, a1, a2, a3, a4⟩ := NtAt.cells (unhid HZ)
        go_wp2_with fail
        refine (write_calls z.tab z.hour z.sign z.fld z.val W2 (unhid HK) (by have := (unhid HW).len; have := unhid HLL; omega) (unhid HZO).1).mono ?_
        rintro e W3 ⟨rfl, hk3, hg3⟩
        have HX := hid ((unhid HX).beside (unhid HK) hg3)
        have HY := hid ((unhid HY).beside (unhid HK) hg3)
        have HW := hid ((unhid HW).write (unhid HK).v z.tab z.hour z.sign z.fld z.val)
        have HK := hid hk3
        have HB := hid ((unhid HB).grown hg3 (unhid HB).size (fun j e => by cases e; exact (unhid HM).1))
        clear hk3 hg3 a0 a1 a2 a3 a4 HZ
        go_wp2_with fail
        go_roundw
        case rel => exact ⟨k + 1, _, by omega, by first | go_num | rw [unhid HW1], unhid HK, unhid HW, unhid HX, unhid HY, unhid HB⟩
        case measure => first | (simp [intOf]; omega) | (rw [unhid HW1]; simp [intOf]; omega)
      · obtain rfl : k = ns.length := by omega
        have HV := hid (unhid HK).v
        have HG := hid (unhid HW).good
        have HC := hid (unhid HW).chain
        have HU1 := hid (show ∀ t, t < 8 → upT S t ≤ 100 from fun t ht => by have := (unhid HW).up t ht; have := unhid HLL; omega)
        have HU := hid (show ∀ t, t < 8 → upT S t ≤ 1000 from fun t ht => by have := unhid HU1 t ht; omega)
        have HLN := hid (show S.length ≤ 10 from Nat.le_trans (unhid HW).len (unhid HLL))
        clear HW HND HNO hlt hk
        go_wp2_with fail
        refine (pwaiting_calls (L := setR S) wr (unhid HK) (by have := unhid HLN; omega) (asc_setR S) (fun r => mem_setR.symm)).mono ?_
        rintro e W2 ⟨v, rfl, hrow, hb⟩
        rw [((unhid HG).perm (fun r => mem_setR.symm)).wait] at hrow
        obtain ⟨Av, cv, rfl, -, -⟩ := own_slice hrow
        have HK := hid ((unhid HK).below' hb)
        have HX := hid (NtAt.below (unhid HX) hb)
        have HY := hid (NtAt.below (unhid HY) hb)
        have HB := hid ((unhid HB).trans (hb.mono (unhid HB).size))
        simp only [List.length_nil]
        clear hrow hb
        go_upto_region 11 with (fail)
        have hXY : X ≠ Y := by have := unhid HXE; omega
        have HNE := hid hXY
        have hYB : w.heap.size ≤ Y := by have := unhid HXE; omega
        have HYB := hid hYB
        have HSF := hid (show ∀ w', NtAt w' X x → (w'.cell? ⟨X, 2, none⟩ = some (.int .i64 x.sign) ∧ w'.cell? ⟨X, 3, none⟩ = some (.int .i64 x.fld)) from fun w' h => ⟨h.cells.2.2.1, h.cells.2.2.2.1⟩)
        have hbd := Below.drew (Below.refl W2.heap.size W2)
        refine wp_region_noPanic ?_
        refine wp_region_E (S := fun w' => (w'.cell? ⟨X, 2, none⟩ = some (.int .i64 x.sign) ∧ w'.cell? ⟨X, 3, none⟩ = some (.int .i64 x.fld))) 7 8 rfl (by kernel_rfl) (by kernel_rfl) ((unhid HSF) _ ((unhid HX).below hbd)) ?_
        intro hSE
        have HK := hid ((unhid HK).below' hbd)
        have HX := hid (NtAt.below (unhid HX) hbd)
        have HY := hid (NtAt.below (unhid HY) hbd)
        have HB := hid ((unhid HB).trans (hbd.mono (unhid HB).size))
        clear hbd hXY hYB
        generalize W2.drew = Wd at *
        (refine WE_take (i := 0) (v := ?_) rfl (by kernel_rfl) (by decide) (by kernel_rfl) (by kernel_rfl) (fun _ _ _ h => h) (by rfl) hSE ?_ ?_; rotate_left; (focus (intro w hSw; (try dsimp only at hSw); go_simp; (try with_reducible rfl))); simp only [Act.put, List.setIfInBounds_toArray, List.set_cons_zero, List.set_cons_succ])
        (refine WE_take (i := 1) (v := ?_) rfl (by kernel_rfl) (by decide) (by kernel_rfl) (by kernel_rfl) (fun _ _ _ h => h) (by rfl) hSE ?_ ?_; rotate_left; (focus (intro w hSw; (try dsimp only at hSw); go_simp; (try with_reducible rfl))); simp only [Act.put, List.setIfInBounds_toArray, List.set_cons_zero, List.set_cons_succ])
        (refine WE_take (i := 2) (v := ?_) rfl (by kernel_rfl) (by decide) (by kernel_rfl) (by kernel_rfl) (fun _ _ _ h => h) (by rfl) hSE ?_ ?_; rotate_left; (focus (intro w hSw; (try dsimp only at hSw); go_simp; (try with_reducible rfl))); simp only [Act.put, List.setIfInBounds_toArray, List.set_cons_zero, List.set_cons_succ])
        (refine WE_take (i := 3) (v := ?_) rfl (by kernel_rfl) (by decide) (by kernel_rfl) (by kernel_rfl) (fun _ _ _ h => h) (by rfl) hSE ?_ ?_; rotate_left; (focus (intro w hSw; (try dsimp only at hSw); go_simp; (try with_reducible rfl))); simp only [Act.put, List.setIfInBounds_toArray, List.set_cons_zero, List.set_cons_succ])
        (refine WE_take (i := 4) (v := ?_) rfl (by kernel_rfl) (by decide) (by kernel_rfl) (by kernel_rfl) (fun _ _ _ h => h) (by rfl) hSE ?_ ?_; rotate_left; (focus (intro w hSw; (try dsimp only at hSw); go_simp; (try with_reducible rfl))); simp only [Act.put, List.setIfInBounds_toArray, List.set_cons_zero, List.set_cons_succ])
        have y2 := (unhid HY).cells.2.2.1
        have fz : Wd.frozen? ⟨Y, 2, none⟩ = false := frozen_of_row _ _ _ _ _ (unhid HY)
        (refine WE_one (i := 5) rfl (by decide) (by kernel_rfl) ?_; intro K hK)
        go_simp
        have HX := hid ((unhid HX).other (i := 2) (v := .int .i64 x.sign) (unhid HNE))
        have HK := hid ((unhid HK).note (i := 2) (v := .int .i64 x.sign) (unhid HY))
        have HY := hid ((unhid HY).set2 x.sign)
        have HB := hid (Below.setCell (unhid HB) (p := ⟨Y, 2, none⟩) (unhid HYB) (.int .i64 x.sign))
        refine hK.out _ _ ((unhid HSF) _ (unhid HX)) ?_
        clear hSE hK K y2 fz
        intro hSE
        (try simp only [Act.put, List.setIfInBounds_toArray, List.set_cons_zero, List.set_cons_succ])
        generalize Wd.setCell ⟨Y, 2, none⟩ (.int .i64 x.sign) = We at *
        (refine WE_take (i := 6) (v := ?_) rfl (by kernel_rfl) (by decide) (by kernel_rfl) (by kernel_rfl) (fun _ _ _ h => h) (by rfl) hSE ?_ ?_; rotate_left; (focus (intro w hSw; (try dsimp only at hSw); go_simp; (try with_reducible rfl))); simp only [Act.put, List.setIfInBounds_toArray, List.set_cons_zero, List.set_cons_succ])
        have y3 := (unhid HY).cells.2.2.2.1
        have fz : We.frozen? ⟨Y, 3, none⟩ = false := frozen_of_row _ _ _ _ _ (unhid HY)
        dsimp only at y3
        (refine WE_last rfl (by kernel_rfl) (by kernel_rfl) (by kernel_rfl) ?_; intro K hK; go_simp; refine hK.out _ _ (NoPanic.normal ?_); clear hK K)
        have HX := hid ((unhid HX).other (i := 3) (v := .int .i64 x.fld) (unhid HNE))
        have HK := hid ((unhid HK).note (i := 3) (v := .int .i64 x.fld) (unhid HY))
        have HY := hid ((unhid HY).set3 x.fld)
        have HB := hid (Below.setCell (unhid HB) (p := ⟨Y, 3, none⟩) (unhid HYB) (.int .i64 x.fld))
        clear hSE y3 fz HSF
        generalize We.setCell ⟨Y, 3, none⟩ (.int .i64 x.fld) = W3 at *
        have HMB := hid (Nat.le_trans (unhid HM).1 (Nat.le_of_lt (unhid HK).lt.2))
        go_wp2_with fail
        refine (pcopy_calls W3 (unhid HK)).mono ?_
        rintro e W4 ⟨rfl, hkc, hb⟩
        obtain ⟨mc, hmc⟩ : ∃ mc, mc = W3.heap.size := ⟨_, rfl⟩
        obtain ⟨Bc, hBc⟩ : ∃ Bc, Bc = W3.heap.size + 1 := ⟨_, rfl⟩
        rw [← hBc] at hkc ⊢
        rw [← hmc] at hkc
        have HKC := hid hkc
        have HMC := hid (show m < mc ∧ w.heap.size ≤ mc from by have := (unhid HK).lt.2; have := (unhid HB).size; omega)
        have HK := hid ((unhid HK).below' hb)
        have HX := hid (NtAt.below (unhid HX) hb)
        have HY := hid (NtAt.below (unhid HY) hb)
        have HB := hid ((unhid HB).trans (hb.mono (unhid HB).size))
        clear hkc hb hmc hBc
        go_wp2_with fail
        refine (pcopy_calls W4 (unhid HK)).mono ?_
        rintro e W5 ⟨rfl, hkd, hb⟩
        obtain ⟨md, hmd⟩ : ∃ md, md = W4.heap.size := ⟨_, rfl⟩
        obtain ⟨Bd, hBd⟩ : ∃ Bd, Bd = W4.heap.size + 1 := ⟨_, rfl⟩
        rw [← hBd] at hkd ⊢
        rw [← hmd] at hkd
        have HKD := hid hkd
        have HMD := hid (show mc < md ∧ w.heap.size ≤ md from by have := (unhid HKC).lt.2; have := (unhid HB).size; omega)
        have HK := hid ((unhid HK).below' hb)
        have HKC := hid ((unhid HKC).below' hb)
        have HX := hid (NtAt.below (unhid HX) hb)
        have HY := hid (NtAt.below (unhid HY) hb)
        have HB := hid ((unhid HB).trans (hb.mono (unhid HB).size))
        clear hkd hb hmd hBd
        obtain ⟨a0, a1, a2, a3, a4⟩ := NtAt.cells (unhid HX)
        go_wp2_with fail
        refine (write_calls x.tab x.hour x.sign x.fld x.val W5 (unhid HKC) (by have := unhid HLN; omega) (unhid HXW).1).mono ?_
        rintro e W6 ⟨rfl, hk6, hg6⟩
        have HX := hid ((unhid HX).beside (unhid HKC) hg6)
        have HY := hid ((unhid HY).beside (unhid HKC) hg6)
        have HK := hid ((unhid HK).beside (unhid HKC) hg6 (by have := unhid HMC; omega))
        have HKD := hid ((unhid HKD).beside (unhid HKC) hg6 (by have := unhid HMD; omega))
        have HKC := hid hk6
        have HB := hid ((unhid HB).grown hg6 (unhid HB).size (fun j e => by cases e; exact (unhid HMC).2))
        obtain ⟨r1, hr1⟩ : ∃ r1, r1 = (writeR S x.tab x.hour x.sign x.fld x.val).1 := ⟨_, rfl⟩
        obtain ⟨E1, hE1⟩ : ∃ E1, E1 = (writeR S x.tab x.hour x.sign x.fld x.val).2.1 := ⟨_, rfl⟩
        obtain ⟨C, hC1⟩ : ∃ C, C = (writeR S x.tab x.hour x.sign x.fld x.val).2.2 := ⟨_, rfl⟩
        rw [← hr1, ← hE1]
        rw [← hC1] at HKC
        have HR1 := hid (show writeR S x.tab x.hour x.sign x.fld x.val = (r1, E1, C) from by rw [hr1, hE1, hC1])
        clear hk6 hg6 hr1 hE1 hC1 a0 a1 a2 a3 a4
        simp only [rcV, rcA]
        go_upto_region 14 with (fail)
        change Code.wp _ _ _ _ (W6.alloc (.cells (rcA r1) 33))
        have hb := below_alloc W6 (.cells (rcA r1) 33)
        have HK := hid ((unhid HK).below' hb)
        have HKC := hid ((unhid HKC).below' hb)
        have HKD := hid ((unhid HKD).below' hb)
        have HX := hid (NtAt.below (unhid HX) hb)
        have HY := hid (NtAt.below (unhid HY) hb)
        have HB := hid ((unhid HB).trans (hb.mono (unhid HB).size))
        clear hb
        generalize W6.alloc (.cells (rcA r1) 33) = W7 at *
        obtain ⟨a0, a1, a2, a3, a4⟩ := NtAt.cells (unhid HY)
        dsimp only at a0 a1 a2 a3 a4
        go_wp2_with fail
        refine (write_calls y.tab y.hour x.sign x.fld y.val W7 (unhid HKD) (by have := unhid HLN; omega) (unhid HYW).1).mono ?_
        rintro e W8 ⟨rfl, hk8, hg8⟩
        have HX := hid ((unhid HX).beside (unhid HKD) hg8)
        have HY := hid ((unhid HY).beside (unhid HKD) hg8)
        have HK := hid ((unhid HK).beside (unhid HKD) hg8 (by have := unhid HMC; have := unhid HMD; omega))
        have HKC := hid ((unhid HKC).beside (unhid HKD) hg8 (by have := unhid HMD; omega))
        have HKD := hid hk8
        have HB := hid ((unhid HB).grown hg8 (unhid HB).size (fun j e => by cases e; exact (unhid HMD).2))
        obtain ⟨r2, hr1⟩ : ∃ r1, r1 = (writeR S y.tab y.hour x.sign x.fld y.val).1 := ⟨_, rfl⟩
        obtain ⟨E2, hE1⟩ : ∃ E1, E1 = (writeR S y.tab y.hour x.sign x.fld y.val).2.1 := ⟨_, rfl⟩
        obtain ⟨D, hC1⟩ : ∃ C, C = (writeR S y.tab y.hour x.sign x.fld y.val).2.2 := ⟨_, rfl⟩
        rw [← hr1, ← hE1]
        rw [← hC1] at HKD
        have HR2 := hid (show writeR S y.tab y.hour x.sign x.fld y.val = (r2, E2, D) from by rw [hr1, hE1, hC1])
        clear hk8 hg8 hr1 hE1 hC1 a0 a1 a2 a3 a4
        simp only [rcV, rcA]
        go_upto_region 15 with (fail)
        change Code.wp _ _ _ _ (W8.alloc (.cells (rcA r2) 33))
        have hb := below_alloc W8 (.cells (rcA r2) 33)
        have HK := hid ((unhid HK).below' hb)
        have HKC := hid ((unhid HKC).below' hb)
        have HKD := hid ((unhid HKD).below' hb)
        have HX := hid (NtAt.below (unhid HX) hb)
        have HY := hid (NtAt.below (unhid HY) hb)
        have HB := hid ((unhid HB).trans (hb.mono (unhid HB).size))
        clear hb
        generalize W8.alloc (.cells (rcA r2) 33) = W9 at *
        have HSF6 := hid (show (btw 1 x.sign 1000000000 && btw 1 x.fld 6) = true from by have h := unhid HFX; simp only [fineB, btw, Bool.and_eq_true, decide_eq_true_eq] at h ⊢; omega)
        have HNX := hid (fine_write (unhid HV) (unhid HG) (unhid HU) (unhid HFX))
        have he := unhid HR1
        rw [(unhid HNX).1] at he
        simp only [Prod.mk.injEq] at he
        obtain ⟨hr, rfl, hCC⟩ := he
        have HN1 := hid (show Nxt S r1 from by rw [← hr]; exact (unhid HNX).2)
        have HF1 := hid (show r1.tab = x.tab ∧ r1.sign = x.sign ∧ r1.fld = x.fld ∧ r1.val = x.val from by rw [← hr]; exact ⟨rfl, rfl, rfl, rfl⟩)
        rw [hr] at hCC
        subst hCC
        have HCL := hid (show (S ++ [r1]).length ≤ 1000000 from by have := unhid HLN; rw [List.length_append, List.length_singleton]; omega)
        have HV1 := hid (show valuesP (S ++ [r1]) x.sign x.fld = [x.val] from by
          have h := (unhid HN1).value (unhid HV) (unhid HG)
          rw [(unhid HF1).2.1, (unhid HF1).2.2.1, (unhid HF1).2.2.2] at h
          exact h)
        clear hr HNX HR1
        obtain ⟨a0, a1, a2, a3, a4⟩ := NtAt.cells (unhid HX)
        have d0 := decide_eq_true (show 1 ≤ x.tab from by have h := unhid HFX; simp only [fineB, btw, Bool.and_eq_true, decide_eq_true_eq] at h; omega)
        have d1 := decide_eq_true (show x.tab ≤ 8 from by have h := unhid HFX; simp only [fineB, btw, Bool.and_eq_true, decide_eq_true_eq] at h; omega)
        have d2 := decide_eq_true (show 0 ≤ x.hour from by have h := unhid HFX; simp only [fineB, btw, Bool.and_eq_true, decide_eq_true_eq] at h; omega)
        have d3 := decide_eq_true (show x.hour ≤ 10000000 from by have h := unhid HFX; simp only [fineB, btw, Bool.and_eq_true, decide_eq_true_eq] at h; omega)
        have d4 := decide_eq_true (show 1 ≤ x.sign from by have h := unhid HFX; simp only [fineB, btw, Bool.and_eq_true, decide_eq_true_eq] at h; omega)
        have d5 := decide_eq_true (show x.sign ≤ 1000000000 from by have h := unhid HFX; simp only [fineB, btw, Bool.and_eq_true, decide_eq_true_eq] at h; omega)
        have d6 := decide_eq_true (show 1 ≤ x.fld from by have h := unhid HFX; simp only [fineB, btw, Bool.and_eq_true, decide_eq_true_eq] at h; omega)
        have d7 := decide_eq_true (show x.fld ≤ 6 from by have h := unhid HFX; simp only [fineB, btw, Bool.and_eq_true, decide_eq_true_eq] at h; omega)
        have d8 := decide_eq_true (show -1099511627776 ≤ x.val from by have h := unhid HFX; simp only [fineB, btw, Bool.and_eq_true, decide_eq_true_eq] at h; omega)
        have d9 := decide_eq_true (show x.val ≤ 1099511627776 from by have h := unhid HFX; simp only [fineB, btw, Bool.and_eq_true, decide_eq_true_eq] at h; omega)
        go_wp2_with fail
        clear d0 d1 d2 d3 d4 d5 d6 d7 d8 d9 a0 a1 a2 a3 a4
        refine (pvalues_calls x.sign x.fld _ (BkAt.asc (unhid HKC)) (asc_setR _) (Nat.le_trans (len_setR _) (unhid HCL))).mono ?_
        rintro e w3 ⟨v, rfl, hown, hb⟩
        rw [unhid HSF6] at hown ⊢
        simp only [if_true] at hown ⊢
        rw [valuesP_congr (fun r => mem_setR) x.sign x.fld, unhid HV1] at hown
        obtain ⟨Av, cv, rfl, hrd, -⟩ := own_slice hown
        have HK := hid ((unhid HK).below' hb)
        have HKC := hid ((unhid HKC).below' hb)
        have HKD := hid ((unhid HKD).below' hb)
        have HX := hid (NtAt.below (unhid HX) hb)
        have HY := hid (NtAt.below (unhid HY) hb)
        have HB := hid ((unhid HB).trans (hb.mono (unhid HB).size))
        obtain ⟨b, off, rfl, hbl, hc⟩ := hrd (by simp [ints])
        have i0 : w3.cell? ⟨b, off, none⟩ = some (.int .i64 x.val) := hc 0 _ rfl
        have m0 := fun p : After w3 => After.cell (by dsimp only; exact hbl) i0 p
        have m1 := fun p : After w3 => After.cell (by dsimp only; exact lt_of_heap (unhid HX)) (unhid HX).cells.2.2.2.2 p
        have hnn : (x.val != x.val) = false := by simp
        clear hown hrd hb hc i0 hbl
        go_upto_region 19 with (fail)
        (refine wp_region_below (by kernel_rfl) (by kernel_rfl) ?_; (repeat (go_big_quiet_step (first | fail))); refine wpQuiet_nil ?_; intro wq hw'; obtain ⟨⟨wq2, hbq⟩, hw''⟩ := hw'; dsimp only at hw''; subst hw'')
        have HK := hid ((unhid HK).below' hbq)
        have HKC := hid ((unhid HKC).below' hbq)
        have HKD := hid ((unhid HKD).below' hbq)
        have HX := hid (NtAt.below (unhid HX) hbq)
        have HY := hid (NtAt.below (unhid HY) hbq)
        have HB := hid ((unhid HB).trans (hbq.mono (unhid HB).size))
        clear hbq m0 m1 hnn
        obtain ⟨a0, a1, a2, a3, a4⟩ := NtAt.cells (unhid HX)
        obtain ⟨e0, e1, e2, e3, e4⟩ := NtAt.cells (unhid HY)
        dsimp only at e0 e1 e2 e3 e4
        have HNY := hid (fine_write (unhid HV) (unhid HG) (unhid HU) (unhid HFY))
        have he := unhid HR2
        rw [(unhid HNY).1] at he
        simp only [Prod.mk.injEq] at he
        obtain ⟨hr, rfl, hCC⟩ := he
        have HN2 := hid (show Nxt S r2 from by rw [← hr]; exact (unhid HNY).2)
        have HF2 := hid (show r2.tab = y.tab ∧ r2.sign = x.sign ∧ r2.fld = x.fld ∧ r2.val = y.val from by rw [← hr]; exact ⟨rfl, rfl, rfl, rfl⟩)
        rw [hr] at hCC
        subst hCC
        have HDL := hid (show (S ++ [r2]).length ≤ 11 ∧ (S ++ [r1]).length ≤ 11 from by have := unhid HLN; simp only [List.length_append, List.length_singleton]; omega)
        clear hr HNY HR2
        have q1 : (x.tab == y.tab) = true := by have := unhid HET; simp [this]
        go_wp2_with fail
        refine (first_calls _).mono ?_
        rintro e w9 ⟨rfl, hb9⟩
        have HB := hid ((unhid HB).trans (hb9.mono (unhid HB).size))
        clear hb9
        go_wp2_with fail
        go_ret
        exact ⟨rfl, unhid HB⟩

set_option maxHeartbeats 16000000 in
set_option maxRecDepth 100000 in
theorem ldec_both1 (ns : List Nt) (An : Option Addr) (cn : Nat) (x y : Nt) (w : World) (hn : NtsIn w An ns cn) (hx : NtW x) (hy : NtW y) (hfx : fineB x.tab x.hour x.sign x.fld x.val = true) (hfy : fineB y.tab y.hour x.sign x.fld y.val = true) (het : ¬ x.tab = y.tab) (hev : x.val = y.val) :
    Calls Try.prog 10 #[.slice An ns.length cn, .agg #[.int .i64 x.tab, .int .i64 x.hour, .int .i64 x.sign, .int .i64 x.fld, .int .i64 x.val], .agg #[.int .i64 y.tab, .int .i64 y.hour, .int .i64 y.sign, .int .i64 y.fld, .int .i64 y.val]] w fun e w' => e = .returned (.bool true) ∧ Below w.heap.size w w' := by
  have HFX := hid hfx
  clear hfx
  have HFY := hid hfy
  have HET := hid het
  have HEV := hid hev
  clear hfy het hev
  have HNO := hid hn.ok
  have HND := hid hn.rd
  have HXW := hid hx
  have HYW := hid hy
  have hb0 := below_alloc w (.cells #[.int .i64 x.tab, .int .i64 x.hour, .int .i64 x.sign, .int .i64 x.fld, .int .i64 x.val] 30)
  have hx0 := heap_alloc_new w (.cells #[.int .i64 x.tab, .int .i64 x.hour, .int .i64 x.sign, .int .i64 x.fld, .int .i64 x.val] 30)
  have hs0 : (w.alloc (.cells #[.int .i64 x.tab, .int .i64 x.hour, .int .i64 x.sign, .int .i64 x.fld, .int .i64 x.val] 30)).heap.size = w.heap.size + 1 := by simp
  have hb1 := below_alloc (w.alloc (.cells #[.int .i64 x.tab, .int .i64 x.hour, .int .i64 x.sign, .int .i64 x.fld, .int .i64 x.val] 30)) (.cells #[.int .i64 y.tab, .int .i64 y.hour, .int .i64 y.sign, .int .i64 y.fld, .int .i64 y.val] 30)
  have hy0 := heap_alloc_new (w.alloc (.cells #[.int .i64 x.tab, .int .i64 x.hour, .int .i64 x.sign, .int .i64 x.fld, .int .i64 x.val] 30)) (.cells #[.int .i64 y.tab, .int .i64 y.hour, .int .i64 y.sign, .int .i64 y.fld, .int .i64 y.val] 30)
  rw [hs0] at hy0
  clear hn hx hy
  go_enter Try.func10, Try.ntmps10
  go_upto_region 1 with (fail)
  change Code.wp _ _ _ _ ((w.alloc (.cells #[.int .i64 x.tab, .int .i64 x.hour, .int .i64 x.sign, .int .i64 x.fld, .int .i64 x.val] 30)).alloc (.cells #[.int .i64 y.tab, .int .i64 y.hour, .int .i64 y.sign, .int .i64 y.fld, .int .i64 y.val] 30))
  have HX := hid (show NtAt _ w.heap.size x from (hb1.block _ (by omega)).trans hx0)
  have HY := hid (show NtAt _ (w.heap.size + 1) y from hy0)
  have HB := hid (hb0.trans (hb1.mono hb0.size))
  clear hb0 hx0 hb1 hy0 hs0
  generalize (w.alloc (.cells #[.int .i64 x.tab, .int .i64 x.hour, .int .i64 x.sign, .int .i64 x.fld, .int .i64 x.val] 30)).alloc (.cells #[.int .i64 y.tab, .int .i64 y.hour, .int .i64 y.sign, .int .i64 y.fld, .int .i64 y.val] 30) = W0 at *
  obtain ⟨X, hX⟩ : ∃ X, X = w.heap.size := ⟨_, rfl⟩
  obtain ⟨Y, hY⟩ : ∃ Y, Y = w.heap.size + 1 := ⟨_, rfl⟩
  rw [← hX] at HX
  rw [← hY] at HY
  rw [← hY, ← hX]
  have HXE := hid (⟨hX, hY⟩ : X = w.heap.size ∧ Y = w.heap.size + 1)
  clear hX hY
  by_cases h1 : 10 < ns.length
  · have hni : (10 : Int) < (ns.length : Int) := by omega
    go_wp2_with fail
    refine (first_calls _).mono ?_
    rintro e w9 ⟨rfl, hb9⟩
    have HB := hid ((unhid HB).trans (hb9.mono (unhid HB).size))
    clear hb9
    go_wp2_with fail
    go_ret
    exact ⟨rfl, unhid HB⟩
  · have hni : ¬ (10 : Int) < (ns.length : Int) := by omega
    have HLL := hid (show ns.length ≤ 10 from by omega)
    clear h1
    go_wp2_with fail
    refine (bookNew_calls W0).mono ?_
    rintro e W1 ⟨rfl, hk1, hb1⟩
    obtain ⟨m, hm⟩ : ∃ m, m = W0.heap.size := ⟨_, rfl⟩
    obtain ⟨B, hB⟩ : ∃ B, B = W0.heap.size + 1 := ⟨_, rfl⟩
    rw [← hB] at hk1 ⊢
    rw [← hm] at hk1
    have HK := hid hk1
    have HM := hid (show w.heap.size ≤ m ∧ w.heap.size ≤ W0.heap.size from by have := (unhid HB).size; omega)
    have HX := hid (NtAt.below (unhid HX) hb1)
    have HY := hid (NtAt.below (unhid HY) hb1)
    have HB := hid ((unhid HB).trans (hb1.mono (unhid HB).size))
    clear hk1 hb1 hm hB hni
    go_upto_region 5 with (fail)
    go_loopw [8] (fun iv wr => ∃ (k : Nat) (S : List Rc), k ≤ ns.length ∧ iv = .int .i64 k ∧ BkAt wr B m S ∧ Wn [] S k ∧ NtAt wr X x ∧ NtAt wr Y y ∧ Below w.heap.size w wr) (fun iv _ => ns.length - (intOf iv).toNat)
    case atStart => exact ⟨0, [], Nat.zero_le _, rfl, unhid HK, Wn.nil, unhid HX, unhid HY, unhid HB⟩
    case round =>
      clear HK HX HY HB
      obtain ⟨k, S, hk, rfl, hbk, hw, hx, hy, hb⟩ := hrel
      have HK := hid hbk
      have HW := hid hw
      have HX := hid hx
      have HY := hid hy
      have HB := hid hb
      clear hbk hw hx hy hb
      by_cases hlt : k < ns.length
      · have hki : (k : Int) < (ns.length : Int) := by omega
        obtain ⟨b, off, hAe, hbl, hc⟩ := ((unhid HND).below (unhid HB)) (nts_ne hlt)
        subst hAe
        obtain ⟨z, hz⟩ : ∃ z, ns[k]'hlt = z := ⟨_, rfl⟩
        have HZO := hid (unhid HNO z (hz ▸ List.getElem_mem hlt))
        obtain ⟨a0, a1, a2, a3, a4⟩ := nts_cells hc hlt hz
        have HW1 := hid (show wrap64 ((k : Int) + 1) = ((k + 1 : Nat) : Int) from by have h1 := unhid HLL; unfold wrap64; omega)
        clear hc hz
        go_upto_region 8 with (fail)
        have hb1 := below_alloc wr (.cells #[.int .i64 z.tab, .int .i64 z.hour, .int .i64 z.sign, .int .i64 z.fld, .int .i64 z.val] 30)
        have hz1 := heap_alloc_new wr (.cells #[.int .i64 z.tab, .int .i64 z.hour, .int .i64 z.sign, .int .i64 z.fld, .int .i64 z.val] 30)
        have HK := hid ((unhid HK).below' hb1)
        have HX := hid (NtAt.below (unhid HX) hb1)
        have HY := hid (NtAt.below (unhid HY) hb1)
        have HB := hid ((unhid HB).trans (hb1.mono (unhid HB).size))
        obtain ⟨N, hN⟩ : ∃ N, N = wr.heap.size := ⟨_, rfl⟩
        rw [← hN] at hz1 ⊢
        have HZ := hid (show NtAt _ N z from hz1)
        clear hb1 hz1 hN a0 a1 a2 a3 a4 hbl
        generalize wr.alloc (.cells #[.int .i64 z.tab, .int .i64 z.hour, .int .i64 z.sign, .int .i64 z.fld, .int .i64 z.val] 30) = W2 at *
        obtain ⟨a0, a1, a2, a3, a4⟩ := NtAt.cells (unhid HZ)
        go_wp2_with fail
        refine (write_calls z.tab z.hour z.sign z.fld z.val W2 (unhid HK) (by have := (unhid HW).len; have := unhid HLL; omega) (unhid HZO).1).mono ?_
        rintro e W3 ⟨rfl, hk3, hg3⟩
        have HX := hid ((unhid HX).beside (unhid HK) hg3)
        have HY := hid ((unhid HY).beside (unhid HK) hg3)
        have HW := hid ((unhid HW).write (unhid HK).v z.tab z.hour z.sign z.fld z.val)
        have HK := hid hk3
        have HB := hid ((unhid HB).grown hg3 (unhid HB).size (fun j e => by cases e; exact (unhid HM).1))
        clear hk3 hg3 a0 a1 a2 a3 a4 HZ
        go_wp2_with fail
        go_roundw
        case rel => exact ⟨k + 1, _, by omega, by first | go_num | rw [unhid HW1], unhid HK, unhid HW, unhid HX, unhid HY, unhid HB⟩
        case measure => first | (simp [intOf]; omega) | (rw [unhid HW1]; simp [intOf]; omega)
      · obtain rfl : k = ns.length := by omega
        have HV := hid (unhid HK).v
        have HG := hid (unhid HW).good
        have HC := hid (unhid HW).chain
        have HU1 := hid (show ∀ t, t < 8 → upT S t ≤ 100 from fun t ht => by have := (unhid HW).up t ht; have := unhid HLL; omega)
        have HU := hid (show ∀ t, t < 8 → upT S t ≤ 1000 from fun t ht => by have := unhid HU1 t ht; omega)
        have HLN := hid (show S.length ≤ 10 from Nat.le_trans (unhid HW).len (unhid HLL))
        clear HW HND HNO hlt hk
        go_wp2_with fail
        refine (pwaiting_calls (L := setR S) wr (unhid HK) (by have := unhid HLN; omega) (asc_setR S) (fun r => mem_setR.symm)).mono ?_
        rintro e W2 ⟨v, rfl, hrow, hb⟩
        rw [((unhid HG).perm (fun r => mem_setR.symm)).wait] at hrow
        obtain ⟨Av, cv, rfl, -, -⟩ := own_slice hrow
        have HK := hid ((unhid HK).below' hb)
        have HX := hid (NtAt.below (unhid HX) hb)
        have HY := hid (NtAt.below (unhid HY) hb)
        have HB := hid ((unhid HB).trans (hb.mono (unhid HB).size))
        simp only [List.length_nil]
        clear hrow hb
        go_upto_region 11 with (fail)
        have hXY : X ≠ Y := by have := unhid HXE; omega
        have HNE := hid hXY
        have hYB : w.heap.size ≤ Y := by have := unhid HXE; omega
        have HYB := hid hYB
        have HSF := hid (show ∀ w', NtAt w' X x → (w'.cell? ⟨X, 2, none⟩ = some (.int .i64 x.sign) ∧ w'.cell? ⟨X, 3, none⟩ = some (.int .i64 x.fld)) from fun w' h => ⟨h.cells.2.2.1, h.cells.2.2.2.1⟩)
        have hbd := Below.drew (Below.refl W2.heap.size W2)
        refine wp_region_noPanic ?_
        refine wp_region_E (S := fun w' => (w'.cell? ⟨X, 2, none⟩ = some (.int .i64 x.sign) ∧ w'.cell? ⟨X, 3, none⟩ = some (.int .i64 x.fld))) 7 8 rfl (by kernel_rfl) (by kernel_rfl) ((unhid HSF) _ ((unhid HX).below hbd)) ?_
        intro hSE
        have HK := hid ((unhid HK).below' hbd)
        have HX := hid (NtAt.below (unhid HX) hbd)
        have HY := hid (NtAt.below (unhid HY) hbd)
        have HB := hid ((unhid HB).trans (hbd.mono (unhid HB).size))
        clear hbd hXY hYB
        generalize W2.drew = Wd at *
        (refine WE_take (i := 0) (v := ?_) rfl (by kernel_rfl) (by decide) (by kernel_rfl) (by kernel_rfl) (fun _ _ _ h => h) (by rfl) hSE ?_ ?_; rotate_left; (focus (intro w hSw; (try dsimp only at hSw); go_simp; (try with_reducible rfl))); simp only [Act.put, List.setIfInBounds_toArray, List.set_cons_zero, List.set_cons_succ])
        (refine WE_take (i := 1) (v := ?_) rfl (by kernel_rfl) (by decide) (by kernel_rfl) (by kernel_rfl) (fun _ _ _ h => h) (by rfl) hSE ?_ ?_; rotate_left; (focus (intro w hSw; (try dsimp only at hSw); go_simp; (try with_reducible rfl))); simp only [Act.put, List.setIfInBounds_toArray, List.set_cons_zero, List.set_cons_succ])
        (refine WE_take (i := 2) (v := ?_) rfl (by kernel_rfl) (by decide) (by kernel_rfl) (by kernel_rfl) (fun _ _ _ h => h) (by rfl) hSE ?_ ?_; rotate_left; (focus (intro w hSw; (try dsimp only at hSw); go_simp; (try with_reducible rfl))); simp only [Act.put, List.setIfInBounds_toArray, List.set_cons_zero, List.set_cons_succ])
        (refine WE_take (i := 3) (v := ?_) rfl (by kernel_rfl) (by decide) (by kernel_rfl) (by kernel_rfl) (fun _ _ _ h => h) (by rfl) hSE ?_ ?_; rotate_left; (focus (intro w hSw; (try dsimp only at hSw); go_simp; (try with_reducible rfl))); simp only [Act.put, List.setIfInBounds_toArray, List.set_cons_zero, List.set_cons_succ])
        (refine WE_take (i := 4) (v := ?_) rfl (by kernel_rfl) (by decide) (by kernel_rfl) (by kernel_rfl) (fun _ _ _ h => h) (by rfl) hSE ?_ ?_; rotate_left; (focus (intro w hSw; (try dsimp only at hSw); go_simp; (try with_reducible rfl))); simp only [Act.put, List.setIfInBounds_toArray, List.set_cons_zero, List.set_cons_succ])
        have y2 := (unhid HY).cells.2.2.1
        have fz : Wd.frozen? ⟨Y, 2, none⟩ = false := frozen_of_row _ _ _ _ _ (unhid HY)
        (refine WE_one (i := 5) rfl (by decide) (by kernel_rfl) ?_; intro K hK)
        go_simp
        have HX := hid ((unhid HX).other (i := 2) (v := .int .i64 x.sign) (unhid HNE))
        have HK := hid ((unhid HK).note (i := 2) (v := .int .i64 x.sign) (unhid HY))
        have HY := hid ((unhid HY).set2 x.sign)
        have HB := hid (Below.setCell (unhid HB) (p := ⟨Y, 2, none⟩) (unhid HYB) (.int .i64 x.sign))
        refine hK.out _ _ ((unhid HSF) _ (unhid HX)) ?_
        clear hSE hK K y2 fz
        intro hSE
        (try simp only [Act.put, List.setIfInBounds_toArray, List.set_cons_zero, List.set_cons_succ])
        generalize Wd.setCell ⟨Y, 2, none⟩ (.int .i64 x.sign) = We at *
        (refine WE_take (i := 6) (v := ?_) rfl (by kernel_rfl) (by decide) (by kernel_rfl) (by kernel_rfl) (fun _ _ _ h => h) (by rfl) hSE ?_ ?_; rotate_left; (focus (intro w hSw; (try dsimp only at hSw); go_simp; (try with_reducible rfl))); simp only [Act.put, List.setIfInBounds_toArray, List.set_cons_zero, List.set_cons_succ])
        have y3 := (unhid HY).cells.2.2.2.1
        have fz : We.frozen? ⟨Y, 3, none⟩ = false := frozen_of_row _ _ _ _ _ (unhid HY)
        dsimp only at y3
        (refine WE_last rfl (by kernel_rfl) (by kernel_rfl) (by kernel_rfl) ?_; intro K hK; go_simp; refine hK.out _ _ (NoPanic.normal ?_); clear hK K)
        have HX := hid ((unhid HX).other (i := 3) (v := .int .i64 x.fld) (unhid HNE))
        have HK := hid ((unhid HK).note (i := 3) (v := .int .i64 x.fld) (unhid HY))
        have HY := hid ((unhid HY).set3 x.fld)
        have HB := hid (Below.setCell (unhid HB) (p := ⟨Y, 3, none⟩) (unhid HYB) (.int .i64 x.fld))
        clear hSE y3 fz HSF
        generalize We.setCell ⟨Y, 3, none⟩ (.int .i64 x.fld) = W3 at *
        have HMB := hid (Nat.le_trans (unhid HM).1 (Nat.le_of_lt (unhid HK).lt.2))
        go_wp2_with fail
        refine (pcopy_calls W3 (unhid HK)).mono ?_
        rintro e W4 ⟨rfl, hkc, hb⟩
        obtain ⟨mc, hmc⟩ : ∃ mc, mc = W3.heap.size := ⟨_, rfl⟩
        obtain ⟨Bc, hBc⟩ : ∃ Bc, Bc = W3.heap.size + 1 := ⟨_, rfl⟩
        rw [← hBc] at hkc ⊢
        rw [← hmc] at hkc
        have HKC := hid hkc
        have HMC := hid (show m < mc ∧ w.heap.size ≤ mc from by have := (unhid HK).lt.2; have := (unhid HB).size; omega)
        have HK := hid ((unhid HK).below' hb)
        have HX := hid (NtAt.below (unhid HX) hb)
        have HY := hid (NtAt.below (unhid HY) hb)
        have HB := hid ((unhid HB).trans (hb.mono (unhid HB).size))
        clear hkc hb hmc hBc
        go_wp2_with fail
        refine (pcopy_calls W4 (unhid HK)).mono ?_
        rintro e W5 ⟨rfl, hkd, hb⟩
        obtain ⟨md, hmd⟩ : ∃ md, md = W4.heap.size := ⟨_, rfl⟩
        obtain ⟨Bd, hBd⟩ : ∃ Bd, Bd = W4.heap.size + 1 := ⟨_, rfl⟩
        rw [← hBd] at hkd ⊢
        rw [← hmd] at hkd
        have HKD := hid hkd
        have HMD := hid (show mc < md ∧ w.heap.size ≤ md from by have := (unhid HKC).lt.2; have := (unhid HB).size; omega)
        have HK := hid ((unhid HK).below' hb)
        have HKC := hid ((unhid HKC).below' hb)
        have HX := hid (NtAt.below (unhid HX) hb)
        have HY := hid (NtAt.below (unhid HY) hb)
        have HB := hid ((unhid HB).trans (hb.mono (unhid HB).size))
        clear hkd hb hmd hBd
        obtain ⟨a0, a1, a2, a3, a4⟩ := NtAt.cells (unhid HX)
        go_wp2_with fail
        refine (write_calls x.tab x.hour x.sign x.fld x.val W5 (unhid HKC) (by have := unhid HLN; omega) (unhid HXW).1).mono ?_
        rintro e W6 ⟨rfl, hk6, hg6⟩
        have HX := hid ((unhid HX).beside (unhid HKC) hg6)
        have HY := hid ((unhid HY).beside (unhid HKC) hg6)
        have HK := hid ((unhid HK).beside (unhid HKC) hg6 (by have := unhid HMC; omega))
        have HKD := hid ((unhid HKD).beside (unhid HKC) hg6 (by have := unhid HMD; omega))
        have HKC := hid hk6
        have HB := hid ((unhid HB).grown hg6 (unhid HB).size (fun j e => by cases e; exact (unhid HMC).2))
        obtain ⟨r1, hr1⟩ : ∃ r1, r1 = (writeR S x.tab x.hour x.sign x.fld x.val).1 := ⟨_, rfl⟩
        obtain ⟨E1, hE1⟩ : ∃ E1, E1 = (writeR S x.tab x.hour x.sign x.fld x.val).2.1 := ⟨_, rfl⟩
        obtain ⟨C, hC1⟩ : ∃ C, C = (writeR S x.tab x.hour x.sign x.fld x.val).2.2 := ⟨_, rfl⟩
        rw [← hr1, ← hE1]
        rw [← hC1] at HKC
        have HR1 := hid (show writeR S x.tab x.hour x.sign x.fld x.val = (r1, E1, C) from by rw [hr1, hE1, hC1])
        clear hk6 hg6 hr1 hE1 hC1 a0 a1 a2 a3 a4
        simp only [rcV, rcA]
        go_upto_region 14 with (fail)
        change Code.wp _ _ _ _ (W6.alloc (.cells (rcA r1) 33))
        have hb := below_alloc W6 (.cells (rcA r1) 33)
        have HK := hid ((unhid HK).below' hb)
        have HKC := hid ((unhid HKC).below' hb)
        have HKD := hid ((unhid HKD).below' hb)
        have HX := hid (NtAt.below (unhid HX) hb)
        have HY := hid (NtAt.below (unhid HY) hb)
        have HB := hid ((unhid HB).trans (hb.mono (unhid HB).size))
        clear hb
        generalize W6.alloc (.cells (rcA r1) 33) = W7 at *
        obtain ⟨a0, a1, a2, a3, a4⟩ := NtAt.cells (unhid HY)
        dsimp only at a0 a1 a2 a3 a4
        go_wp2_with fail
        refine (write_calls y.tab y.hour x.sign x.fld y.val W7 (unhid HKD) (by have := unhid HLN; omega) (unhid HYW).1).mono ?_
        rintro e W8 ⟨rfl, hk8, hg8⟩
        have HX := hid ((unhid HX).beside (unhid HKD) hg8)
        have HY := hid ((unhid HY).beside (unhid HKD) hg8)
        have HK := hid ((unhid HK).beside (unhid HKD) hg8 (by have := unhid HMC; have := unhid HMD; omega))
        have HKC := hid ((unhid HKC).beside (unhid HKD) hg8 (by have := unhid HMD; omega))
        have HKD := hid hk8
        have HB := hid ((unhid HB).grown hg8 (unhid HB).size (fun j e => by cases e; exact (unhid HMD).2))
        obtain ⟨r2, hr1⟩ : ∃ r1, r1 = (writeR S y.tab y.hour x.sign x.fld y.val).1 := ⟨_, rfl⟩
        obtain ⟨E2, hE1⟩ : ∃ E1, E1 = (writeR S y.tab y.hour x.sign x.fld y.val).2.1 := ⟨_, rfl⟩
        obtain ⟨D, hC1⟩ : ∃ C, C = (writeR S y.tab y.hour x.sign x.fld y.val).2.2 := ⟨_, rfl⟩
        rw [← hr1, ← hE1]
        rw [← hC1] at HKD
        have HR2 := hid (show writeR S y.tab y.hour x.sign x.fld y.val = (r2, E2, D) from by rw [hr1, hE1, hC1])
        clear hk8 hg8 hr1 hE1 hC1 a0 a1 a2 a3 a4
        simp only [rcV, rcA]
        go_upto_region 15 with (fail)
        change Code.wp _ _ _ _ (W8.alloc (.cells (rcA r2) 33))
        have hb := below_alloc W8 (.cells (rcA r2) 33)
        have HK := hid ((unhid HK).below' hb)
        have HKC := hid ((unhid HKC).below' hb)
        have HKD := hid ((unhid HKD).below' hb)
        have HX := hid (NtAt.below (unhid HX) hb)
        have HY := hid (NtAt.below (unhid HY) hb)
        have HB := hid ((unhid HB).trans (hb.mono (unhid HB).size))
        clear hb
        generalize W8.alloc (.cells (rcA r2) 33) = W9 at *
        have HSF6 := hid (show (btw 1 x.sign 1000000000 && btw 1 x.fld 6) = true from by have h := unhid HFX; simp only [fineB, btw, Bool.and_eq_true, decide_eq_true_eq] at h ⊢; omega)
        have HNX := hid (fine_write (unhid HV) (unhid HG) (unhid HU) (unhid HFX))
        have he := unhid HR1
        rw [(unhid HNX).1] at he
        simp only [Prod.mk.injEq] at he
        obtain ⟨hr, rfl, hCC⟩ := he
        have HN1 := hid (show Nxt S r1 from by rw [← hr]; exact (unhid HNX).2)
        have HF1 := hid (show r1.tab = x.tab ∧ r1.sign = x.sign ∧ r1.fld = x.fld ∧ r1.val = x.val from by rw [← hr]; exact ⟨rfl, rfl, rfl, rfl⟩)
        rw [hr] at hCC
        subst hCC
        have HCL := hid (show (S ++ [r1]).length ≤ 1000000 from by have := unhid HLN; rw [List.length_append, List.length_singleton]; omega)
        have HV1 := hid (show valuesP (S ++ [r1]) x.sign x.fld = [x.val] from by
          have h := (unhid HN1).value (unhid HV) (unhid HG)
          rw [(unhid HF1).2.1, (unhid HF1).2.2.1, (unhid HF1).2.2.2] at h
          exact h)
        clear hr HNX HR1
        obtain ⟨a0, a1, a2, a3, a4⟩ := NtAt.cells (unhid HX)
        have d0 := decide_eq_true (show 1 ≤ x.tab from by have h := unhid HFX; simp only [fineB, btw, Bool.and_eq_true, decide_eq_true_eq] at h; omega)
        have d1 := decide_eq_true (show x.tab ≤ 8 from by have h := unhid HFX; simp only [fineB, btw, Bool.and_eq_true, decide_eq_true_eq] at h; omega)
        have d2 := decide_eq_true (show 0 ≤ x.hour from by have h := unhid HFX; simp only [fineB, btw, Bool.and_eq_true, decide_eq_true_eq] at h; omega)
        have d3 := decide_eq_true (show x.hour ≤ 10000000 from by have h := unhid HFX; simp only [fineB, btw, Bool.and_eq_true, decide_eq_true_eq] at h; omega)
        have d4 := decide_eq_true (show 1 ≤ x.sign from by have h := unhid HFX; simp only [fineB, btw, Bool.and_eq_true, decide_eq_true_eq] at h; omega)
        have d5 := decide_eq_true (show x.sign ≤ 1000000000 from by have h := unhid HFX; simp only [fineB, btw, Bool.and_eq_true, decide_eq_true_eq] at h; omega)
        have d6 := decide_eq_true (show 1 ≤ x.fld from by have h := unhid HFX; simp only [fineB, btw, Bool.and_eq_true, decide_eq_true_eq] at h; omega)
        have d7 := decide_eq_true (show x.fld ≤ 6 from by have h := unhid HFX; simp only [fineB, btw, Bool.and_eq_true, decide_eq_true_eq] at h; omega)
        have d8 := decide_eq_true (show -1099511627776 ≤ x.val from by have h := unhid HFX; simp only [fineB, btw, Bool.and_eq_true, decide_eq_true_eq] at h; omega)
        have d9 := decide_eq_true (show x.val ≤ 1099511627776 from by have h := unhid HFX; simp only [fineB, btw, Bool.and_eq_true, decide_eq_true_eq] at h; omega)
        go_wp2_with fail
        clear d0 d1 d2 d3 d4 d5 d6 d7 d8 d9 a0 a1 a2 a3 a4
        refine (pvalues_calls x.sign x.fld _ (BkAt.asc (unhid HKC)) (asc_setR _) (Nat.le_trans (len_setR _) (unhid HCL))).mono ?_
        rintro e w3 ⟨v, rfl, hown, hb⟩
        rw [unhid HSF6] at hown ⊢
        simp only [if_true] at hown ⊢
        rw [valuesP_congr (fun r => mem_setR) x.sign x.fld, unhid HV1] at hown
        obtain ⟨Av, cv, rfl, hrd, -⟩ := own_slice hown
        have HK := hid ((unhid HK).below' hb)
        have HKC := hid ((unhid HKC).below' hb)
        have HKD := hid ((unhid HKD).below' hb)
        have HX := hid (NtAt.below (unhid HX) hb)
        have HY := hid (NtAt.below (unhid HY) hb)
        have HB := hid ((unhid HB).trans (hb.mono (unhid HB).size))
        obtain ⟨b, off, rfl, hbl, hc⟩ := hrd (by simp [ints])
        have i0 : w3.cell? ⟨b, off, none⟩ = some (.int .i64 x.val) := hc 0 _ rfl
        have m0 := fun p : After w3 => After.cell (by dsimp only; exact hbl) i0 p
        have m1 := fun p : After w3 => After.cell (by dsimp only; exact lt_of_heap (unhid HX)) (unhid HX).cells.2.2.2.2 p
        have hnn : (x.val != x.val) = false := by simp
        clear hown hrd hb hc i0 hbl
        go_upto_region 19 with (fail)
        (refine wp_region_below (by kernel_rfl) (by kernel_rfl) ?_; (repeat (go_big_quiet_step (first | fail))); refine wpQuiet_nil ?_; intro wq hw'; obtain ⟨⟨wq2, hbq⟩, hw''⟩ := hw'; dsimp only at hw''; subst hw'')
        have HK := hid ((unhid HK).below' hbq)
        have HKC := hid ((unhid HKC).below' hbq)
        have HKD := hid ((unhid HKD).below' hbq)
        have HX := hid (NtAt.below (unhid HX) hbq)
        have HY := hid (NtAt.below (unhid HY) hbq)
        have HB := hid ((unhid HB).trans (hbq.mono (unhid HB).size))
        clear hbq m0 m1 hnn
        obtain ⟨a0, a1, a2, a3, a4⟩ := NtAt.cells (unhid HX)
        obtain ⟨e0, e1, e2, e3, e4⟩ := NtAt.cells (unhid HY)
        dsimp only at e0 e1 e2 e3 e4
        have HNY := hid (fine_write (unhid HV) (unhid HG) (unhid HU) (unhid HFY))
        have he := unhid HR2
        rw [(unhid HNY).1] at he
        simp only [Prod.mk.injEq] at he
        obtain ⟨hr, rfl, hCC⟩ := he
        have HN2 := hid (show Nxt S r2 from by rw [← hr]; exact (unhid HNY).2)
        have HF2 := hid (show r2.tab = y.tab ∧ r2.sign = x.sign ∧ r2.fld = x.fld ∧ r2.val = y.val from by rw [← hr]; exact ⟨rfl, rfl, rfl, rfl⟩)
        rw [hr] at hCC
        subst hCC
        have HDL := hid (show (S ++ [r2]).length ≤ 11 ∧ (S ++ [r1]).length ≤ 11 from by have := unhid HLN; simp only [List.length_append, List.length_singleton]; omega)
        clear hr HNY HR2
        have q1 : (x.tab == y.tab) = false := by have := unhid HET; simp [this]
        go_wp2_with fail
        refine (join_calls _ (unhid HKC) (unhid HKD) (by have := unhid HMD; omega) (by have := unhid HDL; omega)).mono ?_
        rintro e w4 ⟨E, rfl, hk4, hm4, hl4, hg4⟩
        have HX := hid ((unhid HX).beside (unhid HKC) hg4)
        have HY := hid ((unhid HY).beside (unhid HKC) hg4)
        have HK := hid ((unhid HK).beside (unhid HKC) hg4 (by have := unhid HMC; omega))
        have HKC := hid hk4
        have HB := hid ((unhid HB).grown hg4 (unhid HB).size (fun j e => by cases e; exact (unhid HMC).2))
        have HBO := hid (show Both S E r1 r2 from ⟨unhid HN1, unhid HN2, by
          have o1 := (rc_ok (unhid HN1).v).tb
          have o2 := (rc_ok (unhid HN2).v).tb
          have h1 := (unhid HF1).1
          have h2 := (unhid HF2).1
          have h3 := unhid HET
          omega, fun r => by
          rw [hm4 r]
          simp only [List.mem_append, List.mem_singleton]
          constructor
          · rintro ((h | h) | (h | h))
            · exact .inl h
            · exact .inr (.inl h)
            · exact .inl h
            · exact .inr (.inr h)
          · rintro (h | h | h)
            · exact .inl (.inl h)
            · exact .inl (.inr h)
            · exact .inr (.inr h)⟩)
        have HEL := hid (show E.length ≤ 22 from by have := unhid HDL; omega)
        have HEG := hid ((unhid HBO).good (unhid HV) (unhid HG))
        have HEVA := hid ((unhid HBO).valid (unhid HV))
        have HVE := hid (show valuesP E x.sign x.fld = [x.val] from by
          have h := (unhid HBO).values (unhid HV) (unhid HG) (by rw [(unhid HF2).2.1, (unhid HF1).2.1]) (by rw [(unhid HF2).2.2.1, (unhid HF1).2.2.1])
          rw [(unhid HF1).2.1, (unhid HF1).2.2.1, (unhid HF1).2.2.2, (unhid HF2).2.2.2] at h
          rw [h, if_pos (unhid HEV)])
        clear hk4 hm4 hl4 hg4 q1 a0 a1 a2 a3 a4 e0 e1 e2 e3 e4
        obtain ⟨a0, a1, a2, a3, a4⟩ := NtAt.cells (unhid HX)
        go_wp2_with fail
        clear a0 a1 a2 a3 a4
        refine (pvalues_calls x.sign x.fld _ (BkAt.asc (unhid HKC)) (asc_setR _) (Nat.le_trans (len_setR _) (by have := unhid HEL; omega))).mono ?_
        rintro e w3 ⟨v, rfl, hown, hb⟩
        rw [unhid HSF6] at hown ⊢
        simp only [if_true] at hown ⊢
        rw [valuesP_congr (fun r => mem_setR) x.sign x.fld, unhid HVE] at hown
        obtain ⟨Av, cv, rfl, hrd, -⟩ := own_slice hown
        have HK := hid ((unhid HK).below' hb)
        have HKC := hid ((unhid HKC).below' hb)
        have HX := hid (NtAt.below (unhid HX) hb)
        have HY := hid (NtAt.below (unhid HY) hb)
        have HB := hid ((unhid HB).trans (hb.mono (unhid HB).size))
        have HRV := hid hrd
        clear hown hrd hb
        go_wp2_with fail
        refine (pwaiting_calls (L := setR E) _ (unhid HKC) (by have := unhid HEL; omega) (asc_setR E) (fun r => mem_setR.symm)).mono ?_
        rintro e w5 ⟨v, rfl, hrow, hb⟩
        rw [((unhid HEG).perm (fun r => mem_setR.symm)).wait] at hrow
        obtain ⟨Aw, cw, rfl, -, -⟩ := own_slice hrow
        have HK := hid ((unhid HK).below' hb)
        have HKC := hid ((unhid HKC).below' hb)
        have HX := hid (NtAt.below (unhid HX) hb)
        have HY := hid (NtAt.below (unhid HY) hb)
        have HB := hid ((unhid HB).trans (hb.mono (unhid HB).size))
        have HRV := hid ((unhid HRV).below hb)
        simp only [List.length_nil]
        clear hrow hb
        obtain ⟨a0, a1, a2, a3, a4⟩ := NtAt.cells (unhid HX)
        obtain ⟨e0, e1, e2, e3, e4⟩ := NtAt.cells (unhid HY)
        dsimp only at e0 e1 e2 e3 e4
        obtain ⟨mn, hmn⟩ : ∃ mn, min x.val y.val = mn := ⟨_, rfl⟩
        obtain ⟨mx, hmx⟩ : ∃ mx, max x.val y.val = mx := ⟨_, rfl⟩
        have HMN := hid (⟨hmn, hmx⟩ : _ ∧ _)
        go_upto_region 28 with (fail)
        have hb := below_alloc w5 (.cells #[.int .i64 mn, .int .i64 mx] 3)
        have hq := heap_alloc_new w5 (.cells #[.int .i64 mn, .int .i64 mx] 3)
        obtain ⟨Q, hQ⟩ : ∃ Q, Q = w5.heap.size := ⟨_, rfl⟩
        rw [← hQ] at hq ⊢
        have HQ := hid hq
        have HK := hid ((unhid HK).below' hb)
        have HKC := hid ((unhid HKC).below' hb)
        have HX := hid (NtAt.below (unhid HX) hb)
        have HY := hid (NtAt.below (unhid HY) hb)
        have HB := hid ((unhid HB).trans (hb.mono (unhid HB).size))
        have HRV := hid ((unhid HRV).below hb)
        clear hb hq hQ hmn hmx a0 a1 a2 a3 a4 e0 e1 e2 e3 e4
        generalize w5.alloc (.cells #[.int .i64 mn, .int .i64 mx] 3) = W6 at *
        have HRW := hid (show Rd W6 (some ⟨Q, 0, none⟩) (ints [mn]) from fun _ => ⟨Q, 0, rfl, lt_of_heap (unhid HQ), fun j u hu => by
          rw [Nat.zero_add, cell_of_row _ Q j _ _ _ (unhid HQ)]
          match j, hu with
          | 0, hu => simpa [ints] using hu
          | j + 1, hu => simp [ints] at hu⟩)
        obtain ⟨a0, a1, a2, a3, a4⟩ := NtAt.cells (unhid HX)
        obtain ⟨e0, e1, e2, e3, e4⟩ := NtAt.cells (unhid HY)
        dsimp only at e0 e1 e2 e3 e4
        have q2 : (x.val == y.val) = true := by have := unhid HEV; simp [this]
        go_wp2_with fail
        clear a0 a1 a2 a3 a4 e0 e1 e2 e3 e4 q2
        refine (sameInts_calls [x.val] [mn] Av (some ⟨Q, 0, none⟩) cv 2 W6 (unhid HRV) (unhid HRW) (by simp)).mono ?_
        rintro e w7 ⟨rfl, hb⟩
        rw [decide_eq_true (show [x.val] = [mn] from by have h := (unhid HMN).1; have hh := (unhid HMN).2; have h2 := unhid HEV; have h3 : x.val = mn := (by omega); rw [h3])]
        have HK := hid ((unhid HK).below' hb)
        have HKC := hid ((unhid HKC).below' hb)
        have HX := hid (NtAt.below (unhid HX) hb)
        have HY := hid (NtAt.below (unhid HY) hb)
        have HB := hid ((unhid HB).trans (hb.mono (unhid HB).size))
        clear hb HRV HRW HQ
        go_wp2_with fail
        refine (disputes_calls (L := setR S) _ (unhid HK) (by have := unhid HLN; omega) (asc_setR S) (fun r => mem_setR.symm)).mono ?_
        rintro e w8 ⟨v, Db, rfl, hd, -, hrow, hb⟩
        obtain rfl : Db = [] := List.eq_nil_iff_forall_not_mem.2 fun c hc => by
          have h := (hd.2 c).1 hc
          rw [valuesP_congr (fun r => mem_setR)] at h
          have := (unhid HG).no_disp (unhid HC) c
          omega
        obtain ⟨A8, c8, rfl, -, -⟩ := own_slice hrow
        have HKC := hid ((unhid HKC).below' hb)
        have HX := hid (NtAt.below (unhid HX) hb)
        have HY := hid (NtAt.below (unhid HY) hb)
        have HB := hid ((unhid HB).trans (hb.mono (unhid HB).size))
        simp only [List.length_nil]
        clear hrow hb hd HK
        have HDE := hid (fun (Dd : List (Int × Int)) (hd : DispIs (setR E) Dd) => (show Dd = [] from by
          have h := (unhid HBO).disp (unhid HV) (unhid HG) (unhid HC) (by rw [(unhid HF2).2.1, (unhid HF1).2.1]) (by rw [(unhid HF2).2.2.1, (unhid HF1).2.2.1]) hd.1 (fun c => by rw [hd.2 c, valuesP_congr (fun r => mem_setR)])
          rw [(unhid HF1).2.1, (unhid HF1).2.2.1, (unhid HF1).2.2.2, (unhid HF2).2.2.2] at h
          rw [h, if_pos (unhid HEV)]))
        go_wp2_with fail
        refine (disputes_calls (L := setR E) _ (unhid HKC) (by have := unhid HEL; omega) (asc_setR E) (fun r => mem_setR.symm)).mono ?_
        rintro e w10 ⟨v, Dc, rfl, hd, -, hrow, hb⟩
        obtain rfl := unhid HDE Dc hd
        obtain ⟨A10, c10, rfl, -, -⟩ := own_slice hrow
        have HKC := hid ((unhid HKC).below' hb)
        have HX := hid (NtAt.below (unhid HX) hb)
        have HY := hid (NtAt.below (unhid HY) hb)
        have HB := hid ((unhid HB).trans (hb.mono (unhid HB).size))
        simp only [List.length_nil, List.length_singleton]
        clear hrow hb hd
        go_wp2_with fail
        refine (disputes_calls (L := setR E) _ (unhid HKC) (by have := unhid HEL; omega) (asc_setR E) (fun r => mem_setR.symm)).mono ?_
        rintro e w11 ⟨v, Dc, rfl, hd, -, hrow, hb⟩
        obtain rfl := unhid HDE Dc hd
        obtain ⟨A11, c11, rfl, -, -⟩ := own_slice hrow
        have HKC := hid ((unhid HKC).below' hb)
        have HX := hid (NtAt.below (unhid HX) hb)
        have HY := hid (NtAt.below (unhid HY) hb)
        have HB := hid ((unhid HB).trans (hb.mono (unhid HB).size))
        simp only [List.length_nil, List.length_singleton]
        clear hrow hb hd
        obtain ⟨a0, a1, a2, a3, a4⟩ := NtAt.cells (unhid HX)
        obtain ⟨e0, e1, e2, e3, e4⟩ := NtAt.cells (unhid HY)
        dsimp only at e0 e1 e2 e3 e4
        have HNZ := hid (fine_write (unhid HEVA) (unhid HEG) (fun t ht => by have := (unhid HBO).up (unhid HV) (unhid HG) (n := 100) (by omega) (unhid HU1) ht; omega) (tab := y.tab) (hour := y.hour) (sign := x.sign) (fld := x.fld) (val := x.val) (by
          have h1 := unhid HFX
          have h2 := unhid HFY
          simp only [fineB, Bool.and_eq_true] at h1 h2 ⊢
          exact ⟨⟨⟨⟨h2.1.1.1.1, h2.1.1.1.2⟩, h1.1.1.2⟩, h1.1.2⟩, h1.2⟩))
        go_wp2_with fail
        refine (write_calls y.tab y.hour x.sign x.fld x.val _ (unhid HKC) (by have := unhid HEL; omega) (unhid HYW).1).mono ?_
        rintro e w12 ⟨rfl, hk12, hg12⟩
        rw [(unhid HNZ).1] at hk12 ⊢
        have HX := hid ((unhid HX).beside (unhid HKC) hg12)
        have HKC := hid hk12
        have HB := hid ((unhid HB).grown hg12 (unhid HB).size (fun j e => by cases e; exact (unhid HMC).2))
        have HV3 := hid (show valuesP (E ++ [newR (upT E) y.tab y.hour x.sign x.fld x.val]) x.sign x.fld = [x.val] from (unhid HNZ).2.value (unhid HEVA) (unhid HEG))
        clear hk12 hg12 a0 a1 a2 a3 a4 e0 e1 e2 e3 e4
        simp only [rcV, rcA]
        obtain ⟨a0, a1, a2, a3, a4⟩ := NtAt.cells (unhid HX)
        go_wp2_with fail
        clear a0 a1 a2 a3 a4
        refine (pvalues_calls x.sign x.fld _ (BkAt.asc (unhid HKC)) (asc_setR _) (Nat.le_trans (len_setR _) (by have := unhid HEL; rw [List.length_append, List.length_singleton]; omega))).mono ?_
        rintro e w3 ⟨v, rfl, hown, hb⟩
        rw [unhid HSF6] at hown ⊢
        simp only [if_true] at hown ⊢
        rw [valuesP_congr (fun r => mem_setR) x.sign x.fld, unhid HV3] at hown
        obtain ⟨Av, cv, rfl, hrd, -⟩ := own_slice hown
        have HX := hid (NtAt.below (unhid HX) hb)
        have HB := hid ((unhid HB).trans (hb.mono (unhid HB).size))
        obtain ⟨b, off, rfl, hbl, hc⟩ := hrd (by simp [ints])
        have i0 : w3.cell? ⟨b, off, none⟩ = some (.int .i64 x.val) := hc 0 _ rfl
        have m0 := fun p : After w3 => After.cell (by dsimp only; exact hbl) i0 p
        have m1 := fun p : After w3 => After.cell (by dsimp only; exact lt_of_heap (unhid HX)) (unhid HX).cells.2.2.2.2 p
        have hnn : (x.val == x.val) = true := by simp
        clear hown hrd hb hc i0 hbl
        go_upto_region 34 with (fail)
        (refine wp_region_below (by kernel_rfl) (by kernel_rfl) ?_; (repeat (go_big_quiet_step (first | (go_at_call 13; exact Calls.after_of (first_calls _))))); refine wpQuiet_nil ?_; intro wq hw'; obtain ⟨⟨wq2, hbq⟩, hw''⟩ := hw'; dsimp only at hw''; subst hw'')
        have HB := hid ((unhid HB).trans (hbq.mono (unhid HB).size))
        clear hbq m0 m1 hnn
        go_wp2_with fail
        go_ret
        exact ⟨rfl, unhid HB⟩

set_option maxHeartbeats 16000000 in
set_option maxRecDepth 100000 in
theorem ldec_both2 (ns : List Nt) (An : Option Addr) (cn : Nat) (x y : Nt) (w : World) (hn : NtsIn w An ns cn) (hx : NtW x) (hy : NtW y) (hfx : fineB x.tab x.hour x.sign x.fld x.val = true) (hfy : fineB y.tab y.hour x.sign x.fld y.val = true) (het : ¬ x.tab = y.tab) (hev : ¬ x.val = y.val) :
    Calls Try.prog 10 #[.slice An ns.length cn, .agg #[.int .i64 x.tab, .int .i64 x.hour, .int .i64 x.sign, .int .i64 x.fld, .int .i64 x.val], .agg #[.int .i64 y.tab, .int .i64 y.hour, .int .i64 y.sign, .int .i64 y.fld, .int .i64 y.val]] w fun e w' => e = .returned (.bool true) ∧ Below w.heap.size w w' := by
  have HFX := hid hfx
  clear hfx
  have HFY := hid hfy
  have HET := hid het
  have HEV := hid hev
  clear hfy het hev
  have HNO := hid hn.ok
  have HND := hid hn.rd
  have HXW := hid hx
  have HYW := hid hy
  have hb0 := below_alloc w (.cells #[.int .i64 x.tab, .int .i64 x.hour, .int .i64 x.sign, .int .i64 x.fld, .int .i64 x.val] 30)
  have hx0 := heap_alloc_new w (.cells #[.int .i64 x.tab, .int .i64 x.hour, .int .i64 x.sign, .int .i64 x.fld, .int .i64 x.val] 30)
  have hs0 : (w.alloc (.cells #[.int .i64 x.tab, .int .i64 x.hour, .int .i64 x.sign, .int .i64 x.fld, .int .i64 x.val] 30)).heap.size = w.heap.size + 1 := by simp
  have hb1 := below_alloc (w.alloc (.cells #[.int .i64 x.tab, .int .i64 x.hour, .int .i64 x.sign, .int .i64 x.fld, .int .i64 x.val] 30)) (.cells #[.int .i64 y.tab, .int .i64 y.hour, .int .i64 y.sign, .int .i64 y.fld, .int .i64 y.val] 30)
  have hy0 := heap_alloc_new (w.alloc (.cells #[.int .i64 x.tab, .int .i64 x.hour, .int .i64 x.sign, .int .i64 x.fld, .int .i64 x.val] 30)) (.cells #[.int .i64 y.tab, .int .i64 y.hour, .int .i64 y.sign, .int .i64 y.fld, .int .i64 y.val] 30)
  rw [hs0] at hy0
  clear hn hx hy
  go_enter Try.func10, Try.ntmps10
  go_upto_region 1 with (fail)
  change Code.wp _ _ _ _ ((w.alloc (.cells #[.int .i64 x.tab, .int .i64 x.hour, .int .i64 x.sign, .int .i64 x.fld, .int .i64 x.val] 30)).alloc (.cells #[.int .i64 y.tab, .int .i64 y.hour, .int .i64 y.sign, .int .i64 y.fld, .int .i64 y.val] 30))
  have HX := hid (show NtAt _ w.heap.size x from (hb1.block _ (by omega)).trans hx0)
  have HY := hid (show NtAt _ (w.heap.size + 1) y from hy0)
  have HB := hid (hb0.trans (hb1.mono hb0.size))
  clear hb0 hx0 hb1 hy0 hs0
  generalize (w.alloc (.cells #[.int .i64 x.tab, .int .i64 x.hour, .int .i64 x.sign, .int .i64 x.fld, .int .i64 x.val] 30)).alloc (.cells #[.int .i64 y.tab, .int .i64 y.hour, .int .i64 y.sign, .int .i64 y.fld, .int .i64 y.val] 30) = W0 at *
  obtain ⟨X, hX⟩ : ∃ X, X = w.heap.size := ⟨_, rfl⟩
  obtain ⟨Y, hY⟩ : ∃ Y, Y = w.heap.size + 1 := ⟨_, rfl⟩
  rw [← hX] at HX
  rw [← hY] at HY
  rw [← hY, ← hX]
  have HXE := hid (⟨hX, hY⟩ : X = w.heap.size ∧ Y = w.heap.size + 1)
  clear hX hY
  by_cases h1 : 10 < ns.length
  · have hni : (10 : Int) < (ns.length : Int) := by omega
    go_wp2_with fail
    refine (first_calls _).mono ?_
    rintro e w9 ⟨rfl, hb9⟩
    have HB := hid ((unhid HB).trans (hb9.mono (unhid HB).size))
    clear hb9
    go_wp2_with fail
    go_ret
    exact ⟨rfl, unhid HB⟩
  · have hni : ¬ (10 : Int) < (ns.length : Int) := by omega
    have HLL := hid (show ns.length ≤ 10 from by omega)
    clear h1
    go_wp2_with fail
    refine (bookNew_calls W0).mono ?_
    rintro e W1 ⟨rfl, hk1, hb1⟩
    obtain ⟨m, hm⟩ : ∃ m, m = W0.heap.size := ⟨_, rfl⟩
    obtain ⟨B, hB⟩ : ∃ B, B = W0.heap.size + 1 := ⟨_, rfl⟩
    rw [← hB] at hk1 ⊢
    rw [← hm] at hk1
    have HK := hid hk1
    have HM := hid (show w.heap.size ≤ m ∧ w.heap.size ≤ W0.heap.size from by have := (unhid HB).size; omega)
    have HX := hid (NtAt.below (unhid HX) hb1)
    have HY := hid (NtAt.below (unhid HY) hb1)
    have HB := hid ((unhid HB).trans (hb1.mono (unhid HB).size))
    clear hk1 hb1 hm hB hni
    go_upto_region 5 with (fail)
    go_loopw [8] (fun iv wr => ∃ (k : Nat) (S : List Rc), k ≤ ns.length ∧ iv = .int .i64 k ∧ BkAt wr B m S ∧ Wn [] S k ∧ NtAt wr X x ∧ NtAt wr Y y ∧ Below w.heap.size w wr) (fun iv _ => ns.length - (intOf iv).toNat)
    case atStart => exact ⟨0, [], Nat.zero_le _, rfl, unhid HK, Wn.nil, unhid HX, unhid HY, unhid HB⟩
    case round =>
      clear HK HX HY HB
      obtain ⟨k, S, hk, rfl, hbk, hw, hx, hy, hb⟩ := hrel
      have HK := hid hbk
      have HW := hid hw
      have HX := hid hx
      have HY := hid hy
      have HB := hid hb
      clear hbk hw hx hy hb
      by_cases hlt : k < ns.length
      · have hki : (k : Int) < (ns.length : Int) := by omega
        obtain ⟨b, off, hAe, hbl, hc⟩ := ((unhid HND).below (unhid HB)) (nts_ne hlt)
        subst hAe
        obtain ⟨z, hz⟩ : ∃ z, ns[k]'hlt = z := ⟨_, rfl⟩
        have HZO := hid (unhid HNO z (hz ▸ List.getElem_mem hlt))
        obtain ⟨a0, a1, a2, a3, a4⟩ := nts_cells hc hlt hz
        have HW1 := hid (show wrap64 ((k : Int) + 1) = ((k + 1 : Nat) : Int) from by have h1 := unhid HLL; unfold wrap64; omega)
        clear hc hz
        go_upto_region 8 with (fail)
        have hb1 := below_alloc wr (.cells #[.int .i64 z.tab, .int .i64 z.hour, .int .i64 z.sign, .int .i64 z.fld, .int .i64 z.val] 30)
        have hz1 := heap_alloc_new wr (.cells #[.int .i64 z.tab, .int .i64 z.hour, .int .i64 z.sign, .int .i64 z.fld, .int .i64 z.val] 30)
        have HK := hid ((unhid HK).below' hb1)
        have HX := hid (NtAt.below (unhid HX) hb1)
        have HY := hid (NtAt.below (unhid HY) hb1)
        have HB := hid ((unhid HB).trans (hb1.mono (unhid HB).size))
        obtain ⟨N, hN⟩ : ∃ N, N = wr.heap.size := ⟨_, rfl⟩
        rw [← hN] at hz1 ⊢
        have HZ := hid (show NtAt _ N z from hz1)
        clear hb1 hz1 hN a0 a1 a2 a3 a4 hbl
        generalize wr.alloc (.cells #[.int .i64 z.tab, .int .i64 z.hour, .int .i64 z.sign, .int .i64 z.fld, .int .i64 z.val] 30) = W2 at *
        obtain ⟨a0, a1, a2, a3, a4⟩ := NtAt.cells (unhid HZ)
        go_wp2_with fail
        refine (write_calls z.tab z.hour z.sign z.fld z.val W2 (unhid HK) (by have := (unhid HW).len; have := unhid HLL; omega) (unhid HZO).1).mono ?_
        rintro e W3 ⟨rfl, hk3, hg3⟩
        have HX := hid ((unhid HX).beside (unhid HK) hg3)
        have HY := hid ((unhid HY).beside (unhid HK) hg3)
        have HW := hid ((unhid HW).write (unhid HK).v z.tab z.hour z.sign z.fld z.val)
        have HK := hid hk3
        have HB := hid ((unhid HB).grown hg3 (unhid HB).size (fun j e => by cases e; exact (unhid HM).1))
        clear hk3 hg3 a0 a1 a2 a3 a4 HZ
        go_wp2_with fail
        go_roundw
        case rel => exact ⟨k + 1, _, by omega, by first | go_num | rw [unhid HW1], unhid HK, unhid HW, unhid HX, unhid HY, unhid HB⟩
        case measure => first | (simp [intOf]; omega) | (rw [unhid HW1]; simp [intOf]; omega)
      · obtain rfl : k = ns.length := by omega
        have HV := hid (unhid HK).v
        have HG := hid (unhid HW).good
        have HC := hid (unhid HW).chain
        have HU1 := hid (show ∀ t, t < 8 → upT S t ≤ 100 from fun t ht => by have := (unhid HW).up t ht; have := unhid HLL; omega)
        have HU := hid (show ∀ t, t < 8 → upT S t ≤ 1000 from fun t ht => by have := unhid HU1 t ht; omega)
        have HLN := hid (show S.length ≤ 10 from Nat.le_trans (unhid HW).len (unhid HLL))
        clear HW HND HNO hlt hk
        go_wp2_with fail
        refine (pwaiting_calls (L := setR S) wr (unhid HK) (by have := unhid HLN; omega) (asc_setR S) (fun r => mem_setR.symm)).mono ?_
        rintro e W2 ⟨v, rfl, hrow, hb⟩
        rw [((unhid HG).perm (fun r => mem_setR.symm)).wait] at hrow
        obtain ⟨Av, cv, rfl, -, -⟩ := own_slice hrow
        have HK := hid ((unhid HK).below' hb)
        have HX := hid (NtAt.below (unhid HX) hb)
        have HY := hid (NtAt.below (unhid HY) hb)
        have HB := hid ((unhid HB).trans (hb.mono (unhid HB).size))
        simp only [List.length_nil]
        clear hrow hb
        go_upto_region 11 with (fail)
        have hXY : X ≠ Y := by have := unhid HXE; omega
        have HNE := hid hXY
        have hYB : w.heap.size ≤ Y := by have := unhid HXE; omega
        have HYB := hid hYB
        have HSF := hid (show ∀ w', NtAt w' X x → (w'.cell? ⟨X, 2, none⟩ = some (.int .i64 x.sign) ∧ w'.cell? ⟨X, 3, none⟩ = some (.int .i64 x.fld)) from fun w' h => ⟨h.cells.2.2.1, h.cells.2.2.2.1⟩)
        have hbd := Below.drew (Below.refl W2.heap.size W2)
        refine wp_region_noPanic ?_
        refine wp_region_E (S := fun w' => (w'.cell? ⟨X, 2, none⟩ = some (.int .i64 x.sign) ∧ w'.cell? ⟨X, 3, none⟩ = some (.int .i64 x.fld))) 7 8 rfl (by kernel_rfl) (by kernel_rfl) ((unhid HSF) _ ((unhid HX).below hbd)) ?_
        intro hSE
        have HK := hid ((unhid HK).below' hbd)
        have HX := hid (NtAt.below (unhid HX) hbd)
        have HY := hid (NtAt.below (unhid HY) hbd)
        have HB := hid ((unhid HB).trans (hbd.mono (unhid HB).size))
        clear hbd hXY hYB
        generalize W2.drew = Wd at *
        (refine WE_take (i := 0) (v := ?_) rfl (by kernel_rfl) (by decide) (by kernel_rfl) (by kernel_rfl) (fun _ _ _ h => h) (by rfl) hSE ?_ ?_; rotate_left; (focus (intro w hSw; (try dsimp only at hSw); go_simp; (try with_reducible rfl))); simp only [Act.put, List.setIfInBounds_toArray, List.set_cons_zero, List.set_cons_succ])
        (refine WE_take (i := 1) (v := ?_) rfl (by kernel_rfl) (by decide) (by kernel_rfl) (by kernel_rfl) (fun _ _ _ h => h) (by rfl) hSE ?_ ?_; rotate_left; (focus (intro w hSw; (try dsimp only at hSw); go_simp; (try with_reducible rfl))); simp only [Act.put, List.setIfInBounds_toArray, List.set_cons_zero, List.set_cons_succ])
        (refine WE_take (i := 2) (v := ?_) rfl (by kernel_rfl) (by decide) (by kernel_rfl) (by kernel_rfl) (fun _ _ _ h => h) (by rfl) hSE ?_ ?_; rotate_left; (focus (intro w hSw; (try dsimp only at hSw); go_simp; (try with_reducible rfl))); simp only [Act.put, List.setIfInBounds_toArray, List.set_cons_zero, List.set_cons_succ])
        (refine WE_take (i := 3) (v := ?_) rfl (by kernel_rfl) (by decide) (by kernel_rfl) (by kernel_rfl) (fun _ _ _ h => h) (by rfl) hSE ?_ ?_; rotate_left; (focus (intro w hSw; (try dsimp only at hSw); go_simp; (try with_reducible rfl))); simp only [Act.put, List.setIfInBounds_toArray, List.set_cons_zero, List.set_cons_succ])
        (refine WE_take (i := 4) (v := ?_) rfl (by kernel_rfl) (by decide) (by kernel_rfl) (by kernel_rfl) (fun _ _ _ h => h) (by rfl) hSE ?_ ?_; rotate_left; (focus (intro w hSw; (try dsimp only at hSw); go_simp; (try with_reducible rfl))); simp only [Act.put, List.setIfInBounds_toArray, List.set_cons_zero, List.set_cons_succ])
        have y2 := (unhid HY).cells.2.2.1
        have fz : Wd.frozen? ⟨Y, 2, none⟩ = false := frozen_of_row _ _ _ _ _ (unhid HY)
        (refine WE_one (i := 5) rfl (by decide) (by kernel_rfl) ?_; intro K hK)
        go_simp
        have HX := hid ((unhid HX).other (i := 2) (v := .int .i64 x.sign) (unhid HNE))
        have HK := hid ((unhid HK).note (i := 2) (v := .int .i64 x.sign) (unhid HY))
        have HY := hid ((unhid HY).set2 x.sign)
        have HB := hid (Below.setCell (unhid HB) (p := ⟨Y, 2, none⟩) (unhid HYB) (.int .i64 x.sign))
        refine hK.out _ _ ((unhid HSF) _ (unhid HX)) ?_
        clear hSE hK K y2 fz
        intro hSE
        (try simp only [Act.put, List.setIfInBounds_toArray, List.set_cons_zero, List.set_cons_succ])
        generalize Wd.setCell ⟨Y, 2, none⟩ (.int .i64 x.sign) = We at *
        (refine WE_take (i := 6) (v := ?_) rfl (by kernel_rfl) (by decide) (by kernel_rfl) (by kernel_rfl) (fun _ _ _ h => h) (by rfl) hSE ?_ ?_; rotate_left; (focus (intro w hSw; (try dsimp only at hSw); go_simp; (try with_reducible rfl))); simp only [Act.put, List.setIfInBounds_toArray, List.set_cons_zero, List.set_cons_succ])
        have y3 := (unhid HY).cells.2.2.2.1
        have fz : We.frozen? ⟨Y, 3, none⟩ = false := frozen_of_row _ _ _ _ _ (unhid HY)
        dsimp only at y3
        (refine WE_last rfl (by kernel_rfl) (by kernel_rfl) (by kernel_rfl) ?_; intro K hK; go_simp; refine hK.out _ _ (NoPanic.normal ?_); clear hK K)
        have HX := hid ((unhid HX).other (i := 3) (v := .int .i64 x.fld) (unhid HNE))
        have HK := hid ((unhid HK).note (i := 3) (v := .int .i64 x.fld) (unhid HY))
        have HY := hid ((unhid HY).set3 x.fld)
        have HB := hid (Below.setCell (unhid HB) (p := ⟨Y, 3, none⟩) (unhid HYB) (.int .i64 x.fld))
        clear hSE y3 fz HSF
        generalize We.setCell ⟨Y, 3, none⟩ (.int .i64 x.fld) = W3 at *
        have HMB := hid (Nat.le_trans (unhid HM).1 (Nat.le_of_lt (unhid HK).lt.2))
        go_wp2_with fail
        refine (pcopy_calls W3 (unhid HK)).mono ?_
        rintro e W4 ⟨rfl, hkc, hb⟩
        obtain ⟨mc, hmc⟩ : ∃ mc, mc = W3.heap.size := ⟨_, rfl⟩
        obtain ⟨Bc, hBc⟩ : ∃ Bc, Bc = W3.heap.size + 1 := ⟨_, rfl⟩
        rw [← hBc] at hkc ⊢
        rw [← hmc] at hkc
        have HKC := hid hkc
        have HMC := hid (show m < mc ∧ w.heap.size ≤ mc from by have := (unhid HK).lt.2; have := (unhid HB).size; omega)
        have HK := hid ((unhid HK).below' hb)
        have HX := hid (NtAt.below (unhid HX) hb)
        have HY := hid (NtAt.below (unhid HY) hb)
        have HB := hid ((unhid HB).trans (hb.mono (unhid HB).size))
        clear hkc hb hmc hBc
        go_wp2_with fail
        refine (pcopy_calls W4 (unhid HK)).mono ?_
        rintro e W5 ⟨rfl, hkd, hb⟩
        obtain ⟨md, hmd⟩ : ∃ md, md = W4.heap.size := ⟨_, rfl⟩
        obtain ⟨Bd, hBd⟩ : ∃ Bd, Bd = W4.heap.size + 1 := ⟨_, rfl⟩
        rw [← hBd] at hkd ⊢
        rw [← hmd] at hkd
        have HKD := hid hkd
        have HMD := hid (show mc < md ∧ w.heap.size ≤ md from by have := (unhid HKC).lt.2; have := (unhid HB).size; omega)
        have HK := hid ((unhid HK).below' hb)
        have HKC := hid ((unhid HKC).below' hb)
        have HX := hid (NtAt.below (unhid HX) hb)
        have HY := hid (NtAt.below (unhid HY) hb)
        have HB := hid ((unhid HB).trans (hb.mono (unhid HB).size))
        clear hkd hb hmd hBd
        obtain ⟨a0, a1, a2, a3, a4⟩ := NtAt.cells (unhid HX)
        go_wp2_with fail
        refine (write_calls x.tab x.hour x.sign x.fld x.val W5 (unhid HKC) (by have := unhid HLN; omega) (unhid HXW).1).mono ?_
        rintro e W6 ⟨rfl, hk6, hg6⟩
        have HX := hid ((unhid HX).beside (unhid HKC) hg6)
        have HY := hid ((unhid HY).beside (unhid HKC) hg6)
        have HK := hid ((unhid HK).beside (unhid HKC) hg6 (by have := unhid HMC; omega))
        have HKD := hid ((unhid HKD).beside (unhid HKC) hg6 (by have := unhid HMD; omega))
        have HKC := hid hk6
        have HB := hid ((unhid HB).grown hg6 (unhid HB).size (fun j e => by cases e; exact (unhid HMC).2))
        obtain ⟨r1, hr1⟩ : ∃ r1, r1 = (writeR S x.tab x.hour x.sign x.fld x.val).1 := ⟨_, rfl⟩
        obtain ⟨E1, hE1⟩ : ∃ E1, E1 = (writeR S x.tab x.hour x.sign x.fld x.val).2.1 := ⟨_, rfl⟩
        obtain ⟨C, hC1⟩ : ∃ C, C = (writeR S x.tab x.hour x.sign x.fld x.val).2.2 := ⟨_, rfl⟩
        rw [← hr1, ← hE1]
        rw [← hC1] at HKC
        have HR1 := hid (show writeR S x.tab x.hour x.sign x.fld x.val = (r1, E1, C) from by rw [hr1, hE1, hC1])
        clear hk6 hg6 hr1 hE1 hC1 a0 a1 a2 a3 a4
        simp only [rcV, rcA]
        go_upto_region 14 with (fail)
        change Code.wp _ _ _ _ (W6.alloc (.cells (rcA r1) 33))
        have hb := below_alloc W6 (.cells (rcA r1) 33)
        have HK := hid ((unhid HK).below' hb)
        have HKC := hid ((unhid HKC).below' hb)
        have HKD := hid ((unhid HKD).below' hb)
        have HX := hid (NtAt.below (unhid HX) hb)
        have HY := hid (NtAt.below (unhid HY) hb)
        have HB := hid ((unhid HB).trans (hb.mono (unhid HB).size))
        clear hb
        generalize W6.alloc (.cells (rcA r1) 33) = W7 at *
        obtain ⟨a0, a1, a2, a3, a4⟩ := NtAt.cells (unhid HY)
        dsimp only at a0 a1 a2 a3 a4
        go_wp2_with fail
        refine (write_calls y.tab y.hour x.sign x.fld y.val W7 (unhid HKD) (by have := unhid HLN; omega) (unhid HYW).1).mono ?_
        rintro e W8 ⟨rfl, hk8, hg8⟩
        have HX := hid ((unhid HX).beside (unhid HKD) hg8)
        have HY := hid ((unhid HY).beside (unhid HKD) hg8)
        have HK := hid ((unhid HK).beside (unhid HKD) hg8 (by have := unhid HMC; have := unhid HMD; omega))
        have HKC := hid ((unhid HKC).beside (unhid HKD) hg8 (by have := unhid HMD; omega))
        have HKD := hid hk8
        have HB := hid ((unhid HB).grown hg8 (unhid HB).size (fun j e => by cases e; exact (unhid HMD).2))
        obtain ⟨r2, hr1⟩ : ∃ r1, r1 = (writeR S y.tab y.hour x.sign x.fld y.val).1 := ⟨_, rfl⟩
        obtain ⟨E2, hE1⟩ : ∃ E1, E1 = (writeR S y.tab y.hour x.sign x.fld y.val).2.1 := ⟨_, rfl⟩
        obtain ⟨D, hC1⟩ : ∃ C, C = (writeR S y.tab y.hour x.sign x.fld y.val).2.2 := ⟨_, rfl⟩
        rw [← hr1, ← hE1]
        rw [← hC1] at HKD
        have HR2 := hid (show writeR S y.tab y.hour x.sign x.fld y.val = (r2, E2, D) from by rw [hr1, hE1, hC1])
        clear hk8 hg8 hr1 hE1 hC1 a0 a1 a2 a3 a4
        simp only [rcV, rcA]
        go_upto_region 15 with (fail)
        change Code.wp _ _ _ _ (W8.alloc (.cells (rcA r2) 33))
        have hb := below_alloc W8 (.cells (rcA r2) 33)
        have HK := hid ((unhid HK).below' hb)
        have HKC := hid ((unhid HKC).below' hb)
        have HKD := hid ((unhid HKD).below' hb)
        have HX := hid (NtAt.below (unhid HX) hb)
        have HY := hid (NtAt.below (unhid HY) hb)
        have HB := hid ((unhid HB).trans (hb.mono (unhid HB).size))
        clear hb
        generalize W8.alloc (.cells (rcA r2) 33) = W9 at *
        have HSF6 := hid (show (btw 1 x.sign 1000000000 && btw 1 x.fld 6) = true from by have h := unhid HFX; simp only [fineB, btw, Bool.and_eq_true, decide_eq_true_eq] at h ⊢; omega)
        have HNX := hid (fine_write (unhid HV) (unhid HG) (unhid HU) (unhid HFX))
        have he := unhid HR1
        rw [(unhid HNX).1] at he
        simp only [Prod.mk.injEq] at he
        obtain ⟨hr, rfl, hCC⟩ := he
        have HN1 := hid (show Nxt S r1 from by rw [← hr]; exact (unhid HNX).2)
        have HF1 := hid (show r1.tab = x.tab ∧ r1.sign = x.sign ∧ r1.fld = x.fld ∧ r1.val = x.val from by rw [← hr]; exact ⟨rfl, rfl, rfl, rfl⟩)
        rw [hr] at hCC
        subst hCC
        have HCL := hid (show (S ++ [r1]).length ≤ 1000000 from by have := unhid HLN; rw [List.length_append, List.length_singleton]; omega)
        have HV1 := hid (show valuesP (S ++ [r1]) x.sign x.fld = [x.val] from by
          have h := (unhid HN1).value (unhid HV) (unhid HG)
          rw [(unhid HF1).2.1, (unhid HF1).2.2.1, (unhid HF1).2.2.2] at h
          exact h)
        clear hr HNX HR1
        obtain ⟨a0, a1, a2, a3, a4⟩ := NtAt.cells (unhid HX)
        have d0 := decide_eq_true (show 1 ≤ x.tab from by have h := unhid HFX; simp only [fineB, btw, Bool.and_eq_true, decide_eq_true_eq] at h; omega)
        have d1 := decide_eq_true (show x.tab ≤ 8 from by have h := unhid HFX; simp only [fineB, btw, Bool.and_eq_true, decide_eq_true_eq] at h; omega)
        have d2 := decide_eq_true (show 0 ≤ x.hour from by have h := unhid HFX; simp only [fineB, btw, Bool.and_eq_true, decide_eq_true_eq] at h; omega)
        have d3 := decide_eq_true (show x.hour ≤ 10000000 from by have h := unhid HFX; simp only [fineB, btw, Bool.and_eq_true, decide_eq_true_eq] at h; omega)
        have d4 := decide_eq_true (show 1 ≤ x.sign from by have h := unhid HFX; simp only [fineB, btw, Bool.and_eq_true, decide_eq_true_eq] at h; omega)
        have d5 := decide_eq_true (show x.sign ≤ 1000000000 from by have h := unhid HFX; simp only [fineB, btw, Bool.and_eq_true, decide_eq_true_eq] at h; omega)
        have d6 := decide_eq_true (show 1 ≤ x.fld from by have h := unhid HFX; simp only [fineB, btw, Bool.and_eq_true, decide_eq_true_eq] at h; omega)
        have d7 := decide_eq_true (show x.fld ≤ 6 from by have h := unhid HFX; simp only [fineB, btw, Bool.and_eq_true, decide_eq_true_eq] at h; omega)
        have d8 := decide_eq_true (show -1099511627776 ≤ x.val from by have h := unhid HFX; simp only [fineB, btw, Bool.and_eq_true, decide_eq_true_eq] at h; omega)
        have d9 := decide_eq_true (show x.val ≤ 1099511627776 from by have h := unhid HFX; simp only [fineB, btw, Bool.and_eq_true, decide_eq_true_eq] at h; omega)
        go_wp2_with fail
        clear d0 d1 d2 d3 d4 d5 d6 d7 d8 d9 a0 a1 a2 a3 a4
        refine (pvalues_calls x.sign x.fld _ (BkAt.asc (unhid HKC)) (asc_setR _) (Nat.le_trans (len_setR _) (unhid HCL))).mono ?_
        rintro e w3 ⟨v, rfl, hown, hb⟩
        rw [unhid HSF6] at hown ⊢
        simp only [if_true] at hown ⊢
        rw [valuesP_congr (fun r => mem_setR) x.sign x.fld, unhid HV1] at hown
        obtain ⟨Av, cv, rfl, hrd, -⟩ := own_slice hown
        have HK := hid ((unhid HK).below' hb)
        have HKC := hid ((unhid HKC).below' hb)
        have HKD := hid ((unhid HKD).below' hb)
        have HX := hid (NtAt.below (unhid HX) hb)
        have HY := hid (NtAt.below (unhid HY) hb)
        have HB := hid ((unhid HB).trans (hb.mono (unhid HB).size))
        obtain ⟨b, off, rfl, hbl, hc⟩ := hrd (by simp [ints])
        have i0 : w3.cell? ⟨b, off, none⟩ = some (.int .i64 x.val) := hc 0 _ rfl
        have m0 := fun p : After w3 => After.cell (by dsimp only; exact hbl) i0 p
        have m1 := fun p : After w3 => After.cell (by dsimp only; exact lt_of_heap (unhid HX)) (unhid HX).cells.2.2.2.2 p
        have hnn : (x.val != x.val) = false := by simp
        clear hown hrd hb hc i0 hbl
        go_upto_region 19 with (fail)
        (refine wp_region_below (by kernel_rfl) (by kernel_rfl) ?_; (repeat (go_big_quiet_step (first | fail))); refine wpQuiet_nil ?_; intro wq hw'; obtain ⟨⟨wq2, hbq⟩, hw''⟩ := hw'; dsimp only at hw''; subst hw'')
        have HK := hid ((unhid HK).below' hbq)
        have HKC := hid ((unhid HKC).below' hbq)
        have HKD := hid ((unhid HKD).below' hbq)
        have HX := hid (NtAt.below (unhid HX) hbq)
        have HY := hid (NtAt.below (unhid HY) hbq)
        have HB := hid ((unhid HB).trans (hbq.mono (unhid HB).size))
        clear hbq m0 m1 hnn
        obtain ⟨a0, a1, a2, a3, a4⟩ := NtAt.cells (unhid HX)
        obtain ⟨e0, e1, e2, e3, e4⟩ := NtAt.cells (unhid HY)
        dsimp only at e0 e1 e2 e3 e4
        have HNY := hid (fine_write (unhid HV) (unhid HG) (unhid HU) (unhid HFY))
        have he := unhid HR2
        rw [(unhid HNY).1] at he
        simp only [Prod.mk.injEq] at he
        obtain ⟨hr, rfl, hCC⟩ := he
        have HN2 := hid (show Nxt S r2 from by rw [← hr]; exact (unhid HNY).2)
        have HF2 := hid (show r2.tab = y.tab ∧ r2.sign = x.sign ∧ r2.fld = x.fld ∧ r2.val = y.val from by rw [← hr]; exact ⟨rfl, rfl, rfl, rfl⟩)
        rw [hr] at hCC
        subst hCC
        have HDL := hid (show (S ++ [r2]).length ≤ 11 ∧ (S ++ [r1]).length ≤ 11 from by have := unhid HLN; simp only [List.length_append, List.length_singleton]; omega)
        clear hr HNY HR2
        have q1 : (x.tab == y.tab) = false := by have := unhid HET; simp [this]
        go_wp2_with fail
        refine (join_calls _ (unhid HKC) (unhid HKD) (by have := unhid HMD; omega) (by have := unhid HDL; omega)).mono ?_
        rintro e w4 ⟨E, rfl, hk4, hm4, hl4, hg4⟩
        have HX := hid ((unhid HX).beside (unhid HKC) hg4)
        have HY := hid ((unhid HY).beside (unhid HKC) hg4)
        have HK := hid ((unhid HK).beside (unhid HKC) hg4 (by have := unhid HMC; omega))
        have HKC := hid hk4
        have HB := hid ((unhid HB).grown hg4 (unhid HB).size (fun j e => by cases e; exact (unhid HMC).2))
        have HBO := hid (show Both S E r1 r2 from ⟨unhid HN1, unhid HN2, by
          have o1 := (rc_ok (unhid HN1).v).tb
          have o2 := (rc_ok (unhid HN2).v).tb
          have h1 := (unhid HF1).1
          have h2 := (unhid HF2).1
          have h3 := unhid HET
          omega, fun r => by
          rw [hm4 r]
          simp only [List.mem_append, List.mem_singleton]
          constructor
          · rintro ((h | h) | (h | h))
            · exact .inl h
            · exact .inr (.inl h)
            · exact .inl h
            · exact .inr (.inr h)
          · rintro (h | h | h)
            · exact .inl (.inl h)
            · exact .inl (.inr h)
            · exact .inr (.inr h)⟩)
        have HEL := hid (show E.length ≤ 22 from by have := unhid HDL; omega)
        have HEG := hid ((unhid HBO).good (unhid HV) (unhid HG))
        have HEVA := hid ((unhid HBO).valid (unhid HV))
        have HVE := hid (show valuesP E x.sign x.fld = [min x.val y.val, max x.val y.val] from by
          have h := (unhid HBO).values (unhid HV) (unhid HG) (by rw [(unhid HF2).2.1, (unhid HF1).2.1]) (by rw [(unhid HF2).2.2.1, (unhid HF1).2.2.1])
          rw [(unhid HF1).2.1, (unhid HF1).2.2.1, (unhid HF1).2.2.2, (unhid HF2).2.2.2] at h
          rw [h, if_neg (unhid HEV)])
        clear hk4 hm4 hl4 hg4 q1 a0 a1 a2 a3 a4 e0 e1 e2 e3 e4
        obtain ⟨a0, a1, a2, a3, a4⟩ := NtAt.cells (unhid HX)
        go_wp2_with fail
        clear a0 a1 a2 a3 a4
        refine (pvalues_calls x.sign x.fld _ (BkAt.asc (unhid HKC)) (asc_setR _) (Nat.le_trans (len_setR _) (by have := unhid HEL; omega))).mono ?_
        rintro e w3 ⟨v, rfl, hown, hb⟩
        rw [unhid HSF6] at hown ⊢
        simp only [if_true] at hown ⊢
        rw [valuesP_congr (fun r => mem_setR) x.sign x.fld, unhid HVE] at hown
        obtain ⟨Av, cv, rfl, hrd, -⟩ := own_slice hown
        have HK := hid ((unhid HK).below' hb)
        have HKC := hid ((unhid HKC).below' hb)
        have HX := hid (NtAt.below (unhid HX) hb)
        have HY := hid (NtAt.below (unhid HY) hb)
        have HB := hid ((unhid HB).trans (hb.mono (unhid HB).size))
        have HRV := hid hrd
        clear hown hrd hb
        go_wp2_with fail
        refine (pwaiting_calls (L := setR E) _ (unhid HKC) (by have := unhid HEL; omega) (asc_setR E) (fun r => mem_setR.symm)).mono ?_
        rintro e w5 ⟨v, rfl, hrow, hb⟩
        rw [((unhid HEG).perm (fun r => mem_setR.symm)).wait] at hrow
        obtain ⟨Aw, cw, rfl, -, -⟩ := own_slice hrow
        have HK := hid ((unhid HK).below' hb)
        have HKC := hid ((unhid HKC).below' hb)
        have HX := hid (NtAt.below (unhid HX) hb)
        have HY := hid (NtAt.below (unhid HY) hb)
        have HB := hid ((unhid HB).trans (hb.mono (unhid HB).size))
        have HRV := hid ((unhid HRV).below hb)
        simp only [List.length_nil]
        clear hrow hb
        obtain ⟨a0, a1, a2, a3, a4⟩ := NtAt.cells (unhid HX)
        obtain ⟨e0, e1, e2, e3, e4⟩ := NtAt.cells (unhid HY)
        dsimp only at e0 e1 e2 e3 e4
        obtain ⟨mn, hmn⟩ : ∃ mn, min x.val y.val = mn := ⟨_, rfl⟩
        obtain ⟨mx, hmx⟩ : ∃ mx, max x.val y.val = mx := ⟨_, rfl⟩
        have HMN := hid (⟨hmn, hmx⟩ : _ ∧ _)
        go_upto_region 28 with (fail)
        have hb := below_alloc w5 (.cells #[.int .i64 mn, .int .i64 mx] 3)
        have hq := heap_alloc_new w5 (.cells #[.int .i64 mn, .int .i64 mx] 3)
        obtain ⟨Q, hQ⟩ : ∃ Q, Q = w5.heap.size := ⟨_, rfl⟩
        rw [← hQ] at hq ⊢
        have HQ := hid hq
        have HK := hid ((unhid HK).below' hb)
        have HKC := hid ((unhid HKC).below' hb)
        have HX := hid (NtAt.below (unhid HX) hb)
        have HY := hid (NtAt.below (unhid HY) hb)
        have HB := hid ((unhid HB).trans (hb.mono (unhid HB).size))
        have HRV := hid ((unhid HRV).below hb)
        clear hb hq hQ hmn hmx a0 a1 a2 a3 a4 e0 e1 e2 e3 e4
        generalize w5.alloc (.cells #[.int .i64 mn, .int .i64 mx] 3) = W6 at *
        have HRW := hid (show Rd W6 (some ⟨Q, 0, none⟩) (ints [mn, mx]) from fun _ => ⟨Q, 0, rfl, lt_of_heap (unhid HQ), fun j u hu => by
          rw [Nat.zero_add, cell_of_row _ Q j _ _ _ (unhid HQ)]
          match j, hu with
          | 0, hu => simpa [ints] using hu
          | 1, hu => simpa [ints] using hu
          | j + 2, hu => simp [ints] at hu⟩)
        obtain ⟨a0, a1, a2, a3, a4⟩ := NtAt.cells (unhid HX)
        obtain ⟨e0, e1, e2, e3, e4⟩ := NtAt.cells (unhid HY)
        dsimp only at e0 e1 e2 e3 e4
        have q2 : (x.val == y.val) = false := by have := unhid HEV; simp [this]
        go_wp2_with fail
        clear a0 a1 a2 a3 a4 e0 e1 e2 e3 e4 q2
        refine (sameInts_calls [min x.val y.val, max x.val y.val] [mn, mx] Av (some ⟨Q, 0, none⟩) cv 2 W6 (unhid HRV) (unhid HRW) (by simp)).mono ?_
        rintro e w7 ⟨rfl, hb⟩
        rw [decide_eq_true (show [min x.val y.val, max x.val y.val] = [mn, mx] from by have h := (unhid HMN).1; have hh := (unhid HMN).2; rw [h, hh])]
        have HK := hid ((unhid HK).below' hb)
        have HKC := hid ((unhid HKC).below' hb)
        have HX := hid (NtAt.below (unhid HX) hb)
        have HY := hid (NtAt.below (unhid HY) hb)
        have HB := hid ((unhid HB).trans (hb.mono (unhid HB).size))
        clear hb HRV HRW HQ
        go_wp2_with fail
        refine (disputes_calls (L := setR S) _ (unhid HK) (by have := unhid HLN; omega) (asc_setR S) (fun r => mem_setR.symm)).mono ?_
        rintro e w8 ⟨v, Db, rfl, hd, -, hrow, hb⟩
        obtain rfl : Db = [] := List.eq_nil_iff_forall_not_mem.2 fun c hc => by
          have h := (hd.2 c).1 hc
          rw [valuesP_congr (fun r => mem_setR)] at h
          have := (unhid HG).no_disp (unhid HC) c
          omega
        obtain ⟨A8, c8, rfl, -, -⟩ := own_slice hrow
        have HKC := hid ((unhid HKC).below' hb)
        have HX := hid (NtAt.below (unhid HX) hb)
        have HY := hid (NtAt.below (unhid HY) hb)
        have HB := hid ((unhid HB).trans (hb.mono (unhid HB).size))
        simp only [List.length_nil]
        clear hrow hb hd HK
        have HDE := hid (fun (Dd : List (Int × Int)) (hd : DispIs (setR E) Dd) => (show Dd = [(x.sign, x.fld)] from by
          have h := (unhid HBO).disp (unhid HV) (unhid HG) (unhid HC) (by rw [(unhid HF2).2.1, (unhid HF1).2.1]) (by rw [(unhid HF2).2.2.1, (unhid HF1).2.2.1]) hd.1 (fun c => by rw [hd.2 c, valuesP_congr (fun r => mem_setR)])
          rw [(unhid HF1).2.1, (unhid HF1).2.2.1, (unhid HF1).2.2.2, (unhid HF2).2.2.2] at h
          rw [h, if_neg (unhid HEV)]))
        go_wp2_with fail
        refine (disputes_calls (L := setR E) _ (unhid HKC) (by have := unhid HEL; omega) (asc_setR E) (fun r => mem_setR.symm)).mono ?_
        rintro e w10 ⟨v, Dc, rfl, hd, -, hrow, hb⟩
        obtain rfl := unhid HDE Dc hd
        obtain ⟨A10, c10, rfl, -, -⟩ := own_slice hrow
        have HKC := hid ((unhid HKC).below' hb)
        have HX := hid (NtAt.below (unhid HX) hb)
        have HY := hid (NtAt.below (unhid HY) hb)
        have HB := hid ((unhid HB).trans (hb.mono (unhid HB).size))
        simp only [List.length_nil, List.length_singleton]
        clear hrow hb hd
        go_wp2_with fail
        refine (disputes_calls (L := setR E) _ (unhid HKC) (by have := unhid HEL; omega) (asc_setR E) (fun r => mem_setR.symm)).mono ?_
        rintro e w11 ⟨v, Dc, rfl, hd, -, hrow, hb⟩
        obtain rfl := unhid HDE Dc hd
        obtain ⟨A11, c11, rfl, -, -⟩ := own_slice hrow
        have HKC := hid ((unhid HKC).below' hb)
        have HX := hid (NtAt.below (unhid HX) hb)
        have HY := hid (NtAt.below (unhid HY) hb)
        have HB := hid ((unhid HB).trans (hb.mono (unhid HB).size))
        simp only [List.length_nil, List.length_singleton]
        clear hrow hb hd
        obtain ⟨a0, a1, a2, a3, a4⟩ := NtAt.cells (unhid HX)
        obtain ⟨e0, e1, e2, e3, e4⟩ := NtAt.cells (unhid HY)
        dsimp only at e0 e1 e2 e3 e4
        have HNZ := hid (fine_write (unhid HEVA) (unhid HEG) (fun t ht => by have := (unhid HBO).up (unhid HV) (unhid HG) (n := 100) (by omega) (unhid HU1) ht; omega) (tab := y.tab) (hour := y.hour) (sign := x.sign) (fld := x.fld) (val := x.val) (by
          have h1 := unhid HFX
          have h2 := unhid HFY
          simp only [fineB, Bool.and_eq_true] at h1 h2 ⊢
          exact ⟨⟨⟨⟨h2.1.1.1.1, h2.1.1.1.2⟩, h1.1.1.2⟩, h1.1.2⟩, h1.2⟩))
        go_wp2_with fail
        refine (write_calls y.tab y.hour x.sign x.fld x.val _ (unhid HKC) (by have := unhid HEL; omega) (unhid HYW).1).mono ?_
        rintro e w12 ⟨rfl, hk12, hg12⟩
        rw [(unhid HNZ).1] at hk12 ⊢
        have HX := hid ((unhid HX).beside (unhid HKC) hg12)
        have HKC := hid hk12
        have HB := hid ((unhid HB).grown hg12 (unhid HB).size (fun j e => by cases e; exact (unhid HMC).2))
        have HV3 := hid (show valuesP (E ++ [newR (upT E) y.tab y.hour x.sign x.fld x.val]) x.sign x.fld = [x.val] from (unhid HNZ).2.value (unhid HEVA) (unhid HEG))
        clear hk12 hg12 a0 a1 a2 a3 a4 e0 e1 e2 e3 e4
        simp only [rcV, rcA]
        obtain ⟨a0, a1, a2, a3, a4⟩ := NtAt.cells (unhid HX)
        go_wp2_with fail
        clear a0 a1 a2 a3 a4
        refine (pvalues_calls x.sign x.fld _ (BkAt.asc (unhid HKC)) (asc_setR _) (Nat.le_trans (len_setR _) (by have := unhid HEL; rw [List.length_append, List.length_singleton]; omega))).mono ?_
        rintro e w3 ⟨v, rfl, hown, hb⟩
        rw [unhid HSF6] at hown ⊢
        simp only [if_true] at hown ⊢
        rw [valuesP_congr (fun r => mem_setR) x.sign x.fld, unhid HV3] at hown
        obtain ⟨Av, cv, rfl, hrd, -⟩ := own_slice hown
        have HX := hid (NtAt.below (unhid HX) hb)
        have HB := hid ((unhid HB).trans (hb.mono (unhid HB).size))
        obtain ⟨b, off, rfl, hbl, hc⟩ := hrd (by simp [ints])
        have i0 : w3.cell? ⟨b, off, none⟩ = some (.int .i64 x.val) := hc 0 _ rfl
        have m0 := fun p : After w3 => After.cell (by dsimp only; exact hbl) i0 p
        have m1 := fun p : After w3 => After.cell (by dsimp only; exact lt_of_heap (unhid HX)) (unhid HX).cells.2.2.2.2 p
        have hnn : (x.val == x.val) = true := by simp
        clear hown hrd hb hc i0 hbl
        go_upto_region 34 with (fail)
        (refine wp_region_below (by kernel_rfl) (by kernel_rfl) ?_; (repeat (go_big_quiet_step (first | (go_at_call 13; exact Calls.after_of (first_calls _))))); refine wpQuiet_nil ?_; intro wq hw'; obtain ⟨⟨wq2, hbq⟩, hw''⟩ := hw'; dsimp only at hw''; subst hw'')
        have HB := hid ((unhid HB).trans (hbq.mono (unhid HB).size))
        clear hbq m0 m1 hnn
        go_wp2_with fail
        go_ret
        exact ⟨rfl, unhid HB⟩

theorem ldecides_calls (ns : List Nt) (An : Option Addr) (cn : Nat) (x y : Nt) (w : World) (hn : NtsIn w An ns cn) (hx : NtW x) (hy : NtW y) :
    Calls Try.prog 10 #[.slice An ns.length cn, .agg #[.int .i64 x.tab, .int .i64 x.hour, .int .i64 x.sign, .int .i64 x.fld, .int .i64 x.val], .agg #[.int .i64 y.tab, .int .i64 y.hour, .int .i64 y.sign, .int .i64 y.fld, .int .i64 y.val]] w fun e w' => e = .returned (.bool true) ∧ Below w.heap.size w w' := by
  by_cases g0 : 1 ≤ x.tab
  case neg => exact ldec_bad0 ns An cn x y w hn hx hy g0
  by_cases g1 : x.tab ≤ 8
  case neg => exact ldec_bad1 ns An cn x y w hn hx hy g0 g1
  by_cases g2 : 0 ≤ x.hour
  case neg => exact ldec_bad2 ns An cn x y w hn hx hy g0 g1 g2
  by_cases g3 : x.hour ≤ 10000000
  case neg => exact ldec_bad3 ns An cn x y w hn hx hy g0 g1 g2 g3
  by_cases g4 : 1 ≤ x.sign
  case neg => exact ldec_bad4 ns An cn x y w hn hx hy g0 g1 g2 g3 g4
  by_cases g5 : x.sign ≤ 1000000000
  case neg => exact ldec_bad5 ns An cn x y w hn hx hy g0 g1 g2 g3 g4 g5
  by_cases g6 : 1 ≤ x.fld
  case neg => exact ldec_bad6 ns An cn x y w hn hx hy g0 g1 g2 g3 g4 g5 g6
  by_cases g7 : x.fld ≤ 6
  case neg => exact ldec_bad7 ns An cn x y w hn hx hy g0 g1 g2 g3 g4 g5 g6 g7
  by_cases g8 : -1099511627776 ≤ x.val
  case neg => exact ldec_bad8 ns An cn x y w hn hx hy g0 g1 g2 g3 g4 g5 g6 g7 g8
  by_cases g9 : x.val ≤ 1099511627776
  case neg => exact ldec_bad9 ns An cn x y w hn hx hy g0 g1 g2 g3 g4 g5 g6 g7 g8 g9
  have hfx : fineB x.tab x.hour x.sign x.fld x.val = true := by
    simp only [fineB, btw, Bool.and_eq_true, decide_eq_true_eq]
    omega
  cases hfy : fineB y.tab y.hour x.sign x.fld y.val with
  | false => exact ldec_ybad ns An cn x y w hn hx hy hfx hfy
  | true =>
    by_cases het : x.tab = y.tab
    · exact ldec_same ns An cn x y w hn hx hy hfx hfy het
    · by_cases hev : x.val = y.val
      · exact ldec_both1 ns An cn x y w hn hx hy hfx hfy het hev
      · exact ldec_both2 ns An cn x y w hn hx hy hfx hfy het hev

end Go.Proofs.Ytegghimjmbgghaa
