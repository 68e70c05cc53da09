/-
  The law BookDecides.
-/
import Derived.Test.YtegghimjmbgghaaBkDc
import Derived.Test.YtegghimjmbgghaaBkDp
import Derived.Test.YtegghimjmbgghaaBkIs
import Derived.Test.YtegghimjmbgghaaBkJn
import Derived.Deep.DeepCutAuto
set_option linter.unusedSimpArgs false
set_option linter.unusedVariables false
namespace Go.Proofs.Ytegghimjmbgghaa
open Go.RowKit Go.Shelf

/-- A note in a block. -/
def NtAt (w : World) (B : Nat) (n : Nt) : Prop := w.heap[B]? = some (.cells #[.int .i64 n.tab, .int .i64 n.hour, .int .i64 n.sign, .int .i64 n.fld, .int .i64 n.val] 30 (0, 0))
theorem NtAt.below {w w' : World} {B : Nat} {n : Nt} (h : NtAt w B n) (hb : Below w.heap.size w w') : NtAt w' B n := (hb.block B (lt_of_heap h)).trans h
theorem NtAt.cells {w : World} {B : Nat} {n : Nt} (h : NtAt w B n) : w.cell? ⟨B, 0, none⟩ = some (.int .i64 n.tab) ∧ w.cell? ⟨B, 1, none⟩ = some (.int .i64 n.hour) ∧ w.cell? ⟨B, 2, none⟩ = some (.int .i64 n.sign) ∧ w.cell? ⟨B, 3, none⟩ = some (.int .i64 n.fld) ∧ w.cell? ⟨B, 4, none⟩ = some (.int .i64 n.val) :=
  ⟨cell_of_row _ B 0 _ _ _ h, cell_of_row _ B 1 _ _ _ h, cell_of_row _ B 2 _ _ _ h, cell_of_row _ B 3 _ _ _ h, cell_of_row _ B 4 _ _ _ h⟩
theorem NtAt.beside {w w' : World} {X B m : Nat} {n : Nt} {S : List Rc} (h : NtAt w X n) (hk : BkAt w B m S) (hg : w.grownBy w' (some m)) : NtAt w' X n :=
  (hg.block X (lt_of_heap h) (fun e => by
    have := Option.some.inj e
    subst this
    obtain ⟨es, c, hm⟩ := GMap.isMap hk.m
    unfold NtAt at h
    rw [hm] at h
    cases h)).trans h
theorem Both.up {S E : List Rc} {x y : Rc} (h : Both S E x y) (hv : ∀ r ∈ S, rcB r = true) (hG : Good S) {n : Int} (hn : 0 ≤ n) (hu : ∀ t, t < 8 → upT S t ≤ n) {t : Nat} (ht : t < 8) : upT E t ≤ n + 1 := by
  rcases Int.lt_or_le 0 (upT E t) with h0 | h0
  · obtain ⟨q, e1, e2, hc⟩ := (upT_up E).cnt t ht _ (by omega) (Int.le_refl _)
    rcases (h.mem q).1 hc.mem with hq | hq | hq
    · have h1 := hG.up hv hq
      have h2 := hu t ht
      rw [e1] at h1
      omega
    · have h1 := h.hx.num
      rw [← hq, e1] at h1
      have h2 := hu t ht
      omega
    · have h1 := h.hy.num
      rw [← hq, e1] at h1
      have h2 := hu t ht
      omega
  · omega
theorem NtAt.set2 {w : World} {B : Nat} {n : Nt} (h : NtAt w B n) (s : Int) : NtAt (w.setCell ⟨B, 2, none⟩ (.int .i64 s)) B ⟨n.tab, n.hour, s, n.fld, n.val⟩ := heap_setCell_same _ B 2 _ _ (.int .i64 s) h
theorem NtAt.set3 {w : World} {B : Nat} {n : Nt} (h : NtAt w B n) (s : Int) : NtAt (w.setCell ⟨B, 3, none⟩ (.int .i64 s)) B ⟨n.tab, n.hour, n.sign, s, n.val⟩ := heap_setCell_same _ B 3 _ _ (.int .i64 s) h
theorem NtAt.other {w : World} {X Y i : Nat} {n : Nt} {v : Value} (h : NtAt w X n) (hne : X ≠ Y) : NtAt (w.setCell ⟨Y, i, none⟩ v) X n := (heap_setCell_other _ _ _ _ hne).trans h
theorem BkAt.note {w : World} {X B m i : Nat} {n : Nt} {S : List Rc} {v : Value} (h : BkAt w B m S) (hx : NtAt w X n) : BkAt (w.setCell ⟨X, i, none⟩ v) B m S :=
  h.grown (setCell_grown w hx (i := i) v) (fun e => by
    have := Option.some.inj e
    subst this
    have h1 := h.b
    unfold NtAt at hx
    rw [hx] at h1
    simp at h1) (fun e => by
    have := Option.some.inj e
    subst this
    obtain ⟨es, c, hm⟩ := GMap.isMap h.m
    unfold NtAt at hx
    rw [hm] at hx
    cases hx)
/-- A book beside one that changes. -/
theorem BkAt.beside {w w' : World} {B m B' m' : Nat} {S S' : List Rc} (h' : BkAt w B' m' S') (h : BkAt w B m S) (hg : w.grownBy w' (some m)) (hne : m' ≠ m) : BkAt w' B' m' S' :=
  h'.grown hg (fun e => by
    have := Option.some.inj e
    subst this
    obtain ⟨es, c, hm⟩ := GMap.isMap h.m
    rw [h'.b] at hm
    cases hm) (fun e => hne (Option.some.inj e))
theorem BkAt.asc {w : World} {B m : Nat} {S : List Rc} (h : BkAt w B m S) : BkAt w B m (setR S) :=
  h.perm ((List.perm_ext_iff_of_nodup (RSet.nodup h.m) (asc_setR S).nodup).2 fun r => mem_setR.symm)

set_option maxHeartbeats 16000000 in
set_option maxRecDepth 100000 in
theorem ldec_bad0 (ns : List Nt) (An : Option Addr) (cn : Nat) (x y : Nt) (w : World) (hn : NtsIn w An ns cn) (hx : NtW x) (hy : NtW y)  (g0 : ¬ 1 ≤ x.tab) :
    Calls Try.prog 10 #[.slice An ns.length cn, .agg #[.int .i64 x.tab, .int .i64 x.hour, .int .i64 x.sign, .int .i64 x.fld, .int .i64 x.val], .agg #[.int .i64 y.tab, .int .i64 y.hour, .int .i64 y.sign, .int .i64 y.fld, .int .i64 y.val]] w fun e w' => e = .returned (.bool true) ∧ Below w.heap.size w w' := by
  have HFI := hid (show fineB x.tab x.hour x.sign x.fld x.val = false from by rw [Bool.eq_false_iff]; intro h; simp only [fineB, btw, Bool.and_eq_true, decide_eq_true_eq] at h; omega)
  have HG0 := hid g0
  clear g0
  have HNO := hid hn.ok
  have HND := hid hn.rd
  have HXW := hid hx
  have HYW := hid hy
  have hb0 := below_alloc w (.cells #[.int .i64 x.tab, .int .i64 x.hour, .int .i64 x.sign, .int .i64 x.fld, .int .i64 x.val] 30)
  have hx0 := heap_alloc_new w (.cells #[.int .i64 x.tab, .int .i64 x.hour, .int .i64 x.sign, .int .i64 x.fld, .int .i64 x.val] 30)
  have hs0 : (w.alloc (.cells #[.int .i64 x.tab, .int .i64 x.hour, .int .i64 x.sign, .int .i64 x.fld, .int .i64 x.val] 30)).heap.size = w.heap.size + 1 := by simp
  have hb1 := below_alloc (w.alloc (.cells #[.int .i64 x.tab, .int .i64 x.hour, .int .i64 x.sign, .int .i64 x.fld, .int .i64 x.val] 30)) (.cells #[.int .i64 y.tab, .int .i64 y.hour, .int .i64 y.sign, .int .i64 y.fld, .int .i64 y.val] 30)
  have hy0 := heap_alloc_new (w.alloc (.cells #[.int .i64 x.tab, .int .i64 x.hour, .int .i64 x.sign, .int .i64 x.fld, .int .i64 x.val] 30)) (.cells #[.int .i64 y.tab, .int .i64 y.hour, .int .i64 y.sign, .int .i64 y.fld, .int .i64 y.val] 30)
  rw [hs0] at hy0
  clear hn hx hy
  go_enter Try.func10, Try.ntmps10
  go_upto_region 1 with (fail)
  change Code.wp _ _ _ _ ((w.alloc (.cells #[.int .i64 x.tab, .int .i64 x.hour, .int .i64 x.sign, .int .i64 x.fld, .int .i64 x.val] 30)).alloc (.cells #[.int .i64 y.tab, .int .i64 y.hour, .int .i64 y.sign, .int .i64 y.fld, .int .i64 y.val] 30))
  have HX := hid (show NtAt _ w.heap.size x from (hb1.block _ (by omega)).trans hx0)
  have HY := hid (show NtAt _ (w.heap.size + 1) y from hy0)
  have HB := hid (hb0.trans (hb1.mono hb0.size))
  clear hb0 hx0 hb1 hy0 hs0
  generalize (w.alloc (.cells #[.int .i64 x.tab, .int .i64 x.hour, .int .i64 x.sign, .int .i64 x.fld, .int .i64 x.val] 30)).alloc (.cells #[.int .i64 y.tab, .int .i64 y.hour, .int .i64 y.sign, .int .i64 y.fld, .int .i64 y.val] 30) = W0 at *
  obtain ⟨X, hX⟩ : ∃ X, X = w.heap.size := ⟨_, rfl⟩
  obtain ⟨Y, hY⟩ : ∃ Y, Y = w.heap.size + 1 := ⟨_, rfl⟩
  rw [← hX] at HX
  rw [← hY] at HY
  rw [← hY, ← hX]
  have HXE := hid (⟨hX, hY⟩ : X = w.heap.size ∧ Y = w.heap.size + 1)
  clear hX hY
  by_cases h1 : 10 < ns.length
  · have hni : (10 : Int) < (ns.length : Int) := by omega
    go_wp2_with fail
    refine (first_calls _).mono ?_
    rintro e w9 ⟨rfl, hb9⟩
    have HB := hid ((unhid HB).trans (hb9.mono (unhid HB).size))
    clear hb9
    go_wp2_with fail
    go_ret
    exact ⟨rfl, unhid HB⟩
  · have hni : ¬ (10 : Int) < (ns.length : Int) := by omega
    have HLL := hid (show ns.length ≤ 10 from by omega)
    clear h1
    go_wp2_with fail
    refine (bookNew_calls W0).mono ?_
    rintro e W1 ⟨rfl, hk1, hb1⟩
    obtain ⟨m, hm⟩ : ∃ m, m = W0.heap.size := ⟨_, rfl⟩
    obtain ⟨B, hB⟩ : ∃ B, B = W0.heap.size + 1 := ⟨_, rfl⟩
    rw [← hB] at hk1 ⊢
    rw [← hm] at hk1
    have HK := hid hk1
    have HM := hid (show w.heap.size ≤ m ∧ w.heap.size ≤ W0.heap.size from by have := (unhid HB).size; omega)
    have HX := hid (NtAt.below (unhid HX) hb1)
    have HY := hid (NtAt.below (unhid HY) hb1)
    have HB := hid ((unhid HB).trans (hb1.mono (unhid HB).size))
    clear hk1 hb1 hm hB hni
    go_upto_region 5 with (fail)
    go_loopw [8] (fun iv wr => ∃ (k : Nat) (S : List Rc), k ≤ ns.length ∧ iv = .int .i64 k ∧ BkAt wr B m S ∧ Wn [] S k ∧ NtAt wr X x ∧ NtAt wr Y y ∧ Below w.heap.size w wr) (fun iv _ => ns.length - (intOf iv).toNat)
    case atStart => exact ⟨0, [], Nat.zero_le _, rfl, unhid HK, Wn.nil, unhid HX, unhid HY, unhid HB⟩
    case round =>
      clear HK HX HY HB
      obtain ⟨k, S, hk, rfl, hbk, hw, hx, hy, hb⟩ := hrel
      have HK := hid hbk
      have HW := hid hw
      have HX := hid hx
      have HY := hid hy
      have HB := hid hb
      clear hbk hw hx hy hb
      by_cases hlt : k < ns.length
      · have hki : (k : Int) < (ns.length : Int) := by omega
        obtain ⟨b, off, hAe, hbl, hc⟩ := ((unhid HND).below (unhid HB)) (nts_ne hlt)
        subst hAe
        obtain ⟨z, hz⟩ : ∃ z, ns[k]'hlt = z := ⟨_, rfl⟩
        have HZO := hid (unhid HNO z (hz ▸ List.getElem_mem hlt))
        obtain ⟨a0, a1, a2, a3, a4⟩ := nts_cells hc hlt hz
        have HW1 := hid (show wrap64 ((k : Int) + 1) = ((k + 1 : Nat) : Int) from by have h1 := unhid HLL; unfold wrap64; omega)
        clear hc hz
        go_upto_region 8 with (fail)
        have hb1 := below_alloc wr (.cells #[.int .i64 z.tab, .int .i64 z.hour, .int .i64 z.sign, .int .i64 z.fld, .int .i64 z.val] 30)
        have hz1 := heap_alloc_new wr (.cells #[.int .i64 z.tab, .int .i64 z.hour, .int .i64 z.sign, .int .i64 z.fld, .int .i64 z.val] 30)
        have HK := hid ((unhid HK).below' hb1)
        have HX := hid (NtAt.below (unhid HX) hb1)
        have HY := hid (NtAt.below (unhid HY) hb1)
        have HB := hid ((unhid HB).trans (hb1.mono (unhid HB).size))
        obtain ⟨N, hN⟩ : ∃ N, N = wr.heap.size := ⟨_, rfl⟩
        rw [← hN] at hz1 ⊢
        have HZ := hid (show NtAt _ N z from hz1)
        clear hb1 hz1 hN a0 a1 a2 a3 a4 hbl
        generalize wr.alloc (.cells #[.int .i64 z.tab, .int .i64 z.hour, .int .i64 z.sign, .int .i64 z.fld, .int .i64 z.val] 30) = W2 at *
        obtain ⟨a0, a1, a2, a3, a4⟩ := NtAt.cells (unhid HZ)
        go_wp2_with fail
        refine (write_calls z.tab z.hour z.sign z.fld z.val W2 (unhid HK) (by have := (unhid HW).len; have := unhid HLL; omega) (unhid HZO).1).mono ?_
        rintro e W3 ⟨rfl, hk3, hg3⟩
        have HX := hid ((unhid HX).beside (unhid HK) hg3)
        have HY := hid ((unhid HY).beside (unhid HK) hg3)
        have HW := hid ((unhid HW).write (unhid HK).v z.tab z.hour z.sign z.fld z.val)
        have HK := hid hk3
        have HB := hid ((unhid HB).grown hg3 (unhid HB).size (fun j e => by cases e; exact (unhid HM).1))
        clear hk3 hg3 a0 a1 a2 a3 a4 HZ
        go_wp2_with fail
        go_roundw
        case rel => exact ⟨k + 1, _, by omega, by first | go_num | rw [unhid HW1], unhid HK, unhid HW, unhid HX, unhid HY, unhid HB⟩
        case measure => first | (simp [intOf]; omega) | (rw [unhid HW1]; simp [intOf]; omega)
      · obtain rfl : k = ns.length := by omega
        have HV := hid (unhid HK).v
        have HG := hid (unhid HW).good
        have HC := hid (unhid HW).chain
        have HU1 := hid (show ∀ t, t < 8 → upT S t ≤ 100 from fun t ht => by have := (unhid HW).up t ht; have := unhid HLL; omega)
        have HU := hid (show ∀ t, t < 8 → upT S t ≤ 1000 from fun t ht => by have := unhid HU1 t ht; omega)
        have HLN := hid (show S.length ≤ 10 from Nat.le_trans (unhid HW).len (unhid HLL))
        clear HW HND HNO hlt hk
        go_wp2_with fail
        refine (pwaiting_calls (L := setR S) wr (unhid HK) (by have := unhid HLN; omega) (asc_setR S) (fun r => mem_setR.symm)).mono ?_
        rintro e W2 ⟨v, rfl, hrow, hb⟩
        rw [((unhid HG).perm (fun r => mem_setR.symm)).wait] at hrow
        obtain ⟨Av, cv, rfl, -, -⟩ := own_slice hrow
        have HK := hid ((unhid HK).below' hb)
        have HX := hid (NtAt.below (unhid HX) hb)
        have HY := hid (NtAt.below (unhid HY) hb)
        have HB := hid ((unhid HB).trans (hb.mono (unhid HB).size))
        simp only [List.length_nil]
        clear hrow hb
        go_upto_region 11 with (fail)
        have hXY : X ≠ Y := by have := unhid HXE; omega
        have HNE := hid hXY
        have hYB : w.heap.size ≤ Y := by have := unhid HXE; omega
        have HYB := hid hYB
        have HSF := hid (show ∀ w', NtAt w' X x → (w'.cell? ⟨X, 2, none⟩ = some (.int .i64 x.sign) ∧ w'.cell? ⟨X, 3, none⟩ = some (.int .i64 x.fld)) from fun w' h => ⟨h.cells.2.2.1, h.cells.2.2.2.1⟩)
        have hbd := Below.drew (Below.refl W2.heap.size W2)
        refine wp_region_noPanic ?_
        refine wp_region_E (S := fun w' => (w'.cell? ⟨X, 2, none⟩ = some (.int .i64 x.sign) ∧ w'.cell? ⟨X, 3, none⟩ = some (.int .i64 x.fld))) 7 8 rfl (by kernel_rfl) (by kernel_rfl) ((unhid HSF) _ ((unhid HX).below hbd)) ?_
        intro hSE
        have HK := hid ((unhid HK).below' hbd)
        have HX := hid (NtAt.below (unhid HX) hbd)
        have HY := hid (NtAt.below (unhid HY) hbd)
        have HB := hid ((unhid HB).trans (hbd.mono (unhid HB).size))
        clear hbd hXY hYB
        generalize W2.drew = Wd at *
        (refine WE_take (i := 0) (v := ?_) rfl (by kernel_rfl) (by decide) (by kernel_rfl) (by kernel_rfl) (fun _ _ _ h => h) (by rfl) hSE ?_ ?_; rotate_left; (focus (intro w hSw; (try dsimp only at hSw); go_simp; (try with_reducible rfl))); simp only [Act.put, List.setIfInBounds_toArray, List.set_cons_zero, List.set_cons_succ])
        (refine WE_take (i := 1) (v := ?_) rfl (by kernel_rfl) (by decide) (by kernel_rfl) (by kernel_rfl) (fun _ _ _ h => h) (by rfl) hSE ?_ ?_; rotate_left; (focus (intro w hSw; (try dsimp only at hSw); go_simp; (try with_reducible rfl))); simp only [Act.put, List.setIfInBounds_toArray, List.set_cons_zero, List.set_cons_succ])
        (refine WE_take (i := 2) (v := ?_) rfl (by kernel_rfl) (by decide) (by kernel_rfl) (by kernel_rfl) (fun _ _ _ h => h) (by rfl) hSE ?_ ?_; rotate_left; (focus (intro w hSw; (try dsimp only at hSw); go_simp; (try with_reducible rfl))); simp only [Act.put, List.setIfInBounds_toArray, List.set_cons_zero, List.set_cons_succ])
        (refine WE_take (i := 3) (v := ?_) rfl (by kernel_rfl) (by decide) (by kernel_rfl) (by kernel_rfl) (fun _ _ _ h => h) (by rfl) hSE ?_ ?_; rotate_left; (focus (intro w hSw; (try dsimp only at hSw); go_simp; (try with_reducible rfl))); simp only [Act.put, List.setIfInBounds_toArray, List.set_cons_zero, List.set_cons_succ])
        (refine WE_take (i := 4) (v := ?_) rfl (by kernel_rfl) (by decide) (by kernel_rfl) (by kernel_rfl) (fun _ _ _ h => h) (by rfl) hSE ?_ ?_; rotate_left; (focus (intro w hSw; (try dsimp only at hSw); go_simp; (try with_reducible rfl))); simp only [Act.put, List.setIfInBounds_toArray, List.set_cons_zero, List.set_cons_succ])
        have y2 := (unhid HY).cells.2.2.1
        have fz : Wd.frozen? ⟨Y, 2, none⟩ = false := frozen_of_row _ _ _ _ _ (unhid HY)
        (refine WE_one (i := 5) rfl (by decide) (by kernel_rfl) ?_; intro K hK)
        go_simp
        have HX := hid ((unhid HX).other (i := 2) (v := .int .i64 x.sign) (unhid HNE))
        have HK := hid ((unhid HK).note (i := 2) (v := .int .i64 x.sign) (unhid HY))
        have HY := hid ((unhid HY).set2 x.sign)
        have HB := hid (Below.setCell (unhid HB) (p := ⟨Y, 2, none⟩) (unhid HYB) (.int .i64 x.sign))
        refine hK.out _ _ ((unhid HSF) _ (unhid HX)) ?_
        clear hSE hK K y2 fz
        intro hSE
        (try simp only [Act.put, List.setIfInBounds_toArray, List.set_cons_zero, List.set_cons_succ])
        generalize Wd.setCell ⟨Y, 2, none⟩ (.int .i64 x.sign) = We at *
        (refine WE_take (i := 6) (v := ?_) rfl (by kernel_rfl) (by decide) (by kernel_rfl) (by kernel_rfl) (fun _ _ _ h => h) (by rfl) hSE ?_ ?_; rotate_left; (focus (intro w hSw; (try dsimp only at hSw); go_simp; (try with_reducible rfl))); simp only [Act.put, List.setIfInBounds_toArray, List.set_cons_zero, List.set_cons_succ])
        have y3 := (unhid HY).cells.2.2.2.1
        have fz : We.frozen? ⟨Y, 3, none⟩ = false := frozen_of_row _ _ _ _ _ (unhid HY)
        dsimp only at y3
        (refine WE_last rfl (by kernel_rfl) (by kernel_rfl) (by kernel_rfl) ?_; intro K hK; go_simp; refine hK.out _ _ (NoPanic.normal ?_); clear hK K)
        have HX := hid ((unhid HX).other (i := 3) (v := .int .i64 x.fld) (unhid HNE))
        have HK := hid ((unhid HK).note (i := 3) (v := .int .i64 x.fld) (unhid HY))
        have HY := hid ((unhid HY).set3 x.fld)
        have HB := hid (Below.setCell (unhid HB) (p := ⟨Y, 3, none⟩) (unhid HYB) (.int .i64 x.fld))
        clear hSE y3 fz HSF
        generalize We.setCell ⟨Y, 3, none⟩ (.int .i64 x.fld) = W3 at *
        have HMB := hid (Nat.le_trans (unhid HM).1 (Nat.le_of_lt (unhid HK).lt.2))
        go_wp2_with fail
        refine (pcopy_calls W3 (unhid HK)).mono ?_
        rintro e W4 ⟨rfl, hkc, hb⟩
        obtain ⟨mc, hmc⟩ : ∃ mc, mc = W3.heap.size := ⟨_, rfl⟩
        obtain ⟨Bc, hBc⟩ : ∃ Bc, Bc = W3.heap.size + 1 := ⟨_, rfl⟩
        rw [← hBc] at hkc ⊢
        rw [← hmc] at hkc
        have HKC := hid hkc
        have HMC := hid (show m < mc ∧ w.heap.size ≤ mc from by have := (unhid HK).lt.2; have := (unhid HB).size; omega)
        have HK := hid ((unhid HK).below' hb)
        have HX := hid (NtAt.below (unhid HX) hb)
        have HY := hid (NtAt.below (unhid HY) hb)
        have HB := hid ((unhid HB).trans (hb.mono (unhid HB).size))
        clear hkc hb hmc hBc
        go_wp2_with fail
        refine (pcopy_calls W4 (unhid HK)).mono ?_
        rintro e W5 ⟨rfl, hkd, hb⟩
        obtain ⟨md, hmd⟩ : ∃ md, md = W4.heap.size := ⟨_, rfl⟩
        obtain ⟨Bd, hBd⟩ : ∃ Bd, Bd = W4.heap.size + 1 := ⟨_, rfl⟩
        rw [← hBd] at hkd ⊢
        rw [← hmd] at hkd
        have HKD := hid hkd
        have HMD := hid (show mc < md ∧ w.heap.size ≤ md from by have := (unhid HKC).lt.2; have := (unhid HB).size; omega)
        have HK := hid ((unhid HK).below' hb)
        have HKC := hid ((unhid HKC).below' hb)
        have HX := hid (NtAt.below (unhid HX) hb)
        have HY := hid (NtAt.below (unhid HY) hb)
        have HB := hid ((unhid HB).trans (hb.mono (unhid HB).size))
        clear hkd hb hmd hBd
        obtain ⟨a0, a1, a2, a3, a4⟩ := NtAt.cells (unhid HX)
        go_wp2_with fail
        refine (write_calls x.tab x.hour x.sign x.fld x.val W5 (unhid HKC) (by have := unhid HLN; omega) (unhid HXW).1).mono ?_
        rintro e W6 ⟨rfl, hk6, hg6⟩
        have HX := hid ((unhid HX).beside (unhid HKC) hg6)
        have HY := hid ((unhid HY).beside (unhid HKC) hg6)
        have HK := hid ((unhid HK).beside (unhid HKC) hg6 (by have := unhid HMC; omega))
        have HKD := hid ((unhid HKD).beside (unhid HKC) hg6 (by have := unhid HMD; omega))
        have HKC := hid hk6
        have HB := hid ((unhid HB).grown hg6 (unhid HB).size (fun j e => by cases e; exact (unhid HMC).2))
        obtain ⟨r1, hr1⟩ : ∃ r1, r1 = (writeR S x.tab x.hour x.sign x.fld x.val).1 := ⟨_, rfl⟩
        obtain ⟨E1, hE1⟩ : ∃ E1, E1 = (writeR S x.tab x.hour x.sign x.fld x.val).2.1 := ⟨_, rfl⟩
        obtain ⟨C, hC1⟩ : ∃ C, C = (writeR S x.tab x.hour x.sign x.fld x.val).2.2 := ⟨_, rfl⟩
        rw [← hr1, ← hE1]
        rw [← hC1] at HKC
        have HR1 := hid (show writeR S x.tab x.hour x.sign x.fld x.val = (r1, E1, C) from by rw [hr1, hE1, hC1])
        clear hk6 hg6 hr1 hE1 hC1 a0 a1 a2 a3 a4
        simp only [rcV, rcA]
        go_upto_region 14 with (fail)
        change Code.wp _ _ _ _ (W6.alloc (.cells (rcA r1) 33))
        have hb := below_alloc W6 (.cells (rcA r1) 33)
        have HK := hid ((unhid HK).below' hb)
        have HKC := hid ((unhid HKC).below' hb)
        have HKD := hid ((unhid HKD).below' hb)
        have HX := hid (NtAt.below (unhid HX) hb)
        have HY := hid (NtAt.below (unhid HY) hb)
        have HB := hid ((unhid HB).trans (hb.mono (unhid HB).size))
        clear hb
        generalize W6.alloc (.cells (rcA r1) 33) = W7 at *
        obtain ⟨a0, a1, a2, a3, a4⟩ := NtAt.cells (unhid HY)
        dsimp only at a0 a1 a2 a3 a4
        go_wp2_with fail
        refine (write_calls y.tab y.hour x.sign x.fld y.val W7 (unhid HKD) (by have := unhid HLN; omega) (unhid HYW).1).mono ?_
        rintro e W8 ⟨rfl, hk8, hg8⟩
        have HX := hid ((unhid HX).beside (unhid HKD) hg8)
        have HY := hid ((unhid HY).beside (unhid HKD) hg8)
        have HK := hid ((unhid HK).beside (unhid HKD) hg8 (by have := unhid HMC; have := unhid HMD; omega))
        have HKC := hid ((unhid HKC).beside (unhid HKD) hg8 (by have := unhid HMD; omega))
        have HKD := hid hk8
        have HB := hid ((unhid HB).grown hg8 (unhid HB).size (fun j e => by cases e; exact (unhid HMD).2))
        obtain ⟨r2, hr1⟩ : ∃ r1, r1 = (writeR S y.tab y.hour x.sign x.fld y.val).1 := ⟨_, rfl⟩
        obtain ⟨E2, hE1⟩ : ∃ E1, E1 = (writeR S y.tab y.hour x.sign x.fld y.val).2.1 := ⟨_, rfl⟩
        obtain ⟨D, hC1⟩ : ∃ C, C = (writeR S y.tab y.hour x.sign x.fld y.val).2.2 := ⟨_, rfl⟩
        rw [← hr1, ← hE1]
        rw [← hC1] at HKD
        have HR2 := hid (show writeR S y.tab y.hour x.sign x.fld y.val = (r2, E2, D) from by rw [hr1, hE1, hC1])
        clear hk8 hg8 hr1 hE1 hC1 a0 a1 a2 a3 a4
        simp only [rcV, rcA]
        go_upto_region 15 with (fail)
        change Code.wp _ _ _ _ (W8.alloc (.cells (rcA r2) 33))
        have hb := below_alloc W8 (.cells (rcA r2) 33)
        have HK := hid ((unhid HK).below' hb)
        have HKC := hid ((unhid HKC).below' hb)
        have HKD := hid ((unhid HKD).below' hb)
        have HX := hid (NtAt.below (unhid HX) hb)
        have HY := hid (NtAt.below (unhid HY) hb)
        have HB := hid ((unhid HB).trans (hb.mono (unhid HB).size))
        clear hb
        generalize W8.alloc (.cells (rcA r2) 33) = W9 at *
        have he := unhid HR1
        rw [unfine_write (unhid HFI)] at he
        simp only [Prod.mk.injEq] at he
        obtain ⟨rfl, rfl, rfl⟩ := he
        obtain ⟨a0, a1, a2, a3, a4⟩ := NtAt.cells (unhid HX)
        have d0 := decide_eq_false (show ¬ 1 ≤ x.tab from by have := unhid HG0; omega)
        go_wp2_with fail
        refine (first_calls _).mono ?_
        rintro e w9 ⟨rfl, hb9⟩
        have HB := hid ((unhid HB).trans (hb9.mono (unhid HB).size))
        clear hb9
        go_wp2_with fail
        go_ret
        exact ⟨rfl, unhid HB⟩

set_option maxHeartbeats 16000000 in
set_option maxRecDepth 100000 in
theorem ldec_bad1 (ns : List Nt) (An : Option Addr) (cn : Nat) (x y : Nt) (w : World) (hn : NtsIn w An ns cn) (hx : NtW x) (hy : NtW y) (g0 : 1 ≤ x.tab) (g1 : ¬ x.tab ≤ 8) :
    Calls Try.prog 10 #[.slice An ns.length cn, .agg #[.int .i64 x.tab, .int .i64 x.hour, .int .i64 x.sign, .int .i64 x.fld, .int .i64 x.val], .agg #[.int .i64 y.tab, .int .i64 y.hour, .int .i64 y.sign, .int .i64 y.fld, .int .i64 y.val]] w fun e w' => e = .returned (.bool true) ∧ Below w.heap.size w w' := by
  have HFI := hid (show fineB x.tab x.hour x.sign x.fld x.val = false from by rw [Bool.eq_false_iff]; intro h; simp only [fineB, btw, Bool.and_eq_true, decide_eq_true_eq] at h; omega)
  have HG0 := hid g0
  have HG1 := hid g1
  clear g0 g1
  have HNO := hid hn.ok
  have HND := hid hn.rd
  have HXW := hid hx
  have HYW := hid hy
  have hb0 := below_alloc w (.cells #[.int .i64 x.tab, .int .i64 x.hour, .int .i64 x.sign, .int .i64 x.fld, .int .i64 x.val] 30)
  have hx0 := heap_alloc_new w (.cells #[.int .i64 x.tab, .int .i64 x.hour, .int .i64 x.sign, .int .i64 x.fld, .int .i64 x.val] 30)
  have hs0 : (w.alloc (.cells #[.int .i64 x.tab, .int .i64 x.hour, .int .i64 x.sign, .int .i64 x.fld, .int .i64 x.val] 30)).heap.size = w.heap.size + 1 := by simp
  have hb1 := below_alloc (w.alloc (.cells #[.int .i64 x.tab, .int .i64 x.hour, .int .i64 x.sign, .int .i64 x.fld, .int .i64 x.val] 30)) (.cells #[.int .i64 y.tab, .int .i64 y.hour, .int .i64 y.sign, .int .i64 y.fld, .int .i64 y.val] 30)
  have hy0 := heap_alloc_new (w.alloc (.cells #[.int .i64 x.tab, .int .i64 x.hour, .int .i64 x.sign, .int .i64 x.fld, .int .i64 x.val] 30)) (.cells #[.int .i64 y.tab, .int .i64 y.hour, .int .i64 y.sign, .int .i64 y.fld, .int .i64 y.val] 30)
  rw [hs0] at hy0
  clear hn hx hy
  go_enter Try.func10, Try.ntmps10
  go_upto_region 1 with (fail)
  change Code.wp _ _ _ _ ((w.alloc (.cells #[.int .i64 x.tab, .int .i64 x.hour, .int .i64 x.sign, .int .i64 x.fld, .int .i64 x.val] 30)).alloc (.cells #[.int .i64 y.tab, .int .i64 y.hour, .int .i64 y.sign, .int .i64 y.fld, .int .i64 y.val] 30))
  have HX := hid (show NtAt _ w.heap.size x from (hb1.block _ (by omega)).trans hx0)
  have HY := hid (show NtAt _ (w.heap.size + 1) y from hy0)
  have HB := hid (hb0.trans (hb1.mono hb0.size))
  clear hb0 hx0 hb1 hy0 hs0
  generalize (w.alloc (.cells #[.int .i64 x.tab, .int .i64 x.hour, .int .i64 x.sign, .int .i64 x.fld, .int .i64 x.val] 30)).alloc (.cells #[.int .i64 y.tab, .int .i64 y.hour, .int .i64 y.sign, .int .i64 y.fld, .int .i64 y.val] 30) = W0 at *
  obtain ⟨X, hX⟩ : ∃ X, X = w.heap.size := ⟨_, rfl⟩
  obtain ⟨Y, hY⟩ : ∃ Y, Y = w.heap.size + 1 := ⟨_, rfl⟩
  rw [← hX] at HX
  rw [← hY] at HY
  rw [← hY, ← hX]
  have HXE := hid (⟨hX, hY⟩ : X = w.heap.size ∧ Y = w.heap.size + 1)
  clear hX hY
  by_cases h1 : 10 < ns.length
  · have hni : (10 : Int) < (ns.length : Int) := by omega
    go_wp2_with fail
    refine (first_calls _).mono ?_
    rintro e w9 ⟨rfl, hb9⟩
    have HB := hid ((unhid HB).trans (hb9.mono (unhid HB).size))
    clear hb9
    go_wp2_with fail
    go_ret
    exact ⟨rfl, unhid HB⟩
  · have hni : ¬ (10 : Int) < (ns.length : Int) := by omega
    have HLL := hid (show ns.length ≤ 10 from by omega)
    clear h1
    go_wp2_with fail
    refine (bookNew_calls W0).mono ?_
    rintro e W1 ⟨rfl, hk1, hb1⟩
    obtain ⟨m, hm⟩ : ∃ m, m = W0.heap.size := ⟨_, rfl⟩
    obtain ⟨B, hB⟩ : ∃ B, B = W0.heap.size + 1 := ⟨_, rfl⟩
    rw [← hB] at hk1 ⊢
    rw [← hm] at hk1
    have HK := hid hk1
    have HM := hid (show w.heap.size ≤ m ∧ w.heap.size ≤ W0.heap.size from by have := (unhid HB).size; omega)
    have HX := hid (NtAt.below (unhid HX) hb1)
    have HY := hid (NtAt.below (unhid HY) hb1)
    have HB := hid ((unhid HB).trans (hb1.mono (unhid HB).size))
    clear hk1 hb1 hm hB hni
    go_upto_region 5 with (fail)
    go_loopw [8] (fun iv wr => ∃ (k : Nat) (S : List Rc), k ≤ ns.length ∧ iv = .int .i64 k ∧ BkAt wr B m S ∧ Wn [] S k ∧ NtAt wr X x ∧ NtAt wr Y y ∧ Below w.heap.size w wr) (fun iv _ => ns.length - (intOf iv).toNat)
    case atStart => exact ⟨0, [], Nat.zero_le _, rfl, unhid HK, Wn.nil, unhid HX, unhid HY, unhid HB⟩
    case round =>
      clear HK HX HY HB
      obtain ⟨k, S, hk, rfl, hbk, hw, hx, hy, hb⟩ := hrel
      have HK := hid hbk
      have HW := hid hw
      have HX := hid hx
      have HY := hid hy
      have HB := hid hb
      clear hbk hw hx hy hb
      by_cases hlt : k < ns.length
      · have hki : (k : Int) < (ns.length : Int) := by omega
        obtain ⟨b, off, hAe, hbl, hc⟩ := ((unhid HND).below (unhid HB)) (nts_ne hlt)
        subst hAe
        obtain ⟨z, hz⟩ : ∃ z, ns[k]'hlt = z := ⟨_, rfl⟩
        have HZO := hid (unhid HNO z (hz ▸ List.getElem_mem hlt))
        obtain ⟨a0, a1, a2, a3, a4⟩ := nts_cells hc hlt hz
        have HW1 := hid (show wrap64 ((k : Int) + 1) = ((k + 1 : Nat) : Int) from by have h1 := unhid HLL; unfold wrap64; omega)
        clear hc hz
        go_upto_region 8 with (fail)
        have hb1 := below_alloc wr (.cells #[.int .i64 z.tab, .int .i64 z.hour, .int .i64 z.sign, .int .i64 z.fld, .int .i64 z.val] 30)
        have hz1 := heap_alloc_new wr (.cells #[.int .i64 z.tab, .int .i64 z.hour, .int .i64 z.sign, .int .i64 z.fld, .int .i64 z.val] 30)
        have HK := hid ((unhid HK).below' hb1)
        have HX := hid (NtAt.below (unhid HX) hb1)
        have HY := hid (NtAt.below (unhid HY) hb1)
        have HB := hid ((unhid HB).trans (hb1.mono (unhid HB).size))
        obtain ⟨N, hN⟩ : ∃ N, N = wr.heap.size := ⟨_, rfl⟩
        rw [← hN] at hz1 ⊢
        have HZ := hid (show NtAt _ N z from hz1)
        clear hb1 hz1 hN a0 a1 a2 a3 a4 hbl
        generalize wr.alloc (.cells #[.int .i64 z.tab, .int .i64 z.hour, .int .i64 z.sign, .int .i64 z.fld, .int .i64 z.val] 30) = W2 at *
        obtain ⟨a0, a1, a2, a3, a4⟩ := NtAt.cells (unhid HZ)
        go_wp2_with fail
        refine (write_calls z.tab z.hour z.sign z.fld z.val W2 (unhid HK) (by have := (unhid HW).len; have := unhid HLL; omega) (unhid HZO).1).mono ?_
        rintro e W3 ⟨rfl, hk3, hg3⟩
        have HX := hid ((unhid HX).beside (unhid HK) hg3)
        have HY := hid ((unhid HY).beside (unhid HK) hg3)
        have HW := hid ((unhid HW).write (unhid HK).v z.tab z.hour z.sign z.fld z.val)
        have HK := hid hk3
        have HB := hid ((unhid HB).grown hg3 (unhid HB).size (fun j e => by cases e; exact (unhid HM).1))
        clear hk3 hg3 a0 a1 a2 a3 a4 HZ
        go_wp2_with fail
        go_roundw
        case rel => exact ⟨k + 1, _, by omega, by first | go_num | rw [unhid HW1], unhid HK, unhid HW, unhid HX, unhid HY, unhid HB⟩
        case measure => first | (simp [intOf]; omega) | (rw [unhid HW1]; simp [intOf]; omega)
      · obtain rfl : k = ns.length := by omega
        have HV := hid (unhid HK).v
        have HG := hid (unhid HW).good
        have HC := hid (unhid HW).chain
        have HU1 := hid (show ∀ t, t < 8 → upT S t ≤ 100 from fun t ht => by have := (unhid HW).up t ht; have := unhid HLL; omega)
        have HU := hid (show ∀ t, t < 8 → upT S t ≤ 1000 from fun t ht => by have := unhid HU1 t ht; omega)
        have HLN := hid (show S.length ≤ 10 from Nat.le_trans (unhid HW).len (unhid HLL))
        clear HW HND HNO hlt hk
        go_wp2_with fail
        refine (pwaiting_calls (L := setR S) wr (unhid HK) (by have := unhid HLN; omega) (asc_setR S) (fun r => mem_setR.symm)).mono ?_
        rintro e W2 ⟨v, rfl, hrow, hb⟩
        rw [((unhid HG).perm (fun r => mem_setR.symm)).wait] at hrow
        obtain ⟨Av, cv, rfl, -, -⟩ := own_slice hrow
        have HK := hid ((unhid HK).below' hb)
        have HX := hid (NtAt.below (unhid HX) hb)
        have HY := hid (NtAt.below (unhid HY) hb)
        have HB := hid ((unhid HB).trans (hb.mono (unhid HB).size))
        simp only [List.length_nil]
        clear hrow hb
        go_upto_region 11 with (fail)
        have hXY : X ≠ Y := by have := unhid HXE; omega
        have HNE := hid hXY
        have hYB : w.heap.size ≤ Y := by have := unhid HXE; omega
        have HYB := hid hYB
        have HSF := hid (show ∀ w', NtAt w' X x → (w'.cell? ⟨X, 2, none⟩ = some (.int .i64 x.sign) ∧ w'.cell? ⟨X, 3, none⟩ = some (.int .i64 x.fld)) from fun w' h => ⟨h.cells.2.2.1, h.cells.2.2.2.1⟩)
        have hbd := Below.drew (Below.refl W2.heap.size W2)
        refine wp_region_noPanic ?_
        refine wp_region_E (S := fun w' => (w'.cell? ⟨X, 2, none⟩ = some (.int .i64 x.sign) ∧ w'.cell? ⟨X, 3, none⟩ = some (.int .i64 x.fld))) 7 8 rfl (by kernel_rfl) (by kernel_rfl) ((unhid HSF) _ ((unhid HX).below hbd)) ?_
        intro hSE
        have HK := hid ((unhid HK).below' hbd)
        have HX := hid (NtAt.below (unhid HX) hbd)
        have HY := hid (NtAt.below (unhid HY) hbd)
        have HB := hid ((unhid HB).trans (hbd.mono (unhid HB).size))
        clear hbd hXY hYB
        generalize W2.drew = Wd at *
        (refine WE_take (i := 0) (v := ?_) rfl (by kernel_rfl) (by decide) (by kernel_rfl) (by kernel_rfl) (fun _ _ _ h => h) (by rfl) hSE ?_ ?_; rotate_left; (focus (intro w hSw; (try dsimp only at hSw); go_simp; (try with_reducible rfl))); simp only [Act.put, List.setIfInBounds_toArray, List.set_cons_zero, List.set_cons_succ])
        (refine WE_take (i := 1) (v := ?_) rfl (by kernel_rfl) (by decide) (by kernel_rfl) (by kernel_rfl) (fun _ _ _ h => h) (by rfl) hSE ?_ ?_; rotate_left; (focus (intro w hSw; (try dsimp only at hSw); go_simp; (try with_reducible rfl))); simp only [Act.put, List.setIfInBounds_toArray, List.set_cons_zero, List.set_cons_succ])
        (refine WE_take (i := 2) (v := ?_) rfl (by kernel_rfl) (by decide) (by kernel_rfl) (by kernel_rfl) (fun _ _ _ h => h) (by rfl) hSE ?_ ?_; rotate_left; (focus (intro w hSw; (try dsimp only at hSw); go_simp; (try with_reducible rfl))); simp only [Act.put, List.setIfInBounds_toArray, List.set_cons_zero, List.set_cons_succ])
        (refine WE_take (i := 3) (v := ?_) rfl (by kernel_rfl) (by decide) (by kernel_rfl) (by kernel_rfl) (fun _ _ _ h => h) (by rfl) hSE ?_ ?_; rotate_left; (focus (intro w hSw; (try dsimp only at hSw); go_simp; (try with_reducible rfl))); simp only [Act.put, List.setIfInBounds_toArray, List.set_cons_zero, List.set_cons_succ])
        (refine WE_take (i := 4) (v := ?_) rfl (by kernel_rfl) (by decide) (by kernel_rfl) (by kernel_rfl) (fun _ _ _ h => h) (by rfl) hSE ?_ ?_; rotate_left; (focus (intro w hSw; (try dsimp only at hSw); go_simp; (try with_reducible rfl))); simp only [Act.put, List.setIfInBounds_toArray, List.set_cons_zero, List.set_cons_succ])
        have y2 := (unhid HY).cells.2.2.1
        have fz : Wd.frozen? ⟨Y, 2, none⟩ = false := frozen_of_row _ _ _ _ _ (unhid HY)
        (refine WE_one (i := 5) rfl (by decide) (by kernel_rfl) ?_; intro K hK)
        go_simp
        have HX := hid ((unhid HX).other (i := 2) (v := .int .i64 x.sign) (unhid HNE))
        have HK := hid ((unhid HK).note (i := 2) (v := .int .i64 x.sign) (unhid HY))
        have HY := hid ((unhid HY).set2 x.sign)
        have HB := hid (Below.setCell (unhid HB) (p := ⟨Y, 2, none⟩) (unhid HYB) (.int .i64 x.sign))
        refine hK.out _ _ ((unhid HSF) _ (unhid HX)) ?_
        clear hSE hK K y2 fz
        intro hSE
        (try simp only [Act.put, List.setIfInBounds_toArray, List.set_cons_zero, List.set_cons_succ])
        generalize Wd.setCell ⟨Y, 2, none⟩ (.int .i64 x.sign) = We at *
        (refine WE_take (i := 6) (v := ?_) rfl (by kernel_rfl) (by decide) (by kernel_rfl) (by kernel_rfl) (fun _ _ _ h => h) (by rfl) hSE ?_ ?_; rotate_left; (focus (intro w hSw; (try dsimp only at hSw); go_simp; (try with_reducible rfl))); simp only [Act.put, List.setIfInBounds_toArray, List.set_cons_zero, List.set_cons_succ])
        have y3 := (unhid HY).cells.2.2.2.1
        have fz : We.frozen? ⟨Y, 3, none⟩ = false := frozen_of_row _ _ _ _ _ (unhid HY)
        dsimp only at y3
        (refine WE_last rfl (by kernel_rfl) (by kernel_rfl) (by kernel_rfl) ?_; intro K hK; go_simp; refine hK.out _ _ (NoPanic.normal ?_); clear hK K)
        have HX := hid ((unhid HX).other (i := 3) (v := .int .i64 x.fld) (unhid HNE))
        have HK := hid ((unhid HK).note (i := 3) (v := .int .i64 x.fld) (unhid HY))
        have HY := hid ((unhid HY).set3 x.fld)
        have HB := hid (Below.setCell (unhid HB) (p := ⟨Y, 3, none⟩) (unhid HYB) (.int .i64 x.fld))
        clear hSE y3 fz HSF
        generalize We.setCell ⟨Y, 3, none⟩ (.int .i64 x.fld) = W3 at *
        have HMB := hid (Nat.le_trans (unhid HM).1 (Nat.le_of_lt (unhid HK).lt.2))
        go_wp2_with fail
        refine (pcopy_calls W3 (unhid HK)).mono ?_
        rintro e W4 ⟨rfl, hkc, hb⟩
        obtain ⟨mc, hmc⟩ : ∃ mc, mc = W3.heap.size := ⟨_, rfl⟩
        obtain ⟨Bc, hBc⟩ : ∃ Bc, Bc = W3.heap.size + 1 := ⟨_, rfl⟩
        rw [← hBc] at hkc ⊢
        rw [← hmc] at hkc
        have HKC := hid hkc
        have HMC := hid (show m < mc ∧ w.heap.size ≤ mc from by have := (unhid HK).lt.2; have := (unhid HB).size; omega)
        have HK := hid ((unhid HK).below' hb)
        have HX := hid (NtAt.below (unhid HX) hb)
        have HY := hid (NtAt.below (unhid HY) hb)
        have HB := hid ((unhid HB).trans (hb.mono (unhid HB).size))
        clear hkc hb hmc hBc
        go_wp2_with fail
        refine (pcopy_calls W4 (unhid HK)).mono ?_
        rintro e W5 ⟨rfl, hkd, hb⟩
        obtain ⟨md, hmd⟩ : ∃ md, md = W4.heap.size := ⟨_, rfl⟩
        obtain ⟨Bd, hBd⟩ : ∃ Bd, Bd = W4.heap.size + 1 := ⟨_, rfl⟩
        rw [← hBd] at hkd ⊢
        rw [← hmd] at hkd
        have HKD := hid hkd
        have HMD := hid (show mc < md ∧ w.heap.size ≤ md from by have := (unhid HKC).lt.2; have := (unhid HB).size; omega)
        have HK := hid ((unhid HK).below' hb)
        have HKC := hid ((unhid HKC).below' hb)
        have HX := hid (NtAt.below (unhid HX) hb)
        have HY := hid (NtAt.below (unhid HY) hb)
        have HB := hid ((unhid HB).trans (hb.mono (unhid HB).size))
        clear hkd hb hmd hBd
        obtain ⟨a0, a1, a2, a3, a4⟩ := NtAt.cells (unhid HX)
        go_wp2_with fail
        refine (write_calls x.tab x.hour x.sign x.fld x.val W5 (unhid HKC) (by have := unhid HLN; omega) (unhid HXW).1).mono ?_
        rintro e W6 ⟨rfl, hk6, hg6⟩
        have HX := hid ((unhid HX).beside (unhid HKC) hg6)
        have HY := hid ((unhid HY).beside (unhid HKC) hg6)
        have HK := hid ((unhid HK).beside (unhid HKC) hg6 (by have := unhid HMC; omega))
        have HKD := hid ((unhid HKD).beside (unhid HKC) hg6 (by have := unhid HMD; omega))
        have HKC := hid hk6
        have HB := hid ((unhid HB).grown hg6 (unhid HB).size (fun j e => by cases e; exact (unhid HMC).2))
        obtain ⟨r1, hr1⟩ : ∃ r1, r1 = (writeR S x.tab x.hour x.sign x.fld x.val).1 := ⟨_, rfl⟩
        obtain ⟨E1, hE1⟩ : ∃ E1, E1 = (writeR S x.tab x.hour x.sign x.fld x.val).2.1 := ⟨_, rfl⟩
        obtain ⟨C, hC1⟩ : ∃ C, C = (writeR S x.tab x.hour x.sign x.fld x.val).2.2 := ⟨_, rfl⟩
        rw [← hr1, ← hE1]
        rw [← hC1] at HKC
        have HR1 := hid (show writeR S x.tab x.hour x.sign x.fld x.val = (r1, E1, C) from by rw [hr1, hE1, hC1])
        clear hk6 hg6 hr1 hE1 hC1 a0 a1 a2 a3 a4
        simp only [rcV, rcA]
        go_upto_region 14 with (fail)
        change Code.wp _ _ _ _ (W6.alloc (.cells (rcA r1) 33))
        have hb := below_alloc W6 (.cells (rcA r1) 33)
        have HK := hid ((unhid HK).below' hb)
        have HKC := hid ((unhid HKC).below' hb)
        have HKD := hid ((unhid HKD).below' hb)
        have HX := hid (NtAt.below (unhid HX) hb)
        have HY := hid (NtAt.below (unhid HY) hb)
        have HB := hid ((unhid HB).trans (hb.mono (unhid HB).size))
        clear hb
        generalize W6.alloc (.cells (rcA r1) 33) = W7 at *
        obtain ⟨a0, a1, a2, a3, a4⟩ := NtAt.cells (unhid HY)
        dsimp only at a0 a1 a2 a3 a4
        go_wp2_with fail
        refine (write_calls y.tab y.hour x.sign x.fld y.val W7 (unhid HKD) (by have := unhid HLN; omega) (unhid HYW).1).mono ?_
        rintro e W8 ⟨rfl, hk8, hg8⟩
        have HX := hid ((unhid HX).beside (unhid HKD) hg8)
        have HY := hid ((unhid HY).beside (unhid HKD) hg8)
        have HK := hid ((unhid HK).beside (unhid HKD) hg8 (by have := unhid HMC; have := unhid HMD; omega))
        have HKC := hid ((unhid HKC).beside (unhid HKD) hg8 (by have := unhid HMD; omega))
        have HKD := hid hk8
        have HB := hid ((unhid HB).grown hg8 (unhid HB).size (fun j e => by cases e; exact (unhid HMD).2))
        obtain ⟨r2, hr1⟩ : ∃ r1, r1 = (writeR S y.tab y.hour x.sign x.fld y.val).1 := ⟨_, rfl⟩
        obtain ⟨E2, hE1⟩ : ∃ E1, E1 = (writeR S y.tab y.hour x.sign x.fld y.val).2.1 := ⟨_, rfl⟩
        obtain ⟨D, hC1⟩ : ∃ C, C = (writeR S y.tab y.hour x.sign x.fld y.val).2.2 := ⟨_, rfl⟩
        rw [← hr1, ← hE1]
        rw [← hC1] at HKD
        have HR2 := hid (show writeR S y.tab y.hour x.sign x.fld y.val = (r2, E2, D) from by rw [hr1, hE1, hC1])
        clear hk8 hg8 hr1 hE1 hC1 a0 a1 a2 a3 a4
        simp only [rcV, rcA]
        go_upto_region 15 with (fail)
        change Code.wp _ _ _ _ (W8.alloc (.cells (rcA r2) 33))
        have hb := below_alloc W8 (.cells (rcA r2) 33)
        have HK := hid ((unhid HK).below' hb)
        have HKC := hid ((unhid HKC).below' hb)
        have HKD := hid ((unhid HKD).below' hb)
        have HX := hid (NtAt.below (unhid HX) hb)
        have HY := hid (NtAt.below (unhid HY) hb)
        have HB := hid ((unhid HB).trans (hb.mono (unhid HB).size))
        clear hb
        generalize W8.alloc (.cells (rcA r2) 33) = W9 at *
        have he := unhid HR1
        rw [unfine_write (unhid HFI)] at he
        simp only [Prod.mk.injEq] at he
        obtain ⟨rfl, rfl, rfl⟩ := he
        obtain ⟨a0, a1, a2, a3, a4⟩ := NtAt.cells (unhid HX)
        have d0 := decide_eq_true (unhid HG0)
        have d1 := decide_eq_false (show ¬ x.tab ≤ 8 from by have := unhid HG1; omega)
        go_wp2_with fail
        refine (first_calls _).mono ?_
        rintro e w9 ⟨rfl, hb9⟩
        have HB := hid ((unhid HB).trans (hb9.mono (unhid HB).size))
        clear hb9
        go_wp2_with fail
        go_ret
        exact ⟨rfl, unhid HB⟩

set_option maxHeartbeats 16000000 in
set_option maxRecDepth 100000 in
theorem ldec_bad2 (ns : List Nt) (An : Option Addr) (cn : Nat) (x y : Nt) (w : World) (hn : NtsIn w An ns cn) (hx : NtW x) (hy : NtW y) (g0 : 1 ≤ x.tab) (g1 : x.tab ≤ 8) (g2 : ¬ 0 ≤ x.hour) :
    Calls Try.prog 10 #[.slice An ns.length cn, .agg #[.int .i64 x.tab, .int .i64 x.hour, .int .i64 x.sign, .int .i64 x.fld, .int .i64 x.val], .agg #[.int .i64 y.tab, .int .i64 y.hour, .int .i64 y.sign, .int .i64 y.fld, .int .i64 y.val]] w fun e w' => e = .returned (.bool true) ∧ Below w.heap.size w w' := by
  have HFI := hid (show fineB x.tab x.hour x.sign x.fld x.val = false from by rw [Bool.eq_false_iff]; intro h; simp only [fineB, btw, Bool.and_eq_true, decide_eq_true_eq] at h; omega)
  have HG0 := hid g0
  have HG1 := hid g1
  have HG2 := hid g2
  clear g0 g1 g2
  have HNO := hid hn.ok
  have HND := hid hn.rd
  have HXW := hid hx
  have HYW := hid hy
  have hb0 := below_alloc w (.cells #[.int .i64 x.tab, .int .i64 x.hour, .int .i64 x.sign, .int .i64 x.fld, .int .i64 x.val] 30)
  have hx0 := heap_alloc_new w (.cells #[.int .i64 x.tab, .int .i64 x.hour, .int .i64 x.sign, .int .i64 x.fld, .int .i64 x.val] 30)
  have hs0 : (w.alloc (.cells #[.int .i64 x.tab, .int .i64 x.hour, .int .i64 x.sign, .int .i64 x.fld, .int .i64 x.val] 30)).heap.size = w.heap.size + 1 := by simp
  have hb1 := below_alloc (w.alloc (.cells #[.int .i64 x.tab, .int .i64 x.hour, .int .i64 x.sign, .int .i64 x.fld, .int .i64 x.val] 30)) (.cells #[.int .i64 y.tab, .int .i64 y.hour, .int .i64 y.sign, .int .i64 y.fld, .int .i64 y.val] 30)
  have hy0 := heap_alloc_new (w.alloc (.cells #[.int .i64 x.tab, .int .i64 x.hour, .int .i64 x.sign, .int .i64 x.fld, .int .i64 x.val] 30)) (.cells #[.int .i64 y.tab, .int .i64 y.hour, .int .i64 y.sign, .int .i64 y.fld, .int .i64 y.val] 30)
  rw [hs0] at hy0
  clear hn hx hy
  go_enter Try.func10, Try.ntmps10
  go_upto_region 1 with (fail)
  change Code.wp _ _ _ _ ((w.alloc (.cells #[.int .i64 x.tab, .int .i64 x.hour, .int .i64 x.sign, .int .i64 x.fld, .int .i64 x.val] 30)).alloc (.cells #[.int .i64 y.tab, .int .i64 y.hour, .int .i64 y.sign, .int .i64 y.fld, .int .i64 y.val] 30))
  have HX := hid (show NtAt _ w.heap.size x from (hb1.block _ (by omega)).trans hx0)
  have HY := hid (show NtAt _ (w.heap.size + 1) y from hy0)
  have HB := hid (hb0.trans (hb1.mono hb0.size))
  clear hb0 hx0 hb1 hy0 hs0
  generalize (w.alloc (.cells #[.int .i64 x.tab, .int .i64 x.hour, .int .i64 x.sign, .int .i64 x.fld, .int .i64 x.val] 30)).alloc (.cells #[.int .i64 y.tab, .int .i64 y.hour, .int .i64 y.sign, .int .i64 y.fld, .int .i64 y.val] 30) = W0 at *
  obtain ⟨X, hX⟩ : ∃ X, X = w.heap.size := ⟨_, rfl⟩
  obtain ⟨Y, hY⟩ : ∃ Y, Y = w.heap.size + 1 := ⟨_, rfl⟩
  rw [← hX] at HX
  rw [← hY] at HY
  rw [← hY, ← hX]
  have HXE := hid (⟨hX, hY⟩ : X = w.heap.size ∧ Y = w.heap.size + 1)
  clear hX hY
  by_cases h1 : 10 < ns.length
  · have hni : (10 : Int) < (ns.length : Int) := by omega
    go_wp2_with fail
    refine (first_calls _).mono ?_
    rintro e w9 ⟨rfl, hb9⟩
    have HB := hid ((unhid HB).trans (hb9.mono (unhid HB).size))
    clear hb9
    go_wp2_with fail
    go_ret
    exact ⟨rfl, unhid HB⟩
  · have hni : ¬ (10 : Int) < (ns.length : Int) := by omega
    have HLL := hid (show ns.length ≤ 10 from by omega)
    clear h1
    go_wp2_with fail
    refine (bookNew_calls W0).mono ?_
    rintro e W1 ⟨rfl, hk1, hb1⟩
    obtain ⟨m, hm⟩ : ∃ m, m = W0.heap.size := ⟨_, rfl⟩
    obtain ⟨B, hB⟩ : ∃ B, B = W0.heap.size + 1 := ⟨_, rfl⟩
    rw [← hB] at hk1 ⊢
    rw [← hm] at hk1
    have HK := hid hk1
    have HM := hid (show w.heap.size ≤ m ∧ w.heap.size ≤ W0.heap.size from by have := (unhid HB).size; omega)
    have HX := hid (NtAt.below (unhid HX) hb1)
    have HY := hid (NtAt.below (unhid HY) hb1)
    have HB := hid ((unhid HB).trans (hb1.mono (unhid HB).size))
    clear hk1 hb1 hm hB hni
    go_upto_region 5 with (fail)
    go_loopw [8] (fun iv wr => ∃ (k : Nat) (S : List Rc), k ≤ ns.length ∧ iv = .int .i64 k ∧ BkAt wr B m S ∧ Wn [] S k ∧ NtAt wr X x ∧ NtAt wr Y y ∧ Below w.heap.size w wr) (fun iv _ => ns.length - (intOf iv).toNat)
    case atStart => exact ⟨0, [], Nat.zero_le _, rfl, unhid HK, Wn.nil, unhid HX, unhid HY, unhid HB⟩
    case round =>
      clear HK HX HY HB
      obtain ⟨k, S, hk, rfl, hbk, hw, hx, hy, hb⟩ := hrel
      have HK := hid hbk
      have HW := hid hw
      have HX := hid hx
      have HY := hid hy
      have HB := hid hb
      clear hbk hw hx hy hb
      by_cases hlt : k < ns.length
      · have hki : (k : Int) < (ns.length : Int) := by omega
        obtain ⟨b, off, hAe, hbl, hc⟩ := ((unhid HND).below (unhid HB)) (nts_ne hlt)
        subst hAe
        obtain ⟨z, hz⟩ : ∃ z, ns[k]'hlt = z := ⟨_, rfl⟩
        have HZO := hid (unhid HNO z (hz ▸ List.getElem_mem hlt))
        obtain ⟨a0, a1, a2, a3, a4⟩ := nts_cells hc hlt hz
        have HW1 := hid (show wrap64 ((k : Int) + 1) = ((k + 1 : Nat) : Int) from by have h1 := unhid HLL; unfold wrap64; omega)
        clear hc hz
        go_upto_region 8 with (fail)
        have hb1 := below_alloc wr (.cells #[.int .i64 z.tab, .int .i64 z.hour, .int .i64 z.sign, .int .i64 z.fld, .int .i64 z.val] 30)
        have hz1 := heap_alloc_new wr (.cells #[.int .i64 z.tab, .int .i64 z.hour, .int .i64 z.sign, .int .i64 z.fld, .int .i64 z.val] 30)
        have HK := hid ((unhid HK).below' hb1)
        have HX := hid (NtAt.below (unhid HX) hb1)
        have HY := hid (NtAt.below (unhid HY) hb1)
        have HB := hid ((unhid HB).trans (hb1.mono (unhid HB).size))
        obtain ⟨N, hN⟩ : ∃ N, N = wr.heap.size := ⟨_, rfl⟩
        rw [← hN] at hz1 ⊢
        have HZ := hid (show NtAt _ N z from hz1)
        clear hb1 hz1 hN a0 a1 a2 a3 a4 hbl
        generalize wr.alloc (.cells #[.int .i64 z.tab, .int .i64 z.hour, .int .i64 z.sign, .int .i64 z.fld, .int .i64 z.val] 30) = W2 at *
        obtain ⟨a0, a1, a2, a3, a4⟩ := NtAt.cells (unhid HZ)
        go_wp2_with fail
        refine (write_calls z.tab z.hour z.sign z.fld z.val W2 (unhid HK) (by have := (unhid HW).len; have := unhid HLL; omega) (unhid HZO).1).mono ?_
        rintro e W3 ⟨rfl, hk3, hg3⟩
        have HX := hid ((unhid HX).beside (unhid HK) hg3)
        have HY := hid ((unhid HY).beside (unhid HK) hg3)
        have HW := hid ((unhid HW).write (unhid HK).v z.tab z.hour z.sign z.fld z.val)
        have HK := hid hk3
        have HB := hid ((unhid HB).grown hg3 (unhid HB).size (fun j e => by cases e; exact (unhid HM).1))
        clear hk3 hg3 a0 a1 a2 a3 a4 HZ
        go_wp2_with fail
        go_roundw
        case rel => exact ⟨k + 1, _, by omega, by first | go_num | rw [unhid HW1], unhid HK, unhid HW, unhid HX, unhid HY, unhid HB⟩
        case measure => first | (simp [intOf]; omega) | (rw [unhid HW1]; simp [intOf]; omega)
      · obtain rfl : k = ns.length := by omega
        have HV := hid (unhid HK).v
        have HG := hid (unhid HW).good
        have HC := hid (unhid HW).chain
        have HU1 := hid (show ∀ t, t < 8 → upT S t ≤ 100 from fun t ht => by have := (unhid HW).up t ht; have := unhid HLL; omega)
        have HU := hid (show ∀ t, t < 8 → upT S t ≤ 1000 from fun t ht => by have := unhid HU1 t ht; omega)
        have HLN := hid (show S.length ≤ 10 from Nat.le_trans (unhid HW).len (unhid HLL))
        clear HW HND HNO hlt hk
        go_wp2_with fail
        refine (pwaiting_calls (L := setR S) wr (unhid HK) (by have := unhid HLN; omega) (asc_setR S) (fun r => mem_setR.symm)).mono ?_
        rintro e W2 ⟨v, rfl, hrow, hb⟩
        rw [((unhid HG).perm (fun r => mem_setR.symm)).wait] at hrow
        obtain ⟨Av, cv, rfl, -, -⟩ := own_slice hrow
        have HK := hid ((unhid HK).below' hb)
        have HX := hid (NtAt.below (unhid HX) hb)
        have HY := hid (NtAt.below (unhid HY) hb)
        have HB := hid ((unhid HB).trans (hb.mono (unhid HB).size))
        simp only [List.length_nil]
        clear hrow hb
        go_upto_region 11 with (fail)
        have hXY : X ≠ Y := by have := unhid HXE; omega
        have HNE := hid hXY
        have hYB : w.heap.size ≤ Y := by have := unhid HXE; omega
        have HYB := hid hYB
        have HSF := hid (show ∀ w', NtAt w' X x → (w'.cell? ⟨X, 2, none⟩ = some (.int .i64 x.sign) ∧ w'.cell? ⟨X, 3, none⟩ = some (.int .i64 x.fld)) from fun w' h => ⟨h.cells.2.2.1, h.cells.2.2.2.1⟩)
        have hbd := Below.drew (Below.refl W2.heap.size W2)
        refine wp_region_noPanic ?_
        refine wp_region_E (S := fun w' => (w'.cell? ⟨X, 2, none⟩ = some (.int .i64 x.sign) ∧ w'.cell? ⟨X, 3, none⟩ = some (.int .i64 x.fld))) 7 8 rfl (by kernel_rfl) (by kernel_rfl) ((unhid HSF) _ ((unhid HX).below hbd)) ?_
        intro hSE
        have HK := hid ((unhid HK).below' hbd)
        have HX := hid (NtAt.below (unhid HX) hbd)
        have HY := hid (NtAt.below (unhid HY) hbd)
        have HB := hid ((unhid HB).trans (hbd.mono (unhid HB).size))
        clear hbd hXY hYB
        generalize W2.drew = Wd at *
        (refine WE_take (i := 0) (v := ?_) rfl (by kernel_rfl) (by decide) (by kernel_rfl) (by kernel_rfl) (fun _ _ _ h => h) (by rfl) hSE ?_ ?_; rotate_left; (focus (intro w hSw; (try dsimp only at hSw); go_simp; (try with_reducible rfl))); simp only [Act.put, List.setIfInBounds_toArray, List.set_cons_zero, List.set_cons_succ])
        (refine WE_take (i := 1) (v := ?_) rfl (by kernel_rfl) (by decide) (by kernel_rfl) (by kernel_rfl) (fun _ _ _ h => h) (by rfl) hSE ?_ ?_; rotate_left; (focus (intro w hSw; (try dsimp only at hSw); go_simp; (try with_reducible rfl))); simp only [Act.put, List.setIfInBounds_toArray, List.set_cons_zero, List.set_cons_succ])
        (refine WE_take (i := 2) (v := ?_) rfl (by kernel_rfl) (by decide) (by kernel_rfl) (by kernel_rfl) (fun _ _ _ h => h) (by rfl) hSE ?_ ?_; rotate_left; (focus (intro w hSw; (try dsimp only at hSw); go_simp; (try with_reducible rfl))); simp only [Act.put, List.setIfInBounds_toArray, List.set_cons_zero, List.set_cons_succ])
        (refine WE_take (i := 3) (v := ?_) rfl (by kernel_rfl) (by decide) (by kernel_rfl) (by kernel_rfl) (fun _ _ _ h => h) (by rfl) hSE ?_ ?_; rotate_left; (focus (intro w hSw; (try dsimp only at hSw); go_simp; (try with_reducible rfl))); simp only [Act.put, List.setIfInBounds_toArray, List.set_cons_zero, List.set_cons_succ])
        (refine WE_take (i := 4) (v := ?_) rfl (by kernel_rfl) (by decide) (by kernel_rfl) (by kernel_rfl) (fun _ _ _ h => h) (by rfl) hSE ?_ ?_; rotate_left; (focus (intro w hSw; (try dsimp only at hSw); go_simp; (try with_reducible rfl))); simp only [Act.put, List.setIfInBounds_toArray, List.set_cons_zero, List.set_cons_succ])
        have y2 := (unhid HY).cells.2.2.1
        have fz : Wd.frozen? ⟨Y, 2, none⟩ = false := frozen_of_row _ _ _ _ _ (unhid HY)
        (refine WE_one (i := 5) rfl (by decide) (by kernel_rfl) ?_; intro K hK)
        go_simp
        have HX := hid ((unhid HX).other (i := 2) (v := .int .i64 x.sign) (unhid HNE))
        have HK := hid ((unhid HK).note (i := 2) (v := .int .i64 x.sign) (unhid HY))
        have HY := hid ((unhid HY).set2 x.sign)
        have HB := hid (Below.setCell (unhid HB) (p := ⟨Y, 2, none⟩) (unhid HYB) (.int .i64 x.sign))
        refine hK.out _ _ ((unhid HSF) _ (unhid HX)) ?_
        clear hSE hK K y2 fz
        intro hSE
        (try simp only [Act.put, List.setIfInBounds_toArray, List.set_cons_zero, List.set_cons_succ])
        generalize Wd.setCell ⟨Y, 2, none⟩ (.int .i64 x.sign) = We at *
        (refine WE_take (i := 6) (v := ?_) rfl (by kernel_rfl) (by decide) (by kernel_rfl) (by kernel_rfl) (fun _ _ _ h => h) (by rfl) hSE ?_ ?_; rotate_left; (focus (intro w hSw; (try dsimp only at hSw); go_simp; (try with_reducible rfl))); simp only [Act.put, List.setIfInBounds_toArray, List.set_cons_zero, List.set_cons_succ])
        have y3 := (unhid HY).cells.2.2.2.1
        have fz : We.frozen? ⟨Y, 3, none⟩ = false := frozen_of_row _ _ _ _ _ (unhid HY)
        dsimp only at y3
        (refine WE_last rfl (by kernel_rfl) (by kernel_rfl) (by kernel_rfl) ?_; intro K hK; go_simp; refine hK.out _ _ (NoPanic.normal ?_); clear hK K)
        have HX := hid ((unhid HX).other (i := 3) (v := .int .i64 x.fld) (unhid HNE))
        have HK := hid ((unhid HK).note (i := 3) (v := .int .i64 x.fld) (unhid HY))
        have HY := hid ((unhid HY).set3 x.fld)
        have HB := hid (Below.setCell (unhid HB) (p := ⟨Y, 3, none⟩) (unhid HYB) (.int .i64 x.fld))
        clear hSE y3 fz HSF
        generalize We.setCell ⟨Y, 3, none⟩ (.int .i64 x.fld) = W3 at *
        have HMB := hid (Nat.le_trans (unhid HM).1 (Nat.le_of_lt (unhid HK).lt.2))
        go_wp2_with fail
        refine (pcopy_calls W3 (unhid HK)).mono ?_
        rintro e W4 ⟨rfl, hkc, hb⟩
        obtain ⟨mc, hmc⟩ : ∃ mc, mc = W3.heap.size := ⟨_, rfl⟩
        obtain ⟨Bc, hBc⟩ : ∃ Bc, Bc = W3.heap.size + 1 := ⟨_, rfl⟩
        rw [← hBc] at hkc ⊢
        rw [← hmc] at hkc
        have HKC := hid hkc
        have HMC := hid (show m < mc ∧ w.heap.size ≤ mc from by have := (unhid HK).lt.2; have := (unhid HB).size; omega)
        have HK := hid ((unhid HK).below' hb)
        have HX := hid (NtAt.below (unhid HX) hb)
        have HY := hid (NtAt.below (unhid HY) hb)
        have HB := hid ((unhid HB).trans (hb.mono (unhid HB).size))
        clear hkc hb hmc hBc
        go_wp2_with fail
        refine (pcopy_calls W4 (unhid HK)).mono ?_
        rintro e W5 ⟨rfl, hkd, hb⟩
        obtain ⟨md, hmd⟩ : ∃ md, md = W4.heap.size := ⟨_, rfl⟩
        obtain ⟨Bd, hBd⟩ : ∃ Bd, Bd = W4.heap.size + 1 := ⟨_, rfl⟩
        rw [← hBd] at hkd ⊢
        rw [← hmd] at hkd
        have HKD := hid hkd
        have HMD := hid (show mc < md ∧ w.heap.size ≤ md from by have := (unhid HKC).lt.2; have := (unhid HB).size; omega)
        have HK := hid ((unhid HK).below' hb)
        have HKC := hid ((unhid HKC).below' hb)
        have HX := hid (NtAt.below (unhid HX) hb)
        have HY := hid (NtAt.below (unhid HY) hb)
        have HB := hid ((unhid HB).trans (hb.mono (unhid HB).size))
        clear hkd hb hmd hBd
        obtain ⟨a0, a1, a2, a3, a4⟩ := NtAt.cells (unhid HX)
        go_wp2_with fail
        refine (write_calls x.tab x.hour x.sign x.fld x.val W5 (unhid HKC) (by have := unhid HLN; omega) (unhid HXW).1).mono ?_
        rintro e W6 ⟨rfl, hk6, hg6⟩
        have HX := hid ((unhid HX).beside (unhid HKC) hg6)
        have HY := hid ((unhid HY).beside (unhid HKC) hg6)
        have HK := hid ((unhid HK).beside (unhid HKC) hg6 (by have := unhid HMC; omega))
        have HKD := hid ((unhid HKD).beside (unhid HKC) hg6 (by have := unhid HMD; omega))
        have HKC := hid hk6
        have HB := hid ((unhid HB).grown hg6 (unhid HB).size (fun j e => by cases e; exact (unhid HMC).2))
        obtain ⟨r1, hr1⟩ : ∃ r1, r1 = (writeR S x.tab x.hour x.sign x.fld x.val).1 := ⟨_, rfl⟩
        obtain ⟨E1, hE1⟩ : ∃ E1, E1 = (writeR S x.tab x.hour x.sign x.fld x.val).2.1 := ⟨_, rfl⟩
        obtain ⟨C, hC1⟩ : ∃ C, C = (writeR S x.tab x.hour x.sign x.fld x.val).2.2 := ⟨_, rfl⟩
        rw [← hr1, ← hE1]
        rw [← hC1] at HKC
        have HR1 := hid (show writeR S x.tab x.hour x.sign x.fld x.val = (r1, E1, C) from by rw [hr1, hE1, hC1])
        clear hk6 hg6 hr1 hE1 hC1 a0 a1 a2 a3 a4
        simp only [rcV, rcA]
        go_upto_region 14 with (fail)
        change Code.wp _ _ _ _ (W6.alloc (.cells (rcA r1) 33))
        have hb := below_alloc W6 (.cells (rcA r1) 33)
        have HK := hid ((unhid HK).below' hb)
        have HKC := hid ((unhid HKC).below' hb)
        have HKD := hid ((unhid HKD).below' hb)
        have HX := hid (NtAt.below (unhid HX) hb)
        have HY := hid (NtAt.below (unhid HY) hb)
        have HB := hid ((unhid HB).trans (hb.mono (unhid HB).size))
        clear hb
        generalize W6.alloc (.cells (rcA r1) 33) = W7 at *
        obtain ⟨a0, a1, a2, a3, a4⟩ := NtAt.cells (unhid HY)
        dsimp only at a0 a1 a2 a3 a4
        go_wp2_with fail
        refine (write_calls y.tab y.hour x.sign x.fld y.val W7 (unhid HKD) (by have := unhid HLN; omega) (unhid HYW).1).mono ?_
        rintro e W8 ⟨rfl, hk8, hg8⟩
        have HX := hid ((unhid HX).beside (unhid HKD) hg8)
        have HY := hid ((unhid HY).beside (unhid HKD) hg8)
        have HK := hid ((unhid HK).beside (unhid HKD) hg8 (by have := unhid HMC; have := unhid HMD; omega))
        have HKC := hid ((unhid HKC).beside (unhid HKD) hg8 (by have := unhid HMD; omega))
        have HKD := hid hk8
        have HB := hid ((unhid HB).grown hg8 (unhid HB).size (fun j e => by cases e; exact (unhid HMD).2))
        obtain ⟨r2, hr1⟩ : ∃ r1, r1 = (writeR S y.tab y.hour x.sign x.fld y.val).1 := ⟨_, rfl⟩
        obtain ⟨E2, hE1⟩ : ∃ E1, E1 = (writeR S y.tab y.hour x.sign x.fld y.val).2.1 := ⟨_, rfl⟩
        obtain ⟨D, hC1⟩ : ∃ C, C = (writeR S y.tab y.hour x.sign x.fld y.val).2.2 := ⟨_, rfl⟩
        rw [← hr1, ← hE1]
        rw [← hC1] at HKD
        have HR2 := hid (show writeR S y.tab y.hour x.sign x.fld y.val = (r2, E2, D) from by rw [hr1, hE1, hC1])
        clear hk8 hg8 hr1 hE1 hC1 a0 a1 a2 a3 a4
        simp only [rcV, rcA]
        go_upto_region 15 with (fail)
        change Code.wp _ _ _ _ (W8.alloc (.cells (rcA r2) 33))
        have hb := below_alloc W8 (.cells (rcA r2) 33)
        have HK := hid ((unhid HK).below' hb)
        have HKC := hid ((unhid HKC).below' hb)
        have HKD := hid ((unhid HKD).below' hb)
        have HX := hid (NtAt.below (unhid HX) hb)
        have HY := hid (NtAt.below (unhid HY) hb)
        have HB := hid ((unhid HB).trans (hb.mono (unhid HB).size))
        clear hb
        generalize W8.alloc (.cells (rcA r2) 33) = W9 at *
        have he := unhid HR1
        rw [unfine_write (unhid HFI)] at he
        simp only [Prod.mk.injEq] at he
        obtain ⟨rfl, rfl, rfl⟩ := he
        obtain ⟨a0, a1, a2, a3, a4⟩ := NtAt.cells (unhid HX)
        have d0 := decide_eq_true (unhid HG0)
        have d1 := decide_eq_true (unhid HG1)
        have d2 := decide_eq_false (show ¬ 0 ≤ x.hour from by have := unhid HG2; omega)
        go_wp2_with fail
        refine (first_calls _).mono ?_
        rintro e w9 ⟨rfl, hb9⟩
        have HB := hid ((unhid HB).trans (hb9.mono (unhid HB).size))
        clear hb9
        go_wp2_with fail
        go_ret
        exact ⟨rfl, unhid HB⟩

set_option maxHeartbeats 16000000 in
set_option maxRecDepth 100000 in
theorem ldec_bad3 (ns : List Nt) (An : Option Addr) (cn : Nat) (x y : Nt) (w : World) (hn : NtsIn w An ns cn) (hx : NtW x) (hy : NtW y) (g0 : 1 ≤ x.tab) (g1 : x.tab ≤ 8) (g2 : 0 ≤ x.hour) (g3 : ¬ x.hour ≤ 10000000) :
    Calls Try.prog 10 #[.slice An ns.length cn, .agg #[.int .i64 x.tab, .int .i64 x.hour, .int .i64 x.sign, .int .i64 x.fld, .int .i64 x.val], .agg #[.int .i64 y.tab, .int .i64 y.hour, .int .i64 y.sign, .int .i64 y.fld, .int .i64 y.val]] w fun e w' => e = .returned (.bool true) ∧ Below w.heap.size w w' := by
  have HFI := hid (show fineB x.tab x.hour x.sign x.fld x.val = false from by rw [Bool.eq_false_iff]; intro h; simp only [fineB, btw, Bool.and_eq_true, decide_eq_true_eq] at h; omega)
  have HG0 := hid g0
  have HG1 := hid g1
  have HG2 := hid g2
  have HG3 := hid g3
  clear g0 g1 g2 g3
  have HNO := hid hn.ok
  have HND := hid hn.rd
  have HXW := hid hx
  have HYW := hid hy
  have hb0 := below_alloc w (.cells #[.int .i64 x.tab, .int .i64 x.hour, .int .i64 x.sign, .int .i64 x.fld, .int .i64 x.val] 30)
  have hx0 := heap_alloc_new w (.cells #[.int .i64 x.tab, .int .i64 x.hour, .int .i64 x.sign, .int .i64 x.fld, .int .i64 x.val] 30)
  have hs0 : (w.alloc (.cells #[.int .i64 x.tab, .int .i64 x.hour, .int .i64 x.sign, .int .i64 x.fld, .int .i64 x.val] 30)).heap.size = w.heap.size + 1 := by simp
  have hb1 := below_alloc (w.alloc (.cells #[.int .i64 x.tab, .int .i64 x.hour, .int .i64 x.sign, .int .i64 x.fld, .int .i64 x.val] 30)) (.cells #[.int .i64 y.tab, .int .i64 y.hour, .int .i64 y.sign, .int .i64 y.fld, .int .i64 y.val] 30)
  have hy0 := heap_alloc_new (w.alloc (.cells #[.int .i64 x.tab, .int .i64 x.hour, .int .i64 x.sign, .int .i64 x.fld, .int .i64 x.val] 30)) (.cells #[.int .i64 y.tab, .int .i64 y.hour, .int .i64 y.sign, .int .i64 y.fld, .int .i64 y.val] 30)
  rw [hs0] at hy0
  clear hn hx hy
  go_enter Try.func10, Try.ntmps10
  go_upto_region 1 with (fail)
  change Code.wp _ _ _ _ ((w.alloc (.cells #[.int .i64 x.tab, .int .i64 x.hour, .int .i64 x.sign, .int .i64 x.fld, .int .i64 x.val] 30)).alloc (.cells #[.int .i64 y.tab, .int .i64 y.hour, .int .i64 y.sign, .int .i64 y.fld, .int .i64 y.val] 30))
  have HX := hid (show NtAt _ w.heap.size x from (hb1.block _ (by omega)).trans hx0)
  have HY := hid (show NtAt _ (w.heap.size + 1) y from hy0)
  have HB := hid (hb0.trans (hb1.mono hb0.size))
  clear hb0 hx0 hb1 hy0 hs0
  generalize (w.alloc (.cells #[.int .i64 x.tab, .int .i64 x.hour, .int .i64 x.sign, .int .i64 x.fld, .int .i64 x.val] 30)).alloc (.cells #[.int .i64 y.tab, .int .i64 y.hour, .int .i64 y.sign, .int .i64 y.fld, .int .i64 y.val] 30) = W0 at *
  obtain ⟨X, hX⟩ : ∃ X, X = w.heap.size := ⟨_, rfl⟩
  obtain ⟨Y, hY⟩ : ∃ Y, Y = w.heap.size + 1 := ⟨_, rfl⟩
  rw [← hX] at HX
  rw [← hY] at HY
  rw [← hY, ← hX]
  have HXE := hid (⟨hX, hY⟩ : X = w.heap.size ∧ Y = w.heap.size + 1)
  clear hX hY
  by_cases h1 : 10 < ns.length
  · have hni : (10 : Int) < (ns.length : Int) := by omega
    go_wp2_with fail
    refine (first_calls _).mono ?_
    rintro e w9 ⟨rfl, hb9⟩
    have HB := hid ((unhid HB).trans (hb9.mono (unhid HB).size))
    clear hb9
    go_wp2_with fail
    go_ret
    exact ⟨rfl, unhid HB⟩
  · have hni : ¬ (10 : Int) < (ns.length : Int) := by omega
    have HLL := hid (show ns.length ≤ 10 from by omega)
    clear h1
    go_wp2_with fail
    refine (bookNew_calls W0).mono ?_
    rintro e W1 ⟨rfl, hk1, hb1⟩
    obtain ⟨m, hm⟩ : ∃ m, m = W0.heap.size := ⟨_, rfl⟩
    obtain ⟨B, hB⟩ : ∃ B, B = W0.heap.size + 1 := ⟨_, rfl⟩
    rw [← hB] at hk1 ⊢
    rw [← hm] at hk1
    have HK := hid hk1
    have HM := hid (show w.heap.size ≤ m ∧ w.heap.size ≤ W0.heap.size from by have := (unhid HB).size; omega)
    have HX := hid (NtAt.below (unhid HX) hb1)
    have HY := hid (NtAt.below (unhid HY) hb1)
    have HB := hid ((unhid HB).trans (hb1.mono (unhid HB).size))
    clear hk1 hb1 hm hB hni
    go_upto_region 5 with (fail)
    go_loopw [8] (fun iv wr => ∃ (k : Nat) (S : List Rc), k ≤ ns.length ∧ iv = .int .i64 k ∧ BkAt wr B m S ∧ Wn [] S k ∧ NtAt wr X x ∧ NtAt wr Y y ∧ Below w.heap.size w wr) (fun iv _ => ns.length - (intOf iv).toNat)
    case atStart => exact ⟨0, [], Nat.zero_le _, rfl, unhid HK, Wn.nil, unhid HX, unhid HY, unhid HB⟩
    case round =>
      clear HK HX HY HB
      obtain ⟨k, S, hk, rfl, hbk, hw, hx, hy, hb⟩ := hrel
      have HK := hid hbk
      have HW := hid hw
      have HX := hid hx
      have HY := hid hy
      have HB := hid hb
      clear hbk hw hx hy hb
      by_cases hlt : k < ns.length
      · have hki : (k : Int) < (ns.length : Int) := by omega
        obtain ⟨b, off, hAe, hbl, hc⟩ := ((unhid HND).below (unhid HB)) (nts_ne hlt)
        subst hAe
        obtain ⟨z, hz⟩ : ∃ z, ns[k]'hlt = z := ⟨_, rfl⟩
        have HZO := hid (unhid HNO z (hz ▸ List.getElem_mem hlt))
        obtain ⟨a0, a1, a2, a3, a4⟩ := nts_cells hc hlt hz
        have HW1 := hid (show wrap64 ((k : Int) + 1) = ((k + 1 : Nat) : Int) from by have h1 := unhid HLL; unfold wrap64; omega)
        clear hc hz
        go_upto_region 8 with (fail)
        have hb1 := below_alloc wr (.cells #[.int .i64 z.tab, .int .i64 z.hour, .int .i64 z.sign, .int .i64 z.fld, .int .i64 z.val] 30)
        have hz1 := heap_alloc_new wr (.cells #[.int .i64 z.tab, .int .i64 z.hour, .int .i64 z.sign, .int .i64 z.fld, .int .i64 z.val] 30)
        have HK := hid ((unhid HK).below' hb1)
        have HX := hid (NtAt.below (unhid HX) hb1)
        have HY := hid (NtAt.below (unhid HY) hb1)
        have HB := hid ((unhid HB).trans (hb1.mono (unhid HB).size))
        obtain ⟨N, hN⟩ : ∃ N, N = wr.heap.size := ⟨_, rfl⟩
        rw [← hN] at hz1 ⊢
        have HZ := hid (show NtAt _ N z from hz1)
        clear hb1 hz1 hN a0 a1 a2 a3 a4 hbl
        generalize wr.alloc (.cells #[.int .i64 z.tab, .int .i64 z.hour, .int .i64 z.sign, .int .i64 z.fld, .int .i64 z.val] 30) = W2 at *
        obtain ⟨a0, a1, a2, a3, a4⟩ := NtAt.cells (unhid HZ)
        go_wp2_with fail
        refine (write_calls z.tab z.hour z.sign z.fld z.val W2 (unhid HK) (by have := (unhid HW).len; have := unhid HLL; omega) (unhid HZO).1).mono ?_
        rintro e W3 ⟨rfl, hk3, hg3⟩
        have HX := hid ((unhid HX).beside (unhid HK) hg3)
        have HY := hid ((unhid HY).beside (unhid HK) hg3)
        have HW := hid ((unhid HW).write (unhid HK).v z.tab z.hour z.sign z.fld z.val)
        have HK := hid hk3
        have HB := hid ((unhid HB).grown hg3 (unhid HB).size (fun j e => by cases e; exact (unhid HM).1))
        clear hk3 hg3 a0 a1 a2 a3 a4 HZ
        go_wp2_with fail
        go_roundw
        case rel => exact ⟨k + 1, _, by omega, by first | go_num | rw [unhid HW1], unhid HK, unhid HW, unhid HX, unhid HY, unhid HB⟩
        case measure => first | (simp [intOf]; omega) | (rw [unhid HW1]; simp [intOf]; omega)
      · obtain rfl : k = ns.length := by omega
        have HV := hid (unhid HK).v
        have HG := hid (unhid HW).good
        have HC := hid (unhid HW).chain
        have HU1 := hid (show ∀ t, t < 8 → upT S t ≤ 100 from fun t ht => by have := (unhid HW).up t ht; have := unhid HLL; omega)
        have HU := hid (show ∀ t, t < 8 → upT S t ≤ 1000 from fun t ht => by have := unhid HU1 t ht; omega)
        have HLN := hid (show S.length ≤ 10 from Nat.le_trans (unhid HW).len (unhid HLL))
        clear HW HND HNO hlt hk
        go_wp2_with fail
        refine (pwaiting_calls (L := setR S) wr (unhid HK) (by have := unhid HLN; omega) (asc_setR S) (fun r => mem_setR.symm)).mono ?_
        rintro e W2 ⟨v, rfl, hrow, hb⟩
        rw [((unhid HG).perm (fun r => mem_setR.symm)).wait] at hrow
        obtain ⟨Av, cv, rfl, -, -⟩ := own_slice hrow
        have HK := hid ((unhid HK).below' hb)
        have HX := hid (NtAt.below (unhid HX) hb)
        have HY := hid (NtAt.below (unhid HY) hb)
        have HB := hid ((unhid HB).trans (hb.mono (unhid HB).size))
        simp only [List.length_nil]
        clear hrow hb
        go_upto_region 11 with (fail)
        have hXY : X ≠ Y := by have := unhid HXE; omega
        have HNE := hid hXY
        have hYB : w.heap.size ≤ Y := by have := unhid HXE; omega
        have HYB := hid hYB
        have HSF := hid (show ∀ w', NtAt w' X x → (w'.cell? ⟨X, 2, none⟩ = some (.int .i64 x.sign) ∧ w'.cell? ⟨X, 3, none⟩ = some (.int .i64 x.fld)) from fun w' h => ⟨h.cells.2.2.1, h.cells.2.2.2.1⟩)
        have hbd := Below.drew (Below.refl W2.heap.size W2)
        refine wp_region_noPanic ?_
        refine wp_region_E (S := fun w' => (w'.cell? ⟨X, 2, none⟩ = some (.int .i64 x.sign) ∧ w'.cell? ⟨X, 3, none⟩ = some (.int .i64 x.fld))) 7 8 rfl (by kernel_rfl) (by kernel_rfl) ((unhid HSF) _ ((unhid HX).below hbd)) ?_
        intro hSE
        have HK := hid ((unhid HK).below' hbd)
        have HX := hid (NtAt.below (unhid HX) hbd)
        have HY := hid (NtAt.below (unhid HY) hbd)
        have HB := hid ((unhid HB).trans (hbd.mono (unhid HB).size))
        clear hbd hXY hYB
        generalize W2.drew = Wd at *
        (refine WE_take (i := 0) (v := ?_) rfl (by kernel_rfl) (by decide) (by kernel_rfl) (by kernel_rfl) (fun _ _ _ h => h) (by rfl) hSE ?_ ?_; rotate_left; (focus (intro w hSw; (try dsimp only at hSw); go_simp; (try with_reducible rfl))); simp only [Act.put, List.setIfInBounds_toArray, List.set_cons_zero, List.set_cons_succ])
        (refine WE_take (i := 1) (v := ?_) rfl (by kernel_rfl) (by decide) (by kernel_rfl) (by kernel_rfl) (fun _ _ _ h => h) (by rfl) hSE ?_ ?_; rotate_left; (focus (intro w hSw; (try dsimp only at hSw); go_simp; (try with_reducible rfl))); simp only [Act.put, List.setIfInBounds_toArray, List.set_cons_zero, List.set_cons_succ])
        (refine WE_take (i := 2) (v := ?_) rfl (by kernel_rfl) (by decide) (by kernel_rfl) (by kernel_rfl) (fun _ _ _ h => h) (by rfl) hSE ?_ ?_; rotate_left; (focus (intro w hSw; (try dsimp only at hSw); go_simp; (try with_reducible rfl))); simp only [Act.put, List.setIfInBounds_toArray, List.set_cons_zero, List.set_cons_succ])
        (refine WE_take (i := 3) (v := ?_) rfl (by kernel_rfl) (by decide) (by kernel_rfl) (by kernel_rfl) (fun _ _ _ h => h) (by rfl) hSE ?_ ?_; rotate_left; (focus (intro w hSw; (try dsimp only at hSw); go_simp; (try with_reducible rfl))); simp only [Act.put, List.setIfInBounds_toArray, List.set_cons_zero, List.set_cons_succ])
        (refine WE_take (i := 4) (v := ?_) rfl (by kernel_rfl) (by decide) (by kernel_rfl) (by kernel_rfl) (fun _ _ _ h => h) (by rfl) hSE ?_ ?_; rotate_left; (focus (intro w hSw; (try dsimp only at hSw); go_simp; (try with_reducible rfl))); simp only [Act.put, List.setIfInBounds_toArray, List.set_cons_zero, List.set_cons_succ])
        have y2 := (unhid HY).cells.2.2.1
        have fz : Wd.frozen? ⟨Y, 2, none⟩ = false := frozen_of_row _ _ _ _ _ (unhid HY)
        (refine WE_one (i := 5) rfl (by decide) (by kernel_rfl) ?_; intro K hK)
        go_simp
        have HX := hid ((unhid HX).other (i := 2) (v := .int .i64 x.sign) (unhid HNE))
        have HK := hid ((unhid HK).note (i := 2) (v := .int .i64 x.sign) (unhid HY))
        have HY := hid ((unhid HY).set2 x.sign)
        have HB := hid (Below.setCell (unhid HB) (p := ⟨Y, 2, none⟩) (unhid HYB) (.int .i64 x.sign))
        refine hK.out _ _ ((unhid HSF) _ (unhid HX)) ?_
        clear hSE hK K y2 fz
        intro hSE
        (try simp only [Act.put, List.setIfInBounds_toArray, List.set_cons_zero, List.set_cons_succ])
        generalize Wd.setCell ⟨Y, 2, none⟩ (.int .i64 x.sign) = We at *
        (refine WE_take (i := 6) (v := ?_) rfl (by kernel_rfl) (by decide) (by kernel_rfl) (by kernel_rfl) (fun _ _ _ h => h) (by rfl) hSE ?_ ?_; rotate_left; (focus (intro w hSw; (try dsimp only at hSw); go_simp; (try with_reducible rfl))); simp only [Act.put, List.setIfInBounds_toArray, List.set_cons_zero, List.set_cons_succ])
        have y3 := (unhid HY).cells.2.2.2.1
        have fz : We.frozen? ⟨Y, 3, none⟩ = false := frozen_of_row _ _ _ _ _ (unhid HY)
        dsimp only at y3
        (refine WE_last rfl (by kernel_rfl) (by kernel_rfl) (by kernel_rfl) ?_; intro K hK; go_simp; refine hK.out _ _ (NoPanic.normal ?_); clear hK K)
        have HX := hid ((unhid HX).other (i := 3) (v := .int .i64 x.fld) (unhid HNE))
        have HK := hid ((unhid HK).note (i := 3) (v := .int .i64 x.fld) (unhid HY))
        have HY := hid ((unhid HY).set3 x.fld)
        have HB := hid (Below.setCell (unhid HB) (p := ⟨Y, 3, none⟩) (unhid HYB) (.int .i64 x.fld))
        clear hSE y3 fz HSF
        generalize We.setCell ⟨Y, 3, none⟩ (.int .i64 x.fld) = W3 at *
        have HMB := hid (Nat.le_trans (unhid HM).1 (Nat.le_of_lt (unhid HK).lt.2))
        go_wp2_with fail
        refine (pcopy_calls W3 (unhid HK)).mono ?_
        rintro e W4 ⟨rfl, hkc, hb⟩
        obtain ⟨mc, hmc⟩ : ∃ mc, mc = W3.heap.size := ⟨_, rfl⟩
        obtain ⟨Bc, hBc⟩ : ∃ Bc, Bc = W3.heap.size + 1 := ⟨_, rfl⟩
        rw [← hBc] at hkc ⊢
        rw [← hmc] at hkc
        have HKC := hid hkc
        have HMC := hid (show m < mc ∧ w.heap.size ≤ mc from by have := (unhid HK).lt.2; have := (unhid HB).size; omega)
        have HK := hid ((unhid HK).below' hb)
        have HX := hid (NtAt.below (unhid HX) hb)
        have HY := hid (NtAt.below (unhid HY) hb)
        have HB := hid ((unhid HB).trans (hb.mono (unhid HB).size))
        clear hkc hb hmc hBc
        go_wp2_with fail
        refine (pcopy_calls W4 (unhid HK)).mono ?_
        rintro e W5 ⟨rfl, hkd, hb⟩
        obtain ⟨md, hmd⟩ : ∃ md, md = W4.heap.size := ⟨_, rfl⟩
        obtain ⟨Bd, hBd⟩ : ∃ Bd, Bd = W4.heap.size + 1 := ⟨_, rfl⟩
        rw [← hBd] at hkd ⊢
        rw [← hmd] at hkd
        have HKD := hid hkd
        have HMD := hid (show mc < md ∧ w.heap.size ≤ md from by have := (unhid HKC).lt.2; have := (unhid HB).size; omega)
        have HK := hid ((unhid HK).below' hb)
        have HKC := hid ((unhid HKC).below' hb)
        have HX := hid (NtAt.below (unhid HX) hb)
        have HY := hid (NtAt.below (unhid HY) hb)
        have HB := hid ((unhid HB).trans (hb.mono (unhid HB).size))
        clear hkd hb hmd hBd
        obtain ⟨a0, a1, a2, a3, a4⟩ := NtAt.cells (unhid HX)
        go_wp2_with fail
        refine (write_calls x.tab x.hour x.sign x.fld x.val W5 (unhid HKC) (by have := unhid HLN; omega) (unhid HXW).1).mono ?_
        rintro e W6 ⟨rfl, hk6, hg6⟩
        have HX := hid ((unhid HX).beside (unhid HKC) hg6)
        have HY := hid ((unhid HY).beside (unhid HKC) hg6)
        have HK := hid ((unhid HK).beside (unhid HKC) hg6 (by have := unhid HMC; omega))
        have HKD := hid ((unhid HKD).beside (unhid HKC) hg6 (by have := unhid HMD; omega))
        have HKC := hid hk6
        have HB := hid ((unhid HB).grown hg6 (unhid HB).size (fun j e => by cases e; exact (unhid HMC).2))
        obtain ⟨r1, hr1⟩ : ∃ r1, r1 = (writeR S x.tab x.hour x.sign x.fld x.val).1 := ⟨_, rfl⟩
        obtain ⟨E1, hE1⟩ : ∃ E1, E1 = (writeR S x.tab x.hour x.sign x.fld x.val).2.1 := ⟨_, rfl⟩
        obtain ⟨C, hC1⟩ : ∃ C, C = (writeR S x.tab x.hour x.sign x.fld x.val).2.2 := ⟨_, rfl⟩
        rw [← hr1, ← hE1]
        rw [← hC1] at HKC
        have HR1 := hid (show writeR S x.tab x.hour x.sign x.fld x.val = (r1, E1, C) from by rw [hr1, hE1, hC1])
        clear hk6 hg6 hr1 hE1 hC1 a0 a1 a2 a3 a4
        simp only [rcV, rcA]
        go_upto_region 14 with (fail)
        change Code.wp _ _ _ _ (W6.alloc (.cells (rcA r1) 33))
        have hb := below_alloc W6 (.cells (rcA r1) 33)
        have HK := hid ((unhid HK).below' hb)
        have HKC := hid ((unhid HKC).below' hb)
        have HKD := hid ((unhid HKD).below' hb)
        have HX := hid (NtAt.below (unhid HX) hb)
        have HY := hid (NtAt.below (unhid HY) hb)
        have HB := hid ((unhid HB).trans (hb.mono (unhid HB).size))
        clear hb
        generalize W6.alloc (.cells (rcA r1) 33) = W7 at *
        obtain ⟨a0, a1, a2, a3, a4⟩ := NtAt.cells (unhid HY)
        dsimp only at a0 a1 a2 a3 a4
        go_wp2_with fail
        refine (write_calls y.tab y.hour x.sign x.fld y.val W7 (unhid HKD) (by have := unhid HLN; omega) (unhid HYW).1).mono ?_
        rintro e W8 ⟨rfl, hk8, hg8⟩
        have HX := hid ((unhid HX).beside (unhid HKD) hg8)
        have HY := hid ((unhid HY).beside (unhid HKD) hg8)
        have HK := hid ((unhid HK).beside (unhid HKD) hg8 (by have := unhid HMC; have := unhid HMD; omega))
        have HKC := hid ((unhid HKC).beside (unhid HKD) hg8 (by have := unhid HMD; omega))
        have HKD := hid hk8
        have HB := hid ((unhid HB).grown hg8 (unhid HB).size (fun j e => by cases e; exact (unhid HMD).2))
        obtain ⟨r2, hr1⟩ : ∃ r1, r1 = (writeR S y.tab y.hour x.sign x.fld y.val).1 := ⟨_, rfl⟩
        obtain ⟨E2, hE1⟩ : ∃ E1, E1 = (writeR S y.tab y.hour x.sign x.fld y.val).2.1 := ⟨_, rfl⟩
        obtain ⟨D, hC1⟩ : ∃ C, C = (writeR S y.tab y.hour x.sign x.fld y.val).2.2 := ⟨_, rfl⟩
        rw [← hr1, ← hE1]
        rw [← hC1] at HKD
        have HR2 := hid (show writeR S y.tab y.hour x.sign x.fld y.val = (r2, E2, D) from by rw [hr1, hE1, hC1])
        clear hk8 hg8 hr1 hE1 hC1 a0 a1 a2 a3 a4
        simp only [rcV, rcA]
        go_upto_region 15 with (fail)
        change Code.wp _ _ _ _ (W8.alloc (.cells (rcA r2) 33))
        have hb := below_alloc W8 (.cells (rcA r2) 33)
        have HK := hid ((unhid HK).below' hb)
        have HKC := hid ((unhid HKC).below' hb)
        have HKD := hid ((unhid HKD).below' hb)
        have HX := hid (NtAt.below (unhid HX) hb)
        have HY := hid (NtAt.below (unhid HY) hb)
        have HB := hid ((unhid HB).trans (hb.mono (unhid HB).size))
        clear hb
        generalize W8.alloc (.cells (rcA r2) 33) = W9 at *
        have he := unhid HR1
        rw [unfine_write (unhid HFI)] at he
        simp only [Prod.mk.injEq] at he
        obtain ⟨rfl, rfl, rfl⟩ := he
        obtain ⟨a0, a1, a2, a3, a4⟩ := NtAt.cells (unhid HX)
        have d0 := decide_eq_true (unhid HG0)
        have d1 := decide_eq_true (unhid HG1)
        have d2 := decide_eq_true (unhid HG2)
        have d3 := decide_eq_false (show ¬ x.hour ≤ 10000000 from by have := unhid HG3; omega)
        go_wp2_with fail
        refine (first_calls _).mono ?_
        rintro e w9 ⟨rfl, hb9⟩
        have HB := hid ((unhid HB).trans (hb9.mono (unhid HB).size))
        clear hb9
        go_wp2_with fail
        go_ret
        exact ⟨rfl, unhid HB⟩

set_option maxHeartbeats 16000000 in
set_option maxRecDepth 100000 in
theorem ldec_bad4 (ns : List Nt) (An : Option Addr) (cn : Nat) (x y : Nt) (w : World) (hn : NtsIn w An ns cn) (hx : NtW x) (hy : NtW y) (g0 : 1 ≤ x.tab) (g1 : x.tab ≤ 8) (g2 : 0 ≤ x.hour) (g3 : x.hour ≤ 10000000) (g4 : ¬ 1 ≤ x.sign) :
    Calls Try.prog 10 #[.slice An ns.length cn, .agg #[.int .i64 x.tab, .int .i64 x.hour, .int .i64 x.sign, .int .i64 x.fld, .int .i64 x.val], .agg #[.int .i64 y.tab, .int .i64 y.hour, .int .i64 y.sign, .int .i64 y.fld, .int .i64 y.val]] w fun e w' => e = .returned (.bool true) ∧ Below w.heap.size w w' := by
  have HFI := hid (show fineB x.tab x.hour x.sign x.fld x.val = false from by rw [Bool.eq_false_iff]; intro h; simp only [fineB, btw, Bool.and_eq_true, decide_eq_true_eq] at h; omega)
  have HG0 := hid g0
  have HG1 := hid g1
  have HG2 := hid g2
  have HG3 := hid g3
  have HG4 := hid g4
  clear g0 g1 g2 g3 g4
  have HNO := hid hn.ok
  have HND := hid hn.rd
  have HXW := hid hx
  have HYW := hid hy
  have hb0 := below_alloc w (.cells #[.int .i64 x.tab, .int .i64 x.hour, .int .i64 x.sign, .int .i64 x.fld, .int .i64 x.val] 30)
  have hx0 := heap_alloc_new w (.cells #[.int .i64 x.tab, .int .i64 x.hour, .int .i64 x.sign, .int .i64 x.fld, .int .i64 x.val] 30)
  have hs0 : (w.alloc (.cells #[.int .i64 x.tab, .int .i64 x.hour, .int .i64 x.sign, .int .i64 x.fld, .int .i64 x.val] 30)).heap.size = w.heap.size + 1 := by simp
  have hb1 := below_alloc (w.alloc (.cells #[.int .i64 x.tab, .int .i64 x.hour, .int .i64 x.sign, .int .i64 x.fld, .int .i64 x.val] 30)) (.cells #[.int .i64 y.tab, .int .i64 y.hour, .int .i64 y.sign, .int .i64 y.fld, .int .i64 y.val] 30)
  have hy0 := heap_alloc_new (w.alloc (.cells #[.int .i64 x.tab, .int .i64 x.hour, .int .i64 x.sign, .int .i64 x.fld, .int .i64 x.val] 30)) (.cells #[.int .i64 y.tab, .int .i64 y.hour, .int .i64 y.sign, .int .i64 y.fld, .int .i64 y.val] 30)
  rw [hs0] at hy0
  clear hn hx hy
  go_enter Try.func10, Try.ntmps10
  go_upto_region 1 with (fail)
  change Code.wp _ _ _ _ ((w.alloc (.cells #[.int .i64 x.tab, .int .i64 x.hour, .int .i64 x.sign, .int .i64 x.fld, .int .i64 x.val] 30)).alloc (.cells #[.int .i64 y.tab, .int .i64 y.hour, .int .i64 y.sign, .int .i64 y.fld, .int .i64 y.val] 30))
  have HX := hid (show NtAt _ w.heap.size x from (hb1.block _ (by omega)).trans hx0)
  have HY := hid (show NtAt _ (w.heap.size + 1) y from hy0)
  have HB := hid (hb0.trans (hb1.mono hb0.size))
  clear hb0 hx0 hb1 hy0 hs0
  generalize (w.alloc (.cells #[.int .i64 x.tab, .int .i64 x.hour, .int .i64 x.sign, .int .i64 x.fld, .int .i64 x.val] 30)).alloc (.cells #[.int .i64 y.tab, .int .i64 y.hour, .int .i64 y.sign, .int .i64 y.fld, .int .i64 y.val] 30) = W0 at *
  obtain ⟨X, hX⟩ : ∃ X, X = w.heap.size := ⟨_, rfl⟩
  obtain ⟨Y, hY⟩ : ∃ Y, Y = w.heap.size + 1 := ⟨_, rfl⟩
  rw [← hX] at HX
  rw [← hY] at HY
  rw [← hY, ← hX]
  have HXE := hid (⟨hX, hY⟩ : X = w.heap.size ∧ Y = w.heap.size + 1)
  clear hX hY
  by_cases h1 : 10 < ns.length
  · have hni : (10 : Int) < (ns.length : Int) := by omega
    go_wp2_with fail
    refine (first_calls _).mono ?_
    rintro e w9 ⟨rfl, hb9⟩
    have HB := hid ((unhid HB).trans (hb9.mono (unhid HB).size))
    clear hb9
    go_wp2_with fail
    go_ret
    exact ⟨rfl, unhid HB⟩
  · have hni : ¬ (10 : Int) < (ns.length : Int) := by omega
    have HLL := hid (show ns.length ≤ 10 from by omega)
    clear h1
    go_wp2_with fail
    refine (bookNew_calls W0).mono ?_
    rintro e W1 ⟨rfl, hk1, hb1⟩
    obtain ⟨m, hm⟩ : ∃ m, m = W0.heap.size := ⟨_, rfl⟩
    obtain ⟨B, hB⟩ : ∃ B, B = W0.heap.size + 1 := ⟨_, rfl⟩
    rw [← hB] at hk1 ⊢
    rw [← hm] at hk1
    have HK := hid hk1
    have HM := hid (show w.heap.size ≤ m ∧ w.heap.size ≤ W0.heap.size from by have := (unhid HB).size; omega)
    have HX := hid (NtAt.below (unhid HX) hb1)
    have HY := hid (NtAt.below (unhid HY) hb1)
    have HB := hid ((unhid HB).trans (hb1.mono (unhid HB).size))
    clear hk1 hb1 hm hB hni
    go_upto_region 5 with (fail)
    go_loopw [8] (fun iv wr => ∃ (k : Nat) (S : List Rc), k ≤ ns.length ∧ iv = .int .i64 k ∧ BkAt wr B m S ∧ Wn [] S k ∧ NtAt wr X x ∧ NtAt wr Y y ∧ Below w.heap.size w wr) (fun iv _ => ns.length - (intOf iv).toNat)
    case atStart => exact ⟨0, [], Nat.zero_le _, rfl, unhid HK, Wn.nil, unhid HX, unhid HY, unhid HB⟩
    case round =>
      clear HK HX HY HB
      obtain ⟨k, S, hk, rfl, hbk, hw, hx, hy, hb⟩ := hrel
      have HK := hid hbk
      have HW := hid hw
      have HX := hid hx
      have HY := hid hy
      have HB := hid hb
      clear hbk hw hx hy hb
      by_cases hlt : k < ns.length
      · have hki : (k : Int) < (ns.length : Int) := by omega
        obtain ⟨b, off, hAe, hbl, hc⟩ := ((unhid HND).below (unhid HB)) (nts_ne hlt)
        subst hAe
        obtain ⟨z, hz⟩ : ∃ z, ns[k]'hlt = z := ⟨_, rfl⟩
        have HZO := hid (unhid HNO z (hz ▸ List.getElem_mem hlt))
        obtain ⟨a0, a1, a2, a3, a4⟩ := nts_cells hc hlt hz
        have HW1 := hid (show wrap64 ((k : Int) + 1) = ((k + 1 : Nat) : Int) from by have h1 := unhid HLL; unfold wrap64; omega)
        clear hc hz
        go_upto_region 8 with (fail)
        have hb1 := below_alloc wr (.cells #[.int .i64 z.tab, .int .i64 z.hour, .int .i64 z.sign, .int .i64 z.fld, .int .i64 z.val] 30)
        have hz1 := heap_alloc_new wr (.cells #[.int .i64 z.tab, .int .i64 z.hour, .int .i64 z.sign, .int .i64 z.fld, .int .i64 z.val] 30)
        have HK := hid ((unhid HK).below' hb1)
        have HX := hid (NtAt.below (unhid HX) hb1)
        have HY := hid (NtAt.below (unhid HY) hb1)
        have HB := hid ((unhid HB).trans (hb1.mono (unhid HB).size))
        obtain ⟨N, hN⟩ : ∃ N, N = wr.heap.size := ⟨_, rfl⟩
        rw [← hN] at hz1 ⊢
        have HZ := hid (show NtAt _ N z from hz1)
        clear hb1 hz1 hN a0 a1 a2 a3 a4 hbl
        generalize wr.alloc (.cells #[.int .i64 z.tab, .int .i64 z.hour, .int .i64 z.sign, .int .i64 z.fld, .int .i64 z.val] 30) = W2 at *
        obtain ⟨a0, a1, a2, a3, a4⟩ := NtAt.cells (unhid HZ)
        go_wp2_with fail
        refine (write_calls z.tab z.hour z.sign z.fld z.val W2 (unhid HK) (by have := (unhid HW).len; have := unhid HLL; omega) (unhid HZO).1).mono ?_
        rintro e W3 ⟨rfl, hk3, hg3⟩
        have HX := hid ((unhid HX).beside (unhid HK) hg3)
        have HY := hid ((unhid HY).beside (unhid HK) hg3)
        have HW := hid ((unhid HW).write (unhid HK).v z.tab z.hour z.sign z.fld z.val)
        have HK := hid hk3
        have HB := hid ((unhid HB).grown hg3 (unhid HB).size (fun j e => by cases e; exact (unhid HM).1))
        clear hk3 hg3 a0 a1 a2 a3 a4 HZ
        go_wp2_with fail
        go_roundw
        case rel => exact ⟨k + 1, _, by omega, by first | go_num | rw [unhid HW1], unhid HK, unhid HW, unhid HX, unhid HY, unhid HB⟩
        case measure => first | (simp [intOf]; omega) | (rw [unhid HW1]; simp [intOf]; omega)
      · obtain rfl : k = ns.length := by omega
        have HV := hid (unhid HK).v
        have HG := hid (unhid HW).good
        have HC := hid (unhid HW).chain
        have HU1 := hid (show ∀ t, t < 8 → upT S t ≤ 100 from fun t ht => by have := (unhid HW).up t ht; have := unhid HLL; omega)
        have HU := hid (show ∀ t, t < 8 → upT S t ≤ 1000 from fun t ht => by have := unhid HU1 t ht; omega)
        have HLN := hid (show S.length ≤ 10 from Nat.le_trans (unhid HW).len (unhid HLL))
        clear HW HND HNO hlt hk
        go_wp2_with fail
        refine (pwaiting_calls (L := setR S) wr (unhid HK) (by have := unhid HLN; omega) (asc_setR S) (fun r => mem_setR.symm)).mono ?_
        rintro e W2 ⟨v, rfl, hrow, hb⟩
        rw [((unhid HG).perm (fun r => mem_setR.symm)).wait] at hrow
        obtain ⟨Av, cv, rfl, -, -⟩ := own_slice hrow
        have HK := hid ((unhid HK).below' hb)
        have HX := hid (NtAt.below (unhid HX) hb)
        have HY := hid (NtAt.below (unhid HY) hb)
        have HB := hid ((unhid HB).trans (hb.mono (unhid HB).size))
        simp only [List.length_nil]
        clear hrow hb
        go_upto_region 11 with (fail)
        have hXY : X ≠ Y := by have := unhid HXE; omega
        have HNE := hid hXY
        have hYB : w.heap.size ≤ Y := by have := unhid HXE; omega
        have HYB := hid hYB
        have HSF := hid (show ∀ w', NtAt w' X x → (w'.cell? ⟨X, 2, none⟩ = some (.int .i64 x.sign) ∧ w'.cell? ⟨X, 3, none⟩ = some (.int .i64 x.fld)) from fun w' h => ⟨h.cells.2.2.1, h.cells.2.2.2.1⟩)
        have hbd := Below.drew (Below.refl W2.heap.size W2)
        refine wp_region_noPanic ?_
        refine wp_region_E (S := fun w' => (w'.cell? ⟨X, 2, none⟩ = some (.int .i64 x.sign) ∧ w'.cell? ⟨X, 3, none⟩ = some (.int .i64 x.fld))) 7 8 rfl (by kernel_rfl) (by kernel_rfl) ((unhid HSF) _ ((unhid HX).below hbd)) ?_
        intro hSE
        have HK := hid ((unhid HK).below' hbd)
        have HX := hid (NtAt.below (unhid HX) hbd)
        have HY := hid (NtAt.below (unhid HY) hbd)
        have HB := hid ((unhid HB).trans (hbd.mono (unhid HB).size))
        clear hbd hXY hYB
        generalize W2.drew = Wd at *
        (refine WE_take (i := 0) (v := ?_) rfl (by kernel_rfl) (by decide) (by kernel_rfl) (by kernel_rfl) (fun _ _ _ h => h) (by rfl) hSE ?_ ?_; rotate_left; (focus (intro w hSw; (try dsimp only at hSw); go_simp; (try with_reducible rfl))); simp only [Act.put, List.setIfInBounds_toArray, List.set_cons_zero, List.set_cons_succ])
        (refine WE_take (i := 1) (v := ?_) rfl (by kernel_rfl) (by decide) (by kernel_rfl) (by kernel_rfl) (fun _ _ _ h => h) (by rfl) hSE ?_ ?_; rotate_left; (focus (intro w hSw; (try dsimp only at hSw); go_simp; (try with_reducible rfl))); simp only [Act.put, List.setIfInBounds_toArray, List.set_cons_zero, List.set_cons_succ])
        (refine WE_take (i := 2) (v := ?_) rfl (by kernel_rfl) (by decide) (by kernel_rfl) (by kernel_rfl) (fun _ _ _ h => h) (by rfl) hSE ?_ ?_; rotate_left; (focus (intro w hSw; (try dsimp only at hSw); go_simp; (try with_reducible rfl))); simp only [Act.put, List.setIfInBounds_toArray, List.set_cons_zero, List.set_cons_succ])
        (refine WE_take (i := 3) (v := ?_) rfl (by kernel_rfl) (by decide) (by kernel_rfl) (by kernel_rfl) (fun _ _ _ h => h) (by rfl) hSE ?_ ?_; rotate_left; (focus (intro w hSw; (try dsimp only at hSw); go_simp; (try with_reducible rfl))); simp only [Act.put, List.setIfInBounds_toArray, List.set_cons_zero, List.set_cons_succ])
        (refine WE_take (i := 4) (v := ?_) rfl (by kernel_rfl) (by decide) (by kernel_rfl) (by kernel_rfl) (fun _ _ _ h => h) (by rfl) hSE ?_ ?_; rotate_left; (focus (intro w hSw; (try dsimp only at hSw); go_simp; (try with_reducible rfl))); simp only [Act.put, List.setIfInBounds_toArray, List.set_cons_zero, List.set_cons_succ])
        have y2 := (unhid HY).cells.2.2.1
        have fz : Wd.frozen? ⟨Y, 2, none⟩ = false := frozen_of_row _ _ _ _ _ (unhid HY)
        (refine WE_one (i := 5) rfl (by decide) (by kernel_rfl) ?_; intro K hK)
        go_simp
        have HX := hid ((unhid HX).other (i := 2) (v := .int .i64 x.sign) (unhid HNE))
        have HK := hid ((unhid HK).note (i := 2) (v := .int .i64 x.sign) (unhid HY))
        have HY := hid ((unhid HY).set2 x.sign)
        have HB := hid (Below.setCell (unhid HB) (p := ⟨Y, 2, none⟩) (unhid HYB) (.int .i64 x.sign))
        refine hK.out _ _ ((unhid HSF) _ (unhid HX)) ?_
        clear hSE hK K y2 fz
        intro hSE
        (try simp only [Act.put, List.setIfInBounds_toArray, List.set_cons_zero, List.set_cons_succ])
        generalize Wd.setCell ⟨Y, 2, none⟩ (.int .i64 x.sign) = We at *
        (refine WE_take (i := 6) (v := ?_) rfl (by kernel_rfl) (by decide) (by kernel_rfl) (by kernel_rfl) (fun _ _ _ h => h) (by rfl) hSE ?_ ?_; rotate_left; (focus (intro w hSw; (try dsimp only at hSw); go_simp; (try with_reducible rfl))); simp only [Act.put, List.setIfInBounds_toArray, List.set_cons_zero, List.set_cons_succ])
        have y3 := (unhid HY).cells.2.2.2.1
        have fz : We.frozen? ⟨Y, 3, none⟩ = false := frozen_of_row _ _ _ _ _ (unhid HY)
        dsimp only at y3
        (refine WE_last rfl (by kernel_rfl) (by kernel_rfl) (by kernel_rfl) ?_; intro K hK; go_simp; refine hK.out _ _ (NoPanic.normal ?_); clear hK K)
        have HX := hid ((unhid HX).other (i := 3) (v := .int .i64 x.fld) (unhid HNE))
        have HK := hid ((unhid HK).note (i := 3) (v := .int .i64 x.fld) (unhid HY))
        have HY := hid ((unhid HY).set3 x.fld)
        have HB := hid (Below.setCell (unhid HB) (p := ⟨Y, 3, none⟩) (unhid HYB) (.int .i64 x.fld))
        clear hSE y3 fz HSF
        generalize We.setCell ⟨Y, 3, none⟩ (.int .i64 x.fld) = W3 at *
        have HMB := hid (Nat.le_trans (unhid HM).1 (Nat.le_of_lt (unhid HK).lt.2))
        go_wp2_with fail
        refine (pcopy_calls W3 (unhid HK)).mono ?_
        rintro e W4 ⟨rfl, hkc, hb⟩
        obtain ⟨mc, hmc⟩ : ∃ mc, mc = W3.heap.size := ⟨_, rfl⟩
        obtain ⟨Bc, hBc⟩ : ∃ Bc, Bc = W3.heap.size + 1 := ⟨_, rfl⟩
        rw [← hBc] at hkc ⊢
        rw [← hmc] at hkc
        have HKC := hid hkc
        have HMC := hid (show m < mc ∧ w.heap.size ≤ mc from by have := (unhid HK).lt.2; have := (unhid HB).size; omega)
        have HK := hid ((unhid HK).below' hb)
        have HX := hid (NtAt.below (unhid HX) hb)
        have HY := hid (NtAt.below (unhid HY) hb)
        have HB := hid ((unhid HB).trans (hb.mono (unhid HB).size))
        clear hkc hb hmc hBc
        go_wp2_with fail
        refine (pcopy_calls W4 (unhid HK)).mono ?_
        rintro e W5 ⟨rfl, hkd, hb⟩
        obtain ⟨md, hmd⟩ : ∃ md, md = W4.heap.size := ⟨_, rfl⟩
        obtain ⟨Bd, hBd⟩ : ∃ Bd, Bd = W4.heap.size + 1 := ⟨_, rfl⟩
        rw [← hBd] at hkd ⊢
        rw [← hmd] at hkd
        have HKD := hid hkd
        have HMD := hid (show mc < md ∧ w.heap.size ≤ md from by have := (unhid HKC).lt.2; have := (unhid HB).size; omega)
        have HK := hid ((unhid HK).below' hb)
        have HKC := hid ((unhid HKC).below' hb)
        have HX := hid (NtAt.below (unhid HX) hb)
        have HY := hid (NtAt.below (unhid HY) hb)
        have HB := hid ((unhid HB).trans (hb.mono (unhid HB).size))
        clear hkd hb hmd hBd
        obtain ⟨a0, a1, a2, a3, a4⟩ := NtAt.cells (unhid HX)
        go_wp2_with fail
        refine (write_calls x.tab x.hour x.sign x.fld x.val W5 (unhid HKC) (by have := unhid HLN; omega) (unhid HXW).1).mono ?_
        rintro e W6 ⟨rfl, hk6, hg6⟩
        have HX := hid ((unhid HX).beside (unhid HKC) hg6)
        have HY := hid ((unhid HY).beside (unhid HKC) hg6)
        have HK := hid ((unhid HK).beside (unhid HKC) hg6 (by have := unhid HMC; omega))
        have HKD := hid ((unhid HKD).beside (unhid HKC) hg6 (by have := unhid HMD; omega))
        have HKC := hid hk6
        have HB := hid ((unhid HB).grown hg6 (unhid HB).size (fun j e => by cases e; exact (unhid HMC).2))
        obtain ⟨r1, hr1⟩ : ∃ r1, r1 = (writeR S x.tab x.hour x.sign x.fld x.val).1 := ⟨_, rfl⟩
        obtain ⟨E1, hE1⟩ : ∃ E1, E1 = (writeR S x.tab x.hour x.sign x.fld x.val).2.1 := ⟨_, rfl⟩
        obtain ⟨C, hC1⟩ : ∃ C, C = (writeR S x.tab x.hour x.sign x.fld x.val).2.2 := ⟨_, rfl⟩
        rw [← hr1, ← hE1]
        rw [← hC1] at HKC
        have HR1 := hid (show writeR S x.tab x.hour x.sign x.fld x.val = (r1, E1, C) from by rw [hr1, hE1, hC1])
        clear hk6 hg6 hr1 hE1 hC1 a0 a1 a2 a3 a4
        simp only [rcV, rcA]
        go_upto_region 14 with (fail)
        change Code.wp _ _ _ _ (W6.alloc (.cells (rcA r1) 33))
        have hb := below_alloc W6 (.cells (rcA r1) 33)
        have HK := hid ((unhid HK).below' hb)
        have HKC := hid ((unhid HKC).below' hb)
        have HKD := hid ((unhid HKD).below' hb)
        have HX := hid (NtAt.below (unhid HX) hb)
        have HY := hid (NtAt.below (unhid HY) hb)
        have HB := hid ((unhid HB).trans (hb.mono (unhid HB).size))
        clear hb
        generalize W6.alloc (.cells (rcA r1) 33) = W7 at *
        obtain ⟨a0, a1, a2, a3, a4⟩ := NtAt.cells (unhid HY)
        dsimp only at a0 a1 a2 a3 a4
        go_wp2_with fail
        refine (write_calls y.tab y.hour x.sign x.fld y.val W7 (unhid HKD) (by have := unhid HLN; omega) (unhid HYW).1).mono ?_
        rintro e W8 ⟨rfl, hk8, hg8⟩
        have HX := hid ((unhid HX).beside (unhid HKD) hg8)
        have HY := hid ((unhid HY).beside (unhid HKD) hg8)
        have HK := hid ((unhid HK).beside (unhid HKD) hg8 (by have := unhid HMC; have := unhid HMD; omega))
        have HKC := hid ((unhid HKC).beside (unhid HKD) hg8 (by have := unhid HMD; omega))
        have HKD := hid hk8
        have HB := hid ((unhid HB).grown hg8 (unhid HB).size (fun j e => by cases e; exact (unhid HMD).2))
        obtain ⟨r2, hr1⟩ : ∃ r1, r1 = (writeR S y.tab y.hour x.sign x.fld y.val).1 := ⟨_, rfl⟩
        obtain ⟨E2, hE1⟩ : ∃ E1, E1 = (writeR S y.tab y.hour x.sign x.fld y.val).2.1 := ⟨_, rfl⟩
        obtain ⟨D, hC1⟩ : ∃ C, C = (writeR S y.tab y.hour x.sign x.fld y.val).2.2 := ⟨_, rfl⟩
        rw [← hr1, ← hE1]
        rw [← hC1] at HKD
        have HR2 := hid (show writeR S y.tab y.hour x.sign x.fld y.val = (r2, E2, D) from by rw [hr1, hE1, hC1])
        clear hk8 hg8 hr1 hE1 hC1 a0 a1 a2 a3 a4
        simp only [rcV, rcA]
        go_upto_region 15 with (fail)
        change Code.wp _ _ _ _ (W8.alloc (.cells (rcA r2) 33))
        have hb := below_alloc W8 (.cells (rcA r2) 33)
        have HK := hid ((unhid HK).below' hb)
        have HKC := hid ((unhid HKC).below' hb)
        have HKD := hid ((unhid HKD).below' hb)
        have HX := hid (NtAt.below (unhid HX) hb)
        have HY := hid (NtAt.below (unhid HY) hb)
        have HB := hid ((unhid HB).trans (hb.mono (unhid HB).size))
        clear hb
        generalize W8.alloc (.cells (rcA r2) 33) = W9 at *
        have he := unhid HR1
        rw [unfine_write (unhid HFI)] at he
        simp only [Prod.mk.injEq] at he
        obtain ⟨rfl, rfl, rfl⟩ := he
        obtain ⟨a0, a1, a2, a3, a4⟩ := NtAt.cells (unhid HX)
        have d0 := decide_eq_true (unhid HG0)
        have d1 := decide_eq_true (unhid HG1)
        have d2 := decide_eq_true (unhid HG2)
        have d3 := decide_eq_true (unhid HG3)
        have d4 := decide_eq_false (show ¬ 1 ≤ x.sign from by have := unhid HG4; omega)
        go_wp2_with fail
        refine (first_calls _).mono ?_
        rintro e w9 ⟨rfl, hb9⟩
        have HB := hid ((unhid HB).trans (hb9.mono (unhid HB).size))
        clear hb9
        go_wp2_with fail
        go_ret
        exact ⟨rfl, unhid HB⟩

set_option maxHeartbeats 16000000 in
set_option maxRecDepth 100000 in
theorem ldec_bad5 (ns : List Nt) (An : Option Addr) (cn : Nat) (x y : Nt) (w : World) (hn : NtsIn w An ns cn) (hx : NtW x) (hy : NtW y) (g0 : 1 ≤ x.tab) (g1 : x.tab ≤ 8) (g2 : 0 ≤ x.hour) (g3 : x.hour ≤ 10000000) (g4 : 1 ≤ x.sign) (g5 : ¬ x.sign ≤ 1000000000) :
    Calls Try.prog 10 #[.slice An ns.length cn, .agg #[.int .i64 x.tab, .int .i64 x.hour, .int .i64 x.sign, .int .i64 x.fld, .int .i64 x.val], .agg #[.int .i64 y.tab, .int .i64 y.hour, .int .i64 y.sign, .int .i64 y.fld, .int .i64 y.val]] w fun e w' => e = .returned (.bool true) ∧ Below w.heap.size w w' := by
  have HFI := hid (show fineB x.tab x.hour x.sign x.fld x.val = false from by rw [Bool.eq_false_iff]; intro h; simp only [fineB, btw, Bool.and_eq_true, decide_eq_true_eq] at h; omega)
  have HG0 := hid g0
  have HG1 := hid g1
  have HG2 := hid g2
  have HG3 := hid g3
  have HG4 := hid g4
  have HG5 := hid g5
  clear g0 g1 g2 g3 g4 g5
  have HNO := hid hn.ok
  have HND := hid hn.rd
  have HXW := hid hx
  have HYW := hid hy
  have hb0 := below_alloc w (.cells #[.int .i64 x.tab, .int .i64 x.hour, .int .i64 x.sign, .int .i64 x.fld, .int .i64 x.val] 30)
  have hx0 := heap_alloc_new w (.cells #[.int .i64 x.tab, .int .i64 x.hour, .int .i64 x.sign, .int .i64 x.fld, .int .i64 x.val] 30)
  have hs0 : (w.alloc (.cells #[.int .i64 x.tab, .int .i64 x.hour, .int .i64 x.sign, .int .i64 x.fld, .int .i64 x.val] 30)).heap.size = w.heap.size + 1 := by simp
  have hb1 := below_alloc (w.alloc (.cells #[.int .i64 x.tab, .int .i64 x.hour, .int .i64 x.sign, .int .i64 x.fld, .int .i64 x.val] 30)) (.cells #[.int .i64 y.tab, .int .i64 y.hour, .int .i64 y.sign, .int .i64 y.fld, .int .i64 y.val] 30)
  have hy0 := heap_alloc_new (w.alloc (.cells #[.int .i64 x.tab, .int .i64 x.hour, .int .i64 x.sign, .int .i64 x.fld, .int .i64 x.val] 30)) (.cells #[.int .i64 y.tab, .int .i64 y.hour, .int .i64 y.sign, .int .i64 y.fld, .int .i64 y.val] 30)
  rw [hs0] at hy0
  clear hn hx hy
  go_enter Try.func10, Try.ntmps10
  go_upto_region 1 with (fail)
  change Code.wp _ _ _ _ ((w.alloc (.cells #[.int .i64 x.tab, .int .i64 x.hour, .int .i64 x.sign, .int .i64 x.fld, .int .i64 x.val] 30)).alloc (.cells #[.int .i64 y.tab, .int .i64 y.hour, .int .i64 y.sign, .int .i64 y.fld, .int .i64 y.val] 30))
  have HX := hid (show NtAt _ w.heap.size x from (hb1.block _ (by omega)).trans hx0)
  have HY := hid (show NtAt _ (w.heap.size + 1) y from hy0)
  have HB := hid (hb0.trans (hb1.mono hb0.size))
  clear hb0 hx0 hb1 hy0 hs0
  generalize (w.alloc (.cells #[.int .i64 x.tab, .int .i64 x.hour, .int .i64 x.sign, .int .i64 x.fld, .int .i64 x.val] 30)).alloc (.cells #[.int .i64 y.tab, .int .i64 y.hour, .int .i64 y.sign, .int .i64 y.fld, .int .i64 y.val] 30) = W0 at *
  obtain ⟨X, hX⟩ : ∃ X, X = w.heap.size := ⟨_, rfl⟩
  obtain ⟨Y, hY⟩ : ∃ Y, Y = w.heap.size + 1 := ⟨_, rfl⟩
  rw [← hX] at HX
  rw [← hY] at HY
  rw [← hY, ← hX]
  have HXE := hid (⟨hX, hY⟩ : X = w.heap.size ∧ Y = w.heap.size + 1)
  clear hX hY
  by_cases h1 : 10 < ns.length
  · have hni : (10 : Int) < (ns.length : Int) := by omega
    go_wp2_with fail
    refine (first_calls _).mono ?_
    rintro e w9 ⟨rfl, hb9⟩
    have HB := hid ((unhid HB).trans (hb9.mono (unhid HB).size))
    clear hb9
    go_wp2_with fail
    go_ret
    exact ⟨rfl, unhid HB⟩
  · have hni : ¬ (10 : Int) < (ns.length : Int) := by omega
    have HLL := hid (show ns.length ≤ 10 from by omega)
    clear h1
    go_wp2_with fail
    refine (bookNew_calls W0).mono ?_
    rintro e W1 ⟨rfl, hk1, hb1⟩
    obtain ⟨m, hm⟩ : ∃ m, m = W0.heap.size := ⟨_, rfl⟩
    obtain ⟨B, hB⟩ : ∃ B, B = W0.heap.size + 1 := ⟨_, rfl⟩
    rw [← hB] at hk1 ⊢
    rw [← hm] at hk1
    have HK := hid hk1
    have HM := hid (show w.heap.size ≤ m ∧ w.heap.size ≤ W0.heap.size from by have := (unhid HB).size; omega)
    have HX := hid (NtAt.below (unhid HX) hb1)
    have HY := hid (NtAt.below (unhid HY) hb1)
    have HB := hid ((unhid HB).trans (hb1.mono (unhid HB).size))
    clear hk1 hb1 hm hB hni
    go_upto_region 5 with (fail)
    go_loopw [8] (fun iv wr => ∃ (k : Nat) (S : List Rc), k ≤ ns.length ∧ iv = .int .i64 k ∧ BkAt wr B m S ∧ Wn [] S k ∧ NtAt wr X x ∧ NtAt wr Y y ∧ Below w.heap.size w wr) (fun iv _ => ns.length - (intOf iv).toNat)
    case atStart => exact ⟨0, [], Nat.zero_le _, rfl, unhid HK, Wn.nil, unhid HX, unhid HY, unhid HB⟩
    case round =>
      clear HK HX HY HB
      obtain ⟨k, S, hk, rfl, hbk, hw, hx, hy, hb⟩ := hrel
      have HK := hid hbk
      have HW := hid hw
      have HX := hid hx
      have HY := hid hy
      have HB := hid hb
      clear hbk hw hx hy hb
      by_cases hlt : k < ns.length
      · have hki : (k : Int) < (ns.length : Int) := by omega
        obtain ⟨b, off, hAe, hbl, hc⟩ := ((unhid HND).below (unhid HB)) (nts_ne hlt)
        subst hAe
        obtain ⟨z, hz⟩ : ∃ z, ns[k]'hlt = z := ⟨_, rfl⟩
        have HZO := hid (unhid HNO z (hz ▸ List.getElem_mem hlt))
        obtain ⟨a0, a1, a2, a3, a4⟩ := nts_cells hc hlt hz
        have HW1 := hid (show wrap64 ((k : Int) + 1) = ((k + 1 : Nat) : Int) from by have h1 := unhid HLL; unfold wrap64; omega)
        clear hc hz
        go_upto_region 8 with (fail)
        have hb1 := below_alloc wr (.cells #[.int .i64 z.tab, .int .i64 z.hour, .int .i64 z.sign, .int .i64 z.fld, .int .i64 z.val] 30)
        have hz1 := heap_alloc_new wr (.cells #[.int .i64 z.tab, .int .i64 z.hour, .int .i64 z.sign, .int .i64 z.fld, .int .i64 z.val] 30)
        have HK := hid ((unhid HK).below' hb1)
        have HX := hid (NtAt.below (unhid HX) hb1)
        have HY := hid (NtAt.below (unhid HY) hb1)
        have HB := hid ((unhid HB).trans (hb1.mono (unhid HB).size))
        obtain ⟨N, hN⟩ : ∃ N, N = wr.heap.size := ⟨_, rfl⟩
        rw [← hN] at hz1 ⊢
        have HZ := hid (show NtAt _ N z from hz1)
        clear hb1 hz1 hN a0 a1 a2 a3 a4 hbl
        generalize wr.alloc (.cells #[.int .i64 z.tab, .int .i64 z.hour, .int .i64 z.sign, .int .i64 z.fld, .int .i64 z.val] 30) = W2 at *
        obtain ⟨a0, a1, a2, a3, a4⟩ := NtAt.cells (unhid HZ)
        go_wp2_with fail
        refine (write_calls z.tab z.hour z.sign z.fld z.val W2 (unhid HK) (by have := (unhid HW).len; have := unhid HLL; omega) (unhid HZO).1).mono ?_
        rintro e W3 ⟨rfl, hk3, hg3⟩
        have HX := hid ((unhid HX).beside (unhid HK) hg3)
        have HY := hid ((unhid HY).beside (unhid HK) hg3)
        have HW := hid ((unhid HW).write (unhid HK).v z.tab z.hour z.sign z.fld z.val)
        have HK := hid hk3
        have HB := hid ((unhid HB).grown hg3 (unhid HB).size (fun j e => by cases e; exact (unhid HM).1))
        clear hk3 hg3 a0 a1 a2 a3 a4 HZ
        go_wp2_with fail
        go_roundw
        case rel => exact ⟨k + 1, _, by omega, by first | go_num | rw [unhid HW1], unhid HK, unhid HW, unhid HX, unhid HY, unhid HB⟩
        case measure => first | (simp [intOf]; omega) | (rw [unhid HW1]; simp [intOf]; omega)
      · obtain rfl : k = ns.length := by omega
        have HV := hid (unhid HK).v
        have HG := hid (unhid HW).good
        have HC := hid (unhid HW).chain
        have HU1 := hid (show ∀ t, t < 8 → upT S t ≤ 100 from fun t ht => by have := (unhid HW).up t ht; have := unhid HLL; omega)
        have HU := hid (show ∀ t, t < 8 → upT S t ≤ 1000 from fun t ht => by have := unhid HU1 t ht; omega)
        have HLN := hid (show S.length ≤ 10 from Nat.le_trans (unhid HW).len (unhid HLL))
        clear HW HND HNO hlt hk
        go_wp2_with fail
        refine (pwaiting_calls (L := setR S) wr (unhid HK) (by have := unhid HLN; omega) (asc_setR S) (fun r => mem_setR.symm)).mono ?_
        rintro e W2 ⟨v, rfl, hrow, hb⟩
        rw [((unhid HG).perm (fun r => mem_setR.symm)).wait] at hrow
        obtain ⟨Av, cv, rfl, -, -⟩ := own_slice hrow
        have HK := hid ((unhid HK).below' hb)
        have HX := hid (NtAt.below (unhid HX) hb)
        have HY := hid (NtAt.below (unhid HY) hb)
        have HB := hid ((unhid HB).trans (hb.mono (unhid HB).size))
        simp only [List.length_nil]
        clear hrow hb
        go_upto_region 11 with (fail)
        have hXY : X ≠ Y := by have := unhid HXE; omega
        have HNE := hid hXY
        have hYB : w.heap.size ≤ Y := by have := unhid HXE; omega
        have HYB := hid hYB
        have HSF := hid (show ∀ w', NtAt w' X x → (w'.cell? ⟨X, 2, none⟩ = some (.int .i64 x.sign) ∧ w'.cell? ⟨X, 3, none⟩ = some (.int .i64 x.fld)) from fun w' h => ⟨h.cells.2.2.1, h.cells.2.2.2.1⟩)
        have hbd := Below.drew (Below.refl W2.heap.size W2)
        refine wp_region_noPanic ?_
        refine wp_region_E (S := fun w' => (w'.cell? ⟨X, 2, none⟩ = some (.int .i64 x.sign) ∧ w'.cell? ⟨X, 3, none⟩ = some (.int .i64 x.fld))) 7 8 rfl (by kernel_rfl) (by kernel_rfl) ((unhid HSF) _ ((unhid HX).below hbd)) ?_
        intro hSE
        have HK := hid ((unhid HK).below' hbd)
        have HX := hid (NtAt.below (unhid HX) hbd)
        have HY := hid (NtAt.below (unhid HY) hbd)
        have HB := hid ((unhid HB).trans (hbd.mono (unhid HB).size))
        clear hbd hXY hYB
        generalize W2.drew = Wd at *
        (refine WE_take (i := 0) (v := ?_) rfl (by kernel_rfl) (by decide) (by kernel_rfl) (by kernel_rfl) (fun _ _ _ h => h) (by rfl) hSE ?_ ?_; rotate_left; (focus (intro w hSw; (try dsimp only at hSw); go_simp; (try with_reducible rfl))); simp only [Act.put, List.setIfInBounds_toArray, List.set_cons_zero, List.set_cons_succ])
        (refine WE_take (i := 1) (v := ?_) rfl (by kernel_rfl) (by decide) (by kernel_rfl) (by kernel_rfl) (fun _ _ _ h => h) (by rfl) hSE ?_ ?_; rotate_left; (focus (intro w hSw; (try dsimp only at hSw); go_simp; (try with_reducible rfl))); simp only [Act.put, List.setIfInBounds_toArray, List.set_cons_zero, List.set_cons_succ])
        (refine WE_take (i := 2) (v := ?_) rfl (by kernel_rfl) (by decide) (by kernel_rfl) (by kernel_rfl) (fun _ _ _ h => h) (by rfl) hSE ?_ ?_; rotate_left; (focus (intro w hSw; (try dsimp only at hSw); go_simp; (try with_reducible rfl))); simp only [Act.put, List.setIfInBounds_toArray, List.set_cons_zero, List.set_cons_succ])
        (refine WE_take (i := 3) (v := ?_) rfl (by kernel_rfl) (by decide) (by kernel_rfl) (by kernel_rfl) (fun _ _ _ h => h) (by rfl) hSE ?_ ?_; rotate_left; (focus (intro w hSw; (try dsimp only at hSw); go_simp; (try with_reducible rfl))); simp only [Act.put, List.setIfInBounds_toArray, List.set_cons_zero, List.set_cons_succ])
        (refine WE_take (i := 4) (v := ?_) rfl (by kernel_rfl) (by decide) (by kernel_rfl) (by kernel_rfl) (fun _ _ _ h => h) (by rfl) hSE ?_ ?_; rotate_left; (focus (intro w hSw; (try dsimp only at hSw); go_simp; (try with_reducible rfl))); simp only [Act.put, List.setIfInBounds_toArray, List.set_cons_zero, List.set_cons_succ])
        have y2 := (unhid HY).cells.2.2.1
        have fz : Wd.frozen? ⟨Y, 2, none⟩ = false := frozen_of_row _ _ _ _ _ (unhid HY)
        (refine WE_one (i := 5) rfl (by decide) (by kernel_rfl) ?_; intro K hK)
        go_simp
        have HX := hid ((unhid HX).other (i := 2) (v := .int .i64 x.sign) (unhid HNE))
        have HK := hid ((unhid HK).note (i := 2) (v := .int .i64 x.sign) (unhid HY))
        have HY := hid ((unhid HY).set2 x.sign)
        have HB := hid (Below.setCell (unhid HB) (p := ⟨Y, 2, none⟩) (unhid HYB) (.int .i64 x.sign))
        refine hK.out _ _ ((unhid HSF) _ (unhid HX)) ?_
        clear hSE hK K y2 fz
        intro hSE
        (try simp only [Act.put, List.setIfInBounds_toArray, List.set_cons_zero, List.set_cons_succ])
        generalize Wd.setCell ⟨Y, 2, none⟩ (.int .i64 x.sign) = We at *
        (refine WE_take (i := 6) (v := ?_) rfl (by kernel_rfl) (by decide) (by kernel_rfl) (by kernel_rfl) (fun _ _ _ h => h) (by rfl) hSE ?_ ?_; rotate_left; (focus (intro w hSw; (try dsimp only at hSw); go_simp; (try with_reducible rfl))); simp only [Act.put, List.setIfInBounds_toArray, List.set_cons_zero, List.set_cons_succ])
        have y3 := (unhid HY).cells.2.2.2.1
        have fz : We.frozen? ⟨Y, 3, none⟩ = false := frozen_of_row _ _ _ _ _ (unhid HY)
        dsimp only at y3
        (refine WE_last rfl (by kernel_rfl) (by kernel_rfl) (by kernel_rfl) ?_; intro K hK; go_simp; refine hK.out _ _ (NoPanic.normal ?_); clear hK K)
        have HX := hid ((unhid HX).other (i := 3) (v := .int .i64 x.fld) (unhid HNE))
        have HK := hid ((unhid HK).note (i := 3) (v := .int .i64 x.fld) (unhid HY))
        have HY := hid ((unhid HY).set3 x.fld)
        have HB := hid (Below.setCell (unhid HB) (p := ⟨Y, 3, none⟩) (unhid HYB) (.int .i64 x.fld))
        clear hSE y3 fz HSF
        generalize We.setCell ⟨Y, 3, none⟩ (.int .i64 x.fld) = W3 at *
        have HMB := hid (Nat.le_trans (unhid HM).1 (Nat.le_of_lt (unhid HK).lt.2))
        go_wp2_with fail
        refine (pcopy_calls W3 (unhid HK)).mono ?_
        rintro e W4 ⟨rfl, hkc, hb⟩
        obtain ⟨mc, hmc⟩ : ∃ mc, mc = W3.heap.size := ⟨_, rfl⟩
        obtain ⟨Bc, hBc⟩ : ∃ Bc, Bc = W3.heap.size + 1 := ⟨_, rfl⟩
        rw [← hBc] at hkc ⊢
        rw [← hmc] at hkc
        have HKC := hid hkc
        have HMC := hid (show m < mc ∧ w.heap.size ≤ mc from by have := (unhid HK).lt.2; have := (unhid HB).size; omega)
        have HK := hid ((unhid HK).below' hb)
        have HX := hid (NtAt.below (unhid HX) hb)
        have HY := hid (NtAt.below (unhid HY) hb)
        have HB := hid ((unhid HB).trans (hb.mono (unhid HB).size))
        clear hkc hb hmc hBc
        go_wp2_with fail
        refine (pcopy_calls W4 (unhid HK)).mono ?_
        rintro e W5 ⟨rfl, hkd, hb⟩
        obtain ⟨md, hmd⟩ : ∃ md, md = W4.heap.size := ⟨_, rfl⟩
        obtain ⟨Bd, hBd⟩ : ∃ Bd, Bd = W4.heap.size + 1 := ⟨_, rfl⟩
        rw [← hBd] at hkd ⊢
        rw [← hmd] at hkd
        have HKD := hid hkd
        have HMD := hid (show mc < md ∧ w.heap.size ≤ md from by have := (unhid HKC).lt.2; have := (unhid HB).size; omega)
        have HK := hid ((unhid HK).below' hb)
        have HKC := hid ((unhid HKC).below' hb)
        have HX := hid (NtAt.below (unhid HX) hb)
        have HY := hid (NtAt.below (unhid HY) hb)
        have HB := hid ((unhid HB).trans (hb.mono (unhid HB).size))
        clear hkd hb hmd hBd
        obtain ⟨a0, a1, a2, a3, a4⟩ := NtAt.cells (unhid HX)
        go_wp2_with fail
        refine (write_calls x.tab x.hour x.sign x.fld x.val W5 (unhid HKC) (by have := unhid HLN; omega) (unhid HXW).1).mono ?_
        rintro e W6 ⟨rfl, hk6, hg6⟩
        have HX := hid ((unhid HX).beside (unhid HKC) hg6)
        have HY := hid ((unhid HY).beside (unhid HKC) hg6)
        have HK := hid ((unhid HK).beside (unhid HKC) hg6 (by have := unhid HMC; omega))
        have HKD := hid ((unhid HKD).beside (unhid HKC) hg6 (by have := unhid HMD; omega))
        have HKC := hid hk6
        have HB := hid ((unhid HB).grown hg6 (unhid HB).size (fun j e => by cases e; exact (unhid HMC).2))
        obtain ⟨r1, hr1⟩ : ∃ r1, r1 = (writeR S x.tab x.hour x.sign x.fld x.val).1 := ⟨_, rfl⟩
        obtain ⟨E1, hE1⟩ : ∃ E1, E1 = (writeR S x.tab x.hour x.sign x.fld x.val).2.1 := ⟨_, rfl⟩
        obtain ⟨C, hC1⟩ : ∃ C, C = (writeR S x.tab x.hour x.sign x.fld x.val).2.2 := ⟨_, rfl⟩
        rw [← hr1, ← hE1]
        rw [← hC1] at HKC
        have HR1 := hid (show writeR S x.tab x.hour x.sign x.fld x.val = (r1, E1, C) from by rw [hr1, hE1, hC1])
        clear hk6 hg6 hr1 hE1 hC1 a0 a1 a2 a3 a4
        simp only [rcV, rcA]
        go_upto_region 14 with (fail)
        change Code.wp _ _ _ _ (W6.alloc (.cells (rcA r1) 33))
        have hb := below_alloc W6 (.cells (rcA r1) 33)
        have HK := hid ((unhid HK).below' hb)
        have HKC := hid ((unhid HKC).below' hb)
        have HKD := hid ((unhid HKD).below' hb)
        have HX := hid (NtAt.below (unhid HX) hb)
        have HY := hid (NtAt.below (unhid HY) hb)
        have HB := hid ((unhid HB).trans (hb.mono (unhid HB).size))
        clear hb
        generalize W6.alloc (.cells (rcA r1) 33) = W7 at *
        obtain ⟨a0, a1, a2, a3, a4⟩ := NtAt.cells (unhid HY)
        dsimp only at a0 a1 a2 a3 a4
        go_wp2_with fail
        refine (write_calls y.tab y.hour x.sign x.fld y.val W7 (unhid HKD) (by have := unhid HLN; omega) (unhid HYW).1).mono ?_
        rintro e W8 ⟨rfl, hk8, hg8⟩
        have HX := hid ((unhid HX).beside (unhid HKD) hg8)
        have HY := hid ((unhid HY).beside (unhid HKD) hg8)
        have HK := hid ((unhid HK).beside (unhid HKD) hg8 (by have := unhid HMC; have := unhid HMD; omega))
        have HKC := hid ((unhid HKC).beside (unhid HKD) hg8 (by have := unhid HMD; omega))
        have HKD := hid hk8
        have HB := hid ((unhid HB).grown hg8 (unhid HB).size (fun j e => by cases e; exact (unhid HMD).2))
        obtain ⟨r2, hr1⟩ : ∃ r1, r1 = (writeR S y.tab y.hour x.sign x.fld y.val).1 := ⟨_, rfl⟩
        obtain ⟨E2, hE1⟩ : ∃ E1, E1 = (writeR S y.tab y.hour x.sign x.fld y.val).2.1 := ⟨_, rfl⟩
        obtain ⟨D, hC1⟩ : ∃ C, C = (writeR S y.tab y.hour x.sign x.fld y.val).2.2 := ⟨_, rfl⟩
        rw [← hr1, ← hE1]
        rw [← hC1] at HKD
        have HR2 := hid (show writeR S y.tab y.hour x.sign x.fld y.val = (r2, E2, D) from by rw [hr1, hE1, hC1])
        clear hk8 hg8 hr1 hE1 hC1 a0 a1 a2 a3 a4
        simp only [rcV, rcA]
        go_upto_region 15 with (fail)
        change Code.wp _ _ _ _ (W8.alloc (.cells (rcA r2) 33))
        have hb := below_alloc W8 (.cells (rcA r2) 33)
        have HK := hid ((unhid HK).below' hb)
        have HKC := hid ((unhid HKC).below' hb)
        have HKD := hid ((unhid HKD).below' hb)
        have HX := hid (NtAt.below (unhid HX) hb)
        have HY := hid (NtAt.below (unhid HY) hb)
        have HB := hid ((unhid HB).trans (hb.mono (unhid HB).size))
        clear hb
        generalize W8.alloc (.cells (rcA r2) 33) = W9 at *
        have he := unhid HR1
        rw [unfine_write (unhid HFI)] at he
        simp only [Prod.mk.injEq] at he
        obtain ⟨rfl, rfl, rfl⟩ := he
        obtain ⟨a0, a1, a2, a3, a4⟩ := NtAt.cells (unhid HX)
        have d0 := decide_eq_true (unhid HG0)
        have d1 := decide_eq_true (unhid HG1)
        have d2 := decide_eq_true (unhid HG2)
        have d3 := decide_eq_true (unhid HG3)
        have d4 := decide_eq_true (unhid HG4)
        have d5 := decide_eq_false (show ¬ x.sign ≤ 1000000000 from by have := unhid HG5; omega)
        go_wp2_with fail
        refine (first_calls _).mono ?_
        rintro e w9 ⟨rfl, hb9⟩
        have HB := hid ((unhid HB).trans (hb9.mono (unhid HB).size))
        clear hb9
        go_wp2_with fail
        go_ret
        exact ⟨rfl, unhid HB⟩

set_option maxHeartbeats 16000000 in
set_option maxRecDepth 100000 in
theorem ldec_bad6 (ns : List Nt) (An : Option Addr) (cn : Nat) (x y : Nt) (w : World) (hn : NtsIn w An ns cn) (hx : NtW x) (hy : NtW y) (g0 : 1 ≤ x.tab) (g1 : x.tab ≤ 8) (g2 : 0 ≤ x.hour) (g3 : x.hour ≤ 10000000) (g4 : 1 ≤ x.sign) (g5 : x.sign ≤ 1000000000) (g6 : ¬ 1 ≤ x.fld) :
    Calls Try.prog 10 #[.slice An ns.length cn, .agg #[.int .i64 x.tab, .int .i64 x.hour, .int .i64 x.sign, .int .i64 x.fld, .int .i64 x.val], .agg #[.int .i64 y.tab, .int .i64 y.hour, .int .i64 y.sign, .int .i64 y.fld, .int .i64 y.val]] w fun e w' => e = .returned (.bool true) ∧ Below w.heap.size w w' := by
  have HFI := hid (show fineB x.tab x.hour x.sign x.fld x.val = false from by rw [Bool.eq_false_iff]; intro h; simp only [fineB, btw, Bool.and_eq_true, decide_eq_true_eq] at h; omega)
  have HG0 := hid g0
  have HG1 := hid g1
  have HG2 := hid g2
  have HG3 := hid g3
  have HG4 := hid g4
  have HG5 := hid g5
  have HG6 := hid g6
  clear g0 g1 g2 g3 g4 g5 g6
  have HNO := hid hn.ok
  have HND := hid hn.rd
  have HXW := hid hx
  have HYW := hid hy
  have hb0 := below_alloc w (.cells #[.int .i64 x.tab, .int .i64 x.hour, .int .i64 x.sign, .int .i64 x.fld, .int .i64 x.val] 30)
  have hx0 := heap_alloc_new w (.cells #[.int .i64 x.tab, .int .i64 x.hour, .int .i64 x.sign, .int .i64 x.fld, .int .i64 x.val] 30)
  have hs0 : (w.alloc (.cells #[.int .i64 x.tab, .int .i64 x.hour, .int .i64 x.sign, .int .i64 x.fld, .int .i64 x.val] 30)).heap.size = w.heap.size + 1 := by simp
  have hb1 := below_alloc (w.alloc (.cells #[.int .i64 x.tab, .int .i64 x.hour, .int .i64 x.sign, .int .i64 x.fld, .int .i64 x.val] 30)) (.cells #[.int .i64 y.tab, .int .i64 y.hour, .int .i64 y.sign, .int .i64 y.fld, .int .i64 y.val] 30)
  have hy0 := heap_alloc_new (w.alloc (.cells #[.int .i64 x.tab, .int .i64 x.hour, .int .i64 x.sign, .int .i64 x.fld, .int .i64 x.val] 30)) (.cells #[.int .i64 y.tab, .int .i64 y.hour, .int .i64 y.sign, .int .i64 y.fld, .int .i64 y.val] 30)
  rw [hs0] at hy0
  clear hn hx hy
  go_enter Try.func10, Try.ntmps10
  go_upto_region 1 with (fail)
  change Code.wp _ _ _ _ ((w.alloc (.cells #[.int .i64 x.tab, .int .i64 x.hour, .int .i64 x.sign, .int .i64 x.fld, .int .i64 x.val] 30)).alloc (.cells #[.int .i64 y.tab, .int .i64 y.hour, .int .i64 y.sign, .int .i64 y.fld, .int .i64 y.val] 30))
  have HX := hid (show NtAt _ w.heap.size x from (hb1.block _ (by omega)).trans hx0)
  have HY := hid (show NtAt _ (w.heap.size + 1) y from hy0)
  have HB := hid (hb0.trans (hb1.mono hb0.size))
  clear hb0 hx0 hb1 hy0 hs0
  generalize (w.alloc (.cells #[.int .i64 x.tab, .int .i64 x.hour, .int .i64 x.sign, .int .i64 x.fld, .int .i64 x.val] 30)).alloc (.cells #[.int .i64 y.tab, .int .i64 y.hour, .int .i64 y.sign, .int .i64 y.fld, .int .i64 y.val] 30) = W0 at *
  obtain ⟨X, hX⟩ : ∃ X, X = w.heap.size := ⟨_, rfl⟩
  obtain ⟨Y, hY⟩ : ∃ Y, Y = w.heap.size + 1 := ⟨_, rfl⟩
  rw [← hX] at HX
  rw [← hY] at HY
  rw [← hY, ← hX]
  have HXE := hid (⟨hX, hY⟩ : X = w.heap.size ∧ Y = w.heap.size + 1)
  clear hX hY
  by_cases h1 : 10 < ns.length
  · have hni : (10 : Int) < (ns.length : Int) := by omega
    go_wp2_with fail
    refine (first_calls _).mono ?_
    rintro e w9 ⟨rfl, hb9⟩
    have HB := hid ((unhid HB).trans (hb9.mono (unhid HB).size))
    clear hb9
    go_wp2_with fail
    go_ret
    exact ⟨rfl, unhid HB⟩
  · have hni : ¬ (10 : Int) < (ns.length : Int) := by omega
    have HLL := hid (show ns.length ≤ 10 from by omega)
    clear h1
    go_wp2_with fail
    refine (bookNew_calls W0).mono ?_
    rintro e W1 ⟨rfl, hk1, hb1⟩
    obtain ⟨m, hm⟩ : ∃ m, m = W0.heap.size := ⟨_, rfl⟩
    obtain ⟨B, hB⟩ : ∃ B, B = W0.heap.size + 1 := ⟨_, rfl⟩
    rw [← hB] at hk1 ⊢
    rw [← hm] at hk1
    have HK := hid hk1
    have HM := hid (show w.heap.size ≤ m ∧ w.heap.size ≤ W0.heap.size from by have := (unhid HB).size; omega)
    have HX := hid (NtAt.below (unhid HX) hb1)
    have HY := hid (NtAt.below (unhid HY) hb1)
    have HB := hid ((unhid HB).trans (hb1.mono (unhid HB).size))
    clear hk1 hb1 hm hB hni
    go_upto_region 5 with (fail)
    go_loopw [8] (fun iv wr => ∃ (k : Nat) (S : List Rc), k ≤ ns.length ∧ iv = .int .i64 k ∧ BkAt wr B m S ∧ Wn [] S k ∧ NtAt wr X x ∧ NtAt wr Y y ∧ Below w.heap.size w wr) (fun iv _ => ns.length - (intOf iv).toNat)
    case atStart => exact ⟨0, [], Nat.zero_le _, rfl, unhid HK, Wn.nil, unhid HX, unhid HY, unhid HB⟩
    case round =>
      clear HK HX HY HB
      obtain ⟨k, S, hk, rfl, hbk, hw, hx, hy, hb⟩ := hrel
      have HK := hid hbk
      have HW := hid hw
      have HX := hid hx
      have HY := hid hy
      have HB := hid hb
      clear hbk hw hx hy hb
      by_cases hlt : k < ns.length
      · have hki : (k : Int) < (ns.length : Int) := by omega
        obtain ⟨b, off, hAe, hbl, hc⟩ := ((unhid HND).below (unhid HB)) (nts_ne hlt)
        subst hAe
        obtain ⟨z, hz⟩ : ∃ z, ns[k]'hlt = z := ⟨_, rfl⟩
        have HZO := hid (unhid HNO z (hz ▸ List.getElem_mem hlt))
        obtain ⟨a0, a1, a2, a3, a4⟩ := nts_cells hc hlt hz
        have HW1 := hid (show wrap64 ((k : Int) + 1) = ((k + 1 : Nat) : Int) from by have h1 := unhid HLL; unfold wrap64; omega)
        clear hc hz
        go_upto_region 8 with (fail)
        have hb1 := below_alloc wr (.cells #[.int .i64 z.tab, .int .i64 z.hour, .int .i64 z.sign, .int .i64 z.fld, .int .i64 z.val] 30)
        have hz1 := heap_alloc_new wr (.cells #[.int .i64 z.tab, .int .i64 z.hour, .int .i64 z.sign, .int .i64 z.fld, .int .i64 z.val] 30)
        have HK := hid ((unhid HK).below' hb1)
        have HX := hid (NtAt.below (unhid HX) hb1)
        have HY := hid (NtAt.below (unhid HY) hb1)
        have HB := hid ((unhid HB).trans (hb1.mono (unhid HB).size))
        obtain ⟨N, hN⟩ : ∃ N, N = wr.heap.size := ⟨_, rfl⟩
        rw [← hN] at hz1 ⊢
        have HZ := hid (show NtAt _ N z from hz1)
        clear hb1 hz1 hN a0 a1 a2 a3 a4 hbl
        generalize wr.alloc (.cells #[.int .i64 z.tab, .int .i64 z.hour, .int .i64 z.sign, .int .i64 z.fld, .int .i64 z.val] 30) = W2 at *
        obtain ⟨a0, a1, a2, a3, a4⟩ := NtAt.cells (unhid HZ)
        go_wp2_with fail
        refine (write_calls z.tab z.hour z.sign z.fld z.val W2 (unhid HK) (by have := (unhid HW).len; have := unhid HLL; omega) (unhid HZO).1).mono ?_
        rintro e W3 ⟨rfl, hk3, hg3⟩
        have HX := hid ((unhid HX).beside (unhid HK) hg3)
        have HY := hid ((unhid HY).beside (unhid HK) hg3)
        have HW := hid ((unhid HW).write (unhid HK).v z.tab z.hour z.sign z.fld z.val)
        have HK := hid hk3
        have HB := hid ((unhid HB).grown hg3 (unhid HB).size (fun j e => by cases e; exact (unhid HM).1))
        clear hk3 hg3 a0 a1 a2 a3 a4 HZ
        go_wp2_with fail
        go_roundw
        case rel => exact ⟨k + 1, _, by omega, by first | go_num | rw [unhid HW1], unhid HK, unhid HW, unhid HX, unhid HY, unhid HB⟩
        case measure => first | (simp [intOf]; omega) | (rw [unhid HW1]; simp [intOf]; omega)
      · obtain rfl : k = ns.length := by omega
        have HV := hid (unhid HK).v
        have HG := hid (unhid HW).good
        have HC := hid (unhid HW).chain
        have HU1 := hid (show ∀ t, t < 8 → upT S t ≤ 100 from fun t ht => by have := (unhid HW).up t ht; have := unhid HLL; omega)
        have HU := hid (show ∀ t, t < 8 → upT S t ≤ 1000 from fun t ht => by have := unhid HU1 t ht; omega)
        have HLN := hid (show S.length ≤ 10 from Nat.le_trans (unhid HW).len (unhid HLL))
        clear HW HND HNO hlt hk
        go_wp2_with fail
        refine (pwaiting_calls (L := setR S) wr (unhid HK) (by have := unhid HLN; omega) (asc_setR S) (fun r => mem_setR.symm)).mono ?_
        rintro e W2 ⟨v, rfl, hrow, hb⟩
        rw [((unhid HG).perm (fun r => mem_setR.symm)).wait] at hrow
        obtain ⟨Av, cv, rfl, -, -⟩ := own_slice hrow
        have HK := hid ((unhid HK).below' hb)
        have HX := hid (NtAt.below (unhid HX) hb)
        have HY := hid (NtAt.below (unhid HY) hb)
        have HB := hid ((unhid HB).trans (hb.mono (unhid HB).size))
        simp only [List.length_nil]
        clear hrow hb
        go_upto_region 11 with (fail)
        have hXY : X ≠ Y := by have := unhid HXE; omega
        have HNE := hid hXY
        have hYB : w.heap.size ≤ Y := by have := unhid HXE; omega
        have HYB := hid hYB
        have HSF := hid (show ∀ w', NtAt w' X x → (w'.cell? ⟨X, 2, none⟩ = some (.int .i64 x.sign) ∧ w'.cell? ⟨X, 3, none⟩ = some (.int .i64 x.fld)) from fun w' h => ⟨h.cells.2.2.1, h.cells.2.2.2.1⟩)
        have hbd := Below.drew (Below.refl W2.heap.size W2)
        refine wp_region_noPanic ?_
        refine wp_region_E (S := fun w' => (w'.cell? ⟨X, 2, none⟩ = some (.int .i64 x.sign) ∧ w'.cell? ⟨X, 3, none⟩ = some (.int .i64 x.fld))) 7 8 rfl (by kernel_rfl) (by kernel_rfl) ((unhid HSF) _ ((unhid HX).below hbd)) ?_
        intro hSE
        have HK := hid ((unhid HK).below' hbd)
        have HX := hid (NtAt.below (unhid HX) hbd)
        have HY := hid (NtAt.below (unhid HY) hbd)
        have HB := hid ((unhid HB).trans (hbd.mono (unhid HB).size))
        clear hbd hXY hYB
        generalize W2.drew = Wd at *
        (refine WE_take (i := 0) (v := ?_) rfl (by kernel_rfl) (by decide) (by kernel_rfl) (by kernel_rfl) (fun _ _ _ h => h) (by rfl) hSE ?_ ?_; rotate_left; (focus (intro w hSw; (try dsimp only at hSw); go_simp; (try with_reducible rfl))); simp only [Act.put, List.setIfInBounds_toArray, List.set_cons_zero, List.set_cons_succ])
        (refine WE_take (i := 1) (v := ?_) rfl (by kernel_rfl) (by decide) (by kernel_rfl) (by kernel_rfl) (fun _ _ _ h => h) (by rfl) hSE ?_ ?_; rotate_left; (focus (intro w hSw; (try dsimp only at hSw); go_simp; (try with_reducible rfl))); simp only [Act.put, List.setIfInBounds_toArray, List.set_cons_zero, List.set_cons_succ])
        (refine WE_take (i := 2) (v := ?_) rfl (by kernel_rfl) (by decide) (by kernel_rfl) (by kernel_rfl) (fun _ _ _ h => h) (by rfl) hSE ?_ ?_; rotate_left; (focus (intro w hSw; (try dsimp only at hSw); go_simp; (try with_reducible rfl))); simp only [Act.put, List.setIfInBounds_toArray, List.set_cons_zero, List.set_cons_succ])
        (refine WE_take (i := 3) (v := ?_) rfl (by kernel_rfl) (by decide) (by kernel_rfl) (by kernel_rfl) (fun _ _ _ h => h) (by rfl) hSE ?_ ?_; rotate_left; (focus (intro w hSw; (try dsimp only at hSw); go_simp; (try with_reducible rfl))); simp only [Act.put, List.setIfInBounds_toArray, List.set_cons_zero, List.set_cons_succ])
        (refine WE_take (i := 4) (v := ?_) rfl (by kernel_rfl) (by decide) (by kernel_rfl) (by kernel_rfl) (fun _ _ _ h => h) (by rfl) hSE ?_ ?_; rotate_left; (focus (intro w hSw; (try dsimp only at hSw); go_simp; (try with_reducible rfl))); simp only [Act.put, List.setIfInBounds_toArray, List.set_cons_zero, List.set_cons_succ])
        have y2 := (unhid HY).cells.2.2.1
        have fz : Wd.frozen? ⟨Y, 2, none⟩ = false := frozen_of_row _ _ _ _ _ (unhid HY)
        (refine WE_one (i := 5) rfl (by decide) (by kernel_rfl) ?_; intro K hK)
        go_simp
        have HX := hid ((unhid HX).other (i := 2) (v := .int .i64 x.sign) (unhid HNE))
        have HK := hid ((unhid HK).note (i := 2) (v := .int .i64 x.sign) (unhid HY))
        have HY := hid ((unhid HY).set2 x.sign)
        have HB := hid (Below.setCell (unhid HB) (p := ⟨Y, 2, none⟩) (unhid HYB) (.int .i64 x.sign))
        refine hK.out _ _ ((unhid HSF) _ (unhid HX)) ?_
        clear hSE hK K y2 fz
        intro hSE
        (try simp only [Act.put, List.setIfInBounds_toArray, List.set_cons_zero, List.set_cons_succ])
        generalize Wd.setCell ⟨Y, 2, none⟩ (.int .i64 x.sign) = We at *
        (refine WE_take (i := 6) (v := ?_) rfl (by kernel_rfl) (by decide) (by kernel_rfl) (by kernel_rfl) (fun _ _ _ h => h) (by rfl) hSE ?_ ?_; rotate_left; (focus (intro w hSw; (try dsimp only at hSw); go_simp; (try with_reducible rfl))); simp only [Act.put, List.setIfInBounds_toArray, List.set_cons_zero, List.set_cons_succ])
        have y3 := (unhid HY).cells.2.2.2.1
        have fz : We.frozen? ⟨Y, 3, none⟩ = false := frozen_of_row _ _ _ _ _ (unhid HY)
        dsimp only at y3
        (refine WE_last rfl (by kernel_rfl) (by kernel_rfl) (by kernel_rfl) ?_; intro K hK; go_simp; refine hK.out _ _ (NoPanic.normal ?_); clear hK K)
        have HX := hid ((unhid HX).other (i := 3) (v := .int .i64 x.fld) (unhid HNE))
        have HK := hid ((unhid HK).note (i := 3) (v := .int .i64 x.fld) (unhid HY))
        have HY := hid ((unhid HY).set3 x.fld)
        have HB := hid (Below.setCell (unhid HB) (p := ⟨Y, 3, none⟩) (unhid HYB) (.int .i64 x.fld))
        clear hSE y3 fz HSF
        generalize We.setCell ⟨Y, 3, none⟩ (.int .i64 x.fld) = W3 at *
        have HMB := hid (Nat.le_trans (unhid HM).1 (Nat.le_of_lt (unhid HK).lt.2))
        go_wp2_with fail
        refine (pcopy_calls W3 (unhid HK)).mono ?_
        rintro e W4 ⟨rfl, hkc, hb⟩
        obtain ⟨mc, hmc⟩ : ∃ mc, mc = W3.heap.size := ⟨_, rfl⟩
        obtain ⟨Bc, hBc⟩ : ∃ Bc, Bc = W3.heap.size + 1 := ⟨_, rfl⟩
        rw [← hBc] at hkc ⊢
        rw [← hmc] at hkc
        have HKC := hid hkc
        have HMC := hid (show m < mc ∧ w.heap.size ≤ mc from by have := (unhid HK).lt.2; have := (unhid HB).size; omega)
        have HK := hid ((unhid HK).below' hb)
        have HX := hid (NtAt.below (unhid HX) hb)
        have HY := hid (NtAt.below (unhid HY) hb)
        have HB := hid ((unhid HB).trans (hb.mono (unhid HB).size))
        clear hkc hb hmc hBc
        go_wp2_with fail
        refine (pcopy_calls W4 (unhid HK)).mono ?_
        rintro e W5 ⟨rfl, hkd, hb⟩
        obtain ⟨md, hmd⟩ : ∃ md, md = W4.heap.size := ⟨_, rfl⟩
        obtain ⟨Bd, hBd⟩ : ∃ Bd, Bd = W4.heap.size + 1 := ⟨_, rfl⟩
        rw [← hBd] at hkd ⊢
        rw [← hmd] at hkd
        have HKD := hid hkd
        have HMD := hid (show mc < md ∧ w.heap.size ≤ md from by have := (unhid HKC).lt.2; have := (unhid HB).size; omega)
        have HK := hid ((unhid HK).below' hb)
        have HKC := hid ((unhid HKC).below' hb)
        have HX := hid (NtAt.below (unhid HX) hb)
        have HY := hid (NtAt.below (unhid HY) hb)
        have HB := hid ((unhid HB).trans (hb.mono (unhid HB).size))
        clear hkd hb hmd hBd
        obtain ⟨a0, a1, a2, a3, a4⟩ := NtAt.cells (unhid HX)
        go_wp2_with fail
        refine (write_calls x.tab x.hour x.sign x.fld x.val W5 (unhid HKC) (by have := unhid HLN; omega) (unhid HXW).1).mono ?_
        rintro e W6 ⟨rfl, hk6, hg6⟩
        have HX := hid ((unhid HX).beside (unhid HKC) hg6)
        have HY := hid ((unhid HY).beside (unhid HKC) hg6)
        have HK := hid ((unhid HK).beside (unhid HKC) hg6 (by have := unhid HMC; omega))
        have HKD := hid ((unhid HKD).beside (unhid HKC) hg6 (by have := unhid HMD; omega))
        have HKC := hid hk6
        have HB := hid ((unhid HB).grown hg6 (unhid HB).size (fun j e => by cases e; exact (unhid HMC).2))
        obtain ⟨r1, hr1⟩ : ∃ r1, r1 = (writeR S x.tab x.hour x.sign x.fld x.val).1 := ⟨_, rfl⟩
        obtain ⟨E1, hE1⟩ : ∃ E1, E1 = (writeR S x.tab x.hour x.sign x.fld x.val).2.1 := ⟨_, rfl⟩
        obtain ⟨C, hC1⟩ : ∃ C, C = (writeR S x.tab x.hour x.sign x.fld x.val).2.2 := ⟨_, rfl⟩
        rw [← hr1, ← hE1]
        rw [← hC1] at HKC
        have HR1 := hid (show writeR S x.tab x.hour x.sign x.fld x.val = (r1, E1, C) from by rw [hr1, hE1, hC1])
        clear hk6 hg6 hr1 hE1 hC1 a0 a1 a2 a3 a4
        simp only [rcV, rcA]
        go_upto_region 14 with (fail)
        change Code.wp _ _ _ _ (W6.alloc (.cells (rcA r1) 33))
        have hb := below_alloc W6 (.cells (rcA r1) 33)
        have HK := hid ((unhid HK).below' hb)
        have HKC := hid ((unhid HKC).below' hb)
        have HKD := hid ((unhid HKD).below' hb)
        have HX := hid (NtAt.below (unhid HX) hb)
        have HY := hid (NtAt.below (unhid HY) hb)
        have HB := hid ((unhid HB).trans (hb.mono (unhid HB).size))
        clear hb
        generalize W6.alloc (.cells (rcA r1) 33) = W7 at *
        obtain ⟨a0, a1, a2, a3, a4⟩ := NtAt.cells (unhid HY)
        dsimp only at a0 a1 a2 a3 a4
        go_wp2_with fail
        refine (write_calls y.tab y.hour x.sign x.fld y.val W7 (unhid HKD) (by have := unhid HLN; omega) (unhid HYW).1).mono ?_
        rintro e W8 ⟨rfl, hk8, hg8⟩
        have HX := hid ((unhid HX).beside (unhid HKD) hg8)
        have HY := hid ((unhid HY).beside (unhid HKD) hg8)
        have HK := hid ((unhid HK).beside (unhid HKD) hg8 (by have := unhid HMC; have := unhid HMD; omega))
        have HKC := hid ((unhid HKC).beside (unhid HKD) hg8 (by have := unhid HMD; omega))
        have HKD := hid hk8
        have HB := hid ((unhid HB).grown hg8 (unhid HB).size (fun j e => by cases e; exact (unhid HMD).2))
        obtain ⟨r2, hr1⟩ : ∃ r1, r1 = (writeR S y.tab y.hour x.sign x.fld y.val).1 := ⟨_, rfl⟩
        obtain ⟨E2, hE1⟩ : ∃ E1, E1 = (writeR S y.tab y.hour x.sign x.fld y.val).2.1 := ⟨_, rfl⟩
        obtain ⟨D, hC1⟩ : ∃ C, C = (writeR S y.tab y.hour x.sign x.fld y.val).2.2 := ⟨_, rfl⟩
        rw [← hr1, ← hE1]
        rw [← hC1] at HKD
        have HR2 := hid (show writeR S y.tab y.hour x.sign x.fld y.val = (r2, E2, D) from by rw [hr1, hE1, hC1])
        clear hk8 hg8 hr1 hE1 hC1 a0 a1 a2 a3 a4
        simp only [rcV, rcA]
        go_upto_region 15 with (fail)
        change Code.wp _ _ _ _ (W8.alloc (.cells (rcA r2) 33))
        have hb := below_alloc W8 (.cells (rcA r2) 33)
        have HK := hid ((unhid HK).below' hb)
        have HKC := hid ((unhid HKC).below' hb)
        have HKD := hid ((unhid HKD).below' hb)
        have HX := hid (NtAt.below (unhid HX) hb)
        have HY := hid (NtAt.below (unhid HY) hb)
        have HB := hid ((unhid HB).trans (hb.mono (unhid HB).size))
        clear hb
        generalize W8.alloc (.cells (rcA r2) 33) = W9 at *
        have he := unhid HR1
        rw [unfine_write (unhid HFI)] at he
        simp only [Prod.mk.injEq] at he
        obtain ⟨rfl, rfl, rfl⟩ := he
        obtain ⟨a0, a1, a2, a3, a4⟩ := NtAt.cells (unhid HX)
        have d0 := decide_eq_true (unhid HG0)
        have d1 := decide_eq_true (unhid HG1)
        have d2 := decide_eq_true (unhid HG2)
        have d3 := decide_eq_true (unhid HG3)
        have d4 := decide_eq_true (unhid HG4)
        have d5 := decide_eq_true (unhid HG5)
        have d6 := decide_eq_false (show ¬ 1 ≤ x.fld from by have := unhid HG6; omega)
        go_wp2_with fail
        refine (first_calls _).mono ?_
        rintro e w9 ⟨rfl, hb9⟩
        have HB := hid ((unhid HB).trans (hb9.mono (unhid HB).size))
        clear hb9
        go_wp2_with fail
        go_ret
        exact ⟨rfl, unhid HB⟩

set_option maxHeartbeats 16000000 in
set_option maxRecDepth 100000 in
theorem ldec_bad7 (ns : List Nt) (An : Option Addr) (cn : Nat) (x y : Nt) (w : World) (hn : NtsIn w An ns cn) (hx : NtW x) (hy : NtW y) (g0 : 1 ≤ x.tab) (g1 : x.tab ≤ 8) (g2 : 0 ≤ x.hour) (g3 : x.hour ≤ 10000000) (g4 : 1 ≤ x.sign) (g5 : x.sign ≤ 1000000000) (g6 : 1 ≤ x.fld) (g7 : ¬ x.fld ≤ 6) :
    Calls Try.prog 10 #[.slice An ns.length cn, .agg #[.int .i64 x.tab, .int .i64 x.hour, .int .i64 x.sign, .int .i64 x.fld, .int .i64 x.val], .agg #[.int .i64 y.tab, .int .i64 y.hour, .int .i64 y.sign, .int .i64 y.fld, .int .i64 y.val]] w fun e w' => e = .returned (.bool true) ∧ Below w.heap.size w w' := by
  have HFI := hid (show fineB x.tab x.hour x.sign x.fld x.val = false from by rw [Bool.eq_false_iff]; intro h; simp only [fineB, btw, Bool.and_eq_true, decide_eq_true_eq] at h; omega)
  have HG0 := hid g0
  have HG1 := hid g1
  have HG2 := hid g2
  have HG3 := hid g3
  have HG4 := hid g4
  have HG5 := hid g5
  have HG6 := hid g6
  have HG7 := hid g7
  clear g0 g1 g2 g3 g4 g5 g6 g7
  have HNO := hid hn.ok
  have HND := hid hn.rd
  have HXW := hid hx
  have HYW := hid hy
  have hb0 := below_alloc w (.cells #[.int .i64 x.tab, .int .i64 x.hour, .int .i64 x.sign, .int .i64 x.fld, .int .i64 x.val] 30)
  have hx0 := heap_alloc_new w (.cells #[.int .i64 x.tab, .int .i64 x.hour, .int .i64 x.sign, .int .i64 x.fld, .int .i64 x.val] 30)
  have hs0 : (w.alloc (.cells #[.int .i64 x.tab, .int .i64 x.hour, .int .i64 x.sign, .int .i64 x.fld, .int .i64 x.val] 30)).heap.size = w.heap.size + 1 := by simp
  have hb1 := below_alloc (w.alloc (.cells #[.int .i64 x.tab, .int .i64 x.hour, .int .i64 x.sign, .int .i64 x.fld, .int .i64 x.val] 30)) (.cells #[.int .i64 y.tab, .int .i64 y.hour, .int .i64 y.sign, .int .i64 y.fld, .int .i64 y.val] 30)
  have hy0 := heap_alloc_new (w.alloc (.cells #[.int .i64 x.tab, .int .i64 x.hour, .int .i64 x.sign, .int .i64 x.fld, .int .i64 x.val] 30)) (.cells #[.int .i64 y.tab, .int .i64 y.hour, .int .i64 y.sign, .int .i64 y.fld, .int .i64 y.val] 30)
  rw [hs0] at hy0
  clear hn hx hy
  go_enter Try.func10, Try.ntmps10
  go_upto_region 1 with (fail)
  change Code.wp _ _ _ _ ((w.alloc (.cells #[.int .i64 x.tab, .int .i64 x.hour, .int .i64 x.sign, .int .i64 x.fld, .int .i64 x.val] 30)).alloc (.cells #[.int .i64 y.tab, .int .i64 y.hour, .int .i64 y.sign, .int .i64 y.fld, .int .i64 y.val] 30))
  have HX := hid (show NtAt _ w.heap.size x from (hb1.block _ (by omega)).trans hx0)
  have HY := hid (show NtAt _ (w.heap.size + 1) y from hy0)
  have HB := hid (hb0.trans (hb1.mono hb0.size))
  clear hb0 hx0 hb1 hy0 hs0
  generalize (w.alloc (.cells #[.int .i64 x.tab, .int .i64 x.hour, .int .i64 x.sign, .int .i64 x.fld, .int .i64 x.val] 30)).alloc (.cells #[.int .i64 y.tab, .int .i64 y.hour, .int .i64 y.sign, .int .i64 y.fld, .int .i64 y.val] 30) = W0 at *
  obtain ⟨X, hX⟩ : ∃ X, X = w.heap.size := ⟨_, rfl⟩
  obtain ⟨Y, hY⟩ : ∃ Y, Y = w.heap.size + 1 := ⟨_, rfl⟩
  rw [← hX] at HX
  rw [← hY] at HY
  rw [← hY, ← hX]
  have HXE := hid (⟨hX, hY⟩ : X = w.heap.size ∧ Y = w.heap.size + 1)
  clear hX hY
  by_cases h1 : 10 < ns.length
  · have hni : (10 : Int) < (ns.length : Int) := by omega
    go_wp2_with fail
    refine (first_calls _).mono ?_
    rintro e w9 ⟨rfl, hb9⟩
    have HB := hid ((unhid HB).trans (hb9.mono (unhid HB).size))
    clear hb9
    go_wp2_with fail
    go_ret
    exact ⟨rfl, unhid HB⟩
  · have hni : ¬ (10 : Int) < (ns.length : Int) := by omega
    have HLL := hid (show ns.length ≤ 10 from by omega)
    clear h1
    go_wp2_with fail
    refine (bookNew_calls W0).mono ?_
    rintro e W1 ⟨rfl, hk1, hb1⟩
    obtain ⟨m, hm⟩ : ∃ m, m = W0.heap.size := ⟨_, rfl⟩
    obtain ⟨B, hB⟩ : ∃ B, B = W0.heap.size + 1 := ⟨_, rfl⟩
    rw [← hB] at hk1 ⊢
    rw [← hm] at hk1
    have HK := hid hk1
    have HM := hid (show w.heap.size ≤ m ∧ w.heap.size ≤ W0.heap.size from by have := (unhid HB).size; omega)
    have HX := hid (NtAt.below (unhid HX) hb1)
    have HY := hid (NtAt.below (unhid HY) hb1)
    have HB := hid ((unhid HB).trans (hb1.mono (unhid HB).size))
    clear hk1 hb1 hm hB hni
    go_upto_region 5 with (fail)
    go_loopw [8] (fun iv wr => ∃ (k : Nat) (S : List Rc), k ≤ ns.length ∧ iv = .int .i64 k ∧ BkAt wr B m S ∧ Wn [] S k ∧ NtAt wr X x ∧ NtAt wr Y y ∧ Below w.heap.size w wr) (fun iv _ => ns.length - (intOf iv).toNat)
    case atStart => exact ⟨0, [], Nat.zero_le _, rfl, unhid HK, Wn.nil, unhid HX, unhid HY, unhid HB⟩
    case round =>
      clear HK HX HY HB
      obtain ⟨k, S, hk, rfl, hbk, hw, hx, hy, hb⟩ := hrel
      have HK := hid hbk
      have HW := hid hw
      have HX := hid hx
      have HY := hid hy
      have HB := hid hb
      clear hbk hw hx hy hb
      by_cases hlt : k < ns.length
      · have hki : (k : Int) < (ns.length : Int) := by omega
        obtain ⟨b, off, hAe, hbl, hc⟩ := ((unhid HND).below (unhid HB)) (nts_ne hlt)
        subst hAe
        obtain ⟨z, hz⟩ : ∃ z, ns[k]'hlt = z := ⟨_, rfl⟩
        have HZO := hid (unhid HNO z (hz ▸ List.getElem_mem hlt))
        obtain ⟨a0, a1, a2, a3, a4⟩ := nts_cells hc hlt hz
        have HW1 := hid (show wrap64 ((k : Int) + 1) = ((k + 1 : Nat) : Int) from by have h1 := unhid HLL; unfold wrap64; omega)
        clear hc hz
        go_upto_region 8 with (fail)
        have hb1 := below_alloc wr (.cells #[.int .i64 z.tab, .int .i64 z.hour, .int .i64 z.sign, .int .i64 z.fld, .int .i64 z.val] 30)
        have hz1 := heap_alloc_new wr (.cells #[.int .i64 z.tab, .int .i64 z.hour, .int .i64 z.sign, .int .i64 z.fld, .int .i64 z.val] 30)
        have HK := hid ((unhid HK).below' hb1)
        have HX := hid (NtAt.below (unhid HX) hb1)
        have HY := hid (NtAt.below (unhid HY) hb1)
        have HB := hid ((unhid HB).trans (hb1.mono (unhid HB).size))
        obtain ⟨N, hN⟩ : ∃ N, N = wr.heap.size := ⟨_, rfl⟩
        rw [← hN] at hz1 ⊢
        have HZ := hid (show NtAt _ N z from hz1)
        clear hb1 hz1 hN a0 a1 a2 a3 a4 hbl
        generalize wr.alloc (.cells #[.int .i64 z.tab, .int .i64 z.hour, .int .i64 z.sign, .int .i64 z.fld, .int .i64 z.val] 30) = W2 at *
        obtain ⟨a0, a1, a2, a3, a4⟩ := NtAt.cells (unhid HZ)
        go_wp2_with fail
        refine (write_calls z.tab z.hour z.sign z.fld z.val W2 (unhid HK) (by have := (unhid HW).len; have := unhid HLL; omega) (unhid HZO).1).mono ?_
        rintro e W3 ⟨rfl, hk3, hg3⟩
        have HX := hid ((unhid HX).beside (unhid HK) hg3)
        have HY := hid ((unhid HY).beside (unhid HK) hg3)
        have HW := hid ((unhid HW).write (unhid HK).v z.tab z.hour z.sign z.fld z.val)
        have HK := hid hk3
        have HB := hid ((unhid HB).grown hg3 (unhid HB).size (fun j e => by cases e; exact (unhid HM).1))
        clear hk3 hg3 a0 a1 a2 a3 a4 HZ
        go_wp2_with fail
        go_roundw
        case rel => exact ⟨k + 1, _, by omega, by first | go_num | rw [unhid HW1], unhid HK, unhid HW, unhid HX, unhid HY, unhid HB⟩
        case measure => first | (simp [intOf]; omega) | (rw [unhid HW1]; simp [intOf]; omega)
      · obtain rfl : k = ns.length := by omega
        have HV := hid (unhid HK).v
        have HG := hid (unhid HW).good
        have HC := hid (unhid HW).chain
        have HU1 := hid (show ∀ t, t < 8 → upT S t ≤ 100 from fun t ht => by have := (unhid HW).up t ht; have := unhid HLL; omega)
        have HU := hid (show ∀ t, t < 8 → upT S t ≤ 1000 from fun t ht => by have := unhid HU1 t ht; omega)
        have HLN := hid (show S.length ≤ 10 from Nat.le_trans (unhid HW).len (unhid HLL))
        clear HW HND HNO hlt hk
        go_wp2_with fail
        refine (pwaiting_calls (L := setR S) wr (unhid HK) (by have := unhid HLN; omega) (asc_setR S) (fun r => mem_setR.symm)).mono ?_
        rintro e W2 ⟨v, rfl, hrow, hb⟩
        rw [((unhid HG).perm (fun r => mem_setR.symm)).wait] at hrow
        obtain ⟨Av, cv, rfl, -, -⟩ := own_slice hrow
        have HK := hid ((unhid HK).below' hb)
        have HX := hid (NtAt.below (unhid HX) hb)
        have HY := hid (NtAt.below (unhid HY) hb)
        have HB := hid ((unhid HB).trans (hb.mono (unhid HB).size))
        simp only [List.length_nil]
        clear hrow hb
        go_upto_region 11 with (fail)
        have hXY : X ≠ Y := by have := unhid HXE; omega
        have HNE := hid hXY
        have hYB : w.heap.size ≤ Y := by have := unhid HXE; omega
        have HYB := hid hYB
        have HSF := hid (show ∀ w', NtAt w' X x → (w'.cell? ⟨X, 2, none⟩ = some (.int .i64 x.sign) ∧ w'.cell? ⟨X, 3, none⟩ = some (.int .i64 x.fld)) from fun w' h => ⟨h.cells.2.2.1, h.cells.2.2.2.1⟩)
        have hbd := Below.drew (Below.refl W2.heap.size W2)
        refine wp_region_noPanic ?_
        refine wp_region_E (S := fun w' => (w'.cell? ⟨X, 2, none⟩ = some (.int .i64 x.sign) ∧ w'.cell? ⟨X, 3, none⟩ = some (.int .i64 x.fld))) 7 8 rfl (by kernel_rfl) (by kernel_rfl) ((unhid HSF) _ ((unhid HX).below hbd)) ?_
        intro hSE
        have HK := hid ((unhid HK).below' hbd)
        have HX := hid (NtAt.below (unhid HX) hbd)
        have HY := hid (NtAt.below (unhid HY) hbd)
        have HB := hid ((unhid HB).trans (hbd.mono (unhid HB).size))
        clear hbd hXY hYB
        generalize W2.drew = Wd at *
        (refine WE_take (i := 0) (v := ?_) rfl (by kernel_rfl) (by decide) (by kernel_rfl) (by kernel_rfl) (fun _ _ _ h => h) (by rfl) hSE ?_ ?_; rotate_left; (focus (intro w hSw; (try dsimp only at hSw); go_simp; (try with_reducible rfl))); simp only [Act.put, List.setIfInBounds_toArray, List.set_cons_zero, List.set_cons_succ])
        (refine WE_take (i := 1) (v := ?_) rfl (by kernel_rfl) (by decide) (by kernel_rfl) (by kernel_rfl) (fun _ _ _ h => h) (by rfl) hSE ?_ ?_; rotate_left; (focus (intro w hSw; (try dsimp only at hSw); go_simp; (try with_reducible rfl))); simp only [Act.put, List.setIfInBounds_toArray, List.set_cons_zero, List.set_cons_succ])
        (refine WE_take (i := 2) (v := ?_) rfl (by kernel_rfl) (by decide) (by kernel_rfl) (by kernel_rfl) (fun _ _ _ h => h) (by rfl) hSE ?_ ?_; rotate_left; (focus (intro w hSw; (try dsimp only at hSw); go_simp; (try with_reducible rfl))); simp only [Act.put, List.setIfInBounds_toArray, List.set_cons_zero, List.set_cons_succ])
        (refine WE_take (i := 3) (v := ?_) rfl (by kernel_rfl) (by decide) (by kernel_rfl) (by kernel_rfl) (fun _ _ _ h => h) (by rfl) hSE ?_ ?_; rotate_left; (focus (intro w hSw; (try dsimp only at hSw); go_simp; (try with_reducible rfl))); simp only [Act.put, List.setIfInBounds_toArray, List.set_cons_zero, List.set_cons_succ])
        (refine WE_take (i := 4) (v := ?_) rfl (by kernel_rfl) (by decide) (by kernel_rfl) (by kernel_rfl) (fun _ _ _ h => h) (by rfl) hSE ?_ ?_; rotate_left; (focus (intro w hSw; (try dsimp only at hSw); go_simp; (try with_reducible rfl))); simp only [Act.put, List.setIfInBounds_toArray, List.set_cons_zero, List.set_cons_succ])
        have y2 := (unhid HY).cells.2.2.1
        have fz : Wd.frozen? ⟨Y, 2, none⟩ = false := frozen_of_row _ _ _ _ _ (unhid HY)
        (refine WE_one (i := 5) rfl (by decide) (by kernel_rfl) ?_; intro K hK)
        go_simp
        have HX := hid ((unhid HX).other (i := 2) (v := .int .i64 x.sign) (unhid HNE))
        have HK := hid ((unhid HK).note (i := 2) (v := .int .i64 x.sign) (unhid HY))
        have HY := hid ((unhid HY).set2 x.sign)
        have HB := hid (Below.setCell (unhid HB) (p := ⟨Y, 2, none⟩) (unhid HYB) (.int .i64 x.sign))
        refine hK.out _ _ ((unhid HSF) _ (unhid HX)) ?_
        clear hSE hK K y2 fz
        intro hSE
        (try simp only [Act.put, List.setIfInBounds_toArray, List.set_cons_zero, List.set_cons_succ])
        generalize Wd.setCell ⟨Y, 2, none⟩ (.int .i64 x.sign) = We at *
        (refine WE_take (i := 6) (v := ?_) rfl (by kernel_rfl) (by decide) (by kernel_rfl) (by kernel_rfl) (fun _ _ _ h => h) (by rfl) hSE ?_ ?_; rotate_left; (focus (intro w hSw; (try dsimp only at hSw); go_simp; (try with_reducible rfl))); simp only [Act.put, List.setIfInBounds_toArray, List.set_cons_zero, List.set_cons_succ])
        have y3 := (unhid HY).cells.2.2.2.1
        have fz : We.frozen? ⟨Y, 3, none⟩ = false := frozen_of_row _ _ _ _ _ (unhid HY)
        dsimp only at y3
        (refine WE_last rfl (by kernel_rfl) (by kernel_rfl) (by kernel_rfl) ?_; intro K hK; go_simp; refine hK.out _ _ (NoPanic.normal ?_); clear hK K)
        have HX := hid ((unhid HX).other (i := 3) (v := .int .i64 x.fld) (unhid HNE))
        have HK := hid ((unhid HK).note (i := 3) (v := .int .i64 x.fld) (unhid HY))
        have HY := hid ((unhid HY).set3 x.fld)
        have HB := hid (Below.setCell (unhid HB) (p := ⟨Y, 3, none⟩) (unhid HYB) (.int .i64 x.fld))
        clear hSE y3 fz HSF
        generalize We.setCell ⟨Y, 3, none⟩ (.int .i64 x.fld) = W3 at *
        have HMB := hid (Nat.le_trans (unhid HM).1 (Nat.le_of_lt (unhid HK).lt.2))
        go_wp2_with fail
        refine (pcopy_calls W3 (unhid HK)).mono ?_
        rintro e W4 ⟨rfl, hkc, hb⟩
        obtain ⟨mc, hmc⟩ : ∃ mc, mc = W3.heap.size := ⟨_, rfl⟩
        obtain ⟨Bc, hBc⟩ : ∃ Bc, Bc = W3.heap.size + 1 := ⟨_, rfl⟩
        rw [← hBc] at hkc ⊢
        rw [← hmc] at hkc
        have HKC := hid hkc
        have HMC := hid (show m < mc ∧ w.heap.size ≤ mc from by have := (unhid HK).lt.2; have := (unhid HB).size; omega)
        have HK := hid ((unhid HK).below' hb)
        have HX := hid (NtAt.below (unhid HX) hb)
        have HY := hid (NtAt.below (unhid HY) hb)
        have HB := hid ((unhid HB).trans (hb.mono (unhid HB).size))
        clear hkc hb hmc hBc
        go_wp2_with fail
        refine (pcopy_calls W4 (unhid HK)).mono ?_
        rintro e W5 ⟨rfl, hkd, hb⟩
        obtain ⟨md, hmd⟩ : ∃ md, md = W4.heap.size := ⟨_, rfl⟩
        obtain ⟨Bd, hBd⟩ : ∃ Bd, Bd = W4.heap.size + 1 := ⟨_, rfl⟩
        rw [← hBd] at hkd ⊢
        rw [← hmd] at hkd
        have HKD := hid hkd
        have HMD := hid (show mc < md ∧ w.heap.size ≤ md from by have := (unhid HKC).lt.2; have := (unhid HB).size; omega)
        have HK := hid ((unhid HK).below' hb)
        have HKC := hid ((unhid HKC).below' hb)
        have HX := hid (NtAt.below (unhid HX) hb)
        have HY := hid (NtAt.below (unhid HY) hb)
        have HB := hid ((unhid HB).trans (hb.mono (unhid HB).size))
        clear hkd hb hmd hBd
        obtain ⟨a0, a1, a2, a3, a4⟩ := NtAt.cells (unhid HX)
        go_wp2_with fail
        refine (write_calls x.tab x.hour x.sign x.fld x.val W5 (unhid HKC) (by have := unhid HLN; omega) (unhid HXW).1).mono ?_
        rintro e W6 ⟨rfl, hk6, hg6⟩
        have HX := hid ((unhid HX).beside (unhid HKC) hg6)
        have HY := hid ((unhid HY).beside (unhid HKC) hg6)
        have HK := hid ((unhid HK).beside (unhid HKC) hg6 (by have := unhid HMC; omega))
        have HKD := hid ((unhid HKD).beside (unhid HKC) hg6 (by have := unhid HMD; omega))
        have HKC := hid hk6
        have HB := hid ((unhid HB).grown hg6 (unhid HB).size (fun j e => by cases e; exact (unhid HMC).2))
        obtain ⟨r1, hr1⟩ : ∃ r1, r1 = (writeR S x.tab x.hour x.sign x.fld x.val).1 := ⟨_, rfl⟩
        obtain ⟨E1, hE1⟩ : ∃ E1, E1 = (writeR S x.tab x.hour x.sign x.fld x.val).2.1 := ⟨_, rfl⟩
        obtain ⟨C, hC1⟩ : ∃ C, C = (writeR S x.tab x.hour x.sign x.fld x.val).2.2 := ⟨_, rfl⟩
        rw [← hr1, ← hE1]
        rw [← hC1] at HKC
        have HR1 := hid (show writeR S x.tab x.hour x.sign x.fld x.val = (r1, E1, C) from by rw [hr1, hE1, hC1])
        clear hk6 hg6 hr1 hE1 hC1 a0 a1 a2 a3 a4
        simp only [rcV, rcA]
        go_upto_region 14 with (fail)
        change Code.wp _ _ _ _ (W6.alloc (.cells (rcA r1) 33))
        have hb := below_alloc W6 (.cells (rcA r1) 33)
        have HK := hid ((unhid HK).below' hb)
        have HKC := hid ((unhid HKC).below' hb)
        have HKD := hid ((unhid HKD).below' hb)
        have HX := hid (NtAt.below (unhid HX) hb)
        have HY := hid (NtAt.below (unhid HY) hb)
        have HB := hid ((unhid HB).trans (hb.mono (unhid HB).size))
        clear hb
        generalize W6.alloc (.cells (rcA r1) 33) = W7 at *
        obtain ⟨a0, a1, a2, a3, a4⟩ := NtAt.cells (unhid HY)
        dsimp only at a0 a1 a2 a3 a4
        go_wp2_with fail
        refine (write_calls y.tab y.hour x.sign x.fld y.val W7 (unhid HKD) (by have := unhid HLN; omega) (unhid HYW).1).mono ?_
        rintro e W8 ⟨rfl, hk8, hg8⟩
        have HX := hid ((unhid HX).beside (unhid HKD) hg8)
        have HY := hid ((unhid HY).beside (unhid HKD) hg8)
        have HK := hid ((unhid HK).beside (unhid HKD) hg8 (by have := unhid HMC; have := unhid HMD; omega))
        have HKC := hid ((unhid HKC).beside (unhid HKD) hg8 (by have := unhid HMD; omega))
        have HKD := hid hk8
        have HB := hid ((unhid HB).grown hg8 (unhid HB).size (fun j e => by cases e; exact (unhid HMD).2))
        obtain ⟨r2, hr1⟩ : ∃ r1, r1 = (writeR S y.tab y.hour x.sign x.fld y.val).1 := ⟨_, rfl⟩
        obtain ⟨E2, hE1⟩ : ∃ E1, E1 = (writeR S y.tab y.hour x.sign x.fld y.val).2.1 := ⟨_, rfl⟩
        obtain ⟨D, hC1⟩ : ∃ C, C = (writeR S y.tab y.hour x.sign x.fld y.val).2.2 := ⟨_, rfl⟩
        rw [← hr1, ← hE1]
        rw [← hC1] at HKD
        have HR2 := hid (show writeR S y.tab y.hour x.sign x.fld y.val = (r2, E2, D) from by rw [hr1, hE1, hC1])
        clear hk8 hg8 hr1 hE1 hC1 a0 a1 a2 a3 a4
        simp only [rcV, rcA]
        go_upto_region 15 with (fail)
        change Code.wp _ _ _ _ (W8.alloc (.cells (rcA r2) 33))
        have hb := below_alloc W8 (.cells (rcA r2) 33)
        have HK := hid ((unhid HK).below' hb)
        have HKC := hid ((unhid HKC).below' hb)
        have HKD := hid ((unhid HKD).below' hb)
        have HX := hid (NtAt.below (unhid HX) hb)
        have HY := hid (NtAt.below (unhid HY) hb)
        have HB := hid ((unhid HB).trans (hb.mono (unhid HB).size))
        clear hb
        generalize W8.alloc (.cells (rcA r2) 33) = W9 at *
        have he := unhid HR1
        rw [unfine_write (unhid HFI)] at he
        simp only [Prod.mk.injEq] at he
        obtain ⟨rfl, rfl, rfl⟩ := he
        obtain ⟨a0, a1, a2, a3, a4⟩ := NtAt.cells (unhid HX)
        have d0 := decide_eq_true (unhid HG0)
        have d1 := decide_eq_true (unhid HG1)
        have d2 := decide_eq_true (unhid HG2)
        have d3 := decide_eq_true (unhid HG3)
        have d4 := decide_eq_true (unhid HG4)
        have d5 := decide_eq_true (unhid HG5)
        have d6 := decide_eq_true (unhid HG6)
        have d7 := decide_eq_false (show ¬ x.fld ≤ 6 from by have := unhid HG7; omega)
        go_wp2_with fail
        refine (first_calls _).mono ?_
        rintro e w9 ⟨rfl, hb9⟩
        have HB := hid ((unhid HB).trans (hb9.mono (unhid HB).size))
        clear hb9
        go_wp2_with fail
        go_ret
        exact ⟨rfl, unhid HB⟩

set_option maxHeartbeats 16000000 in
set_option maxRecDepth 100000 in
theorem ldec_bad8 (ns : List Nt) (An : Option Addr) (cn : Nat) (x y : Nt) (w : World) (hn : NtsIn w An ns cn) (hx : NtW x) (hy : NtW y) (g0 : 1 ≤ x.tab) (g1 : x.tab ≤ 8) (g2 : 0 ≤ x.hour) (g3 : x.hour ≤ 10000000) (g4 : 1 ≤ x.sign) (g5 : x.sign ≤ 1000000000) (g6 : 1 ≤ x.fld) (g7 : x.fld ≤ 6) (g8 : ¬ -1099511627776 ≤ x.val) :
    Calls Try.prog 10 #[.slice An ns.length cn, .agg #[.int .i64 x.tab, .int .i64 x.hour, .int .i64 x.sign, .int .i64 x.fld, .int .i64 x.val], .agg #[.int .i64 y.tab, .int .i64 y.hour, .int .i64 y.sign, .int .i64 y.fld, .int .i64 y.val]] w fun e w' => e = .returned (.bool true) ∧ Below w.heap.size w w' := by
  have HFI := hid (show fineB x.tab x.hour x.sign x.fld x.val = false from by rw [Bool.eq_false_iff]; intro h; simp only [fineB, btw, Bool.and_eq_true, decide_eq_true_eq] at h; omega)
  have HG0 := hid g0
  have HG1 := hid g1
  have HG2 := hid g2
  have HG3 := hid g3
  have HG4 := hid g4
  have HG5 := hid g5
  have HG6 := hid g6
  have HG7 := hid g7
  have HG8 := hid g8
  clear g0 g1 g2 g3 g4 g5 g6 g7 g8
  have HNO := hid hn.ok
  have HND := hid hn.rd
  have HXW := hid hx
  have HYW := hid hy
  have hb0 := below_alloc w (.cells #[.int .i64 x.tab, .int .i64 x.hour, .int .i64 x.sign, .int .i64 x.fld, .int .i64 x.val] 30)
  have hx0 := heap_alloc_new w (.cells #[.int .i64 x.tab, .int .i64 x.hour, .int .i64 x.sign, .int .i64 x.fld, .int .i64 x.val] 30)
  have hs0 : (w.alloc (.cells #[.int .i64 x.tab, .int .i64 x.hour, .int .i64 x.sign, .int .i64 x.fld, .int .i64 x.val] 30)).heap.size = w.heap.size + 1 := by simp
  have hb1 := below_alloc (w.alloc (.cells #[.int .i64 x.tab, .int .i64 x.hour, .int .i64 x.sign, .int .i64 x.fld, .int .i64 x.val] 30)) (.cells #[.int .i64 y.tab, .int .i64 y.hour, .int .i64 y.sign, .int .i64 y.fld, .int .i64 y.val] 30)
  have hy0 := heap_alloc_new (w.alloc (.cells #[.int .i64 x.tab, .int .i64 x.hour, .int .i64 x.sign, .int .i64 x.fld, .int .i64 x.val] 30)) (.cells #[.int .i64 y.tab, .int .i64 y.hour, .int .i64 y.sign, .int .i64 y.fld, .int .i64 y.val] 30)
  rw [hs0] at hy0
  clear hn hx hy
  go_enter Try.func10, Try.ntmps10
  go_upto_region 1 with (fail)
  change Code.wp _ _ _ _ ((w.alloc (.cells #[.int .i64 x.tab, .int .i64 x.hour, .int .i64 x.sign, .int .i64 x.fld, .int .i64 x.val] 30)).alloc (.cells #[.int .i64 y.tab, .int .i64 y.hour, .int .i64 y.sign, .int .i64 y.fld, .int .i64 y.val] 30))
  have HX := hid (show NtAt _ w.heap.size x from (hb1.block _ (by omega)).trans hx0)
  have HY := hid (show NtAt _ (w.heap.size + 1) y from hy0)
  have HB := hid (hb0.trans (hb1.mono hb0.size))
  clear hb0 hx0 hb1 hy0 hs0
  generalize (w.alloc (.cells #[.int .i64 x.tab, .int .i64 x.hour, .int .i64 x.sign, .int .i64 x.fld, .int .i64 x.val] 30)).alloc (.cells #[.int .i64 y.tab, .int .i64 y.hour, .int .i64 y.sign, .int .i64 y.fld, .int .i64 y.val] 30) = W0 at *
  obtain ⟨X, hX⟩ : ∃ X, X = w.heap.size := ⟨_, rfl⟩
  obtain ⟨Y, hY⟩ : ∃ Y, Y = w.heap.size + 1 := ⟨_, rfl⟩
  rw [← hX] at HX
  rw [← hY] at HY
  rw [← hY, ← hX]
  have HXE := hid (⟨hX, hY⟩ : X = w.heap.size ∧ Y = w.heap.size + 1)
  clear hX hY
  by_cases h1 : 10 < ns.length
  · have hni : (10 : Int) < (ns.length : Int) := by omega
    go_wp2_with fail
    refine (first_calls _).mono ?_
    rintro e w9 ⟨rfl, hb9⟩
    have HB := hid ((unhid HB).trans (hb9.mono (unhid HB).size))
    clear hb9
    go_wp2_with fail
    go_ret
    exact ⟨rfl, unhid HB⟩
  · have hni : ¬ (10 : Int) < (ns.length : Int) := by omega
    have HLL := hid (show ns.length ≤ 10 from by omega)
    clear h1
    go_wp2_with fail
    refine (bookNew_calls W0).mono ?_
    rintro e W1 ⟨rfl, hk1, hb1⟩
    obtain ⟨m, hm⟩ : ∃ m, m = W0.heap.size := ⟨_, rfl⟩
    obtain ⟨B, hB⟩ : ∃ B, B = W0.heap.size + 1 := ⟨_, rfl⟩
    rw [← hB] at hk1 ⊢
    rw [← hm] at hk1
    have HK := hid hk1
    have HM := hid (show w.heap.size ≤ m ∧ w.heap.size ≤ W0.heap.size from by have := (unhid HB).size; omega)
    have HX := hid (NtAt.below (unhid HX) hb1)
    have HY := hid (NtAt.below (unhid HY) hb1)
    have HB := hid ((unhid HB).trans (hb1.mono (unhid HB).size))
    clear hk1 hb1 hm hB hni
    go_upto_region 5 with (fail)
    go_loopw [8] (fun iv wr => ∃ (k : Nat) (S : List Rc), k ≤ ns.length ∧ iv = .int .i64 k ∧ BkAt wr B m S ∧ Wn [] S k ∧ NtAt wr X x ∧ NtAt wr Y y ∧ Below w.heap.size w wr) (fun iv _ => ns.length - (intOf iv).toNat)
    case atStart => exact ⟨0, [], Nat.zero_le _, rfl, unhid HK, Wn.nil, unhid HX, unhid HY, unhid HB⟩
    case round =>
      clear HK HX HY HB
      obtain ⟨k, S, hk, rfl, hbk, hw, hx, hy, hb⟩ := hrel
      have HK := hid hbk
      have HW := hid hw
      have HX := hid hx
      have HY := hid hy
      have HB := hid hb
      clear hbk hw hx hy hb
      by_cases hlt : k < ns.length
      · have hki : (k : Int) < (ns.length : Int) := by omega
        obtain ⟨b, off, hAe, hbl, hc⟩ := ((unhid HND).below (unhid HB)) (nts_ne hlt)
        subst hAe
        obtain ⟨z, hz⟩ : ∃ z, ns[k]'hlt = z := ⟨_, rfl⟩
        have HZO := hid (unhid HNO z (hz ▸ List.getElem_mem hlt))
        obtain ⟨a0, a1, a2, a3, a4⟩ := nts_cells hc hlt hz
        have HW1 := hid (show wrap64 ((k : Int) + 1) = ((k + 1 : Nat) : Int) from by have h1 := unhid HLL; unfold wrap64; omega)
        clear hc hz
        go_upto_region 8 with (fail)
        have hb1 := below_alloc wr (.cells #[.int .i64 z.tab, .int .i64 z.hour, .int .i64 z.sign, .int .i64 z.fld, .int .i64 z.val] 30)
        have hz1 := heap_alloc_new wr (.cells #[.int .i64 z.tab, .int .i64 z.hour, .int .i64 z.sign, .int .i64 z.fld, .int .i64 z.val] 30)
        have HK := hid ((unhid HK).below' hb1)
        have HX := hid (NtAt.below (unhid HX) hb1)
        have HY := hid (NtAt.below (unhid HY) hb1)
        have HB := hid ((unhid HB).trans (hb1.mono (unhid HB).size))
        obtain ⟨N, hN⟩ : ∃ N, N = wr.heap.size := ⟨_, rfl⟩
        rw [← hN] at hz1 ⊢
        have HZ := hid (show NtAt _ N z from hz1)
        clear hb1 hz1 hN a0 a1 a2 a3 a4 hbl
        generalize wr.alloc (.cells #[.int .i64 z.tab, .int .i64 z.hour, .int .i64 z.sign, .int .i64 z.fld, .int .i64 z.val] 30) = W2 at *
        obtain ⟨a0, a1, a2, a3, a4⟩ := NtAt.cells (unhid HZ)
        go_wp2_with fail
        refine (write_calls z.tab z.hour z.sign z.fld z.val W2 (unhid HK) (by have := (unhid HW).len; have := unhid HLL; omega) (unhid HZO).1).mono ?_
        rintro e W3 ⟨rfl, hk3, hg3⟩
        have HX := hid ((unhid HX).beside (unhid HK) hg3)
        have HY := hid ((unhid HY).beside (unhid HK) hg3)
        have HW := hid ((unhid HW).write (unhid HK).v z.tab z.hour z.sign z.fld z.val)
        have HK := hid hk3
        have HB := hid ((unhid HB).grown hg3 (unhid HB).size (fun j e => by cases e; exact (unhid HM).1))
        clear hk3 hg3 a0 a1 a2 a3 a4 HZ
        go_wp2_with fail
        go_roundw
        case rel => exact ⟨k + 1, _, by omega, by first | go_num | rw [unhid HW1], unhid HK, unhid HW, unhid HX, unhid HY, unhid HB⟩
        case measure => first | (simp [intOf]; omega) | (rw [unhid HW1]; simp [intOf]; omega)
      · obtain rfl : k = ns.length := by omega
        have HV := hid (unhid HK).v
        have HG := hid (unhid HW).good
        have HC := hid (unhid HW).chain
        have HU1 := hid (show ∀ t, t < 8 → upT S t ≤ 100 from fun t ht => by have := (unhid HW).up t ht; have := unhid HLL; omega)
        have HU := hid (show ∀ t, t < 8 → upT S t ≤ 1000 from fun t ht => by have := unhid HU1 t ht; omega)
        have HLN := hid (show S.length ≤ 10 from Nat.le_trans (unhid HW).len (unhid HLL))
        clear HW HND HNO hlt hk
        go_wp2_with fail
        refine (pwaiting_calls (L := setR S) wr (unhid HK) (by have := unhid HLN; omega) (asc_setR S) (fun r => mem_setR.symm)).mono ?_
        rintro e W2 ⟨v, rfl, hrow, hb⟩
        rw [((unhid HG).perm (fun r => mem_setR.symm)).wait] at hrow
        obtain ⟨Av, cv, rfl, -, -⟩ := own_slice hrow
        have HK := hid ((unhid HK).below' hb)
        have HX := hid (NtAt.below (unhid HX) hb)
        have HY := hid (NtAt.below (unhid HY) hb)
        have HB := hid ((unhid HB).trans (hb.mono (unhid HB).size))
        simp only [List.length_nil]
        clear hrow hb
        go_upto_region 11 with (fail)
        have hXY : X ≠ Y := by have := unhid HXE; omega
        have HNE := hid hXY
        have hYB : w.heap.size ≤ Y := by have := unhid HXE; omega
        have HYB := hid hYB
        have HSF := hid (show ∀ w', NtAt w' X x → (w'.cell? ⟨X, 2, none⟩ = some (.int .i64 x.sign) ∧ w'.cell? ⟨X, 3, none⟩ = some (.int .i64 x.fld)) from fun w' h => ⟨h.cells.2.2.1, h.cells.2.2.2.1⟩)
        have hbd := Below.drew (Below.refl W2.heap.size W2)
        refine wp_region_noPanic ?_
        refine wp_region_E (S := fun w' => (w'.cell? ⟨X, 2, none⟩ = some (.int .i64 x.sign) ∧ w'.cell? ⟨X, 3, none⟩ = some (.int .i64 x.fld))) 7 8 rfl (by kernel_rfl) (by kernel_rfl) ((unhid HSF) _ ((unhid HX).below hbd)) ?_
        intro hSE
        have HK := hid ((unhid HK).below' hbd)
        have HX := hid (NtAt.below (unhid HX) hbd)
        have HY := hid (NtAt.below (unhid HY) hbd)
        have HB := hid ((unhid HB).trans (hbd.mono (unhid HB).size))
        clear hbd hXY hYB
        generalize W2.drew = Wd at *
        (refine WE_take (i := 0) (v := ?_) rfl (by kernel_rfl) (by decide) (by kernel_rfl) (by kernel_rfl) (fun _ _ _ h => h) (by rfl) hSE ?_ ?_; rotate_left; (focus (intro w hSw; (try dsimp only at hSw); go_simp; (try with_reducible rfl))); simp only [Act.put, List.setIfInBounds_toArray, List.set_cons_zero, List.set_cons_succ])
        (refine WE_take (i := 1) (v := ?_) rfl (by kernel_rfl) (by decide) (by kernel_rfl) (by kernel_rfl) (fun _ _ _ h => h) (by rfl) hSE ?_ ?_; rotate_left; (focus (intro w hSw; (try dsimp only at hSw); go_simp; (try with_reducible rfl))); simp only [Act.put, List.setIfInBounds_toArray, List.set_cons_zero, List.set_cons_succ])
        (refine WE_take (i := 2) (v := ?_) rfl (by kernel_rfl) (by decide) (by kernel_rfl) (by kernel_rfl) (fun _ _ _ h => h) (by rfl) hSE ?_ ?_; rotate_left; (focus (intro w hSw; (try dsimp only at hSw); go_simp; (try with_reducible rfl))); simp only [Act.put, List.setIfInBounds_toArray, List.set_cons_zero, List.set_cons_succ])
        (refine WE_take (i := 3) (v := ?_) rfl (by kernel_rfl) (by decide) (by kernel_rfl) (by kernel_rfl) (fun _ _ _ h => h) (by rfl) hSE ?_ ?_; rotate_left; (focus (intro w hSw; (try dsimp only at hSw); go_simp; (try with_reducible rfl))); simp only [Act.put, List.setIfInBounds_toArray, List.set_cons_zero, List.set_cons_succ])
        (refine WE_take (i := 4) (v := ?_) rfl (by kernel_rfl) (by decide) (by kernel_rfl) (by kernel_rfl) (fun _ _ _ h => h) (by rfl) hSE ?_ ?_; rotate_left; (focus (intro w hSw; (try dsimp only at hSw); go_simp; (try with_reducible rfl))); simp only [Act.put, List.setIfInBounds_toArray, List.set_cons_zero, List.set_cons_succ])
        have y2 := (unhid HY).cells.2.2.1
        have fz : Wd.frozen? ⟨Y, 2, none⟩ = false := frozen_of_row _ _ _ _ _ (unhid HY)
        (refine WE_one (i := 5) rfl (by decide) (by kernel_rfl) ?_; intro K hK)
        go_simp
        have HX := hid ((unhid HX).other (i := 2) (v := .int .i64 x.sign) (unhid HNE))
        have HK := hid ((unhid HK).note (i := 2) (v := .int .i64 x.sign) (unhid HY))
        have HY := hid ((unhid HY).set2 x.sign)
        have HB := hid (Below.setCell (unhid HB) (p := ⟨Y, 2, none⟩) (unhid HYB) (.int .i64 x.sign))
        refine hK.out _ _ ((unhid HSF) _ (unhid HX)) ?_
        clear hSE hK K y2 fz
        intro hSE
        (try simp only [Act.put, List.setIfInBounds_toArray, List.set_cons_zero, List.set_cons_succ])
        generalize Wd.setCell ⟨Y, 2, none⟩ (.int .i64 x.sign) = We at *
        (refine WE_take (i := 6) (v := ?_) rfl (by kernel_rfl) (by decide) (by kernel_rfl) (by kernel_rfl) (fun _ _ _ h => h) (by rfl) hSE ?_ ?_; rotate_left; (focus (intro w hSw; (try dsimp only at hSw); go_simp; (try with_reducible rfl))); simp only [Act.put, List.setIfInBounds_toArray, List.set_cons_zero, List.set_cons_succ])
        have y3 := (unhid HY).cells.2.2.2.1
        have fz : We.frozen? ⟨Y, 3, none⟩ = false := frozen_of_row _ _ _ _ _ (unhid HY)
        dsimp only at y3
        (refine WE_last rfl (by kernel_rfl) (by kernel_rfl) (by kernel_rfl) ?_; intro K hK; go_simp; refine hK.out _ _ (NoPanic.normal ?_); clear hK K)
        have HX := hid ((unhid HX).other (i := 3) (v := .int .i64 x.fld) (unhid HNE))
        have HK := hid ((unhid HK).note (i := 3) (v := .int .i64 x.fld) (unhid HY))
        have HY := hid ((unhid HY).set3 x.fld)
        have HB := hid (Below.setCell (unhid HB) (p := ⟨Y, 3, none⟩) (unhid HYB) (.int .i64 x.fld))
        clear hSE y3 fz HSF
        generalize We.setCell ⟨Y, 3, none⟩ (.int .i64 x.fld) = W3 at *
        have HMB := hid (Nat.le_trans (unhid HM).1 (Nat.le_of_lt (unhid HK).lt.2))
        go_wp2_with fail
        refine (pcopy_calls W3 (unhid HK)).mono ?_
        rintro e W4 ⟨rfl, hkc, hb⟩
        obtain ⟨mc, hmc⟩ : ∃ mc, mc = W3.heap.size := ⟨_, rfl⟩
        obtain ⟨Bc, hBc⟩ : ∃ Bc, Bc = W3.heap.size + 1 := ⟨_, rfl⟩
        rw [← hBc] at hkc ⊢
        rw [← hmc] at hkc
        have HKC := hid hkc
        have HMC := hid (show m < mc ∧ w.heap.size ≤ mc from by have := (unhid HK).lt.2; have := (unhid HB).size; omega)
        have HK := hid ((unhid HK).below' hb)
        have HX := hid (NtAt.below (unhid HX) hb)
        have HY := hid (NtAt.below (unhid HY) hb)
        have HB := hid ((unhid HB).trans (hb.mono (unhid HB).size))
        clear hkc hb hmc hBc
        go_wp2_with fail
        refine (pcopy_calls W4 (unhid HK)).mono ?_
        rintro e W5 ⟨rfl, hkd, hb⟩
        obtain ⟨md, hmd⟩ : ∃ md, md = W4.heap.size := ⟨_, rfl⟩
        obtain ⟨Bd, hBd⟩ : ∃ Bd, Bd = W4.heap.size + 1 := ⟨_, rfl⟩
        rw [← hBd] at hkd ⊢
        rw [← hmd] at hkd
        have HKD := hid hkd
        have HMD := hid (show mc < md ∧ w.heap.size ≤ md from by have := (unhid HKC).lt.2; have := (unhid HB).size; omega)
        have HK := hid ((unhid HK).below' hb)
        have HKC := hid ((unhid HKC).below' hb)
        have HX := hid (NtAt.below (unhid HX) hb)
        have HY := hid (NtAt.below (unhid HY) hb)
        have HB := hid ((unhid HB).trans (hb.mono (unhid HB).size))
        clear hkd hb hmd hBd
        obtain ⟨a0, a1, a2, a3, a4⟩ := NtAt.cells (unhid HX)
        go_wp2_with fail
        refine (write_calls x.tab x.hour x.sign x.fld x.val W5 (unhid HKC) (by have := unhid HLN; omega) (unhid HXW).1).mono ?_
        rintro e W6 ⟨rfl, hk6, hg6⟩
        have HX := hid ((unhid HX).beside (unhid HKC) hg6)
        have HY := hid ((unhid HY).beside (unhid HKC) hg6)
        have HK := hid ((unhid HK).beside (unhid HKC) hg6 (by have := unhid HMC; omega))
        have HKD := hid ((unhid HKD).beside (unhid HKC) hg6 (by have := unhid HMD; omega))
        have HKC := hid hk6
        have HB := hid ((unhid HB).grown hg6 (unhid HB).size (fun j e => by cases e; exact (unhid HMC).2))
        obtain ⟨r1, hr1⟩ : ∃ r1, r1 = (writeR S x.tab x.hour x.sign x.fld x.val).1 := ⟨_, rfl⟩
        obtain ⟨E1, hE1⟩ : ∃ E1, E1 = (writeR S x.tab x.hour x.sign x.fld x.val).2.1 := ⟨_, rfl⟩
        obtain ⟨C, hC1⟩ : ∃ C, C = (writeR S x.tab x.hour x.sign x.fld x.val).2.2 := ⟨_, rfl⟩
        rw [← hr1, ← hE1]
        rw [← hC1] at HKC
        have HR1 := hid (show writeR S x.tab x.hour x.sign x.fld x.val = (r1, E1, C) from by rw [hr1, hE1, hC1])
        clear hk6 hg6 hr1 hE1 hC1 a0 a1 a2 a3 a4
        simp only [rcV, rcA]
        go_upto_region 14 with (fail)
        change Code.wp _ _ _ _ (W6.alloc (.cells (rcA r1) 33))
        have hb := below_alloc W6 (.cells (rcA r1) 33)
        have HK := hid ((unhid HK).below' hb)
        have HKC := hid ((unhid HKC).below' hb)
        have HKD := hid ((unhid HKD).below' hb)
        have HX := hid (NtAt.below (unhid HX) hb)
        have HY := hid (NtAt.below (unhid HY) hb)
        have HB := hid ((unhid HB).trans (hb.mono (unhid HB).size))
        clear hb
        generalize W6.alloc (.cells (rcA r1) 33) = W7 at *
        obtain ⟨a0, a1, a2, a3, a4⟩ := NtAt.cells (unhid HY)
        dsimp only at a0 a1 a2 a3 a4
        go_wp2_with fail
        refine (write_calls y.tab y.hour x.sign x.fld y.val W7 (unhid HKD) (by have := unhid HLN; omega) (unhid HYW).1).mono ?_
        rintro e W8 ⟨rfl, hk8, hg8⟩
        have HX := hid ((unhid HX).beside (unhid HKD) hg8)
        have HY := hid ((unhid HY).beside (unhid HKD) hg8)
        have HK := hid ((unhid HK).beside (unhid HKD) hg8 (by have := unhid HMC; have := unhid HMD; omega))
        have HKC := hid ((unhid HKC).beside (unhid HKD) hg8 (by have := unhid HMD; omega))
        have HKD := hid hk8
        have HB := hid ((unhid HB).grown hg8 (unhid HB).size (fun j e => by cases e; exact (unhid HMD).2))
        obtain ⟨r2, hr1⟩ : ∃ r1, r1 = (writeR S y.tab y.hour x.sign x.fld y.val).1 := ⟨_, rfl⟩
        obtain ⟨E2, hE1⟩ : ∃ E1, E1 = (writeR S y.tab y.hour x.sign x.fld y.val).2.1 := ⟨_, rfl⟩
        obtain ⟨D, hC1⟩ : ∃ C, C = (writeR S y.tab y.hour x.sign x.fld y.val).2.2 := ⟨_, rfl⟩
        rw [← hr1, ← hE1]
        rw [← hC1] at HKD
        have HR2 := hid (show writeR S y.tab y.hour x.sign x.fld y.val = (r2, E2, D) from by rw [hr1, hE1, hC1])
        clear hk8 hg8 hr1 hE1 hC1 a0 a1 a2 a3 a4
        simp only [rcV, rcA]
        go_upto_region 15 with (fail)
        change Code.wp _ _ _ _ (W8.alloc (.cells (rcA r2) 33))
        have hb := below_alloc W8 (.cells (rcA r2) 33)
        have HK := hid ((unhid HK).below' hb)
        have HKC := hid ((unhid HKC).below' hb)
        have HKD := hid ((unhid HKD).below' hb)
        have HX := hid (NtAt.below (unhid HX) hb)
        have HY := hid (NtAt.below (unhid HY) hb)
        have HB := hid ((unhid HB).trans (hb.mono (unhid HB).size))
        clear hb
        generalize W8.alloc (.cells (rcA r2) 33) = W9 at *
        have he := unhid HR1
        rw [unfine_write (unhid HFI)] at he
        simp only [Prod.mk.injEq] at he
        obtain ⟨rfl, rfl, rfl⟩ := he
        obtain ⟨a0, a1, a2, a3, a4⟩ := NtAt.cells (unhid HX)
        have d0 := decide_eq_true (unhid HG0)
        have d1 := decide_eq_true (unhid HG1)
        have d2 := decide_eq_true (unhid HG2)
        have d3 := decide_eq_true (unhid HG3)
        have d4 := decide_eq_true (unhid HG4)
        have d5 := decide_eq_true (unhid HG5)
        have d6 := decide_eq_true (unhid HG6)
        have d7 := decide_eq_true (unhid HG7)
        have d8 := decide_eq_false (show ¬ -1099511627776 ≤ x.val from by have := unhid HG8; omega)
        go_wp2_with fail
        refine (first_calls _).mono ?_
        rintro e w9 ⟨rfl, hb9⟩
        have HB := hid ((unhid HB).trans (hb9.mono (unhid HB).size))
        clear hb9
        go_wp2_with fail
        go_ret
        exact ⟨rfl, unhid HB⟩

set_option maxHeartbeats 16000000 in
set_option maxRecDepth 100000 in
theorem ldec_bad9 (ns : List Nt) (An : Option Addr) (cn : Nat) (x y : Nt) (w : World) (hn : NtsIn w An ns cn) (hx : NtW x) (hy : NtW y) (g0 : 1 ≤ x.tab) (g1 : x.tab ≤ 8) (g2 : 0 ≤ x.hour) (g3 : x.hour ≤ 10000000) (g4 : 1 ≤ x.sign) (g5 : x.sign ≤ 1000000000) (g6 : 1 ≤ x.fld) (g7 : x.fld ≤ 6) (g8 : -1099511627776 ≤ x.val) (g9 : ¬ x.val ≤ 1099511627776) :
    Calls Try.prog 10 #[.slice An ns.length cn, .agg #[.int .i64 x.tab, .int .i64 x.hour, .int .i64 x.sign, .int .i64 x.fld, .int .i64 x.val], .agg #[.int .i64 y.tab, .int .i64 y.hour, .int .i64 y.sign, .int .i64 y.fld, .int .i64 y.val]] w fun e w' => e = .returned (.bool true) ∧ Below w.heap.size w w' := by
  have HFI := hid (show fineB x.tab x.hour x.sign x.fld x.val = false from by rw [Bool.eq_false_iff]; intro h; simp only [fineB, btw, Bool.and_eq_true, decide_eq_true_eq] at h; omega)
  have HG0 := hid g0
  have HG1 := hid g1
  have HG2 := hid g2
  have HG3 := hid g3
  have HG4 := hid g4
  have HG5 := hid g5
  have HG6 := hid g6
  have HG7 := hid g7
  have HG8 := hid g8
  have HG9 := hid g9
  clear g0 g1 g2 g3 g4 g5 g6 g7 g8 g9
  have HNO := hid hn.ok
  have HND := hid hn.rd
  have HXW := hid hx
  have HYW := hid hy
  have hb0 := below_alloc w (.cells #[.int .i64 x.tab, .int .i64 x.hour, .int .i64 x.sign, .int .i64 x.fld, .int .i64 x.val] 30)
  have hx0 := heap_alloc_new w (.cells #[.int .i64 x.tab, .int .i64 x.hour, .int .i64 x.sign, .int .i64 x.fld, .int .i64 x.val] 30)
  have hs0 : (w.alloc (.cells #[.int .i64 x.tab, .int .i64 x.hour, .int .i64 x.sign, .int .i64 x.fld, .int .i64 x.val] 30)).heap.size = w.heap.size + 1 := by simp
  have hb1 := below_alloc (w.alloc (.cells #[.int .i64 x.tab, .int .i64 x.hour, .int .i64 x.sign, .int .i64 x.fld, .int .i64 x.val] 30)) (.cells #[.int .i64 y.tab, .int .i64 y.hour, .int .i64 y.sign, .int .i64 y.fld, .int .i64 y.val] 30)
  have hy0 := heap_alloc_new (w.alloc (.cells #[.int .i64 x.tab, .int .i64 x.hour, .int .i64 x.sign, .int .i64 x.fld, .int .i64 x.val] 30)) (.cells #[.int .i64 y.tab, .int .i64 y.hour, .int .i64 y.sign, .int .i64 y.fld, .int .i64 y.val] 30)
  rw [hs0] at hy0
  clear hn hx hy
  go_enter Try.func10, Try.ntmps10
  go_upto_region 1 with (fail)
  change Code.wp _ _ _ _ ((w.alloc (.cells #[.int .i64 x.tab, .int .i64 x.hour, .int .i64 x.sign, .int .i64 x.fld, .int .i64 x.val] 30)).alloc (.cells #[.int .i64 y.tab, .int .i64 y.hour, .int .i64 y.sign, .int .i64 y.fld, .int .i64 y.val] 30))
  have HX := hid (show NtAt _ w.heap.size x from (hb1.block _ (by omega)).trans hx0)
  have HY := hid (show NtAt _ (w.heap.size + 1) y from hy0)
  have HB := hid (hb0.trans (hb1.mono hb0.size))
  clear hb0 hx0 hb1 hy0 hs0
  generalize (w.alloc (.cells #[.int .i64 x.tab, .int .i64 x.hour, .int .i64 x.sign, .int .i64 x.fld, .int .i64 x.val] 30)).alloc (.cells #[.int .i64 y.tab, .int .i64 y.hour, .int .i64 y.sign, .int .i64 y.fld, .int .i64 y.val] 30) = W0 at *
  obtain ⟨X, hX⟩ : ∃ X, X = w.heap.size := ⟨_, rfl⟩
  obtain ⟨Y, hY⟩ : ∃ Y, Y = w.heap.size + 1 := ⟨_, rfl⟩
  rw [← hX] at HX
  rw [← hY] at HY
  rw [← hY, ← hX]
  have HXE := hid (⟨hX, hY⟩ : X = w.heap.size ∧ Y = w.heap.size + 1)
  clear hX hY
  by_cases h1 : 10 < ns.length
  · have hni : (10 : Int) < (ns.length : Int) := by omega
    go_wp2_with fail
    refine (first_calls _).mono ?_
    rintro e w9 ⟨rfl, hb9⟩
    have HB := hid ((unhid HB).trans (hb9.mono (unhid HB).size))
    clear hb9
    go_wp2_with fail
    go_ret
    exact ⟨rfl, unhid HB⟩
  · have hni : ¬ (10 : Int) < (ns.length : Int) := by omega
    have HLL := hid (show ns.length ≤ 10 from by omega)
    clear h1
    go_wp2_with fail
    refine (bookNew_calls W0).mono ?_
    rintro e W1 ⟨rfl, hk1, hb1⟩
    obtain ⟨m, hm⟩ : ∃ m, m = W0.heap.size := ⟨_, rfl⟩
    obtain ⟨B, hB⟩ : ∃ B, B = W0.heap.size + 1 := ⟨_, rfl⟩
    rw [← hB] at hk1 ⊢
    rw [← hm] at hk1
    have HK := hid hk1
    have HM := hid (show w.heap.size ≤ m ∧ w.heap.size ≤ W0.heap.size from by have := (unhid HB).size; omega)
    have HX := hid (NtAt.below (unhid HX) hb1)
    have HY := hid (NtAt.below (unhid HY) hb1)
    have HB := hid ((unhid HB).trans (hb1.mono (unhid HB).size))
    clear hk1 hb1 hm hB hni
    go_upto_region 5 with (fail)
    go_loopw [8] (fun iv wr => ∃ (k : Nat) (S : List Rc), k ≤ ns.length ∧ iv = .int .i64 k ∧ BkAt wr B m S ∧ Wn [] S k ∧ NtAt wr X x ∧ NtAt wr Y y ∧ Below w.heap.size w wr) (fun iv _ => ns.length - (intOf iv).toNat)
    case atStart => exact ⟨0, [], Nat.zero_le _, rfl, unhid HK, Wn.nil, unhid HX, unhid HY, unhid HB⟩
    case round =>
      clear HK HX HY HB
      obtain ⟨k, S, hk, rfl, hbk, hw, hx, hy, hb⟩ := hrel
      have HK := hid hbk
      have HW := hid hw
      have HX := hid hx
      have HY := hid hy
      have HB := hid hb
      clear hbk hw hx hy hb
      by_cases hlt : k < ns.length
      · have hki : (k : Int) < (ns.length : Int) := by omega
        obtain ⟨b, off, hAe, hbl, hc⟩ := ((unhid HND).below (unhid HB)) (nts_ne hlt)
        subst hAe
        obtain ⟨z, hz⟩ : ∃ z, ns[k]'hlt = z := ⟨_, rfl⟩
        have HZO := hid (unhid HNO z (hz ▸ List.getElem_mem hlt))
        obtain ⟨a0, a1, a2, a3, a4⟩ := nts_cells hc hlt hz
        have HW1 := hid (show wrap64 ((k : Int) + 1) = ((k + 1 : Nat) : Int) from by have h1 := unhid HLL; unfold wrap64; omega)
        clear hc hz
        go_upto_region 8 with (fail)
        have hb1 := below_alloc wr (.cells #[.int .i64 z.tab, .int .i64 z.hour, .int .i64 z.sign, .int .i64 z.fld, .int .i64 z.val] 30)
        have hz1 := heap_alloc_new wr (.cells #[.int .i64 z.tab, .int .i64 z.hour, .int .i64 z.sign, .int .i64 z.fld, .int .i64 z.val] 30)
        have HK := hid ((unhid HK).below' hb1)
        have HX := hid (NtAt.below (unhid HX) hb1)
        have HY := hid (NtAt.below (unhid HY) hb1)
        have HB := hid ((unhid HB).trans (hb1.mono (unhid HB).size))
        obtain ⟨N, hN⟩ : ∃ N, N = wr.heap.size := ⟨_, rfl⟩
        rw [← hN] at hz1 ⊢
        have HZ := hid (show NtAt _ N z from hz1)
        clear hb1 hz1 hN a0 a1 a2 a3 a4 hbl
        generalize wr.alloc (.cells #[.int .i64 z.tab, .int .i64 z.hour, .int .i64 z.sign, .int .i64 z.fld, .int .i64 z.val] 30) = W2 at *
        obtain ⟨a0, a1, a2, a3, a4⟩ := NtAt.cells (unhid HZ)
        go_wp2_with fail
        refine (write_calls z.tab z.hour z.sign z.fld z.val W2 (unhid HK) (by have := (unhid HW).len; have := unhid HLL; omega) (unhid HZO).1).mono ?_
        rintro e W3 ⟨rfl, hk3, hg3⟩
        have HX := hid ((unhid HX).beside (unhid HK) hg3)
        have HY := hid ((unhid HY).beside (unhid HK) hg3)
        have HW := hid ((unhid HW).write (unhid HK).v z.tab z.hour z.sign z.fld z.val)
        have HK := hid hk3
        have HB := hid ((unhid HB).grown hg3 (unhid HB).size (fun j e => by cases e; exact (unhid HM).1))
        clear hk3 hg3 a0 a1 a2 a3 a4 HZ
        go_wp2_with fail
        go_roundw
        case rel => exact ⟨k + 1, _, by omega, by first | go_num | rw [unhid HW1], unhid HK, unhid HW, unhid HX, unhid HY, unhid HB⟩
        case measure => first | (simp [intOf]; omega) | (rw [unhid HW1]; simp [intOf]; omega)
      · obtain rfl : k = ns.length := by omega
        have HV := hid (unhid HK).v
        have HG := hid (unhid HW).good
        have HC := hid (unhid HW).chain
        have HU1 := hid (show ∀ t, t < 8 → upT S t ≤ 100 from fun t ht => by have := (unhid HW).up t ht; have := unhid HLL; omega)
        have HU := hid (show ∀ t, t < 8 → upT S t ≤ 1000 from fun t ht => by have := unhid HU1 t ht; omega)
        have HLN := hid (show S.length ≤ 10 from Nat.le_trans (unhid HW).len (unhid HLL))
        clear HW HND HNO hlt hk
        go_wp2_with fail
        refine (pwaiting_calls (L := setR S) wr (unhid HK) (by have := unhid HLN; omega) (asc_setR S) (fun r => mem_setR.symm)).mono ?_
        rintro e W2 ⟨v, rfl, hrow, hb⟩
        rw [((unhid HG).perm (fun r => mem_setR.symm)).wait] at hrow
        obtain ⟨Av, cv, rfl, -, -⟩ := own_slice hrow
        have HK := hid ((unhid HK).below' hb)
        have HX := hid (NtAt.below (unhid HX) hb)
        have HY := hid (NtAt.below (unhid HY) hb)
        have HB := hid ((unhid HB).trans (hb.mono (unhid HB).size))
        simp only [List.length_nil]
        clear hrow hb
        go_upto_region 11 with (fail)
        have hXY : X ≠ Y := by have := unhid HXE; omega
        have HNE := hid hXY
        have hYB : w.heap.size ≤ Y := by have := unhid HXE; omega
        have HYB := hid hYB
        have HSF := hid (show ∀ w', NtAt w' X x → (w'.cell? ⟨X, 2, none⟩ = some (.int .i64 x.sign) ∧ w'.cell? ⟨X, 3, none⟩ = some (.int .i64 x.fld)) from fun w' h => ⟨h.cells.2.2.1, h.cells.2.2.2.1⟩)
        have hbd := Below.drew (Below.refl W2.heap.size W2)
        refine wp_region_noPanic ?_
        refine wp_region_E (S := fun w' => (w'.cell? ⟨X, 2, none⟩ = some (.int .i64 x.sign) ∧ w'.cell? ⟨X, 3, none⟩ = some (.int .i64 x.fld))) 7 8 rfl (by kernel_rfl) (by kernel_rfl) ((unhid HSF) _ ((unhid HX).below hbd)) ?_
        intro hSE
        have HK := hid ((unhid HK).below' hbd)
        have HX := hid (NtAt.below (unhid HX) hbd)
        have HY := hid (NtAt.below (unhid HY) hbd)
        have HB := hid ((unhid HB).trans (hbd.mono (unhid HB).size))
        clear hbd hXY hYB
        generalize W2.drew = Wd at *
        (refine WE_take (i := 0) (v := ?_) rfl (by kernel_rfl) (by decide) (by kernel_rfl) (by kernel_rfl) (fun _ _ _ h => h) (by rfl) hSE ?_ ?_; rotate_left; (focus (intro w hSw; (try dsimp only at hSw); go_simp; (try with_reducible rfl))); simp only [Act.put, List.setIfInBounds_toArray, List.set_cons_zero, List.set_cons_succ])
        (refine WE_take (i := 1) (v := ?_) rfl (by kernel_rfl) (by decide) (by kernel_rfl) (by kernel_rfl) (fun _ _ _ h => h) (by rfl) hSE ?_ ?_; rotate_left; (focus (intro w hSw; (try dsimp only at hSw); go_simp; (try with_reducible rfl))); simp only [Act.put, List.setIfInBounds_toArray, List.set_cons_zero, List.set_cons_succ])
        (refine WE_take (i := 2) (v := ?_) rfl (by kernel_rfl) (by decide) (by kernel_rfl) (by kernel_rfl) (fun _ _ _ h => h) (by rfl) hSE ?_ ?_; rotate_left; (focus (intro w hSw; (try dsimp only at hSw); go_simp; (try with_reducible rfl))); simp only [Act.put, List.setIfInBounds_toArray, List.set_cons_zero, List.set_cons_succ])
        (refine WE_take (i := 3) (v := ?_) rfl (by kernel_rfl) (by decide) (by kernel_rfl) (by kernel_rfl) (fun _ _ _ h => h) (by rfl) hSE ?_ ?_; rotate_left; (focus (intro w hSw; (try dsimp only at hSw); go_simp; (try with_reducible rfl))); simp only [Act.put, List.setIfInBounds_toArray, List.set_cons_zero, List.set_cons_succ])
        (refine WE_take (i := 4) (v := ?_) rfl (by kernel_rfl) (by decide) (by kernel_rfl) (by kernel_rfl) (fun _ _ _ h => h) (by rfl) hSE ?_ ?_; rotate_left; (focus (intro w hSw; (try dsimp only at hSw); go_simp; (try with_reducible rfl))); simp only [Act.put, List.setIfInBounds_toArray, List.set_cons_zero, List.set_cons_succ])
        have y2 := (unhid HY).cells.2.2.1
        have fz : Wd.frozen? ⟨Y, 2, none⟩ = false := frozen_of_row _ _ _ _ _ (unhid HY)
        (refine WE_one (i := 5) rfl (by decide) (by kernel_rfl) ?_; intro K hK)
        go_simp
        have HX := hid ((unhid HX).other (i := 2) (v := .int .i64 x.sign) (unhid HNE))
        have HK := hid ((unhid HK).note (i := 2) (v := .int .i64 x.sign) (unhid HY))
        have HY := hid ((unhid HY).set2 x.sign)
        have HB := hid (Below.setCell (unhid HB) (p := ⟨Y, 2, none⟩) (unhid HYB) (.int .i64 x.sign))
        refine hK.out _ _ ((unhid HSF) _ (unhid HX)) ?_
        clear hSE hK K y2 fz
        intro hSE
        (try simp only [Act.put, List.setIfInBounds_toArray, List.set_cons_zero, List.set_cons_succ])
        generalize Wd.setCell ⟨Y, 2, none⟩ (.int .i64 x.sign) = We at *
        (refine WE_take (i := 6) (v := ?_) rfl (by kernel_rfl) (by decide) (by kernel_rfl) (by kernel_rfl) (fun _ _ _ h => h) (by rfl) hSE ?_ ?_; rotate_left; (focus (intro w hSw; (try dsimp only at hSw); go_simp; (try with_reducible rfl))); simp only [Act.put, List.setIfInBounds_toArray, List.set_cons_zero, List.set_cons_succ])
        have y3 := (unhid HY).cells.2.2.2.1
        have fz : We.frozen? ⟨Y, 3, none⟩ = false := frozen_of_row _ _ _ _ _ (unhid HY)
        dsimp only at y3
        (refine WE_last rfl (by kernel_rfl) (by kernel_rfl) (by kernel_rfl) ?_; intro K hK; go_simp; refine hK.out _ _ (NoPanic.normal ?_); clear hK K)
        have HX := hid ((unhid HX).other (i := 3) (v := .int .i64 x.fld) (unhid HNE))
        have HK := hid ((unhid HK).note (i := 3) (v := .int .i64 x.fld) (unhid HY))
        have HY := hid ((unhid HY).set3 x.fld)
        have HB := hid (Below.setCell (unhid HB) (p := ⟨Y, 3, none⟩) (unhid HYB) (.int .i64 x.fld))
        clear hSE y3 fz HSF
        generalize We.setCell ⟨Y, 3, none⟩ (.int .i64 x.fld) = W3 at *
        have HMB := hid (Nat.le_trans (unhid HM).1 (Nat.le_of_lt (unhid HK).lt.2))
        go_wp2_with fail
        refine (pcopy_calls W3 (unhid HK)).mono ?_
        rintro e W4 ⟨rfl, hkc, hb⟩
        obtain ⟨mc, hmc⟩ : ∃ mc, mc = W3.heap.size := ⟨_, rfl⟩
        obtain ⟨Bc, hBc⟩ : ∃ Bc, Bc = W3.heap.size + 1 := ⟨_, rfl⟩
        rw [← hBc] at hkc ⊢
        rw [← hmc] at hkc
        have HKC := hid hkc
        have HMC := hid (show m < mc ∧ w.heap.size ≤ mc from by have := (unhid HK).lt.2; have := (unhid HB).size; omega)
        have HK := hid ((unhid HK).below' hb)
        have HX := hid (NtAt.below (unhid HX) hb)
        have HY := hid (NtAt.below (unhid HY) hb)
        have HB := hid ((unhid HB).trans (hb.mono (unhid HB).size))
        clear hkc hb hmc hBc
        go_wp2_with fail
        refine (pcopy_calls W4 (unhid HK)).mono ?_
        rintro e W5 ⟨rfl, hkd, hb⟩
        obtain ⟨md, hmd⟩ : ∃ md, md = W4.heap.size := ⟨_, rfl⟩
        obtain ⟨Bd, hBd⟩ : ∃ Bd, Bd = W4.heap.size + 1 := ⟨_, rfl⟩
        rw [← hBd] at hkd ⊢
        rw [← hmd] at hkd
        have HKD := hid hkd
        have HMD := hid (show mc < md ∧ w.heap.size ≤ md from by have := (unhid HKC).lt.2; have := (unhid HB).size; omega)
        have HK := hid ((unhid HK).below' hb)
        have HKC := hid ((unhid HKC).below' hb)
        have HX := hid (NtAt.below (unhid HX) hb)
        have HY := hid (NtAt.below (unhid HY) hb)
        have HB := hid ((unhid HB).trans (hb.mono (unhid HB).size))
        clear hkd hb hmd hBd
        obtain ⟨a0, a1, a2, a3, a4⟩ := NtAt.cells (unhid HX)
        go_wp2_with fail
        refine (write_calls x.tab x.hour x.sign x.fld x.val W5 (unhid HKC) (by have := unhid HLN; omega) (unhid HXW).1).mono ?_
        rintro e W6 ⟨rfl, hk6, hg6⟩
        have HX := hid ((unhid HX).beside (unhid HKC) hg6)
        have HY := hid ((unhid HY).beside (unhid HKC) hg6)
        have HK := hid ((unhid HK).beside (unhid HKC) hg6 (by have := unhid HMC; omega))
        have HKD := hid ((unhid HKD).beside (unhid HKC) hg6 (by have := unhid HMD; omega))
        have HKC := hid hk6
        have HB := hid ((unhid HB).grown hg6 (unhid HB).size (fun j e => by cases e; exact (unhid HMC).2))
        obtain ⟨r1, hr1⟩ : ∃ r1, r1 = (writeR S x.tab x.hour x.sign x.fld x.val).1 := ⟨_, rfl⟩
        obtain ⟨E1, hE1⟩ : ∃ E1, E1 = (writeR S x.tab x.hour x.sign x.fld x.val).2.1 := ⟨_, rfl⟩
        obtain ⟨C, hC1⟩ : ∃ C, C = (writeR S x.tab x.hour x.sign x.fld x.val).2.2 := ⟨_, rfl⟩
        rw [← hr1, ← hE1]
        rw [← hC1] at HKC
        have HR1 := hid (show writeR S x.tab x.hour x.sign x.fld x.val = (r1, E1, C) from by rw [hr1, hE1, hC1])
        clear hk6 hg6 hr1 hE1 hC1 a0 a1 a2 a3 a4
        simp only [rcV, rcA]
        go_upto_region 14 with (fail)
        change Code.wp _ _ _ _ (W6.alloc (.cells (rcA r1) 33))
        have hb := below_alloc W6 (.cells (rcA r1) 33)
        have HK := hid ((unhid HK).below' hb)
        have HKC := hid ((unhid HKC).below' hb)
        have HKD := hid ((unhid HKD).below' hb)
        have HX := hid (NtAt.below (unhid HX) hb)
        have HY := hid (NtAt.below (unhid HY) hb)
        have HB := hid ((unhid HB).trans (hb.mono (unhid HB).size))
        clear hb
        generalize W6.alloc (.cells (rcA r1) 33) = W7 at *
        obtain ⟨a0, a1, a2, a3, a4⟩ := NtAt.cells (unhid HY)
        dsimp only at a0 a1 a2 a3 a4
        go_wp2_with fail
        refine (write_calls y.tab y.hour x.sign x.fld y.val W7 (unhid HKD) (by have := unhid HLN; omega) (unhid HYW).1).mono ?_
        rintro e W8 ⟨rfl, hk8, hg8⟩
        have HX := hid ((unhid HX).beside (unhid HKD) hg8)
        have HY := hid ((unhid HY).beside (unhid HKD) hg8)
        have HK := hid ((unhid HK).beside (unhid HKD) hg8 (by have := unhid HMC; have := unhid HMD; omega))
        have HKC := hid ((unhid HKC).beside (unhid HKD) hg8 (by have := unhid HMD; omega))
        have HKD := hid hk8
        have HB := hid ((unhid HB).grown hg8 (unhid HB).size (fun j e => by cases e; exact (unhid HMD).2))
        obtain ⟨r2, hr1⟩ : ∃ r1, r1 = (writeR S y.tab y.hour x.sign x.fld y.val).1 := ⟨_, rfl⟩
        obtain ⟨E2, hE1⟩ : ∃ E1, E1 = (writeR S y.tab y.hour x.sign x.fld y.val).2.1 := ⟨_, rfl⟩
        obtain ⟨D, hC1⟩ : ∃ C, C = (writeR S y.tab y.hour x.sign x.fld y.val).2.2 := ⟨_, rfl⟩
        rw [← hr1, ← hE1]
        rw [← hC1] at HKD
        have HR2 := hid (show writeR S y.tab y.hour x.sign x.fld y.val = (r2, E2, D) from by rw [hr1, hE1, hC1])
        clear hk8 hg8 hr1 hE1 hC1 a0 a1 a2 a3 a4
        simp only [rcV, rcA]
        go_upto_region 15 with (fail)
        change Code.wp _ _ _ _ (W8.alloc (.cells (rcA r2) 33))
        have hb := below_alloc W8 (.cells (rcA r2) 33)
        have HK := hid ((unhid HK).below' hb)
        have HKC := hid ((unhid HKC).below' hb)
        have HKD := hid ((unhid HKD).below' hb)
        have HX := hid (NtAt.below (unhid HX) hb)
        have HY := hid (NtAt.below (unhid HY) hb)
        have HB := hid ((unhid HB).trans (hb.mono (unhid HB).size))
        clear hb
        generalize W8.alloc (.cells (rcA r2) 33) = W9 at *
        have he := unhid HR1
        rw [unfine_write (unhid HFI)] at he
        simp only [Prod.mk.injEq] at he
        obtain ⟨rfl, rfl, rfl⟩ := he
        obtain ⟨a0, a1, a2, a3, a4⟩ := NtAt.cells (unhid HX)
        have d0 := decide_eq_true (unhid HG0)
        have d1 := decide_eq_true (unhid HG1)
        have d2 := decide_eq_true (unhid HG2)
        have d3 := decide_eq_true (unhid HG3)
        have d4 := decide_eq_true (unhid HG4)
        have d5 := decide_eq_true (unhid HG5)
        have d6 := decide_eq_true (unhid HG6)
        have d7 := decide_eq_true (unhid HG7)
        have d8 := decide_eq_true (unhid HG8)
        have d9 := decide_eq_false (show ¬ x.val ≤ 1099511627776 from by have := unhid HG9; omega)
        go_wp2_with fail
        refine (first_calls _).mono ?_
        rintro e w9 ⟨rfl, hb9⟩
        have HB := hid ((unhid HB).trans (hb9.mono (unhid HB).size))
        clear hb9
        go_wp2_with fail
        go_ret
        exact ⟨rfl, unhid HB⟩

end Go.Proofs.Ytegghimjmbgghaa
