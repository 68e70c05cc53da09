/-
  slices.Sort and slices.Compact at numbers; the values of the heads among records.
-/
import Derived.Test.YtegghimjmbgghaaGreatBkJ
import Derived.Shelf.SlIterI.Nil
import Derived.Shelf.SortM.Plain
import Derived.Shelf.SortM.SortNone
import Derived.Shelf.Slices.CompactI
set_option linter.unusedSimpArgs false
set_option linter.unusedVariables false
namespace Go.Proofs.YtegghimjmbgghaaGreat
open Go.RowKit Go.Shelf Go.Sort

/-! ### Plain -/
theorem compact_sorted : ∀ (zs : List Int), zs.Pairwise (fun a b => a ≤ b) → AscI (Lib.compact zs) ∧ ∀ x, x ∈ Lib.compact zs ↔ x ∈ zs := by
  intro zs hs
  have get : ∀ j (hj : j < zs.length), zs.toArray[j]! = zs[j] := fun j hj => by rw [getElem!_pos _ _ (by simpa using hj)]; simp
  have key : ∀ m, m ≤ zs.length → (AscI (Lib.compactUpTo zs.toArray m) ∧ (∀ x, x ∈ Lib.compactUpTo zs.toArray m ↔ x ∈ zs.take m)) := by
    intro m
    induction m with
    | zero => intro _; exact ⟨by simp [Lib.compactUpTo, AscI], fun x => by simp [Lib.compactUpTo]⟩
    | succ m ih =>
      intro hm
      obtain ⟨h1, h2⟩ := ih (by omega)
      have hml : m < zs.length := by omega
      rw [Lib.compactUpTo_succ, get m hml, List.take_succ_eq_append_getElem hml]
      have hle : ∀ y ∈ zs.take m, y ≤ zs[m] := by
        intro y hy
        obtain ⟨i, hi, e⟩ := List.getElem_of_mem hy
        rw [List.getElem_take] at e
        rw [List.length_take] at hi
        rw [← e]
        exact (List.pairwise_iff_getElem.1 hs) i m (by omega) hml (by omega)
      by_cases hk : Lib.keeps zs.toArray m = true
      · rw [if_pos hk]
        have hlt : ∀ y ∈ zs.take m, y < zs[m] := by
          intro y hy
          rcases Nat.eq_zero_or_pos m with rfl | h0
          · simp at hy
          · have hne : zs[m] ≠ zs[m - 1] := by
              intro e
              rw [Lib.keeps_neg h0 (by rw [get m hml, get (m - 1) (by omega)]; exact e)] at hk
              cases hk
            obtain ⟨i, hi, e⟩ := List.getElem_of_mem hy
            rw [List.getElem_take] at e
            rw [List.length_take] at hi
            have h3 : zs[m - 1] ≤ zs[m] := (List.pairwise_iff_getElem.1 hs) (m - 1) m (by omega) hml (by omega)
            have h4 : zs[i] ≤ zs[m - 1] := by
              rcases Nat.lt_or_ge i (m - 1) with h | h
              · exact (List.pairwise_iff_getElem.1 hs) i (m - 1) (by omega) (by omega) h
              · have : i = m - 1 := by omega
                subst this; exact Int.le_refl _
            rw [← e]
            omega
        refine ⟨?_, fun x => by rw [List.mem_append, List.mem_append, h2 x]⟩
        unfold AscI at *
        rw [List.pairwise_append]
        exact ⟨h1, by simp, fun a ha b hb => by
          rw [List.mem_singleton] at hb
          subst hb
          exact hlt a ((h2 a).1 ha)⟩
      · rw [if_neg hk, List.append_nil]
        refine ⟨h1, fun x => ?_⟩
        rw [h2 x, List.mem_append, List.mem_singleton]
        constructor
        · exact .inl
        · rintro (h | rfl)
          · exact h
          · rcases Nat.eq_zero_or_pos m with rfl | h0
            · exact absurd (Lib.keeps_lt_one zs.toArray 0 (by omega)) hk
            · have he : zs[m] = zs[m - 1] := by
                by_cases e : zs[m] = zs[m - 1]
                · exact e
                · exact absurd (Lib.keeps_pos (by rw [get m hml, get (m - 1) (by omega)]; exact e)) hk
              rw [he]
              exact List.mem_take_iff_getElem.2 ⟨m - 1, by omega, rfl⟩
  have := key zs.length (Nat.le_refl _)
  rw [List.take_length] at this
  exact this
theorem compact_len (zs : List Int) : (Lib.compact zs).length ≤ zs.length := by
  unfold Lib.compact Lib.compactUpTo
  rw [List.length_map]
  exact Nat.le_trans (List.length_filter_le _ _) (by simp)
theorem compact_set (zs : List Int) : Lib.compact (zs.mergeSort fun x y => decide (x ≤ y)) = setI zs := by
  have hs : (zs.mergeSort fun x y => decide (x ≤ y)).Pairwise (fun a b => a ≤ b) := by
    have := List.pairwise_mergeSort (le := fun x y : Int => decide (x ≤ y)) (fun a b c h1 h2 => by simp only [decide_eq_true_eq] at *; omega) (fun a b => by simp only [Bool.or_eq_true, decide_eq_true_eq]; omega) zs
    simpa using this
  obtain ⟨h1, h2⟩ := compact_sorted _ hs
  refine ascI_eq h1 (setI_asc zs) (fun x => ?_)
  rw [h2 x, mem_setI, (List.mergeSort_perm zs _).mem_iff]
theorem setI_len (zs : List Int) : (setI zs).length ≤ zs.length := by
  rw [← compact_set]
  refine Nat.le_trans (compact_len _) ?_
  rw [List.length_mergeSort]
  exact Nat.le_refl _

/-! ### The two calls -/
theorem grow_none (w : World) : grow w #[] = w := by simp [grow]
theorem sortInts_calls (zs : List Int) (v : Value) (base : Nat) (w : World) (hown : w.ownsRow base 3 1 v zs.length (ints zs)) (hn : zs.length ≤ 1000000) :
    Calls Tryz.prog 68 #[v] w fun e w' => e = .returned (.tuple #[]) ∧ w'.ownsRow base 3 1 v zs.length (ints (zs.mergeSort fun x y => decide (x ≤ y))) ∧ w.grownBy w' v.ownBlock := by
  rcases hown.2 with ⟨rfl, h0⟩ | ⟨g, cap, cur, rfl, hb, hh, h1, h2, h3, h4⟩
  · have hz : zs = [] := List.eq_nil_of_length_eq_zero h0
    subst hz
    refine (show Calls Tryz.prog 68 _ _ _ from AnyM.slices_Sort_int_none Tryz.sortInts none 0 w).mono ?_
    rintro e w' ⟨rfl, rfl⟩
    exact ⟨rfl, by rw [List.mergeSort_nil]; exact hown, World.grownBy.refl _ _⟩
  · have hH : Holds encZ w g 0 zs.toArray := holds_of_block_i hh (by rw [Nat.mul_one] at h4; exact h4)
    have hg := (Array.getElem?_eq_some_iff.1 hh).1
    refine (show Calls Tryz.prog 68 _ _ _ from AnyM.slices_Sort_int Tryz.sortInts g 0 cap zs w hH hg (by omega)).mono ?_
    rintro e w' ⟨rfl, n, os, rfl⟩
    exact ⟨rfl, ownsRow_sorted_i (by simp) hb hh h1 h2 h3, grownBy_sorted_i _⟩
theorem compactInts_calls (zs : List Int) (v : Value) (base : Nat) (w : World) (hown : w.ownsRow base 3 1 v zs.length (ints zs)) (hn : zs.length ≤ 1000000) :
    Calls Tryz.prog 69 #[v] w fun e w' => ∃ u, e = .returned u ∧ w'.ownsRow base 3 1 u (Lib.compact zs).length (ints (Lib.compact zs)) ∧ w.grownBy w' v.ownBlock := by
  rcases hown.2 with ⟨rfl, h0⟩ | ⟨g, cap, cur, rfl, hb, hh, h1, h2, h3, h4⟩
  · have hz : zs = [] := List.eq_nil_of_length_eq_zero h0
    subst hz
    refine (show Calls Tryz.prog 69 _ _ _ from Any.slices_Compact_int_empty Tryz.compactInts none 0 w).mono ?_
    rintro e w' ⟨rfl, rfl⟩
    exact ⟨_, rfl, World.ownsRow_nil _ _ _ _, World.grownBy.refl _ _⟩
  · have hH : Holds encZ w g 0 zs.toArray := holds_of_block_i hh (by rw [Nat.mul_one] at h4; exact h4)
    refine (show Calls Tryz.prog 69 _ _ _ from Any.slices_Compact_int Tryz.compactInts g 0 cap zs w hH (by omega) h1).mono ?_
    rintro e w' ⟨rfl, q, rfl⟩
    have hcl := compact_len zs
    have hts : (Lib.compact zs ++ List.replicate (zs.length - (Lib.compact zs).length) (0 : Int)).length = zs.length := by simp; omega
    have hrow := ownsRow_sorted_i (os := #[]) (n := q) hts hb hh h1 h2 h3
    have hg := grownBy_sorted_i (w := w) (g := g) (n := q) (os := #[]) (Lib.compact zs ++ List.replicate (zs.length - (Lib.compact zs).length) (0 : Int)).toArray
    rw [grow_none] at hrow hg
    refine ⟨_, rfl, ?_, hg⟩
    rcases hrow.2 with ⟨e, _⟩ | ⟨g2, cap2, cur2, e, q1, q2, q3, q4, q5, q6⟩
    · cases e
    · injection e with e1 e2 e3
      injection e1 with e1
      injection e1 with e1
      subst e1 e3
      refine ⟨by simp, .inr ⟨g, cap, cur2, rfl, q1, q2, by omega, q4, q5, ?_⟩⟩
      have h7 := congrArg (List.take (Lib.compact zs).length) q6
      rw [List.take_take, Nat.mul_one, Nat.min_eq_left hcl, List.map_append, List.take_left' (by simp)] at h7
      rw [Nat.mul_one]
      exact h7


/-! ### values -/
theorem info_int : (Tryz.prog.info? 3).map (fun i => (i.zero, i.size, i.bytes)) = some (some (.int .i64 0), 1, 8) := by kernel_rfl
theorem ints_append (l m : List Int) : ints (l ++ m) = ints l ++ ints m := by simp [ints]
theorem int_news (W : World) (x : Int) : ∀ j u, ([Value.int .i64 x])[j]? = some u → (W.alloc (.cells #[.int .i64 x] 3)).cell? ((⟨W.heap.size, 0, none⟩ : Addr).add j) = some u := by
  intro j u hu
  rw [add_at, Nat.zero_add, cell_of_row _ _ j _ _ _ (heap_alloc_new W (.cells #[.int .i64 x] 3)), ← hu, ← Array.getElem?_toList]
def headK (l : List Rc) (r : Rc) (k : Nat) : Bool := (l.take k).all fun q => !befB r q
theorem headK_succ {l : List Rc} {r q : Rc} {k : Nat} (hk : k < l.length) (hq : l[k] = q) : headK l r (k + 1) = (headK l r k && !befB r q) := by
  subst hq
  unfold headK
  rw [List.take_succ_eq_append_getElem hk, List.all_append]
  simp
theorem headK_all (l : List Rc) (r : Rc) : headK l r l.length = headB l r := by unfold headK headB; rw [List.take_length]
/-- The values of the heads among the first k. -/
def hv (l : List Rc) (k : Nat) : List Int := ((l.take k).filter (headB l)).map Rc.val
theorem hv_len (l : List Rc) (k : Nat) : (hv l k).length ≤ l.length := by
  unfold hv
  rw [List.length_map]
  exact Nat.le_trans (List.length_filter_le _ _) (by rw [List.length_take]; omega)

/-- The list that is read, and the values that were found. -/
structure ValI (wS : World) (A : Option Addr) (l : List Rc) (k : Nat) (v : Value) (w : World) : Prop where
  own : w.ownsRow wS.heap.size 3 1 v (hv l k).length (ints (hv l k))
  b : Below wS.heap.size wS w
  rd : Rd wS A (recs l)
theorem ValI.below {wS w w' : World} {A : Option Addr} {l : List Rc} {k : Nat} {v : Value} (h : ValI wS A l k v w) (hb : Below w.heap.size w w') : ValI wS A l k v w' := ⟨own_below h.own hb, h.b.trans (hb.mono h.b.size), h.rd⟩

theorem valI_no {wS w : World} {A : Option Addr} {l : List Rc} {k : Nat} {v : Value} {x : Rc} (h : ValI wS A l k v w) (hk : k < l.length) (hx : l[k] = x) (hh : headB l x = false) : ValI wS A l (k + 1) v w := by
  have : hv l (k + 1) = hv l k := by unfold hv; rw [filter_take_no hk hx hh]
  exact ⟨by rw [this]; exact h.own, h.b, h.rd⟩
theorem valI_yes {wS w w' : World} {A : Option Addr} {l : List Rc} {k : Nat} {v v' : Value} {x : Rc} {tmp : Obj} (h : ValI wS A l k v w) (hk : k < l.length) (hx : l[k] = x) (hh : headB l x = true)
    (hown : w'.ownsRow wS.heap.size 3 1 v' ((hv l k).length + 1) (ints (hv l k) ++ [.int .i64 x.val])) (hg : (w.alloc tmp).grownBy w' v.ownBlock) : ValI wS A l (k + 1) v' w' := by
  have e : hv l (k + 1) = hv l k ++ [x.val] := by unfold hv; rw [filter_take_yes hk hx hh, List.map_append]; rfl
  refine ⟨?_, ?_, h.rd⟩
  · rw [e, List.length_append, ints_append]; exact hown
  · have b1 := h.b.alloc h.b.size tmp
    exact b1.grown hg b1.size (fun j hj => (own_block_lt h.own hj).1)

set_option maxHeartbeats 4000000 in
set_option maxRecDepth 100000 in
theorem values_calls (l : List Rc) (hvl : ∀ r ∈ l, rcB r = true) (A : Option Addr) (c : Nat) (w : World) (hrd : Rd w A (recs l)) (hl : l.length ≤ 1000000) :
    Calls Tryz.prog 65 #[.slice A l.length c] w fun e w' => ∃ v, e = .returned v ∧ w'.ownsRow w.heap.size 3 1 v (valsP l).length (ints (valsP l)) ∧ Below w.heap.size w w' := by
  obtain ⟨i0, hi, hz0, hz1, hz2⟩ := info_parts info_int
  have HV := hid hvl
  have HR := hid hrd
  clear hvl hrd
  go_enter Tryz.func65, Tryz.ntmps65
  go_upto_region 3 with (fail)
  go_loopw [11, 3] (fun iv v wr => ∃ k : Nat, k ≤ l.length ∧ iv = .int .i64 k ∧ ValI w A l k v wr) (fun iv _ _ => l.length - (intOf iv).toNat)
  case atStart => exact ⟨0, Nat.zero_le _, rfl, World.ownsRow_nil _ _ _ _, Below.refl _ _, unhid HR⟩
  case round =>
    obtain ⟨k, hk, rfl, hI⟩ := hrel
    have HI := hid hI
    clear hI
    by_cases hlt : k < l.length
    · have hki : (k : Int) < (l.length : Int) := by omega
      obtain ⟨b, off, hAe, hbl, hc⟩ := ((unhid HI).rd.below (unhid HI).b) (recs_ne hlt)
      subst hAe
      obtain ⟨x, hx⟩ : ∃ x, l[k] = x := ⟨_, rfl⟩
      obtain ⟨m0, m1, m2, m3, m4, m5, m6, m7, m8, m9, m10, m11, m12, m13⟩ := recs_cells hc hlt hx
      have HX := hid hx
      have HXV := hid ((unhid HV) x (hx ▸ List.getElem_mem hlt))
      clear hx hc
      go_upto_region 5 with (fail)
      change Code.wp _ _ _ _ (wr.alloc (.cells (rcA x) 82))
      have hb0 := below_alloc wr (.cells (rcA x) 82)
      have HXA := hid (RcAt.new wr x)
      have HI := hid ((unhid HI).below hb0)
      clear m0 m1 m2 m3 m4 m5 m6 m7 m8 m9 m10 m11 m12 m13 hb0 hbl
      obtain ⟨X, hX⟩ : ∃ X, X = wr.heap.size := ⟨_, rfl⟩
      rw [← hX] at HXA ⊢
      clear hX
      generalize wr.alloc (.cells (rcA x) 82) = W1 at *
      go_upto_region 7 with (fail)
      have HKI := hid hki
      have HLT := hid hlt
      go_loopw [18, 6] (fun iv bv wr => ∃ k2 : Nat, k2 ≤ l.length ∧ iv = .int .i64 k2 ∧ bv = .bool (headK l x k2) ∧ Below W1.heap.size W1 wr) (fun iv _ _ => l.length - (intOf iv).toNat)
      case atStart => exact ⟨0, Nat.zero_le _, rfl, by simp [headK], Below.refl _ _⟩
      case round =>
        obtain ⟨k2, hk2, rfl, rfl, hbw⟩ := hrel
        have HBW := hid hbw
        clear hbw
        by_cases hlt2 : k2 < l.length
        · have hki2 : (k2 : Int) < (l.length : Int) := by omega
          obtain ⟨b', off', hAe, hbl, hc⟩ := ((unhid HI).below (unhid HBW)).rd.below ((unhid HI).b.trans ((unhid HBW).mono (unhid HI).b.size)) (recs_ne hlt2)
          injection hAe with hAe
          injection hAe with hb1 hb2 hb3
          subst hb1 hb2
          obtain ⟨q, hq⟩ : ∃ q, l[k2] = q := ⟨_, rfl⟩
          obtain ⟨m0, m1, m2, m3, m4, m5, m6, m7, m8, m9, m10, m11, m12, m13⟩ := recs_cells hc hlt2 hq
          have HH := hid (headK_succ (r := x) hlt2 hq)
          have HEQ := hid (show k2 = k → q = x from fun e => by subst e; exact hq.symm.trans (unhid HX))
          clear hq hc
          go_upto_region 9 with (fail)
          change Code.wp _ _ _ _ (wr.alloc (.cells (rcA q) 82))
          have hb0 := below_alloc wr (.cells (rcA q) 82)
          have HQA := hid (RcAt.new wr q)
          have HBW := hid ((unhid HBW).trans (hb0.mono (unhid HBW).size))
          clear m0 m1 m2 m3 m4 m5 m6 m7 m8 m9 m10 m11 m12 m13 hb0 hbl
          obtain ⟨Y, hY⟩ : ∃ Y, Y = wr.heap.size := ⟨_, rfl⟩
          rw [← hY] at HQA ⊢
          clear hY
          generalize wr.alloc (.cells (rcA q) 82) = W2 at *
          cases hh : headK l x k2 with
          | false =>
            have HN := hid (show headK l x (k2 + 1) = false by rw [unhid HH, hh]; rfl)
            clear hh
            go_wp2_with fail
            go_roundw
            case rel => exact ⟨k2 + 1, by omega, by go_num, by rw [unhid HN], unhid HBW⟩
            case measure => simp [intOf]; omega
          | true =>
            have HX1 := hid ((unhid HXA).below (unhid HBW) (unhid HXA).lt)
            obtain ⟨c0, c1, c2, c3, c4, c5⟩ := (unhid HX1).cells
            obtain ⟨e0, e1, e2, e3, e4, e5, e6, e7⟩ := (unhid HX1).seen8
            obtain ⟨d0, d1, d2, d3, d4, d5⟩ := (unhid HQA).cells
            obtain ⟨g0, g1, g2, g3, g4, g5, g6, g7⟩ := (unhid HQA).seen8
            by_cases he : k2 = k
            · have HN := hid (show headK l x (k2 + 1) = true by rw [unhid HH, hh, unhid HEQ he, bef_self (unhid HXV)]; rfl)
              have hee : ((k : Int) == (k2 : Int)) = true := by simp [he]
              clear hh he
              go_wp2_with fail
              go_roundw
              case rel => exact ⟨k2 + 1, by omega, by go_num, by rw [unhid HN], unhid HBW⟩
              case measure => simp [intOf]; omega
            · have HN := hid (show headK l x (k2 + 1) = !befB x q by rw [unhid HH, hh]; rfl)
              have hee : ((k : Int) == (k2 : Int)) = false := by
                have : (k : Int) ≠ (k2 : Int) := by omega
                simpa using this
              have HNUM := hid (show I64 x.num by have := (rc_ok (unhid HXV)).num; unfold I64; omega)
              clear hh he
              go_wp2_with fail
              refine (before_calls x q (unhid HNUM) W2).mono ?_
              rintro e w5 ⟨rfl, hb5⟩
              have HBW := hid ((unhid HBW).trans (hb5.mono (unhid HBW).size))
              clear hb5 c0 c1 c2 c3 c4 c5 e0 e1 e2 e3 e4 e5 e6 e7 d0 d1 d2 d3 d4 d5 g0 g1 g2 g3 g4 g5 g6 g7
              go_wp2_with fail
              go_roundw
              case rel => exact ⟨k2 + 1, by omega, by go_num, by rw [unhid HN], unhid HBW⟩
              case measure => simp [intOf]; omega
        · obtain rfl : k2 = l.length := by omega
          rw [headK_all]
          have HI := hid ((unhid HI).below (unhid HBW))
          have HX1 := hid ((unhid HXA).below (unhid HBW) (unhid HXA).lt)
          obtain ⟨c0, c1, c2, c3, c4, c5⟩ := (unhid HX1).cells
          cases hh : headB l x with
          | false =>
            have HN := hid (valI_no (unhid HI) (unhid HLT) (unhid HX) hh)
            clear hh
            go_wp2_with fail
            go_roundw
            case rel => exact ⟨k + 1, by have := unhid HLT; omega, by go_num, unhid HN⟩
            case measure => have := unhid HLT; simp [intOf]; omega
          | true =>
            have hy := (unhid HI).own
            have hlc := hv_len l k
            have hsz := (unhid HI).b.size
            go_wp2_with (at_builtin; refine wpList_append_own _ rfl _ _ 43 rfl w.heap.size 3 i0 (.int .i64 0) 1 8 Tryz.underlying43 hi hz0 hz1 hz2 rfl (by decide) _ _ _ rfl (hy.alloc _) ⟨wr.heap.size, 0, none⟩ 1 1 [.int .i64 x.val] rfl rfl (int_news wr x.val) (by simp [Value.oneCell']) (by unfold maxLen; omega) (by omega) (by simp; omega) ?_; intro v' w6 hown' hgrow hnil)
            have HN := hid (valI_yes (unhid HI) (unhid HLT) (unhid HX) hh hown' hgrow)
            clear hy hlc hsz hown' hgrow hnil hh c0 c1 c2 c3 c4 c5
            go_wp2_with fail
            go_roundw
            case rel => exact ⟨k + 1, by have := unhid HLT; omega, by go_num, unhid HN⟩
            case measure => have := unhid HLT; simp [intOf]; omega
    · obtain rfl : k = l.length := by omega
      have HLN := hid (Nat.le_trans (hv_len l l.length) hl)
      have HVP := hid (show setI (hv l l.length) = valsP l by unfold hv valsP; rw [List.take_length])
      clear hk
      obtain ⟨zs, hzs⟩ : ∃ zs, hv l l.length = zs := ⟨_, rfl⟩
      have hown := (unhid HI).own
      rw [hzs] at HLN HVP hown
      have HB := hid (unhid HI).b
      have HS := hid (sortInts_calls zs _ w.heap.size wr hown (unhid HLN))
      have HO := hid (fun j hj => (own_block_lt hown (g := j) hj).1)
      clear hown hzs HI
      go_wp2_with fail
      refine (unhid HS).mono ?_
      rintro e w5 ⟨rfl, hown, hg⟩
      have HB := hid ((unhid HB).grown hg (unhid HB).size (unhid HO))
      have hln : zs.length = (zs.mergeSort fun x y => decide (x ≤ y)).length := (List.length_mergeSort _).symm
      rw [hln] at hown
      have HC := hid (compactInts_calls (zs.mergeSort fun x y => decide (x ≤ y)) _ w.heap.size w5 hown (by rw [← hln]; exact unhid HLN))
      rw [compact_set, unhid HVP] at HC
      clear hown hg hln HS
      go_wp2_with fail
      refine (unhid HC).mono ?_
      rintro e w6 ⟨u, rfl, hown, hg⟩
      have HB := hid ((unhid HB).grown hg (unhid HB).size (unhid HO))
      clear hg
      go_wp2_with fail
      go_ret
      exact ⟨u, rfl, hown, unhid HB⟩

end Go.Proofs.YtegghimjmbgghaaGreat
