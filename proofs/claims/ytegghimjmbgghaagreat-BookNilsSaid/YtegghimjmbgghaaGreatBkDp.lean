/-
  Disputes of the program.
-/
import Derived.Test.YtegghimjmbgghaaGreatBkDi
import Derived.Test.YtegghimjmbgghaaGreatBkL
set_option linter.unusedSimpArgs false
set_option linter.unusedVariables false
namespace Go.Proofs.YtegghimjmbgghaaGreat
open Go.RowKit Go.Shelf

/-- The cases with several values. -/
def DispIs (L : List Rc) (D : List (Int × Int)) : Prop := AscP D ∧ ∀ c, c ∈ D ↔ 1 < (valuesP L c.1 c.2).length
theorem dispIs_eq {L : List Rc} {D M : List (Int × Int)} (h1 : DispIs L D) (h2 : DispIs L M) : D = M := ascP_eq h1.1 h2.1 (fun c => by rw [h1.2 c, h2.2 c])
def DispPost (w : World) (L : List Rc) (e : Ending) (w' : World) : Prop := ∃ v D, e = .returned v ∧ DispIs L D ∧ D.length ≤ L.length ∧ w'.ownsRow w.heap.size 116 2 v D.length (fks D) ∧ Below w.heap.size w w'
theorem info_case : (Tryz.prog.info? 116).map (fun i => (i.zero, i.size, i.bytes)) = some (some (.agg #[.int .i64 0, .int .i64 0]), 2, 16) := by kernel_rfl
theorem cs_news (W : World) (p : Int × Int) : ∀ j u, (fkC p)[j]? = some u → (W.alloc (.cells #[.int .i64 p.1, .int .i64 p.2] 116)).cell? ((⟨W.heap.size, 0, none⟩ : Addr).add j) = some u := by
  intro j u hu
  rw [add_at, Nat.zero_add, World.cell?_alloc_new, ← Array.getElem?_toList]
  exact hu
/-- Along the map of cases. -/
structure DpI (w2 : World) (mm N : Nat) (E : List ((Int × Int) × Value)) (C : List Rc) (todo : List ((Int × Int) × Value)) (v : Value) (D : List (Int × Int)) (w : World) : Prop where
  rng : GRng caseK w mm N E todo
  own : w.ownsRow (N + 1) 116 2 v D.length (fks D)
  nd : D.Nodup
  mem : ∀ c, c ∈ D ↔ c ∈ keysE E ∧ c ∉ keysE todo ∧ 1 < (valsP (C.filter (csB c.1 c.2))).length
  len : D.length + todo.length ≤ E.length
  b : Below N w2 w
  e : N = w2.heap.size
  lo : mm < N ∧ N < w.heap.size
section
variable {w2 w w' : World} {mm N : Nat} {E todo : List ((Int × Int) × Value)} {C : List Rc} {v v' : Value} {D : List (Int × Int)}
theorem DpI.below (h : DpI w2 mm N E C todo v D w) (hb : Below w.heap.size w w') : DpI w2 mm N E C todo v D w' ∧ w'.rangeLeft mm N = w.rangeLeft mm N :=
  ⟨⟨h.rng.below hb h.rng.map.lt h.rng.lt, own_below h.own hb, h.nd, h.mem, h.len, h.b.trans (hb.mono (by have := h.lo; omega)), h.e, h.lo.1, Nat.lt_of_lt_of_le h.lo.2 hb.size⟩, GRng.left_kept (hb.block mm h.rng.map.lt) (hb.block N h.rng.lt)⟩
theorem DpI.next {x : Int × Int} {xv : Value} (h : DpI w2 mm N E C todo v D w) (hx : (x, xv) ∈ todo) (hr : GRng caseK w' mm N E (delE todo x)) (hg : w.grownBy w' (some N)) :
    w'.ownsRow (N + 1) 116 2 v D.length (fks D) ∧ Below N w2 w' ∧ D.length + (delE todo x).length + 1 ≤ E.length := by
  refine ⟨h.own.kept hg ?_, h.b.grown hg (by have := h.lo; omega) (fun j e => by cases e; exact Nat.le_refl _), ?_⟩
  · cases hv : v.ownBlock with
    | none => exact .inl rfl
    | some g => exact .inr (fun e => by have := own_block_lt h.own hv; have := Option.some.inj e; omega)
  · have h1 := len_del h.rng.left.1 x
    rw [if_pos (mem_keysE.2 ⟨xv, hx⟩)] at h1
    have := h.len
    omega
/-- The same, without what is known of the cases. -/
structure DpJ (w2 : World) (mm N : Nat) (E todo : List ((Int × Int) × Value)) (v : Value) (D : List (Int × Int)) (w : World) : Prop where
  rng : GRng caseK w mm N E todo
  own : w.ownsRow (N + 1) 116 2 v D.length (fks D)
  b : Below N w2 w
  e : N = w2.heap.size
  lo : mm < N ∧ N < w.heap.size
theorem DpJ.below (h : DpJ w2 mm N E todo v D w) (hb : Below w.heap.size w w') : DpJ w2 mm N E todo v D w' ∧ w'.rangeLeft mm N = w.rangeLeft mm N :=
  ⟨⟨h.rng.below hb h.rng.map.lt h.rng.lt, own_below h.own hb, h.b.trans (hb.mono (by have := h.lo; omega)), h.e, h.lo.1, Nat.lt_of_lt_of_le h.lo.2 hb.size⟩, GRng.left_kept (hb.block mm h.rng.map.lt) (hb.block N h.rng.lt)⟩
theorem DpJ.push {x : Int × Int} {tmp : Obj} (h : DpJ w2 mm N E todo v D w) (hown : w'.ownsRow (N + 1) 116 2 v' (D.length + 1) (fks D ++ fkC x)) (hg : (w.alloc tmp).grownBy w' v.ownBlock) : DpJ w2 mm N E todo v' (D ++ [x]) w' ∧ w'.rangeLeft mm N = w.rangeLeft mm N := by
  have hne : ∀ k, k ≤ N → some k ≠ v.ownBlock := fun k hk e => by have := own_block_lt h.own e.symm; omega
  have hb := below_alloc w tmp
  have hlo := h.lo
  have e1 : ∀ k, k ≤ N → w'.heap[k]? = w.heap[k]? := fun k hk => (hg.block k (Nat.lt_of_lt_of_le (by omega) hb.size) (hne k hk)).trans (hb.block k (by omega))
  refine ⟨⟨h.rng.block (e1 mm (by omega)) (e1 N (Nat.le_refl _)), by rw [List.length_append, fks_append, fks_one]; exact hown, (h.b.alloc (by omega) tmp).grown hg (by simp; omega) (fun j hj => by have := own_block_lt h.own hj; omega), h.e, hlo.1, Nat.lt_of_lt_of_le hlo.2 (Nat.le_trans hb.size hg.size)⟩, GRng.left_kept (e1 mm (by omega)) (e1 N (Nat.le_refl _))⟩
theorem DpJ.i {C : List Rc} (h : DpJ w2 mm N E todo v D w) (nd : D.Nodup) (mem : ∀ c, c ∈ D ↔ c ∈ keysE E ∧ c ∉ keysE todo ∧ 1 < (valsP (C.filter (csB c.1 c.2))).length) (len : D.length + todo.length ≤ E.length) : DpI w2 mm N E C todo v D w := ⟨h.rng, h.own, nd, mem, len, h.b, h.e, h.lo⟩
theorem mem_dp {x : Int × Int} {xv : Value} (h : ∀ c, c ∈ D ↔ c ∈ keysE E ∧ c ∉ keysE todo ∧ 1 < (valsP (C.filter (csB c.1 c.2))).length) (hx : (x, xv) ∈ todo) (hE : (x, xv) ∈ E) :
    (1 < (valsP (C.filter (csB x.1 x.2))).length → x ∉ D ∧ ∀ c, c ∈ D ++ [x] ↔ c ∈ keysE E ∧ c ∉ keysE (delE todo x) ∧ 1 < (valsP (C.filter (csB c.1 c.2))).length) ∧
    (¬ 1 < (valsP (C.filter (csB x.1 x.2))).length → ∀ c, c ∈ D ↔ c ∈ keysE E ∧ c ∉ keysE (delE todo x) ∧ 1 < (valsP (C.filter (csB c.1 c.2))).length) := by
  have hxk : x ∈ keysE todo := mem_keysE.2 ⟨xv, hx⟩
  have hxE : x ∈ keysE E := mem_keysE.2 ⟨xv, hE⟩
  constructor
  · intro h1
    refine ⟨fun hm => ((h x).1 hm).2.1 hxk, fun c => ?_⟩
    rw [List.mem_append, List.mem_singleton, h c]
    by_cases e : c = x
    · subst e
      simp [hxE, h1, mem_keysE_del]
    · simp [e, mem_keysE_del]
  · intro h1 c
    rw [h c]
    by_cases e : c = x
    · subst e
      simp [h1]
    · simp [e, mem_keysE_del]
end

set_option maxHeartbeats 8000000 in
set_option maxRecDepth 100000 in
theorem disputes_calls {B m : Nat} {S L : List Rc} (w : World) (h : BkAt w B m S) (hS : S.length ≤ 100000) (hA : Asc L) (hm : ∀ r, r ∈ S ↔ r ∈ L) :
    Calls Tryz.prog 17 #[.pointer (some ⟨B, 0, none⟩)] w fun e w' => DispPost w L e w' := by
  obtain ⟨i0, hi, hz0, hz1, hz2⟩ := info_parts info_case
  have HC := hid (cases_calls w h (by omega))
  have HSL := hid hS
  have HA := hid hA
  have HM := hid hm
  have HV := hid (show ∀ r ∈ L, rcB r = true from fun r hr => h.v r ((hm r).2 hr))
  clear h hS hA hm
  go_enter Tryz.func17, Tryz.ntmps17
  go_wp2_with fail
  refine (unhid HC).mono ?_
  rintro e w2 ⟨mm, E, L2, rfl, hE1, hE2, hp, hA2, hmm, hb2⟩
  obtain rfl : L2 = L := asc_eq hA2 (unhid HA) (fun r => by rw [hp.mem_iff, unhid HM r])
  have HE1 := hid hE1
  have HE2 := hid hE2
  have HB2 := hid hb2
  have HLN := hid (show E.length ≤ L2.length ∧ L2.length ≤ 100000 from ⟨Nat.le_trans hE2.len (List.length_filter_le _ _), by rw [hp.length_eq]; exact unhid HSL⟩)
  have HCV := hid (show ∀ r ∈ cntL L2, rcB r = true from fun r hr => unhid HV r (List.mem_filter.1 hr).1)
  clear hE1 hE2 hp hA2 hmm hb2 HC
  go_wp2_with (first | (at_range; refine wpList_grange rfl _ 117 rfl 22 Tryz.underlying117 rfl (unhid HE1) ?_; intro w0 hr0 hg0 hs0) | go_in)
  go_frame
  obtain ⟨N, hN⟩ : ∃ N, N = w2.heap.size := ⟨_, rfl⟩
  rw [← hN] at hr0 ⊢
  have HI0 := hid (⟨hr0, World.ownsRow_nil _ _ _ _, List.nodup_nil, fun c => ⟨fun h => by simp at h, fun h => absurd h.1 h.2.1⟩, by simp, (below_of_grown hg0).mono (Nat.le_of_eq hN), hN, by have := (unhid HE1).lt; omega, by omega⟩ : DpI w2 mm N E (cntL L2) E (.slice none 0 0) [] w0)
  clear hr0 hg0 hs0 hN
  go_loopw [3] (fun ov wr => ∃ (todo : List ((Int × Int) × Value)) (D : List (Int × Int)), DpI w2 mm N E (cntL L2) todo ov D wr) (fun _ wr => wr.rangeLeft mm N)
  case atStart => exact ⟨_, _, unhid HI0⟩
  case round =>
    clear HI0
    obtain ⟨todo, D, hi1⟩ := hrel
    have HI := hid hi1
    clear hi1
    go_wp2_with (first | (at_next; refine wpList_gnext rfl _ rfl rfl (unhid HI).rng ?_ ?_) | go_in)
    · intro hnil
      subst hnil
      have HDM := hid (show ∀ c, c ∈ D ↔ 1 < (valuesP L2 c.1 c.2).length from fun c => by
        rw [(unhid HI).mem c]
        constructor
        · exact fun h => h.2.2
        · intro h
          refine ⟨?_, by simp [keysE], h⟩
          have hne : (cntL L2).filter (csB c.1 c.2) ≠ [] := fun e => by
            unfold valuesP at h
            rw [e] at h
            simp [valsP, setI] at h
          obtain ⟨r, hr⟩ := List.exists_mem_of_ne_nil _ hne
          obtain ⟨h1, h2⟩ := List.mem_filter.1 hr
          simp only [csB, Bool.and_eq_true, decide_eq_true_eq] at h2
          have := (unhid HE2).all r h1
          rwa [show (r.sign, r.fld) = c from Prod.ext h2.1 h2.2] at this)
      have HDB := hid (show ∀ c ∈ D, CbP c from fun c hc => by
        obtain ⟨v, hv⟩ := mem_keysE.1 ((unhid HI).mem c |>.1 hc).1
        obtain ⟨r, hr, e1, e2⟩ := (unhid HE2).is _ hv
        have o := rc_ok (unhid HCV r hr)
        have := o.sign
        have := o.fld
        unfold CbP
        dsimp only at e1 e2
        omega)
      have HDL := hid (show D.length ≤ L2.length from by have := (unhid HI).len; have := unhid HLN; omega)
      go_wp2_with fail
      refine (sortCase_calls D (unhid HDB) (unhid HI).nd _ (N + 1) wr (unhid HI).own (by have := unhid HDL; have := unhid HLN; omega)).mono ?_
      rintro e w5 ⟨rfl, M, hp, hA, hown, hg⟩
      have HP := hid (show DispPost w L2 (.returned u3) w5 from ⟨u3, M, rfl, ⟨hA, fun c => by rw [hp.mem_iff]; exact unhid HDM c⟩, by rw [hp.length_eq]; exact unhid HDL, own_base hown (by have h1 := (unhid HB2).size; have h2 := (unhid HI).e; omega),
        (unhid HB2).trans (((unhid HI).b.grown hg (by have := (unhid HI).lo; omega) (fun j hj => by have := own_block_lt (unhid HI).own hj; omega)).mono (by have h1 := (unhid HB2).size; have h2 := (unhid HI).e; omega))⟩)
      clear hp hA hown hg
      go_wp2_with fail
      go_ret
      exact unhid HP
    · intro x1 x2 xv w1 hx hrg1 hlt1 hg1 hs1 hen
      change (Instr.entry (.pointer (some ⟨N, 0, none⟩))).run Tryz.prog w1 = .ok (.tuple #[.agg #[.int .i64 x1, .int .i64 x2], xv]) w1 at hen
      have hxE := (unhid HI).rng.left.2 _ hx
      have hnx := (unhid HI).next hx hrg1 hg1
      have HMD := hid (mem_dp (unhid HI).mem hx hxE)
      have HJ := hid (⟨hrg1, hnx.1, hnx.2.1, (unhid HI).e, (unhid HI).lo.1, by have := (unhid HI).lo; omega⟩ : DpJ w2 mm N E (delE todo (x1, x2)) u3 D w1)
      have HLT := hid hlt1
      have HLEN := hid hnx.2.2
      have HND := hid (unhid HI).nd
      have hE2 := (unhid HE2).below (by rw [← (unhid HI).e]; exact hnx.2.1)
      have hrow := hE2.own _ hxE
      obtain ⟨Av, cv, hxv, hrd, -⟩ := own_slice hrow
      dsimp only at hxv hrd
      subst hxv
      have HRD := hid hrd
      have HFL := hid (show ((cntL L2).filter (csB x1 x2)).length ≤ 1000000 from Nat.le_trans (List.length_filter_le _ _) (Nat.le_trans (List.length_filter_le _ _) (by have := unhid HLN; omega)))
      have HFV := hid (show ∀ r ∈ (cntL L2).filter (csB x1 x2), rcB r = true from fun r hr => unhid HCV r (List.mem_filter.1 hr).1)
      clear hx hrg1 hlt1 hg1 hs1 hxE hnx hE2 hrow hrd HI
      go_upto_region 5 with (fail)
      change Code.wp _ _ _ _ (w1.alloc (.cells #[.int .i64 x1, .int .i64 x2] 116))
      have hb1 := below_alloc w1 (.cells #[.int .i64 x1, .int .i64 x2] 116)
      have hn1 := heap_alloc_new w1 (.cells #[.int .i64 x1, .int .i64 x2] 116)
      have hj := (unhid HJ).below hb1
      have HLT := hid (show (w1.alloc (.cells #[.int .i64 x1, .int .i64 x2] 116)).rangeLeft mm N < wr.rangeLeft mm N from by rw [hj.2]; exact unhid HLT)
      have HJ := hid hj.1
      have HRD := hid ((unhid HRD).below hb1)
      obtain ⟨X, hX⟩ : ∃ X, X = w1.heap.size := ⟨_, rfl⟩
      rw [← hX] at hn1 ⊢
      have HX := hid hn1
      clear hb1 hn1 hj hX hen
      generalize w1.alloc (.cells #[.int .i64 x1, .int .i64 x2] 116) = W1 at *
      go_wp2_with fail
      refine (values_calls ((cntL L2).filter (csB x1 x2)) (unhid HFV) Av cv W1 (unhid HRD) (unhid HFL)).mono ?_
      rintro e w3 ⟨v3, rfl, hown3, hb3⟩
      obtain ⟨A3, c3, rfl, -, -⟩ := own_slice hown3
      have hj := (unhid HJ).below hb3
      have HLT := hid (show w3.rangeLeft mm N < wr.rangeLeft mm N from by rw [hj.2]; exact unhid HLT)
      have HJ := hid hj.1
      have hx3 := (hb3.block X (lt_of_heap (unhid HX))).trans (unhid HX)
      have HX := hid hx3
      clear hown3 hb3 hj hx3 HRD
      obtain ⟨q, hq⟩ : ∃ q, (valsP ((cntL L2).filter (csB x1 x2))).length = q := ⟨_, rfl⟩
      have HQ := hid hq
      rw [hq]
      clear hq
      by_cases h1 : 1 < q
      · have hqi : (1 : Int) < (q : Int) := by omega
        have hmd := (unhid HMD).1 (by rw [unhid HQ]; exact h1)
        have a0 := cell_of_row w3 X 0 _ _ _ (unhid HX)
        have a1 := cell_of_row w3 X 1 _ _ _ (unhid HX)
        simp only [List.getElem?_toArray, List.getElem?_cons_zero, List.getElem?_cons_succ] at a0 a1
        have hy := (unhid HJ).own
        have hlc : D.length ≤ 100000 := by have := unhid HLEN; have := unhid HLN; omega
        have hsz : N + 1 ≤ w3.heap.size := (unhid HJ).lo.2
        have HMD1 := hid hmd
        clear hmd
        go_wp2_with (at_builtin; refine wpList_append_own_at _ rfl _ _ 40 rfl (N + 1) 116 i0 (.agg #[.int .i64 0, .int .i64 0]) 2 16 Tryz.underlying40 hi hz0 hz1 hz2 rfl (by decide) _ _ _ rfl (hy.alloc _) ⟨w3.heap.size, 0, none⟩ 1 1 (fkC (x1, x2)) rfl rfl (cs_news w3 (x1, x2)) (fkC_one _) (by unfold maxLen; omega) (by omega) (by simp; omega) ?_; intro v' w6 hown' hgrow hnil hat)
        have hj := (unhid HJ).push hown' hgrow
        have HLT := hid (show w6.rangeLeft mm N < wr.rangeLeft mm N from by rw [hj.2]; exact unhid HLT)
        have HI := hid (hj.1.i (List.nodup_append.2 ⟨unhid HND, by simp, fun a ha b hb => by
          rw [List.mem_singleton] at hb
          subst hb
          exact fun e => (unhid HMD1).1 (e ▸ ha)⟩) (unhid HMD1).2 (by have := unhid HLEN; rw [List.length_append, List.length_singleton]; omega))
        clear hy hlc hsz hown' hgrow hnil hat hj a0 a1
        go_wp2_with fail
        go_roundw
        case rel => exact ⟨_, _, unhid HI⟩
        case measure => exact unhid HLT
      · have hqi : ¬ (1 : Int) < (q : Int) := by omega
        have hmd := (unhid HMD).2 (by rw [unhid HQ]; exact h1)
        have HI := hid ((unhid HJ).i (unhid HND) hmd (by have := unhid HLEN; omega))
        clear hmd
        go_wp2_with fail
        go_roundw
        case rel => exact ⟨_, _, unhid HI⟩
        case measure => exact unhid HLT

end Go.Proofs.YtegghimjmbgghaaGreat
