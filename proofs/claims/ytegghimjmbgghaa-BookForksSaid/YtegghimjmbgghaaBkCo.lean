/-
  counts of the laws: the set of the records that count.
-/
import Derived.Test.YtegghimjmbgghaaBkWt
set_option linter.unusedSimpArgs false
set_option linter.unusedVariables false
namespace Go.Proofs.Ytegghimjmbgghaa
open Go.RowKit Go.Shelf

def CoPost (w : World) (L : List Rc) (e : Ending) (w' : World) : Prop :=
  ∃ (mm : Nat) (K : List Rc), e = .returned (.map (some mm)) ∧ RSet w' mm K ∧ (∀ r, r ∈ K ↔ r ∈ L ∧ cntB L r = true) ∧ K.length ≤ L.length ∧ w.heap.size ≤ mm ∧ Below w.heap.size w w'
theorem put_mem {K : List Rc} {x r : Rc} : r ∈ K.filter (fun q => !decide (q = x)) ++ [x] ↔ r = x ∨ r ∈ K := by
  rw [List.mem_append, List.mem_singleton, List.mem_filter]
  constructor
  · rintro (⟨h, -⟩ | h)
    · exact .inr h
    · exact .inl h
  · rintro (h | h)
    · exact .inr h
    · by_cases e : r = x
      · exact .inr e
      · exact .inl ⟨h, by simp [e]⟩
theorem put_len {K : List Rc} {x : Rc} : (K.filter (fun q => !decide (q = x)) ++ [x]).length ≤ K.length + 1 := by
  rw [List.length_append, List.length_singleton]
  have := List.length_filter_le (fun q => !decide (q = x)) K
  omega
theorem del_mem {K : List Rc} {x r : Rc} : r ∈ K.filter (fun q => !decide (q = x)) ↔ r ∈ K ∧ r ≠ x := by
  rw [List.mem_filter]
  simp
theorem mem_take_succ {l : List Rc} {k : Nat} (hk : k < l.length) {x : Rc} (hx : l[k]'hk = x) {r : Rc} : r ∈ l.take (k + 1) ↔ r = x ∨ r ∈ l.take k := by
  rw [List.take_succ_eq_append_getElem hk, hx, List.mem_append, List.mem_singleton]
  exact Or.comm

set_option maxHeartbeats 8000000 in
set_option maxRecDepth 100000 in
theorem counts_calls' {B m : Nat} {S L : List Rc} (w : World) (h : BkAt w B m S) (hS : S.length ≤ 100000) (hA : Asc L) (hm : ∀ r, r ∈ S ↔ r ∈ L) (hL : L.length ≤ 100000) :
    Calls Try.prog 28 #[.pointer (some ⟨B, 0, none⟩)] w fun e w' => CoPost w L e w' := by
  have hmm := @run_makeMap Try.prog
  have HK := hid h
  have HLO := hid h.lt
  have HSN := hid hS
  have HA := hid hA
  have HM := hid hm
  have HLL := hid hL
  have HV := hid (show ∀ r ∈ L, rcB r = true from fun r hr => h.v r ((hm r).2 hr))
  have h1 := GMap.made (K := recK) w
  have hb1 := below_alloc w (.map #[] 0)
  have HR0 := hid (show RSet (w.alloc (.map #[] 0)) w.heap.size [] from h1)
  have HB0 := hid hb1
  have HK1 := hid (h.below' hb1)
  clear h hS hA hm hL h1 hb1
  go_enter Try.func28, Try.ntmps28
  go_wp2_with fail
  clear hmm
  generalize w.alloc (.map #[] 0) = W at *
  obtain ⟨mm, hmm⟩ : ∃ mm, mm = w.heap.size := ⟨_, rfl⟩
  rw [← hmm] at HR0 ⊢
  have HMM := hid hmm
  clear hmm
  refine (records_calls W (unhid HK1) (by have := unhid HSN; omega)).mono ?_
  rintro e W2 ⟨v, L2, rfl, hp, hA2, hrow, hb⟩
  obtain rfl : L2 = L := asc_eq hA2 (unhid HA) (fun r => by rw [hp.mem_iff, unhid HM r])
  obtain ⟨Av, cv, rfl, hrd, -⟩ := own_slice hrow
  have HRD := hid hrd
  have HR := hid (GMap.below (unhid HR0) hb (GMap.lt (unhid HR0)))
  have HB := hid ((unhid HB0).trans (hb.mono (unhid HB0).size))
  clear hp hA2 hrow hb hrd HR0 HB0 HK1
  go_upto_region 4 with (fail)
  go_loopw [5] (fun iv wr => ∃ (k : Nat) (K : List Rc), k ≤ L2.length ∧ iv = .int .i64 k ∧ RSet wr mm K ∧ (∀ r, r ∈ K ↔ r ∈ L2.take k) ∧ K.length ≤ k ∧ Rd wr Av (recs L2) ∧ Below w.heap.size w wr) (fun iv _ => L2.length - (intOf iv).toNat)
  case atStart => exact ⟨0, [], Nat.zero_le _, rfl, unhid HR, fun r => by simp, Nat.le_refl _, unhid HRD, unhid HB⟩
  case round =>
    clear HR HRD HB
    obtain ⟨k, K, hk, rfl, hr, hmk, hkl, hrd, hb⟩ := hrel
    have HR := hid hr
    have HMK := hid hmk
    have HKL := hid hkl
    have HRD := hid hrd
    have HB := hid hb
    clear hr hmk hkl hrd hb
    by_cases hlt : k < L2.length
    · have hki : (k : Int) < (L2.length : Int) := by omega
      obtain ⟨b, off, hAe, hbl, hc⟩ := (unhid HRD) (recs_ne hlt)
      subst hAe
      obtain ⟨x, hx⟩ : ∃ x, L2[k]'hlt = x := ⟨_, rfl⟩
      have HX := hid hx
      have HXV := hid (unhid HV x (hx ▸ List.getElem_mem hlt))
      obtain ⟨a0, a1, a2, a3, a4, a5, a6, a7, a8', a9, a10, a11, a12, a13⟩ := rec_at14 hc hlt hx
      have HW1 := hid (show wrap64 ((k : Int) + 1) = ((k + 1 : Nat) : Int) from by have h1 := unhid HLL; unfold wrap64; omega)
      clear hc hx
      go_wp2_with (at_mapUpdate; refine wpList_gput rfl _ _ _ 52 rfl 4 Try.underlying52 rfl (unhid HR) (by have := unhid HKL; have := unhid HLL; simp only [setE_len, maxLen]; omega) x (rcW_of (unhid HXV)) rfl (.bool true) rfl ?_; intro w7 hm7 hg7; rw [put_setE] at hm7; have HR7 := hid (show RSet w7 mm (K.filter (fun q => !decide (q = x)) ++ [x]) from hm7); have HRD7 := hid (rd_noNum (unhid HRD) (recs_nums L2) (.map (GMap.isMap (unhid HR))) hg7); have HB7 := hid ((unhid HB).grown hg7 (unhid HB).size (fun j e => by cases e; exact Nat.le_of_eq (unhid HMM).symm)); have HM7 := hid (show ∀ r, r ∈ K.filter (fun q => !decide (q = x)) ++ [x] ↔ r ∈ L2.take (k + 1) from fun r => by rw [put_mem, mem_take_succ hlt (unhid HX), unhid HMK r]); clear hm7 hg7)
      go_roundw
      case rel => exact ⟨k + 1, _, by omega, by rw [unhid HW1], unhid HR7, unhid HM7, Nat.le_trans put_len (by have := unhid HKL; omega), unhid HRD7, unhid HB7⟩
      case measure => rw [unhid HW1]; simp [intOf]; omega
    · obtain rfl : k = L2.length := by omega
      have HMK := hid (show ∀ r, r ∈ K ↔ r ∈ L2 from fun r => by rw [unhid HMK r, List.take_length])
      go_wp2_with fail
      refine (pwaiting_calls wr ((unhid HK).below (unhid HB) (unhid HLO).1 (unhid HLO).2) (by have := unhid HSN; omega) (unhid HA) (unhid HM)).mono ?_
      rintro e W3 ⟨v, rfl, hrow, hb⟩
      obtain ⟨Aw, cw, rfl, hrd, -⟩ := own_slice hrow
      have HWD := hid hrd
      have HR := hid (GMap.below (unhid HR) hb (GMap.lt (unhid HR)))
      have HB := hid ((unhid HB).trans (hb.mono (unhid HB).size))
      have HWL := hid (show (waitL L2).length ≤ 100000 from Nat.le_trans (List.length_filter_le _ _) (unhid HLL))
      have HWV := hid (show ∀ r ∈ waitL L2, rcB r = true from fun r hr => unhid HV r (List.mem_filter.1 hr).1)
      clear hrow hb hrd HRD
      go_upto_region 9 with (fail)
      go_loopw [6] (fun iv wr => ∃ (k : Nat) (K : List Rc), k ≤ (waitL L2).length ∧ iv = .int .i64 k ∧ RSet wr mm K ∧ (∀ r, r ∈ K ↔ r ∈ L2 ∧ r ∉ (waitL L2).take k) ∧ K.length ≤ L2.length ∧ Rd wr Aw (recs (waitL L2)) ∧ Below w.heap.size w wr) (fun iv _ => (waitL L2).length - (intOf iv).toNat)
      case atStart => exact ⟨0, K, Nat.zero_le _, rfl, unhid HR, fun r => by rw [unhid HMK r]; simp, unhid HKL, unhid HWD, unhid HB⟩
      case round =>
        clear HR HMK HKL HWD HB hlt hk
        obtain ⟨k, K, hk, rfl, hr, hmk, hkl, hrd, hb⟩ := hrel
        have HR := hid hr
        have HMK := hid hmk
        have HKL := hid hkl
        have HRD := hid hrd
        have HB := hid hb
        clear hr hmk hkl hrd hb
        by_cases hlt : k < (waitL L2).length
        · have hki : (k : Int) < ((waitL L2).length : Int) := by omega
          obtain ⟨b, off, hAe, hbl, hc⟩ := (unhid HRD) (recs_ne hlt)
          subst hAe
          obtain ⟨x, hx⟩ : ∃ x, (waitL L2)[k]'hlt = x := ⟨_, rfl⟩
          have HX := hid hx
          have HXV := hid (unhid HWV x (hx ▸ List.getElem_mem hlt))
          obtain ⟨a0, a1, a2, a3, a4, a5, a6, a7, a8', a9, a10, a11, a12, a13⟩ := rec_at14 hc hlt hx
          have HW1 := hid (show wrap64 ((k : Int) + 1) = ((k + 1 : Nat) : Int) from by have h1 := unhid HWL; unfold wrap64; omega)
          clear hc hx
          go_wp2_with (at_delete; refine wpList_gdel rfl _ _ 52 rfl 4 Try.underlying52 rfl (unhid HR) x (rcW_of (unhid HXV)) rfl ?_; intro w7 hm7 hg7)
          rw [del_setE] at hm7
          have HR7 := hid (show RSet w7 mm (K.filter (fun q => !decide (q = x))) from hm7)
          have HRD7 := hid (rd_noNum (unhid HRD) (recs_nums _) (.map (GMap.isMap (unhid HR))) hg7)
          have HB7 := hid ((unhid HB).grown hg7 (unhid HB).size (fun j e => by cases e; exact Nat.le_of_eq (unhid HMM).symm))
          have HM7 := hid (show ∀ r, r ∈ K.filter (fun q => !decide (q = x)) ↔ r ∈ L2 ∧ r ∉ (waitL L2).take (k + 1) from fun r => by
            rw [del_mem, unhid HMK r, mem_take_succ hlt (unhid HX)]
            constructor
            · rintro ⟨⟨h1, h2⟩, h3⟩
              exact ⟨h1, fun h => h.elim h3 h2⟩
            · rintro ⟨h1, h2⟩
              exact ⟨⟨h1, fun h => h2 (.inr h)⟩, fun h => h2 (.inl h)⟩)
          clear hm7 hg7
          go_roundw
          case rel => exact ⟨k + 1, _, by omega, by rw [unhid HW1], unhid HR7, unhid HM7, Nat.le_trans (List.length_filter_le _ _) (unhid HKL), unhid HRD7, unhid HB7⟩
          case measure => rw [unhid HW1]; simp [intOf]; omega
        · obtain rfl : k = (waitL L2).length := by omega
          have HP := hid (show CoPost w L2 (.returned (.map (some mm))) wr from ⟨mm, K, rfl, unhid HR, fun r => by
            rw [unhid HMK r, List.take_length]
            unfold waitL
            rw [List.mem_filter]
            constructor
            · rintro ⟨h1, h2⟩
              refine ⟨h1, ?_⟩
              cases hc : cntB L2 r with
              | true => rfl
              | false => exact absurd ⟨h1, by simp [hc]⟩ h2
            · rintro ⟨h1, h2⟩
              exact ⟨h1, fun h3 => by rw [h2] at h3; exact absurd h3.2 (by simp)⟩, unhid HKL, Nat.le_of_eq (unhid HMM).symm, unhid HB⟩)
          go_wp2_with fail
          go_ret
          exact unhid HP

end Go.Proofs.Ytegghimjmbgghaa
