/-
  Lists of records filtered: Waiting of both packages.
-/
import Derived.Test.YtegghimjmbgghaaGreatBkRg
set_option linter.unusedSimpArgs false
set_option linter.unusedVariables false
namespace Go.Proofs.YtegghimjmbgghaaGreat
open Go.RowKit Go.Shelf

/-- A list of records in memory of its own. -/
def OwnPost (w : World) (l : List Rc) (e : Ending) (w' : World) : Prop := ∃ v, e = .returned v ∧ w'.ownsRow w.heap.size 82 14 v l.length (recs l) ∧ Below w.heap.size w w'
structure FilI (w0 : World) (L : List Rc) (p : Rc → Bool) (k : Nat) (v : Value) (w : World) : Prop where
  own : w.ownsRow w0.heap.size 82 14 v ((L.take k).filter p).length (recs ((L.take k).filter p))
  b : Below w0.heap.size w0 w
theorem filI_yes {w0 w w1 : World} {L : List Rc} {p : Rc → Bool} {k : Nat} {v v' : Value} {x : Rc} {tmp : Obj} (h : FilI w0 L p k v w) (hk : k < L.length) (hx : L[k]'hk = x) (hp : p x = true)
    (hown : w1.ownsRow w0.heap.size 82 14 v' (((L.take k).filter p).length + 1) (recs ((L.take k).filter p) ++ rcC x)) (hg : (w.alloc tmp).grownBy w1 v.ownBlock) : FilI w0 L p (k + 1) v' w1 := by
  refine ⟨?_, ?_⟩
  · rw [filter_take_yes hk hx hp, List.length_append, recs_append, recs_one]; exact hown
  · exact (h.b.alloc h.b.size tmp).grown hg (by simp; have := h.b.size; omega) (fun j hj => (own_block_lt h.own hj).1)
theorem filI_no {w0 w : World} {L : List Rc} {p : Rc → Bool} {k : Nat} {v : Value} {x : Rc} (h : FilI w0 L p k v w) (hk : k < L.length) (hx : L[k]'hk = x) (hp : p x = false) : FilI w0 L p (k + 1) v w := by
  refine ⟨?_, h.b⟩
  rw [filter_take_no hk hx hp]; exact h.own
theorem filI_end {w0 w : World} {L : List Rc} {p : Rc → Bool} {v : Value} (h : FilI w0 L p L.length v w) : w.ownsRow w0.heap.size 82 14 v (L.filter p).length (recs (L.filter p)) ∧ Below w0.heap.size w0 w := by
  have h1 := h.own
  rw [List.take_length] at h1
  exact ⟨h1, h.b⟩

set_option maxHeartbeats 4000000 in
set_option maxRecDepth 100000 in
theorem rwaiting_calls {B : Nat} {L : List Rc} (w : World) (h : RbAt w B L) (hL : L.length ≤ 1000000) :
    Calls Tryz.prog 14 #[.pointer (some ⟨B, 0, none⟩)] w fun e w' => OwnPost w (waitL L) e w' := by
  obtain ⟨i0, hi, hz0, hz1, hz2⟩ := info_parts info_rec
  obtain ⟨A, c, A2, c2, hk, hcap⟩ := h.b
  have HK := hid hk
  have HLL := hid hL
  clear h hL hk hcap
  obtain ⟨pv, hpv⟩ : ∃ pv : Rc → Bool, pv = (fun r => !cntB L r) := ⟨_, rfl⟩
  have HPV := hid hpv
  clear hpv
  go_enter Tryz.func14, Tryz.ntmps14
  go_upto_region 3 with (fail)
  go_loopw [4, 3] (fun iv v wr => ∃ k : Nat, k ≤ L.length ∧ iv = .int .i64 k ∧ FilI w L pv k v wr) (fun iv _ _ => L.length - (intOf iv).toNat)
  case atStart => exact ⟨0, Nat.zero_le _, rfl, World.ownsRow_nil _ _ _ _, Below.refl _ _⟩
  case round =>
    obtain ⟨k, hk, rfl, hsp⟩ := hrel
    have HSP := hid hsp
    have HKR := hid ((unhid HK).below hsp.b)
    clear hsp
    have c0 := (unhid HKR).cell0
    have c1 := (unhid HKR).cell1
    by_cases hlt : k < L.length
    · have hki : (k : Int) < (L.length : Int) := by omega
      have hcl : (L.map (cntB L)).length = L.length := by simp
      obtain ⟨b, off, hAe, hbl, hc⟩ := (unhid HKR).l (recs_ne hlt)
      obtain ⟨b', off', hAe', hbl', hc'⟩ := (unhid HKR).n (fun e => by
        have h1 := congrArg List.length e
        simp [boolsV] at h1
        subst h1
        simp at hlt)
      subst hAe hAe'
      obtain ⟨x, hx⟩ : ∃ x, L[k]'hlt = x := ⟨_, rfl⟩
      have HX := hid hx
      have d0 := hc' k (.bool (cntB L x)) (by
        simp only [boolsV, List.map_map, List.getElem?_map, List.getElem?_eq_getElem hlt, hx, Option.map_some]
        rfl)
      obtain ⟨a0, a1, a2, a3, a4, a5, a6, a7, a8', a9, a10, a11, a12, a13⟩ := rec_at14 hc hlt hx
      have HW1 := hid (show wrap64 ((k : Int) + 1) = ((k + 1 : Nat) : Int) from by have h1 := unhid HLL; unfold wrap64; omega)
      rw [hcl] at c1
      clear hc hc' hx hcl
      cases hcb : cntB L x with
      | true =>
        have HCB := hid (show ((fun r => !cntB L r) x) = false from by simp [hcb])
        rw [hcb] at d0
        clear hcb
        have HP := hid (show (pv x) = false from by rw [unhid HPV]; exact unhid HCB)
        have HN := hid (filI_no (unhid HSP) hlt (unhid HX) (unhid HP))
        go_wp2_with fail
        go_roundw
        case rel => exact ⟨k + 1, by omega, by rw [unhid HW1], unhid HN⟩
        case measure => rw [unhid HW1]; simp [intOf]; omega
      | false =>
        have HCB := hid (show ((fun r => !cntB L r) x) = true from by simp [hcb])
        rw [hcb] at d0
        clear hcb
        have HP := hid (show (pv x) = true from by rw [unhid HPV]; exact unhid HCB)
        have hy := (unhid HSP).own
        have hlc : ((L.take k).filter pv).length ≤ 1000000 := Nat.le_trans (List.length_filter_le _ _) (by rw [List.length_take]; have := unhid HLL; omega)
        have hsz := (unhid HSP).b.size
        go_wp2_with (at_builtin; refine wpList_append_own_at _ rfl _ _ 22 rfl w.heap.size 82 i0 (.agg (rcA rc0)) 14 112 Tryz.underlying22 hi hz0 hz1 hz2 rfl (by decide) _ _ _ rfl (hy.alloc _) ⟨wr.heap.size, 0, none⟩ 1 1 (rcC x) rfl rfl (rc_news wr x) (rcC_one1 x) (by unfold maxLen; omega) (by omega) (by simp; omega) ?_; intro v' w6 hown' hgrow hnil hat)
        have HN := hid (filI_yes (unhid HSP) hlt (unhid HX) (unhid HP) hown' hgrow)
        clear hy hlc hsz hown' hgrow hnil hat a0 a1 a2 a3 a4 a5 a6 a7 a8' a9 a10 a11 a12 a13 c0 c1 d0
        go_wp2_with fail
        go_roundw
        case rel => exact ⟨k + 1, by omega, by rw [unhid HW1], unhid HN⟩
        case measure => rw [unhid HW1]; simp [intOf]; omega
    · obtain rfl : k = L.length := by omega
      have HEND := hid (filI_end (unhid HSP))
      rw [unhid HPV] at HEND
      go_wp2_with fail
      go_ret
      exact ⟨_, rfl, (unhid HEND).1, (unhid HEND).2⟩

set_option maxRecDepth 100000 in
theorem pwaiting_calls {B m : Nat} {S L : List Rc} (w : World) (h : BkAt w B m S) (hS : S.length ≤ 1000000) (hA : Asc L) (hm : ∀ r, r ∈ S ↔ r ∈ L) :
    Calls Tryz.prog 13 #[.pointer (some ⟨B, 0, none⟩)] w fun e w' => OwnPost w (waitL L) e w' := by
  have HC := hid (split_calls w h hS)
  have HA := hid hA
  have HM := hid hm
  clear h hS hA hm
  go_enter Tryz.func13, Tryz.ntmps13
  go_wp2_with fail
  refine (unhid HC).mono ?_
  rintro e w2 ⟨v, u, L2, rfl, hp, hA2, -, h2, -, hb⟩
  obtain rfl : L2 = L := asc_eq hA2 (unhid HA) (fun r => by rw [hp.mem_iff, unhid HM r])
  have HU := hid h2
  have HB := hid hb
  clear hp hA2 h2 hb
  go_wp2_with fail
  go_ret
  exact ⟨_, rfl, unhid HU, unhid HB⟩

end Go.Proofs.YtegghimjmbgghaaGreat
