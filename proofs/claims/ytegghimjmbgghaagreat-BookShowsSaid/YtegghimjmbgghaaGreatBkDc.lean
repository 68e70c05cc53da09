/-
  What is heard in books that are only written. No program in sight.
-/
import Derived.Test.YtegghimjmbgghaaGreatBkGo
import Derived.Test.YtegghimjmbgghaaGreatBkDi
set_option linter.unusedSimpArgs false
set_option linter.unusedVariables false
namespace Go.Proofs.YtegghimjmbgghaaGreat

theorem mem_valsP {l : List Rc} {v : Int} : v ∈ valsP l ↔ ∃ r ∈ l, headB l r = true ∧ r.val = v := by
  unfold valsP
  rw [mem_setI, List.mem_map]
  constructor
  · rintro ⟨r, hr, e⟩
    obtain ⟨h1, h2⟩ := List.mem_filter.1 hr
    exact ⟨r, h1, h2, e⟩
  · rintro ⟨r, h1, h2, e⟩
    exact ⟨r, List.mem_filter.2 ⟨h1, h2⟩, e⟩
theorem valsP_asc (l : List Rc) : AscI (valsP l) := setI_asc _
theorem headB_iff {l : List Rc} {r : Rc} : headB l r = true ↔ ∀ q ∈ l, befB r q = false := by
  simp [headB, List.all_eq_true]
theorem valsP_congr {l m : List Rc} (h : ∀ r, r ∈ l ↔ r ∈ m) : valsP l = valsP m := by
  refine ascI_eq (valsP_asc _) (valsP_asc _) (fun v => ?_)
  rw [mem_valsP, mem_valsP]
  constructor
  · rintro ⟨r, h1, h2, e⟩
    exact ⟨r, (h r).1 h1, headB_iff.2 fun q hq => headB_iff.1 h2 q ((h q).2 hq), e⟩
  · rintro ⟨r, h1, h2, e⟩
    exact ⟨r, (h r).2 h1, headB_iff.2 fun q hq => headB_iff.1 h2 q ((h q).1 hq), e⟩
theorem mem_case {L : List Rc} {c : Int × Int} {r : Rc} : r ∈ (cntL L).filter (csB c.1 c.2) ↔ r ∈ L ∧ cntB L r = true ∧ r.sign = c.1 ∧ r.fld = c.2 := by
  unfold cntL
  rw [List.mem_filter, List.mem_filter]
  simp [csB, and_assoc]
theorem valuesP_congr {S T : List Rc} (h : ∀ r, r ∈ S ↔ r ∈ T) (sign fld : Int) : valuesP S sign fld = valuesP T sign fld := by
  unfold valuesP
  refine valsP_congr fun r => ?_
  have h1 := mem_case (L := S) (c := (sign, fld)) (r := r)
  have h2 := mem_case (L := T) (c := (sign, fld)) (r := r)
  dsimp only at h1 h2
  rw [h1, h2, cntB_perm h r, h r]
theorem Good.case {S : List Rc} (hG : Good S) {c : Int × Int} {r : Rc} : r ∈ (cntL S).filter (csB c.1 c.2) ↔ r ∈ S ∧ r.sign = c.1 ∧ r.fld = c.2 := by
  rw [mem_case]
  exact ⟨fun h => ⟨h.1, h.2.2⟩, fun h => ⟨h.1, hG.cntB h.1, h.2⟩⟩
theorem ascI_one {l : List Int} {v : Int} (hA : AscI l) (h : ∀ x, x ∈ l ↔ x = v) : l = [v] := ascI_eq hA (by simp [AscI]) (fun x => by rw [h x]; simp)
theorem ascI_two {l : List Int} {a b : Int} (hA : AscI l) (h : ∀ x, x ∈ l ↔ x = a ∨ x = b) : l = if a = b then [a] else [min a b, max a b] := by
  by_cases e : a = b
  · rw [if_pos e]
    subst e
    exact ascI_one hA (fun x => by rw [h x]; simp)
  · rw [if_neg e]
    refine ascI_eq hA ?_ (fun x => ?_)
    · simp only [AscI, List.pairwise_cons, List.mem_singleton, forall_eq, List.not_mem_nil, false_implies, implies_true, List.Pairwise.nil, and_true]
      omega
    · rw [h x]
      simp only [List.mem_cons, List.not_mem_nil, or_false]
      omega
theorem ascI_le_one {l : List Int} (hA : AscI l) (h : ∀ x ∈ l, ∀ y ∈ l, x = y) : l.length ≤ 1 := by
  match l, hA, h with
  | [], _, _ => simp
  | [a], _, _ => simp
  | a :: b :: l, hA, h =>
    have h1 := (List.pairwise_cons.1 hA).1 b (by simp)
    have h2 := h a (by simp) b (by simp)
    omega
/-- A case in which of any two records one had seen the other. -/
theorem one_value {L : List Rc} {c : Int × Int} (hch : ∀ r ∈ (cntL L).filter (csB c.1 c.2), ∀ q ∈ (cntL L).filter (csB c.1 c.2), r ≠ q → befB r q = true ∨ befB q r = true) : (valuesP L c.1 c.2).length ≤ 1 := by
  unfold valuesP
  refine ascI_le_one (valsP_asc _) (fun x hx y hy => ?_)
  obtain ⟨r, h1, h2, rfl⟩ := mem_valsP.1 hx
  obtain ⟨q, h3, h4, rfl⟩ := mem_valsP.1 hy
  by_cases e : r = q
  · rw [e]
  · rcases hch r h1 q h3 e with h | h
    · rw [headB_iff.1 h2 q h3] at h; cases h
    · rw [headB_iff.1 h4 r h1] at h; cases h
section
variable {S : List Rc}
/-- Nothing is disputed. -/
theorem Good.no_disp (hG : Good S) (hC : Chain S) (c : Int × Int) : (valuesP S c.1 c.2).length ≤ 1 :=
  one_value fun r hr q hq hne => hC r (hG.case.1 hr).1 q (hG.case.1 hq).1 hne
/-- A record that follows all is the value alone. -/
theorem Nxt.value {r : Rc} (hv : ∀ r ∈ S, rcB r = true) (hG : Good S) (h : Nxt S r) : valuesP (S ++ [r]) r.sign r.fld = [r.val] := by
  have hG2 := h.good hv hG
  have hrm : r ∈ (cntL (S ++ [r])).filter (csB r.sign r.fld) := (hG2.case (c := (r.sign, r.fld))).2 ⟨by simp, rfl, rfl⟩
  refine ascI_one (valsP_asc _) (fun v => ?_)
  unfold valuesP
  rw [mem_valsP]
  constructor
  · rintro ⟨x, h1, h2, rfl⟩
    have hx := ((hG2.case (c := (r.sign, r.fld))).1 h1).1
    rcases List.mem_append.1 hx with hx | hx
    · have := headB_iff.1 h2 r hrm
      rw [h.bef hv hG hx] at this
      cases this
    · rw [List.mem_singleton] at hx; rw [hx]
  · rintro rfl
    refine ⟨r, hrm, headB_iff.2 fun q hq => ?_, rfl⟩
    have hx := ((hG2.case (c := (r.sign, r.fld))).1 hq).1
    rcases List.mem_append.1 hx with hx | hx
    · exact h.not hv hG hx
    · rw [List.mem_singleton] at hx; subst hx; exact bef_self h.v
/-- Two that follow all and have not seen each other. -/
structure Both (S E : List Rc) (x y : Rc) : Prop where
  hx : Nxt S x
  hy : Nxt S y
  ne : x.tb ≠ y.tb
  mem : ∀ r, r ∈ E ↔ r ∈ S ∨ r = x ∨ r = y
variable {E : List Rc} {x y : Rc}
theorem Both.good (h : Both S E x y) (hv : ∀ r ∈ S, rcB r = true) (hG : Good S) : Good E := by
  have hst : ∀ t n, Straight E t n := by
    intro t n a ha b hb e1 e2 e3 _
    have hC := (h.hx.good hv hG).straight t a.num
    have hD := (h.hy.good hv hG).straight t a.num
    rcases (h.mem a).1 ha with ha1 | ha1 | ha1 <;> rcases (h.mem b).1 hb with hb1 | hb1 | hb1
    · exact hC a (by simp [ha1]) b (by simp [hb1]) e1 e2 e3 (Int.le_refl _)
    · exact hC a (by simp [ha1]) b (by simp [hb1]) e1 e2 e3 (Int.le_refl _)
    · exact hD a (by simp [ha1]) b (by simp [hb1]) e1 e2 e3 (Int.le_refl _)
    · exact hC a (by simp [ha1]) b (by simp [hb1]) e1 e2 e3 (Int.le_refl _)
    · rw [ha1, hb1]
    · exact absurd (by rw [← ha1, ← hb1, e1, e2]) h.ne
    · exact hD a (by simp [ha1]) b (by simp [hb1]) e1 e2 e3 (Int.le_refl _)
    · exact absurd (by rw [← ha1, ← hb1, e1, e2]) h.ne
    · rw [ha1, hb1]
  intro r hr
  rcases (h.mem r).1 hr with h1 | h1 | h1
  · exact hG.mono (fun q hq => (h.mem q).2 (.inl hq)) h1 (hst _ _)
  · refine (h.hx.good hv hG).mono (fun q hq => (h.mem q).2 ?_) (by simp [h1]) (hst _ _)
    simpa [or_assoc] using (show q ∈ S ∨ q = x ∨ q = y from (List.mem_append.1 hq).elim .inl (fun e => .inr (.inl (List.mem_singleton.1 e))))
  · refine (h.hy.good hv hG).mono (fun q hq => (h.mem q).2 ?_) (by simp [h1]) (hst _ _)
    exact (List.mem_append.1 hq).elim .inl (fun e => .inr (.inr (List.mem_singleton.1 e)))
theorem Both.valid (h : Both S E x y) (hv : ∀ r ∈ S, rcB r = true) : ∀ r ∈ E, rcB r = true := fun r hr => by
  rcases (h.mem r).1 hr with h1 | rfl | rfl
  · exact hv r h1
  · exact h.hx.v
  · exact h.hy.v
theorem Both.xy (h : Both S E x y) (hv : ∀ r ∈ S, rcB r = true) : befB x y = false ∧ befB y x = false := by
  have ox := rc_ok h.hx.v
  have oy := rc_ok h.hy.v
  have h1 := h.hy.seen x.tb ox.tb.1
  have h2 := h.hx.seen y.tb oy.tb.1
  have h3 := h.hx.num
  have h4 := h.hy.num
  constructor
  · simp only [befB, Bool.and_eq_false_iff, decide_eq_false_iff_not]
    exact .inr (by omega)
  · simp only [befB, Bool.and_eq_false_iff, decide_eq_false_iff_not]
    exact .inr (by omega)
theorem Both.values (h : Both S E x y) (hv : ∀ r ∈ S, rcB r = true) (hG : Good S) (e1 : y.sign = x.sign) (e2 : y.fld = x.fld) : valuesP E x.sign x.fld = if x.val = y.val then [x.val] else [min x.val y.val, max x.val y.val] := by
  have hG2 := h.good hv hG
  have hxm : x ∈ (cntL E).filter (csB x.sign x.fld) := (hG2.case (c := (x.sign, x.fld))).2 ⟨(h.mem x).2 (.inr (.inl rfl)), rfl, rfl⟩
  have hym : y ∈ (cntL E).filter (csB x.sign x.fld) := (hG2.case (c := (x.sign, x.fld))).2 ⟨(h.mem y).2 (.inr (.inr rfl)), e1, e2⟩
  obtain ⟨n1, n2⟩ := h.xy hv
  refine ascI_two (valsP_asc _) (fun v => ?_)
  unfold valuesP
  rw [mem_valsP]
  constructor
  · rintro ⟨z, h1, h2, rfl⟩
    rcases (h.mem z).1 ((hG2.case (c := (x.sign, x.fld))).1 h1).1 with hz | hz | hz
    · have := headB_iff.1 h2 x hxm
      rw [h.hx.bef hv hG hz] at this
      cases this
    · exact .inl (by rw [hz])
    · exact .inr (by rw [hz])
  · rintro (rfl | rfl)
    · refine ⟨x, hxm, headB_iff.2 fun q hq => ?_, rfl⟩
      rcases (h.mem q).1 ((hG2.case (c := (x.sign, x.fld))).1 hq).1 with hz | hz | hz
      · exact h.hx.not hv hG hz
      · rw [hz]; exact bef_self h.hx.v
      · rw [hz]; exact n1
    · refine ⟨y, hym, headB_iff.2 fun q hq => ?_, rfl⟩
      rcases (h.mem q).1 ((hG2.case (c := (x.sign, x.fld))).1 hq).1 with hz | hz | hz
      · exact h.hy.not hv hG hz
      · rw [hz]; exact n2
      · rw [hz]; exact bef_self h.hy.v
theorem Both.disp (h : Both S E x y) (hv : ∀ r ∈ S, rcB r = true) (hG : Good S) (hC : Chain S) (e1 : y.sign = x.sign) (e2 : y.fld = x.fld) {D : List (Int × Int)} (hA : AscP D) (hD : ∀ c, c ∈ D ↔ 1 < (valuesP E c.1 c.2).length) : D = if x.val = y.val then [] else [(x.sign, x.fld)] := by
  have hG2 := h.good hv hG
  have hval := h.values hv hG e1 e2
  have hoth : ∀ c : Int × Int, c ≠ (x.sign, x.fld) → ¬ 1 < (valuesP E c.1 c.2).length := fun c hc => by
    have := one_value (L := E) (c := c) (fun r hr q hq hne => by
      obtain ⟨r1, r2, r3⟩ := hG2.case.1 hr
      obtain ⟨q1, q2, q3⟩ := hG2.case.1 hq
      have hin : ∀ z, z ∈ E → z.sign = c.1 → z.fld = c.2 → z ∈ S := fun z hz z1 z2 => by
        rcases (h.mem z).1 hz with hz | rfl | rfl
        · exact hz
        · exact absurd (Prod.ext z1.symm z2.symm) hc
        · exact absurd (Prod.ext (z1.symm.trans e1) (z2.symm.trans e2)) hc
      exact hC r (hin r r1 r2 r3) q (hin q q1 q2 q3) hne)
    omega
  by_cases e : x.val = y.val
  · rw [if_pos e] at hval ⊢
    refine List.eq_nil_iff_forall_not_mem.2 fun c hc => ?_
    by_cases hce : c = (x.sign, x.fld)
    · have := (hD c).1 hc
      rw [hce, hval] at this
      simp at this
    · exact hoth c hce ((hD c).1 hc)
  · rw [if_neg e] at hval ⊢
    refine ascP_eq hA (by simp [AscP]) (fun c => ?_)
    rw [hD c, List.mem_singleton]
    constructor
    · intro h1
      by_cases hce : c = (x.sign, x.fld)
      · exact hce
      · exact absurd h1 (hoth c hce)
    · rintro rfl
      rw [hval]
      simp
end
/-- Whether a note can be written into a small book that is only written. -/
def fineB (tab hour sign fld val : Int) : Bool := btw 1 tab 8 && btw 0 hour 10000000 && btw 1 sign 1000000000 && btw 1 fld 6 && btw (-1099511627776) val 1099511627776
theorem fine_write {S : List Rc} (hv : ∀ r ∈ S, rcB r = true) (hG : Good S) (hu : ∀ t, t < 8 → upT S t ≤ 1000) {tab hour sign fld val : Int} (hf : fineB tab hour sign fld val = true) :
    writeR S tab hour sign fld val = (newR (upT S) tab hour sign fld val, 0, S ++ [newR (upT S) tab hour sign fld val]) ∧ Nxt S (newR (upT S) tab hour sign fld val) := by
  simp only [fineB, btw, Bool.and_eq_true, decide_eq_true_eq] at hf
  obtain ⟨⟨⟨⟨h1, h2⟩, h3⟩, h4⟩, h5⟩ := hf
  have hb : btw 1 tab 8 = true := by simp [btw, h1]
  have ht8 : (tab - 1).toNat < 8 := by omega
  have hpos := (upT_up S).pos (tab - 1).toNat
  have hle := hu _ ht8
  have hr : rcB (newR (upT S) tab hour sign fld val) = true := rc_of ⟨h1, by show 1 ≤ upT S _ + 1 ∧ upT S _ + 1 ≤ 1000000; omega, h2, h3, h4, h5, fun t ht => by
    rw [newR_sn _ _ _ _ _ _ ht]
    have := (upT_up S).pos t
    have := hu t ht
    omega, by
    show (newR (upT S) tab hour sign fld val).sn (tab - 1).toNat = upT S (tab - 1).toNat + 1 - 1
    rw [newR_sn _ _ _ _ _ _ ht8]
    omega⟩
  refine ⟨?_, newR_nxt hb hr⟩
  unfold writeR
  rw [hb, hr, if_neg (by simp), if_neg (by simp), if_neg (hG.frk hv _), if_neg (by rw [hG.num hv]; simp)]
theorem unfine_write {S : List Rc} {tab hour sign fld val : Int} (hf : fineB tab hour sign fld val = false) : writeR S tab hour sign fld val = (rc0, 2, S) := by
  unfold writeR
  by_cases h1 : btw 1 tab 8 = false
  · rw [if_pos h1]
  · rw [if_neg h1]
    have hr : rcB (newR (upT S) tab hour sign fld val) = false := by
      cases hr : rcB (newR (upT S) tab hour sign fld val) with
      | false => rfl
      | true =>
        have o := rc_ok hr
        have : fineB tab hour sign fld val = true := by
          simp only [fineB, btw, Bool.and_eq_true, decide_eq_true_eq]
          exact ⟨⟨⟨⟨o.tab, o.hour⟩, o.sign⟩, o.fld⟩, o.val⟩
        rw [hf] at this
        cases this
    rw [if_pos hr]

end Go.Proofs.YtegghimjmbgghaaGreat
