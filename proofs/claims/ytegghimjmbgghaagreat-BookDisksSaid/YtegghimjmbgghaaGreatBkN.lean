/-
  Values; maps.Copy at a set of records; Join.
-/
import Derived.Test.YtegghimjmbgghaaGreatBkL
set_option linter.unusedSimpArgs false
set_option linter.unusedVariables false
namespace Go.Proofs.YtegghimjmbgghaaGreat
open Go.RowKit Go.Shelf

theorem btw_iff {a n b : Int} : btw a n b = true ↔ a ≤ n ∧ n ≤ b := by simp [btw]
/-- What Values returns. -/
def ValuesPost (w : World) (S : List Rc) (sign fld : Int) (e : Ending) (w' : World) : Prop :=
  ∃ v, e = .returned (.tuple #[v, .int .i64 (if btw 1 sign 1000000000 && btw 1 fld 6 then 0 else 2)]) ∧
    w'.ownsRow w.heap.size 3 1 v (if btw 1 sign 1000000000 && btw 1 fld 6 then valuesP S sign fld else []).length (ints (if btw 1 sign 1000000000 && btw 1 fld 6 then valuesP S sign fld else [])) ∧ Below w.heap.size w w'

set_option maxHeartbeats 4000000 in
set_option maxRecDepth 100000 in
theorem pvalues_calls (sign fld : Int) {B m : Nat} {S : List Rc} (w : World) (h : BkAt w B m S) (hA : Asc S) (hS : S.length ≤ 1000000) :
    Calls Tryz.prog 20 #[.pointer (some ⟨B, 0, none⟩), .int .i64 sign, .int .i64 fld] w fun e w' => ValuesPost w S sign fld e w' := by
  have HK := hid h
  have HA := hid hA
  have HS := hid hS
  clear h hA hS
  go_enter Tryz.func20, Tryz.ntmps20
  cases d0 : btw 1 sign 1000000000 with
  | false =>
    have HP := hid (show ValuesPost w S sign fld (.returned (.tuple #[.slice none 0 0, .int .i64 2])) w from ⟨.slice none 0 0, by simp [d0], by simp only [d0, Bool.false_and, Bool.false_eq_true, if_false]; exact World.ownsRow_nil _ _ _ _, Below.refl _ _⟩)
    go_wp2_with (first | (go_at_call 56; refine (none_calls _ (unhid HK)).mono ?_; rintro e w' ⟨rfl, rfl⟩) | (go_at_call 57; refine (within_calls _ _ _ _).mono ?_; rintro e w' ⟨rfl, rfl⟩))
    go_ret2
    exact unhid HP
  | true =>
  cases d1 : btw 1 fld 6 with
  | false =>
    have HP := hid (show ValuesPost w S sign fld (.returned (.tuple #[.slice none 0 0, .int .i64 2])) w from ⟨.slice none 0 0, by simp [d1], by simp only [d1, Bool.and_false, Bool.false_eq_true, if_false]; exact World.ownsRow_nil _ _ _ _, Below.refl _ _⟩)
    go_wp2_with (first | (go_at_call 56; refine (none_calls _ (unhid HK)).mono ?_; rintro e w' ⟨rfl, rfl⟩) | (go_at_call 57; refine (within_calls _ _ _ _).mono ?_; rintro e w' ⟨rfl, rfl⟩))
    go_ret2
    exact unhid HP
  | true =>
    have HD := hid (show (btw 1 sign 1000000000 && btw 1 fld 6) = true by rw [d0, d1]; rfl)
    have HCW := hid (show CsW (sign, fld) from ⟨by have := btw_iff.1 d0; show I64 sign; unfold I64; omega, by have := btw_iff.1 d1; show I64 fld; unfold I64; omega⟩)
    have HV := hid (unhid HK).v
    go_upto_region 3 with (first | (go_at_call 56; refine (none_calls _ (unhid HK)).mono ?_; rintro e w' ⟨rfl, rfl⟩) | (go_at_call 57; refine (within_calls _ _ _ _).mono ?_; rintro e w' ⟨rfl, rfl⟩))
    clear d0 d1
    go_wp2_with fail
    refine (cases_calls w (unhid HK) (unhid HS)).mono ?_
    rintro e w2 ⟨mm, E, L, rfl, hm, hE, hp, hLA, -, hb⟩
    obtain rfl : L = S := asc_eq hLA (unhid HA) (fun r => hp.mem_iff)
    obtain ⟨hrow, -⟩ := hE.get hm.nodup (sign, fld)
    have HM := hid hm
    have HB := hid hb
    have HL := hid (fun r (hr : r ∈ (cntL L).filter (csB sign fld)) => (unhid HV) r (List.mem_filter.1 (List.mem_filter.1 hr).1).1)
    have HLN := hid (show ((cntL L).filter (csB sign fld)).length ≤ 1000000 from Nat.le_trans (List.length_filter_le _ _) (Nat.le_trans (List.length_filter_le _ _) (unhid HS)))
    obtain ⟨A, c, hv, hrd, -⟩ := own_slice hrow
    have HVV := hid hv
    have HRD := hid hrd
    clear hm hb hE hp hLA hrow hv hrd
    go_wp2_with (first | (at_lookup; refine wpList_glook rfl _ _ 117 rfl 22 Tryz.underlying117 (zero_recs _) rfl (unhid HM) (sign, fld) (unhid HCW) rfl ?_; rw [unhid HVV]) | fail)
    refine (values_calls ((cntL L).filter (csB sign fld)) (unhid HL) A c w2 (unhid HRD) (unhid HLN)).mono ?_
    rintro e w3 ⟨v, rfl, hown, hb3⟩
    have HP := hid (show ValuesPost w L sign fld (.returned (.tuple #[v, .int .i64 0])) w3 from ⟨v, by simp only [unhid HD, if_true], by simp only [unhid HD, if_true]; exact own_base hown (unhid HB).size, (unhid HB).trans (hb3.mono (unhid HB).size)⟩)
    clear hown hb3
    go_wp2_with fail
    go_ret2
    exact unhid HP

/-! ### maps.Copy -/
theorem copy_mem {T Sd Ss : List Rc} {todo : List (Rc × Value)} {x : Rc} (h : ∀ z, z ∈ T ↔ z ∈ Sd ∨ (z ∈ Ss ∧ z ∉ keysE todo)) (hx : x ∈ Ss) (hk : x ∈ keysE todo) :
    ∀ z, z ∈ T.filter (fun q => !decide (q = x)) ++ [x] ↔ z ∈ Sd ∨ (z ∈ Ss ∧ z ∉ keysE (delE todo x)) := by
  intro z
  rw [List.mem_append, List.mem_singleton, List.mem_filter, h z]
  simp only [Bool.not_eq_true', decide_eq_false_iff_not]
  by_cases e : z = x
  · subst e
    simp [hx, mem_keysE_del]
  · simp [e, mem_keysE_del]
/-- The records of two sets. -/
def CopyPost (w : World) (md ms : Nat) (Sd Ss : List Rc) (w' : World) : Prop :=
  ∃ T : List Rc, RSet w' md T ∧ (∀ x, x ∈ T ↔ x ∈ Sd ∨ x ∈ Ss) ∧ T.length ≤ Sd.length + Ss.length ∧ w.grownBy w' (some md)
set_option maxHeartbeats 4000000 in
set_option maxRecDepth 100000 in
theorem rcopy_calls (md ms : Nat) (Sd Ss : List Rc) (w : World) (hd : RSet w md Sd) (hs : RSet w ms Ss) (hne : md ≠ ms) (hn : Sd.length + Ss.length ≤ 1000000) :
    Calls Tryz.prog 86 #[.map (some md), .map (some ms)] w fun e w' => e = .returned (.tuple #[]) ∧ CopyPost w md ms Sd Ss w' := by
  have HNE := hid hne
  have HD := hid hd
  have HDL := hid (GMap.lt hd)
  have HSL := hid (GMap.lt hs)
  clear hne hd
  go_enter Tryz.func86, Tryz.ntmps86
  go_wp2_with (first | (at_range; refine wpList_grange rfl _ 83 rfl 4 Tryz.underlying83 rfl hs ?_; intro w0 hr0 hg0 hs0) | go_in)
  go_frame
  go_loopw [8] (fun _ wr => ∃ (todo : List (Rc × Value)) (T : List Rc), GRng recK wr ms w.heap.size (setE Ss) todo ∧ RSet wr md T ∧ (∀ x, x ∈ T ↔ x ∈ Sd ∨ (x ∈ Ss ∧ x ∉ keysE todo)) ∧ T.length + todo.length ≤ Sd.length + Ss.length ∧ w.grownBy wr (some md)) (fun _ wr => wr.rangeLeft ms w.heap.size)
  case atStart => exact ⟨_, Sd, hr0, GMap.grown (unhid HD) hg0 (by simp), fun x => by rw [keysE_setE]; constructor; exact .inl; exact fun h => h.elim id (fun h => absurd h.1 h.2), by simp [setE], ⟨hg0.os, hg0.tape, hg0.output, hg0.size, fun k hk _ => hg0.block k hk (by simp)⟩⟩
  case round =>
    obtain ⟨todo, T, hrg, hT, hmem, hlen, hgw⟩ := hrel
    have HT := hid hT
    have HM := hid hmem
    have HLN := hid hlen
    have HG := hid hgw
    clear hT hmem hlen hgw
    go_wp2_with (first | (at_next; refine wpList_gnext rfl _ rfl rfl hrg ?_ ?_) | go_in)
    · intro hnil
      subst hnil
      have HP := hid (show CopyPost w md ms Sd Ss wr from ⟨T, unhid HT, fun x => by rw [(unhid HM) x]; simp [keysE], by have := unhid HLN; simpa using this, unhid HG⟩)
      go_wp2
      go_end0
      exact ⟨rfl, unhid HP⟩
    · intro x xv w1 hx hrg1 hlt1 hg1 hs1 hen
      obtain ⟨hxS, rfl⟩ := setE_mem (hrg.left.2 _ hx)
      have hxk : x ∈ keysE todo := mem_keysE.2 ⟨_, hx⟩
      have HWF := hid (hrg1.map.wf (x, .bool true) (List.mem_map.2 ⟨x, hxS, rfl⟩))
      have hrm : some md ≠ some w.heap.size := fun e => by have := unhid HDL; have := Option.some.inj e; omega
      have hT1 : RSet w1 md T := GMap.grown (unhid HT) hg1 hrm
      have hga := World.grownBy_alloc w1 (.cells (rcA x) 82) none
      have HT1 := hid (GMap.grown hT1 hga (by simp))
      have HRG := hid (hrg1.grown hga (by simp) (by simp))
      have HL1 := hid (show (w1.alloc (.cells (rcA x) 82)).rangeLeft ms w.heap.size < wr.rangeLeft ms w.heap.size by
        rw [GRng.left_kept (hga.block ms hrg1.map.lt (by simp)) (hga.block _ hrg1.lt (by simp))]; exact hlt1)
      have HG1 := hid (show w.grownBy (w1.alloc (.cells (rcA x) 82)) (some md) from by
        have h1 := (unhid HG).andThen hg1 (fun j hj => .inl (by cases hj; exact Nat.le_refl _))
        exact h1.andThen hga (fun j hj => by cases hj))
      have HTL := hid (show T.length < maxLen by have := unhid HLN; simp only [maxLen]; omega)
      have HDEL := hid (show (delE todo x).length + 1 = todo.length by have := len_del hrg.left.1 x; rw [if_pos hxk] at this; exact this)
      have HX := hid (⟨hxS, hxk⟩ : _ ∧ _)
      have HA := hid (RcAt.new w1 x)
      change (Instr.entry (.pointer (some ⟨w.heap.size, 0, none⟩))).run Tryz.prog w1 = .ok (.tuple #[.agg #[.int .i64 x.tab, .int .i64 x.num, .int .i64 x.hour, .int .i64 x.sign, .int .i64 x.fld, .int .i64 x.val, .int .i64 x.s0, .int .i64 x.s1, .int .i64 x.s2, .int .i64 x.s3, .int .i64 x.s4, .int .i64 x.s5, .int .i64 x.s6, .int .i64 x.s7], .bool true]) w1 at hen
      clear hx hrg1 hlt1 hg1 hs1 hxS hxk hrm hT1 hga
      go_upto_region 3 with (fail)
      change Code.wp _ _ _ _ (w1.alloc (.cells (rcA x) 82))
      generalize w1.alloc (.cells (rcA x) 82) = W1 at *
      obtain ⟨c0, c1, c2, c3, c4, c5⟩ := (unhid HA).cells
      obtain ⟨e0, e1, e2, e3, e4, e5, e6, e7⟩ := (unhid HA).seen8
      go_wp2_with (at_mapUpdate; refine wpList_gput rfl _ _ _ 83 rfl 4 Tryz.underlying83 rfl (unhid HT1) (by have := unhid HTL; simpa [setE] using this) x (unhid HWF) rfl (.bool true) rfl ?_; intro w4 hm4 hg4; go_frame)
      rw [put_setE] at hm4
      have hrg4 := (unhid HRG).grown hg4 (fun e => (unhid HNE) (Option.some.inj e).symm) (fun e => by have := unhid HDL; have := Option.some.inj e; omega)
      have hl4 : w4.rangeLeft ms w.heap.size < wr.rangeLeft ms w.heap.size := by
        rw [GRng.left_kept (hg4.block ms (unhid HRG).map.lt (fun e => (unhid HNE) (Option.some.inj e).symm)) (hg4.block _ (unhid HRG).lt (fun e => by have := unhid HDL; have := Option.some.inj e; omega))]
        exact unhid HL1
      have hmem4 : ∀ z, z ∈ T.filter (fun q => !decide (q = x)) ++ [x] ↔ z ∈ Sd ∨ (z ∈ Ss ∧ z ∉ keysE (delE todo x)) := copy_mem (unhid HM) (unhid HX).1 (unhid HX).2
      have hlen4 : (T.filter (fun q => !decide (q = x)) ++ [x]).length + (delE todo x).length ≤ Sd.length + Ss.length := by
        have h1 := List.length_filter_le (fun q => !decide (q = x)) T
        have h2 := unhid HDEL
        have h3 := unhid HLN
        rw [List.length_append, List.length_singleton]
        omega
      exact ⟨⟨delE todo x, _, hrg4, hm4, hmem4, hlen4, (unhid HG1).andThen hg4 (fun j hj => .inr hj)⟩, hl4⟩


/-! ### Join -/
def JoinPost (w : World) (B m : Nat) (S S2 : List Rc) (e : Ending) (w' : World) : Prop :=
  ∃ T : List Rc, e = .returned (.tuple #[.int .i64 ((T.length : Int) - S.length), .int .i64 0]) ∧ BkAt w' B m T ∧ (∀ x, x ∈ T ↔ x ∈ S ∨ x ∈ S2) ∧ T.length ≤ S.length + S2.length ∧ w.grownBy w' (some m)
theorem below_grownBy {w w1 w2 : World} {row : Option Nat} (hg : w.grownBy w1 row) (hb : Below w1.heap.size w1 w2) : w.grownBy w2 row :=
  ⟨hb.os.trans hg.os, hb.tape.trans hg.tape, hb.output.trans hg.output, Nat.le_trans hg.size hb.size, fun k hk hne => (hb.block k (Nat.lt_of_lt_of_le hk hg.size)).trans (hg.block k hk hne)⟩
theorem setE_len (S : List Rc) : (setE S).length = S.length := by simp [setE]
set_option maxHeartbeats 4000000 in
set_option maxRecDepth 100000 in
theorem join_calls {B m B2 m2 : Nat} {S S2 : List Rc} (w : World) (h : BkAt w B m S) (h2 : BkAt w B2 m2 S2) (hne : m ≠ m2) (hn : S.length + S2.length ≤ 1000000) :
    Calls Tryz.prog 46 #[.pointer (some ⟨B, 0, none⟩), .pointer (some ⟨B2, 0, none⟩)] w fun e w' => JoinPost w B m S S2 e w' := by
  have HK := hid h
  have HK2 := hid h2
  have HNE := hid hne
  have HN := hid hn
  have cb := h.cell
  have cb2 := h2.cell
  clear h h2 hne hn
  go_enter Tryz.func46, Tryz.ntmps46
  go_wp2_with fail
  refine (none_calls w (unhid HK)).mono ?_
  rintro e w' ⟨rfl, rfl⟩
  go_wp2_with fail
  refine (none_calls w (unhid HK2)).mono ?_
  rintro e w' ⟨rfl, rfl⟩
  go_upto_region 4 with (at_len; refine wpList_glen rfl _ 83 rfl 4 Tryz.underlying83 rfl (unhid HK).m ?_)
  rw [setE_len]
  refine wp_region_still_tail 8 (by kernel_rfl) (by kernel_rfl) ?_
  simp only [List.take_succ_cons, List.take_zero, List.drop_succ_cons, List.drop_zero]
  iterate 8 still_step
  refine wpStill_nil ?_
  change wpList _ _ _ _ _ w.drew
  have HC := hid (rcopy_calls m m2 S S2 w.drew (GMap.block (unhid HK).m rfl) (GMap.block (unhid HK2).m rfl) (unhid HNE) (unhid HN))
  go_wp2_with fail
  refine (unhid HC).mono ?_
  rintro e w3 ⟨rfl, T, hT, hmem, hlen, hg⟩
  have hgw : w.grownBy w3 (some m) := ⟨hg.os, hg.tape, hg.output, hg.size, hg.block⟩
  have hbk : BkAt w3 B m T := ⟨(hgw.block B (unhid HK).lt.1 (fun e => (unhid HK).ne (Option.some.inj e))).trans (unhid HK).b, hT, fun r hr => ((hmem r).1 hr).elim ((unhid HK).v r) ((unhid HK2).v r)⟩
  have HP := hid (show JoinPost w B m S S2 (.returned (.tuple #[.int .i64 ((T.length : Int) - S.length), .int .i64 0])) w3 from ⟨T, rfl, hbk, hmem, hlen, hgw⟩)
  have HBK := hid hbk
  have cb3 := hbk.cell
  have hl : (T.length : Int) ≤ 1000000 ∧ (S.length : Int) ≤ 1000000 := by have := unhid HN; omega
  have w1 : IntKind.i64.wrap ((T.length : Int) - (S.length : Int)) = (T.length : Int) - S.length := IntWalk.i64_in _ (by omega)
  clear hT hmem hlen hg hgw hbk cb cb2 HC
  go_wp2_with (first | (at_len; refine wpList_glen rfl _ 83 rfl 4 Tryz.underlying83 rfl (unhid HBK).m ?_; rw [setE_len]) | fail)
  go_ret2
  exact unhid HP

end Go.Proofs.YtegghimjmbgghaaGreat
