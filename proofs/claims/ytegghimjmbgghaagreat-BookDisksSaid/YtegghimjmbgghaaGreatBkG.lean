/-
  maps.Keys over a set of records; slices.AppendSeq, Collect, SortedFunc; Records.
-/
import Derived.RangeFuncNested
import Derived.RangeFuncBound
import Derived.RangeFuncCalls
import Derived.RangeFuncLeaves
import Derived.Shelf.Abstract
import Derived.Shelf.RegionOpen
import Derived.WalkKit
import Derived.OwnWalkIn
import Derived.TacticsInMore
import Derived.LoopNIn
import Derived.LoopIn
import Derived.Maps.OwnIn
import Derived.Maps.AppendAt
import Derived.Test.YtegghimjmbgghaaGreatBkF
set_option linter.unusedSimpArgs false
set_option linter.unusedVariables false
namespace Go.Proofs.YtegghimjmbgghaaGreat
open Go.RowKit Go.Shelf

attribute [local go_sem] Oper.semAt_some

theorem wide_fn (k : FuncId) : Fence.wide.fn k = True := rfl
attribute [local go_sem] wide_fn

section
variable {F : Fence} {n : Nat} {P : Program} {k : TypeId} {α : Type} [DecidableEq α] {K : KeyEnc P k α} {w : World} {ops : Array Oper} {rest : List Oper} {o : Oper} {a : Act} {Q : Exit → Act → World → Prop} {m : Nat} {E : List (α × Value)}
theorem wpListIn_grange (hg : o.guard = none) (mo : Operand) (t : TypeId) (hop : o.op = Op.range t mo) (e : TypeId) (ht : P.underlying t = some (.map k e)) (hm : a.eval mo = .map (some m)) (h : GMap K w m E)
    (hK : ∀ w', GRng K w' m w.heap.size E E → w.grownBy w' none → w'.heap.size = w.heap.size + 1 → wpListIn F n P ops Q rest (a.put o.dst (.pointer (some ⟨w.heap.size, 0, none⟩))) w') : wpListIn F n P ops Q (o :: rest) a w := by
  refine wpListIn_plain hg fun K' hK' => ?_
  obtain ⟨w', hrun, r1, r2, r3⟩ := h.range ht
  unfold Oper.wpIn
  refine ⟨by simp [Oper.about, hop], ?_⟩
  rw [Oper.semAt_plain F _ _ (by rw [hop]; intro c hc'; cases hc')]
  simp [execOp, hop, hm, hrun, Result.andThen]
  exact hK' _ _ (hK w' r1 r2 r3)
theorem wpListIn_gnext {r : Nat} {todo : List (α × Value)} (hg : o.guard = none) (it : Operand) (hop : o.op = Op.next it false) (hit : a.eval it = .pointer (some ⟨r, 0, none⟩)) (h : GRng K w m r E todo)
    (hDone : todo = [] → wpListIn F n P ops Q rest (a.put o.dst (.tuple #[.bool false])) w)
    (hMore : ∀ (x : α) (v : Value) (w' : World), (x, v) ∈ todo → GRng K w' m r E (delE todo x) → w'.rangeLeft m r < w.rangeLeft m r → w.grownBy w' (some r) → w'.heap.size = w.heap.size →
      (Instr.entry (.pointer (some ⟨r, 0, none⟩))).run P w' = .ok (.tuple #[K.enc x, v]) w' → wpListIn F n P ops Q rest (a.put o.dst (.tuple #[.bool true, K.enc x, v])) w') :
    wpListIn F n P ops Q (o :: rest) a w := by
  refine wpListIn_plain hg fun K' hK' => ?_
  unfold Oper.wpIn
  refine ⟨by simp [Oper.about, hop], ?_⟩
  rw [Oper.semAt_plain F _ _ (by rw [hop]; intro c hc'; cases hc')]
  rcases h.next o.type with ⟨h0, hrun⟩ | ⟨x, v, w', q1, hrun, q2, q3, q4, q5, q6⟩
  · simp [execOp, hop, hit, hrun, Result.andThen]
    exact hK' _ _ (hDone h0)
  · simp [execOp, hop, hit, hrun, Result.andThen]
    exact hK' _ _ (hMore x v w' q1 q2 q3 q4 q5 q6)
theorem GRng.of_walks {w w' : World} {r : Nat} {todo : List (α × Value)} (h : GRng K w m r E todo) (hk : KeepsWalks w w') : GRng K w' m r E todo ∧ w'.rangeLeft m r = w.rangeLeft m r := by
  have h0 := h
  obtain ⟨D, left, cnt, ⟨es, clock, since, seen, c0, q1, q2, q3, q4, q5, q6⟩, h2⟩ := h
  have e1 := (hk.same m _ q1 rfl).trans q1.symm
  have e2 := (hk.same r _ q5 rfl).trans q5.symm
  exact ⟨h0.block e1 e2, GRng.left_kept e1 e2⟩
theorem GRng.iter_walk {r : Nat} {todo : List (α × Value)} (h : GRng K w m r E todo) : ∃ o : Obj, w.heap[r]? = some o ∧ o.isWalk = true := by
  obtain ⟨D, left, cnt, ⟨es, clock, since, seen, c0, q1, q2, q3, q4, q5, q6⟩, h2⟩ := h
  exact ⟨_, q5, rfl⟩
end
theorem perm_del {todo : List (Rc × Value)} {x : Rc} (hn : (keysE todo).Nodup) (hx : x ∈ keysE todo) : (keysE todo).Perm (x :: keysE (delE todo x)) := by
  refine (List.perm_ext_iff_of_nodup hn (List.nodup_cons.2 ⟨fun h => (mem_keysE_del.1 h).2 rfl, nodup_del hn x⟩)).2 fun z => ?_
  rw [List.mem_cons, mem_keysE_del]
  constructor
  · intro h
    by_cases e : z = x
    · exact .inl e
    · exact .inr ⟨h, e⟩
  · rintro (rfl | ⟨h, _⟩)
    · exact hx
    · exact h

set_option maxRecDepth 100000 in
set_option maxHeartbeats 4000000 in
theorem rkeys1_in (n : Nat) (hn : 1 ≤ n) (l Bm m : Nat) (S : List Rc) (J Jx : List Rc → World → Prop) (W : World) (hJ : AbidesFrom W.heap.size J)
    (hY : ∀ pre x W1, J pre W1 → pre.length < S.length → YieldAt Fence.wide (n - 1) Tryz.prog l #[rcV x] W1 fun e W' => (e = .returned (.bool true) ∧ J (pre ++ [x]) W' ∧ KeepsWalks W1 W') ∨ (e = .returned (.bool false) ∧ Jx (pre ++ [x]) W'))
    (hm : W.cell? ⟨Bm, 0, none⟩ = some (.map (some m))) (hown : RSet W m S) (h0 : J [] W) :
    CallsIn Fence.wide n Tryz.prog 96 #[.func (.yield l) #[] #[], .pointer (some ⟨Bm, 0, none⟩)] W fun e W' => (∃ v, e = .returned v) ∧ ((∃ ys, List.Perm ys S ∧ J ys W') ∨ (∃ pre : List Rc, True ∧ Jx pre W')) := by
  refine callsIn_of_wp Tryz.func96 rfl trivial ?_ rfl
  simp only [Tryz.ntmps96, List.size_toArray, List.length_cons, List.length_nil, Nat.reduceAdd, Nat.reduceSub, Array.replicate_succ, Array.replicate_zero, List.push_toArray, List.append_toArray, List.nil_append, List.cons_append]
  have HY := hid hY
  have HJ := hid hJ
  clear hY hJ
  gi_wp2_with (first
    | (gi_at_range; refine wpListIn_grange rfl _ 83 rfl 4 Tryz.underlying83 rfl hown ?_; intro w0 hr0 hg0 hs0)
    | gi_in)
  go_frame
  gi_loopw [6] (fun _ wr => ∃ (todo : List (Rc × Value)) (ys : List Rc), GRng recK wr m W.heap.size (setE S) todo ∧ (ys ++ keysE todo).Perm S ∧ J ys wr) (fun _ wr => wr.rangeLeft m W.heap.size)
  case atStart =>
    exact ⟨_, [], hr0, by rw [keysE_setE]; exact List.Perm.refl _, (unhid HJ) [] W w0 none h0 hg0 (fun r e => by cases e)⟩
  case round =>
    obtain ⟨todo, ys, hrg, hp, hJs⟩ := hrel
    have HP := hid hp
    clear hp
    gi_wp2_with (first
      | (gi_at_next; refine wpListIn_gnext rfl _ rfl rfl hrg ?_ ?_)
      | gi_in)
    · intro hnil
      subst hnil
      gi_wp2
      go_end0
      exact ⟨⟨_, rfl⟩, .inl ⟨ys, by have := unhid HP; simpa [keysE] using this, hJs⟩⟩
    · intro x xv w2 hx hrg2 hlt2 hg2 hs2 hen
      have hxk : x ∈ keysE todo := mem_keysE.2 ⟨_, hx⟩
      have hlen : ys.length < S.length := by
        have h1 := (unhid HP).length_eq
        have h2 : 0 < (keysE todo).length := List.length_pos_of_mem hxk
        rw [List.length_append] at h1
        omega
      have HPN := hid (show ((ys ++ [x]) ++ keysE (delE todo x)).Perm S from by
        have h1 := perm_del hrg.left.1 hxk
        refine List.Perm.trans ?_ (unhid HP)
        rw [List.append_assoc]
        exact (List.Perm.append_left ys h1.symm))
      have hJ2 : J ys w2 := (unhid HJ) ys wr w2 (some W.heap.size) hJs hg2 (fun r e => by cases e; exact ⟨Nat.le_refl _, hrg.iter_walk⟩)
      have hga := World.grownBy_alloc w2 (.cells (rcA x) 82) none
      have hJ3 : J ys (w2.alloc (.cells (rcA x) 82)) := (unhid HJ) ys w2 _ none hJ2 hga (fun r e => by cases e)
      have hrg3 := hrg2.grown hga (by simp) (by simp)
      have HL := hid (show (w2.alloc (.cells (rcA x) 82)).rangeLeft m W.heap.size < wr.rangeLeft m W.heap.size by
        rw [GRng.left_kept (hga.block m hrg2.map.lt (by simp)) (hga.block _ hrg2.lt (by simp))]; exact hlt2)
      have HA := hid (RcAt.new w2 x)
      obtain ⟨fn, tmps, assign, body, hy, hR⟩ := (unhid HY) ys x _ hJ3 hlen
      unfold rcV rcA at hy
      change (Instr.entry (.pointer (some ⟨W.heap.size, 0, none⟩))).run Tryz.prog w2 = .ok (.tuple #[.agg #[.int .i64 x.tab, .int .i64 x.num, .int .i64 x.hour, .int .i64 x.sign, .int .i64 x.fld, .int .i64 x.val, .int .i64 x.s0, .int .i64 x.s1, .int .i64 x.s2, .int .i64 x.s3, .int .i64 x.s4, .int .i64 x.s5, .int .i64 x.s6, .int .i64 x.s7], xv]) w2 at hen
      have HG3 := hid hrg3
      clear hs2 hrg3 hrg2 hg2 hJ2 hJ3 hJs hga hlen hxk hx hrg hlt2
      gi_wp2
      refine hR.mono ?_
      rintro e W3 (⟨rfl, hJ4, hk4⟩ | ⟨rfl, hJx4⟩)
      · have h4 := (unhid HG3).of_walks hk4
        have HG4 := hid h4.1
        have HL4 := hid (show W3.rangeLeft m W.heap.size < wr.rangeLeft m W.heap.size by rw [h4.2]; exact unhid HL)
        clear h4
        gi_wp2
        go_roundw
        case rel => exact ⟨delE todo x, ys ++ [x], unhid HG4, unhid HPN, hJ4⟩
        case measure => exact unhid HL4
      · gi_wp2
        refine bodyPost_ret (results_none rfl _ _ _) rfl ?_
        exact ⟨⟨_, rfl⟩, .inr ⟨_, trivial, hJx4⟩⟩
theorem rkeys_calls (mb : Option Nat) (w : World) :
    Calls Tryz.prog 61 #[.map mb] w fun e w' => e = .returned (.func (.func 96) #[] #[.pointer (some ⟨w.heap.size, 0, none⟩)]) ∧ w' = w.alloc (.cells #[.map mb] 83) := by
  have hmf : ∀ (fn : Fn) (first cap : Array Value) (w : World), (Instr.makeFunc fn first cap).run Tryz.prog w = .ok (.func fn first cap) w := fun _ _ _ _ => rfl
  go_enter Tryz.func61, Tryz.ntmps61
  go_wp2_with fail
  go_ret
  exact ⟨rfl, rfl⟩
theorem rkeys_stops (n : Nat) (hn : 1 ≤ n) (Bm m : Nat) (S : List Rc) (w : World) (hB : Bm < w.heap.size) (hm : w.cell? ⟨Bm, 0, none⟩ = some (.map (some m))) (hown : RSet w m S) :
    SeqStopsK Fence.wide n Tryz.prog 96 #[.pointer (some ⟨Bm, 0, none⟩)] (fun x : Rc => #[rcV x]) KeepsWalks (fun ys => List.Perm ys S) (fun _ => True) S.length w := fun l J Jx W hW hJ hJx hY h0 =>
  rkeys1_in n hn l Bm m S J Jx W hJ hY ((hW.cell (p := ⟨Bm, 0, none⟩) hB).trans hm) (GMap.below hown hW (GMap.lt hown)) h0

/-! ### AppendSeq -/
theorem info_rec : (Tryz.prog.info? 82).map (fun i => (i.zero, i.size, i.bytes)) = some (some (.agg (rcA rc0)), 14, 112) := by kernel_rfl



theorem rc_news (W : World) (x : Rc) : ∀ j u, (rcC x)[j]? = some u → (W.alloc (.cells (rcA x) 82)).cell? ((⟨W.heap.size, 0, none⟩ : Addr).add j) = some u := by
  intro j u hu
  rw [add_at, Nat.zero_add, cell_of_row _ _ j _ _ _ (heap_alloc_new W (.cells (rcA x) 82)), ← hu, ← Array.getElem?_toList]
  rfl
theorem rcC_one1 (x : Rc) : ∀ u ∈ rcC x, u.oneCell' = true := fun u hu => rcC_one (l := [x]) u (by simpa [recs] using hu)
theorem rcAt_own (B : Nat) (x : Rc) : Own (fun (_ : Unit) W => RcAt W B x) := fun s X Y row hs hg hrow =>
  (hg.block B hs.lt (fun e' => by
    obtain ⟨o, ho, hc⟩ := hrow B e'.symm
    rw [show X.heap[B]? = _ from hs] at ho
    cases ho
    cases hc)).trans hs

set_option maxRecDepth 100000 in
set_option maxHeartbeats 4000000 in
theorem appendSeq_in (n : Nat) (hn : 4 ≤ n) (Bm m : Nat) (S : List Rc) (w : World) (hBm : Bm < w.heap.size) (hm : w.cell? ⟨Bm, 0, none⟩ = some (.map (some m))) (hown : RSet w m S) (hS : S.length ≤ 1000000) :
    CallsIn Fence.wide n Tryz.prog 117 #[.slice none 0 0, .func (.func 96) #[] #[.pointer (some ⟨Bm, 0, none⟩)]] w fun e W' =>
      ∃ (v : Value) (ys : List Rc), e = .returned v ∧ List.Perm ys S ∧ W'.ownsRow w.heap.size 82 14 v ys.length (recs ys) ∧ Below w.heap.size w W' := by
  have h1 : 1 ≤ n := by omega
  obtain ⟨i0, hi, hz0, hz1, hz2⟩ := info_parts info_rec
  refine callsIn_of_wp_marks Tryz.func117 rfl trivial ?_ rfl
  simp only [Tryz.ntmps117, List.size_toArray, List.length_cons, List.length_nil, Nat.reduceAdd, Nat.reduceSub, Array.replicate_succ, Array.replicate_zero, List.push_toArray, List.append_toArray, List.nil_append, List.cons_append]
  gi_wp2
  have bO := Boxed.new w 22 (.slice none 0 0)
  have hB0 := below_alloc w (.cells #[.slice none 0 0] 22)
  have hsz : (w.alloc (.cells #[.slice none 0 0] 22)).heap.size = w.heap.size + 1 := by simp
  obtain ⟨W0, hW0⟩ : ∃ W0, w.alloc (.cells #[.slice none 0 0] 22) = W0 := ⟨_, rfl⟩
  rw [hW0] at bO hB0 hsz ⊢
  clear hW0
  refine wpIn_rangeFunc_ownH rfl h1 (gf := 96) (lb := #[.pointer (some ⟨Bm, 0, none⟩)]) rfl trivial (enters_of Tryz.func96 (by kernel_rfl) rfl)
    (rkeys_stops (n - 1) (by omega) Bm m S W0 (by omega) ((hB0.cell (p := ⟨Bm, 0, none⟩) hBm).trans hm) (GMap.below hown hB0 (GMap.lt hown))) walksK_t (walksK_b (w := W0)) (Below.refl _ _) (fun _ => rfl)
    (fun pre W => (∃ v, Boxed W w.heap.size 22 v ∧ W.ownsRow w.heap.size 82 14 v pre.length (recs pre) ∧ True) ∧ Below w.heap.size w W)
    (fun _ _ _ => False)
    (OwnFrom.and (Own.from (holdsRow_own w.heap.size w.heap.size 22 82 14 (fun pre : List Rc => pre.length) recs (fun _ _ => True)) _) (ownFrom_below (Nat.le_refl _) (by omega)))
    (fun _ _ _ _ _ hs _ _ => hs)
    ⟨⟨_, bO, World.ownsRow_nil _ _ _ _, trivial⟩, hB0⟩
    (fun x a' W => ∃ Bx, RcAt W Bx x ∧ a' = { tmps := #[.slice none 0 0, .func (.func 96) #[] #[.pointer (some ⟨Bm, 0, none⟩)], .pointer (some ⟨w.heap.size, 0, none⟩), undef, .slice none 0 0, .pointer (some ⟨Bx, 0, none⟩), .func (.func 96) #[] #[.pointer (some ⟨Bm, 0, none⟩)], rcV x, undef, undef, undef, undef, undef], defers := [] })
    (fun x a' s X Y row hs hg hr => by
      obtain ⟨Bx, h2, h3⟩ := hs
      exact ⟨Bx, (rcAt_own Bx x) () X Y row h2 hg (fun r e => (hr r e).2), h3⟩)
    ?assign ?body ?done ?stop
  case assign =>
    rintro l pre x W K ⟨⟨v, hv, hrow, -⟩, hB⟩ hK
    have HK := hid hK
    clear hK
    have HF := hid ((unhid HK) _ _ ((KeepsOthers.alloc W (.cells (rcA x) 82)).from _) (KeepsOthers.walks (KeepsOthers.alloc W (.cells (rcA x) 82))) ⟨⟨v, hv.alloc _, hrow.alloc _, trivial⟩, hB.alloc hB.size _⟩ ⟨W.heap.size, RcAt.new W x, rfl⟩)
    unfold rcV rcA
    gi_wp2
    exact unhid HF
  case body =>
    rintro l pre x a' W hl ⟨r, hr⟩ ⟨⟨v, hv, hrow, -⟩, hB⟩ ⟨Bx, hx, rfl⟩ hlt
    have hc := hv.cell
    obtain ⟨c0, c1, c2, c3, c4, c5⟩ := hx.cells
    obtain ⟨e0, e1, e2, e3, e4, e5, e6, e7⟩ := hx.seen8
    gi_wp2_with (gi_at_builtin; refine wpListIn_append_own _ rfl _ _ 22 rfl w.heap.size 82 i0 (.agg (rcA rc0)) 14 112 Tryz.underlying22 hi hz0 hz1 hz2 rfl (by decide) _ _ _ rfl (hrow.alloc _) ⟨W.heap.size, 0, none⟩ 1 1 (rcC x) rfl rfl (rc_news W x) (rcC_one1 x) (by unfold maxLen; omega) (by omega) (by have := hB.size; simp; omega) ?_; intro v' w1 hown' hgrow _; obtain ⟨g', cap', rfl⟩ := ownsRow_succ hown'; obtain ⟨hv1, hv2, hr2, hk2, hb2⟩ := hv.appended (by decide) hrow hB.size (Nat.le_refl _) hown' hgrow; have hc1 := hv1.cell; have hf1 := hv1.frozen)
    exact ⟨hk2.from _, KeepsOthers.walks hk2, ⟨_, hv2, by rw [List.length_append, recs_append, recs_one]; exact hr2, trivial⟩, hB.trans hb2⟩
  case done =>
    rintro D ys W hD hS ⟨⟨v, hv, hrow, -⟩, hB⟩ hK
    have hc := hv.cell
    gi_wp2
    refine ⟨by simp, .inl ⟨_, _, rfl, run_takeDeferred hK, ?_⟩⟩
    exact ⟨_, results_tmp rfl _ _ _, v, ys, rfl, hS, ownsRow_putObj hrow _ hK rfl, hB.trans (belowK_b (w := w) (Nat.le_refl _) W D _ _ (by omega) hK rfl rfl)⟩
  case stop =>
    rintro D c pre W _ _ h _
    exact h.elim

end Go.Proofs.YtegghimjmbgghaaGreat
