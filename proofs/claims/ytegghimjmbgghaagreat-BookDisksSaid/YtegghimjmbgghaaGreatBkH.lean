/-
  Collect, SortedFunc, Records; counts; split; Waiting.
-/
import Derived.Test.YtegghimjmbgghaaGreatBkG
set_option linter.unusedSimpArgs false
set_option linter.unusedVariables false
namespace Go.Proofs.YtegghimjmbgghaaGreat
open Go.RowKit Go.Shelf

theorem collect_calls (Bm m : Nat) (S : List Rc) (w : World) (hBm : Bm < w.heap.size) (hm : w.cell? ⟨Bm, 0, none⟩ = some (.map (some m))) (hown : RSet w m S) (hS : S.length ≤ 1000000) :
    Calls Tryz.prog 94 #[.func (.func 96) #[] #[.pointer (some ⟨Bm, 0, none⟩)]] w fun e W' =>
      ∃ (v : Value) (ys : List Rc), e = .returned v ∧ List.Perm ys S ∧ W'.ownsRow w.heap.size 82 14 v ys.length (recs ys) ∧ Below w.heap.size w W' := by
  have HK := hid ((callsIn_wide (n := 5)).1 (appendSeq_in 5 (by omega) Bm m S w hBm hm hown hS))
  clear hm hown hBm
  go_enter Tryz.func94, Tryz.ntmps94
  go_wp2_with fail
  refine (unhid HK).mono ?_
  rintro e w2 ⟨v, ys, rfl, hp, hrow, hb⟩
  go_wp2_with fail
  go_ret
  exact ⟨v, ys, rfl, hp, hrow, hb⟩
theorem sortedFunc_calls (Bm m : Nat) (S : List Rc) (w : World) (hBm : Bm < w.heap.size) (hm : w.cell? ⟨Bm, 0, none⟩ = some (.map (some m))) (hown : RSet w m S) (hS : S.length ≤ 1000000) :
    Calls Tryz.prog 60 #[.func (.func 96) #[] #[.pointer (some ⟨Bm, 0, none⟩)], .func (.func 62) #[] #[]] w fun e W' =>
      ∃ (v : Value) (L : List Rc), e = .returned v ∧ L.Perm S ∧ Asc L ∧ W'.ownsRow w.heap.size 82 14 v L.length (recs L) ∧ Below w.heap.size w W' := by
  have HK := hid (collect_calls Bm m S w hBm hm hown hS)
  have HN := hid hown.nodup
  have HS := hid hS
  clear hm hown hBm hS
  go_enter Tryz.func60, Tryz.ntmps60
  go_wp2_with fail
  refine (unhid HK).mono ?_
  rintro e w2 ⟨v, ys, rfl, hp, hrow, hb⟩
  have HP := hid hp
  have HB := hid hb
  have HSR := hid (sortRec_calls ys (hp.nodup_iff.2 (unhid HN)) v w.heap.size w2 hrow (by rw [hp.length_eq]; exact unhid HS))
  have HOB := hid (show ∀ j, v.ownBlock = some j → w.heap.size ≤ j from fun j hj => by
    obtain ⟨A, c, -, -, h⟩ := own_slice hrow
    exact h j hj)
  clear hp hb hrow
  go_wp2_with fail
  refine (unhid HSR).mono ?_
  rintro e w3 ⟨rfl, L, hp, hA, hrow, hg⟩
  have HB := hid ((unhid HB).grown hg (unhid HB).size (unhid HOB))
  have HL := hid (hp.trans (unhid HP))
  clear hp hg
  go_wp2_with fail
  go_ret
  exact ⟨v, L, rfl, unhid HL, hA, hrow, unhid HB⟩
/-- What Records leaves: a new slice with the records in their order. -/
def RecsPost (w : World) (S : List Rc) (e : Ending) (w' : World) : Prop :=
  ∃ (v : Value) (L : List Rc), e = .returned v ∧ L.Perm S ∧ Asc L ∧ w'.ownsRow w.heap.size 82 14 v L.length (recs L) ∧ Below w.heap.size w w'
theorem records_calls {B m : Nat} {S : List Rc} (w : World) (h : BkAt w B m S) (hS : S.length ≤ 1000000) :
    Calls Tryz.prog 12 #[.pointer (some ⟨B, 0, none⟩)] w fun e w' => RecsPost w S e w' := by
  have HK := hid h
  have cb := h.cell
  have hb1 := below_alloc w (.cells #[.map (some m)] 83)
  have hn1 := heap_alloc_new w (.cells #[.map (some m)] 83)
  have HS := hid (sortedFunc_calls w.heap.size m S (w.alloc (.cells #[.map (some m)] 83)) (by simp) (cell_of_row _ _ 0 _ _ _ hn1) (GMap.below h.m hb1 h.lt.2) hS)
  have HB := hid hb1
  clear h hn1 hb1
  go_enter Tryz.func12, Tryz.ntmps12
  go_wp2_with (first | (go_at_call 56; refine (none_calls _ (unhid HK)).mono ?_; rintro e w' ⟨rfl, rfl⟩) | (go_at_call 61; refine (rkeys_calls _ _).mono ?_; rintro e w' ⟨rfl, rfl⟩))
  refine (unhid HS).mono ?_
  rintro e w2 ⟨v, L, rfl, hp, hA, hrow, hb⟩
  have HP := hid (show RecsPost w S (.returned v) w2 from ⟨v, L, rfl, hp, hA, ⟨hrow.1, hrow.2.imp id (fun ⟨g, cap, cur, h1, h2, h3⟩ => ⟨g, cap, cur, h1, Nat.le_trans (unhid HB).size h2, h3⟩)⟩, (unhid HB).trans (hb.mono (unhid HB).size)⟩)
  clear hp hA hrow hb
  go_wp2_with fail
  go_ret
  exact unhid HP

/-! ### counts -/
set_option maxHeartbeats 1000000 in
set_option maxRecDepth 100000 in
theorem counts_calls (r : Rc) {B : Nat} {S : List Rc} {ms : Nat → Nat} {fs us : Nat → Int} (w : World) (h : LgAt w B S ms fs us) (hr : rcB r = true) :
    Calls Tryz.prog 93 #[.pointer (some ⟨B, 0, none⟩), rcV r] w fun e w' => e = .returned (.bool (decide (r.num ≤ us r.tb))) ∧ Below w.heap.size w w' := by
  have hb0 := below_alloc w (.cells (rcA r) 82)
  have HB := hid hb0
  have HR := hid (RcAt.new w r)
  have HL := hid (h.below hb0)
  have o := rc_ok hr
  obtain ⟨T0, hT⟩ : ∃ T0 : Nat, r.tb = T0 := ⟨_, rfl⟩
  have hT8 : T0 < 8 := by rw [← hT]; exact o.tb.1
  have hTI : r.tab - 1 = (T0 : Int) := by rw [← hT]; exact o.tb.2.symm
  have hTl : (T0 : Int) < 8 := by omega
  have hto := o.tab
  have w1 : IntKind.i64.wrap (r.tab - 1) = (T0 : Int) := by rw [hTI]; exact IntWalk.i64_in _ (by omega)
  have HT := hid hT
  have HT8 := hid hT8
  clear hb0 h hr o hTI hto hT
  show Calls Tryz.prog 93 #[.pointer (some ⟨B, 0, none⟩), .agg #[.int .i64 r.tab, .int .i64 r.num, .int .i64 r.hour, .int .i64 r.sign, .int .i64 r.fld, .int .i64 r.val, .int .i64 r.s0, .int .i64 r.s1, .int .i64 r.s2, .int .i64 r.s3, .int .i64 r.s4, .int .i64 r.s5, .int .i64 r.s6, .int .i64 r.s7]] w _
  go_enter Tryz.func93, Tryz.ntmps93
  go_upto_region 1 with (fail)
  change Code.wp _ _ _ _ (w.alloc (.cells (rcA r) 82))
  generalize w.alloc (.cells (rcA r) 82) = W at *
  obtain ⟨A, hA⟩ : ∃ A, A = w.heap.size := ⟨_, rfl⟩
  rw [← hA] at HR ⊢
  have HA := hid hA
  clear hA
  have f0 : ∀ p : After W, p.w.cell? ⟨A, 0, none⟩ = some (.int .i64 r.tab) := After.cell (unhid HR).lt (unhid HR).cells.1
  have f1 : ∀ p : After W, p.w.cell? ⟨A, 1, none⟩ = some (.int .i64 r.num) := After.cell (unhid HR).lt (unhid HR).cells.2.1
  have f2 : ∀ p : After W, p.w.cell? ⟨B, 16 + T0, none⟩ = some (.int .i64 (us T0)) := After.cell (unhid HL).lt ((unhid HL).upTo hT8)
  (refine wp_region_below (by kernel_rfl) (by kernel_rfl) ?_; (repeat (go_big_quiet_step (first | fail))); refine wpQuiet_nil ?_; intro wq hw'; obtain ⟨⟨wq2, hbq⟩, hw''⟩ := hw'; dsimp only at hw''; subst hw'')
  go_wp2_with fail
  go_ret
  exact ⟨retb (by rw [unhid HT]), (unhid HB).trans (hbq.mono (unhid HB).size)⟩

end Go.Proofs.YtegghimjmbgghaaGreat
