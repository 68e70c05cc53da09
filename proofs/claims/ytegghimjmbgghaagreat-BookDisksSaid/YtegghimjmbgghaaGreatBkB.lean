/-
  Before of both packages; a book of package book; none, New, Add.
-/
import Derived.Test.YtegghimjmbgghaaGreatBkA
import Derived.StillTailTactics
set_option linter.unusedSimpArgs false
set_option linter.unusedVariables false
namespace Go.Proofs.YtegghimjmbgghaaGreat
open Go.RowKit

theorem two_boxes (w : World) (r q : Rc) : RcAt ((w.alloc (.cells (rcA r) 82)).alloc (.cells (rcA q) 82)) w.heap.size r ∧ RcAt ((w.alloc (.cells (rcA r) 82)).alloc (.cells (rcA q) 82)) (w.heap.size + 1) q ∧
    Below w.heap.size w ((w.alloc (.cells (rcA r) 82)).alloc (.cells (rcA q) 82)) := by
  have hb1 := below_alloc w (.cells (rcA r) 82)
  have hb2 := below_alloc (w.alloc (.cells (rcA r) 82)) (.cells (rcA q) 82)
  have h1 := RcAt.new w r
  have h2 := RcAt.new (w.alloc (.cells (rcA r) 82)) q
  have hs : (w.alloc (.cells (rcA r) 82)).heap.size = w.heap.size + 1 := by simp
  rw [hs] at h2
  exact ⟨h1.below hb2 h1.lt, h2, hb1.trans (hb2.mono hb1.size)⟩

set_option maxHeartbeats 4000000 in
set_option maxRecDepth 100000 in
theorem before_calls (r q : Rc) (hn : I64 r.num) (w : World) : Calls Tryz.prog 100 #[rcV r, rcV q] w fun e w' => e = .returned (.bool (befB r q)) ∧ Below w.heap.size w w' := by
  obtain ⟨hr, hq, hb⟩ := two_boxes w r q
  have HR := hid hr
  have HQ := hid hq
  have HB := hid hb
  clear hr hq hb hn
  show Calls Tryz.prog 100 #[.agg #[.int .i64 r.tab, .int .i64 r.num, .int .i64 r.hour, .int .i64 r.sign, .int .i64 r.fld, .int .i64 r.val, .int .i64 r.s0, .int .i64 r.s1, .int .i64 r.s2, .int .i64 r.s3, .int .i64 r.s4, .int .i64 r.s5, .int .i64 r.s6, .int .i64 r.s7], .agg #[.int .i64 q.tab, .int .i64 q.num, .int .i64 q.hour, .int .i64 q.sign, .int .i64 q.fld, .int .i64 q.val, .int .i64 q.s0, .int .i64 q.s1, .int .i64 q.s2, .int .i64 q.s3, .int .i64 q.s4, .int .i64 q.s5, .int .i64 q.s6, .int .i64 q.s7]] w _
  go_enter Tryz.func100, Tryz.ntmps100
  go_upto_region 1 with (fail)
  change Code.wp _ _ _ _ ((w.alloc (.cells (rcA r) 82)).alloc (.cells (rcA q) 82))
  generalize (w.alloc (.cells (rcA r) 82)).alloc (.cells (rcA q) 82) = W at *
  obtain ⟨B, hB⟩ : ∃ B, B = w.heap.size := ⟨_, rfl⟩
  rw [← hB] at HR HQ ⊢
  have HBE := hid hB
  clear hB
  have f0 : ∀ p : After W, p.w.cell? ⟨B, 0, none⟩ = some (.int .i64 r.tab) := After.cell (unhid HR).lt (unhid HR).cells.1
  have f1 : ∀ p : After W, p.w.cell? ⟨B, 1, none⟩ = some (.int .i64 r.num) := After.cell (unhid HR).lt (unhid HR).cells.2.1
  cases d : btw 1 r.tab 8 with
  | false =>
    have KW := hid (fun w => by have h := within_calls 1 r.tab 8 w; rw [d] at h; exact h)
    have HE := hid (show befB r q = false by simp [befB, d])
    (refine wp_region_below (by kernel_rfl) (by kernel_rfl) ?_; (repeat (go_big_quiet_step (first | (go_at_call 57; exact Calls.after_same ((unhid KW) _))))); refine wpQuiet_nil ?_; intro wq hw'; obtain ⟨⟨wq2, hbq⟩, hw''⟩ := hw'; dsimp only at hw''; subst hw'')
    go_wp2_with fail
    go_ret
    exact ⟨retb (by rw [unhid HE]), (unhid HB).trans (hbq.mono (unhid HB).size)⟩
  | true =>
    have KW := hid (fun w => by have h := within_calls 1 r.tab 8 w; rw [d] at h; exact h)
    have ht : 1 ≤ r.tab ∧ r.tab ≤ 8 := by simpa [btw] using d
    obtain ⟨T0, hT⟩ : ∃ T0 : Nat, (T0 : Int) = r.tab - 1 := ⟨(r.tab - 1).toNat, by omega⟩
    have hT0 : r.tb = T0 := by unfold Rc.tb; omega
    have hT8 : T0 < 8 := by omega
    have hTI : (T0 : Int) < 8 := by omega
    have HE := hid (show befB r q = decide (r.num ≤ q.sn T0) by simp only [befB, d, hT0, Bool.true_and])
    have w0 : IntKind.i64.wrap (r.tab - 1) = (T0 : Int) := by rw [hT]; exact IntWalk.i64_in _ (by omega)
    have f2 : ∀ p : After W, p.w.cell? ⟨B + 1, 6 + T0, none⟩ = some (.int .i64 (q.sn T0)) := After.cell (unhid HQ).lt ((unhid HQ).seen hT8)
    clear hT0 hT ht
    (refine wp_region_below (by kernel_rfl) (by kernel_rfl) ?_; (repeat (go_big_quiet_step (first | (go_at_call 57; exact Calls.after_same ((unhid KW) _))))); refine wpQuiet_nil ?_; intro wq hw'; obtain ⟨⟨wq2, hbq⟩, hw''⟩ := hw'; dsimp only at hw''; subst hw'')
    go_wp2_with fail
    go_ret
    exact ⟨retb (by rw [unhid HE]; (try simp)), (unhid HB).trans (hbq.mono (unhid HB).size)⟩

set_option maxHeartbeats 4000000 in
set_option maxRecDepth 100000 in
theorem rbefore_calls (r q : Rc) (hn : I64 r.num) (w : World) : Calls Tryz.prog 84 #[rcV r, rcV q] w fun e w' => e = .returned (.bool (befB r q)) ∧ Below w.heap.size w w' := by
  obtain ⟨hr, hq, hb⟩ := two_boxes w r q
  have HR := hid hr
  have HQ := hid hq
  have HB := hid hb
  clear hr hq hb hn
  show Calls Tryz.prog 84 #[.agg #[.int .i64 r.tab, .int .i64 r.num, .int .i64 r.hour, .int .i64 r.sign, .int .i64 r.fld, .int .i64 r.val, .int .i64 r.s0, .int .i64 r.s1, .int .i64 r.s2, .int .i64 r.s3, .int .i64 r.s4, .int .i64 r.s5, .int .i64 r.s6, .int .i64 r.s7], .agg #[.int .i64 q.tab, .int .i64 q.num, .int .i64 q.hour, .int .i64 q.sign, .int .i64 q.fld, .int .i64 q.val, .int .i64 q.s0, .int .i64 q.s1, .int .i64 q.s2, .int .i64 q.s3, .int .i64 q.s4, .int .i64 q.s5, .int .i64 q.s6, .int .i64 q.s7]] w _
  go_enter Tryz.func84, Tryz.ntmps84
  go_upto_region 1 with (fail)
  change Code.wp _ _ _ _ ((w.alloc (.cells (rcA r) 82)).alloc (.cells (rcA q) 82))
  generalize (w.alloc (.cells (rcA r) 82)).alloc (.cells (rcA q) 82) = W at *
  obtain ⟨B, hB⟩ : ∃ B, B = w.heap.size := ⟨_, rfl⟩
  rw [← hB] at HR HQ ⊢
  have HBE := hid hB
  clear hB
  have f0 : ∀ p : After W, p.w.cell? ⟨B, 0, none⟩ = some (.int .i64 r.tab) := After.cell (unhid HR).lt (unhid HR).cells.1
  have f1 : ∀ p : After W, p.w.cell? ⟨B, 1, none⟩ = some (.int .i64 r.num) := After.cell (unhid HR).lt (unhid HR).cells.2.1
  cases d : btw 1 r.tab 8 with
  | false =>
    have KW := hid (fun w => by have h := rwithin_calls r.tab 1 8 w; rw [d] at h; exact h)
    have HE := hid (show befB r q = false by simp [befB, d])
    (refine wp_region_below (by kernel_rfl) (by kernel_rfl) ?_; (repeat (go_big_quiet_step (first | (go_at_call 112; exact Calls.after_same ((unhid KW) _))))); refine wpQuiet_nil ?_; intro wq hw'; obtain ⟨⟨wq2, hbq⟩, hw''⟩ := hw'; dsimp only at hw''; subst hw'')
    go_wp2_with fail
    go_ret
    exact ⟨retb (by rw [unhid HE]), (unhid HB).trans (hbq.mono (unhid HB).size)⟩
  | true =>
    have KW := hid (fun w => by have h := rwithin_calls r.tab 1 8 w; rw [d] at h; exact h)
    have ht : 1 ≤ r.tab ∧ r.tab ≤ 8 := by simpa [btw] using d
    obtain ⟨T0, hT⟩ : ∃ T0 : Nat, (T0 : Int) = r.tab - 1 := ⟨(r.tab - 1).toNat, by omega⟩
    have hT0 : r.tb = T0 := by unfold Rc.tb; omega
    have hT8 : T0 < 8 := by omega
    have hTI : (T0 : Int) < 8 := by omega
    have HE := hid (show befB r q = decide (r.num ≤ q.sn T0) by simp only [befB, d, hT0, Bool.true_and])
    have w0 : IntKind.i64.wrap (r.tab - 1) = (T0 : Int) := by rw [hT]; exact IntWalk.i64_in _ (by omega)
    have f2 : ∀ p : After W, p.w.cell? ⟨B + 1, 6 + T0, none⟩ = some (.int .i64 (q.sn T0)) := After.cell (unhid HQ).lt ((unhid HQ).seen hT8)
    clear hT0 hT ht
    (refine wp_region_below (by kernel_rfl) (by kernel_rfl) ?_; (repeat (go_big_quiet_step (first | (go_at_call 112; exact Calls.after_same ((unhid KW) _))))); refine wpQuiet_nil ?_; intro wq hw'; obtain ⟨⟨wq2, hbq⟩, hw''⟩ := hw'; dsimp only at hw''; subst hw'')
    go_wp2_with fail
    go_ret
    exact ⟨retb (by rw [unhid HE]; (try simp)), (unhid HB).trans (hbq.mono (unhid HB).size)⟩

theorem RcAt.after {W : World} {B : Nat} {r : Rc} (h : RcAt W B r) :
    (∀ p : After W, p.w.cell? ⟨B, 0, none⟩ = some (.int .i64 r.tab)) ∧ (∀ p : After W, p.w.cell? ⟨B, 1, none⟩ = some (.int .i64 r.num)) ∧ (∀ p : After W, p.w.cell? ⟨B, 2, none⟩ = some (.int .i64 r.hour)) ∧ (∀ p : After W, p.w.cell? ⟨B, 3, none⟩ = some (.int .i64 r.sign)) ∧
    (∀ p : After W, p.w.cell? ⟨B, 4, none⟩ = some (.int .i64 r.fld)) ∧ (∀ p : After W, p.w.cell? ⟨B, 5, none⟩ = some (.int .i64 r.val)) ∧ (∀ p : After W, p.w.cell? ⟨B, 6, none⟩ = some (.int .i64 r.s0)) ∧ (∀ p : After W, p.w.cell? ⟨B, 7, none⟩ = some (.int .i64 r.s1)) ∧
    (∀ p : After W, p.w.cell? ⟨B, 8, none⟩ = some (.int .i64 r.s2)) ∧ (∀ p : After W, p.w.cell? ⟨B, 9, none⟩ = some (.int .i64 r.s3)) ∧ (∀ p : After W, p.w.cell? ⟨B, 10, none⟩ = some (.int .i64 r.s4)) ∧ (∀ p : After W, p.w.cell? ⟨B, 11, none⟩ = some (.int .i64 r.s5)) ∧
    (∀ p : After W, p.w.cell? ⟨B, 12, none⟩ = some (.int .i64 r.s6)) ∧ (∀ p : After W, p.w.cell? ⟨B, 13, none⟩ = some (.int .i64 r.s7)) := by
  obtain ⟨c0, c1, c2, c3, c4, c5⟩ := h.cells
  obtain ⟨e0, e1, e2, e3, e4, e5, e6, e7⟩ := h.seen8
  exact ⟨After.cell h.lt c0, After.cell h.lt c1, After.cell h.lt c2, After.cell h.lt c3, After.cell h.lt c4, After.cell h.lt c5, After.cell h.lt e0, After.cell h.lt e1, After.cell h.lt e2, After.cell h.lt e3, After.cell h.lt e4, After.cell h.lt e5, After.cell h.lt e6, After.cell h.lt e7⟩

/-! ### A book of the package -/
/-- Block B is a book whose map lies in block m and holds the records S. -/
structure BkAt (w : World) (B m : Nat) (S : List Rc) : Prop where
  b : w.heap[B]? = some (.cells #[.map (some m)] 85 (0, 0))
  m : RSet w m S
  v : ∀ r ∈ S, rcB r = true
theorem BkAt.lt {w : World} {B m : Nat} {S : List Rc} (h : BkAt w B m S) : B < w.heap.size ∧ m < w.heap.size := ⟨(Array.getElem?_eq_some_iff.1 h.b).1, GMap.lt h.m⟩
theorem BkAt.ne {w : World} {B m : Nat} {S : List Rc} (h : BkAt w B m S) : B ≠ m := by
  intro e
  obtain ⟨es, c, hm⟩ := GMap.isMap h.m
  rw [← e, h.b] at hm
  cases hm
theorem BkAt.grown {w w' : World} {B m : Nat} {S : List Rc} (h : BkAt w B m S) {row : Option Nat} (hg : w.grownBy w' row) (h1 : some B ≠ row) (h2 : some m ≠ row) : BkAt w' B m S :=
  ⟨(hg.block B h.lt.1 h1).trans h.b, GMap.grown h.m hg h2, h.v⟩
theorem BkAt.below {w w' : World} {B m N : Nat} {S : List Rc} (h : BkAt w B m S) (hb : Below N w w') (h1 : B < N) (h2 : m < N) : BkAt w' B m S := ⟨(hb.block B h1).trans h.b, GMap.below h.m hb h2, h.v⟩
theorem BkAt.below' {w w' : World} {B m : Nat} {S : List Rc} (h : BkAt w B m S) (hb : Below w.heap.size w w') : BkAt w' B m S := h.below hb h.lt.1 h.lt.2
theorem BkAt.cell {w : World} {B m : Nat} {S : List Rc} (h : BkAt w B m S) : w.cell? ⟨B, 0, none⟩ = some (.map (some m)) := cell_of_row _ B 0 _ _ _ h.b
theorem BkAt.perm {w : World} {B m : Nat} {S T : List Rc} (h : BkAt w B m S) (hp : S.Perm T) : BkAt w B m T := ⟨h.b, RSet.perm h.m hp, fun r hr => h.v r (hp.mem_iff.2 hr)⟩

set_option maxRecDepth 100000 in
theorem bookNew_calls (w : World) : Calls Tryz.prog 47 #[] w fun e w' => e = .returned (.pointer (some ⟨w.heap.size + 1, 0, none⟩)) ∧ BkAt w' (w.heap.size + 1) w.heap.size [] ∧ Below w.heap.size w w' := by
  have hmm := @run_makeMap Tryz.prog
  have h1 := GMap.made (K := recK) w
  have hb1 := below_alloc w (.map #[] 0)
  have hs : (w.alloc (.map #[] 0)).heap.size = w.heap.size + 1 := by simp
  have hb2 := below_alloc (w.alloc (.map #[] 0)) (.cells #[.map (some w.heap.size)] 85)
  have h2 := heap_alloc_new (w.alloc (.map #[] 0)) (.cells #[.map (some w.heap.size)] 85)
  rw [hs] at h2
  have H := hid (⟨⟨h2, GMap.below h1 hb2 h1.lt, fun r hr => by simp at hr⟩, hb1.trans (hb2.mono hb1.size)⟩ : BkAt ((w.alloc (.map #[] 0)).alloc (.cells #[.map (some w.heap.size)] 85)) (w.heap.size + 1) w.heap.size [] ∧ Below w.heap.size w ((w.alloc (.map #[] 0)).alloc (.cells #[.map (some w.heap.size)] 85)))
  clear h1 h2 hb1 hb2 hs
  go_enter Tryz.func47, Tryz.ntmps47
  go_wp2_with fail
  go_ret
  exact ⟨by simp, unhid H⟩
set_option maxRecDepth 100000 in
theorem none_calls {B m : Nat} {S : List Rc} (w : World) (h : BkAt w B m S) : Calls Tryz.prog 56 #[.pointer (some ⟨B, 0, none⟩)] w fun e w' => e = .returned (.bool false) ∧ w = w' := by
  have c0 := h.cell
  have qT : ∀ (w : World) (r : Option Nat), (binOp .eql 83 (.map r) (.map none)).run Tryz.prog w = .ok (.bool r.isNone) w := fun w r => run_eql_map_nil w _ _ _ r Tryz.underlying83
  clear h
  go_enter Tryz.func56, Tryz.ntmps56
  go_wp2_with fail
  go_ret
  exact ⟨rfl, rfl⟩

theorem grown_of_below {w w' : World} (h : Below w.heap.size w w') (row : Option Nat) : w.grownBy w' row := ⟨h.os, h.tape, h.output, h.size, fun k hk _ => h.block k hk⟩
theorem grown_then {w w1 w2 : World} {row : Option Nat} (h : Below w.heap.size w w1) (hg : w1.grownBy w2 row) : w.grownBy w2 row :=
  ⟨hg.os.trans h.os, hg.tape.trans h.tape, hg.output.trans h.output, Nat.le_trans h.size hg.size, fun k hk hne => (hg.block k (Nat.lt_of_lt_of_le hk h.size) hne).trans (h.block k hk)⟩
theorem filter_not_mem {S : List Rc} {r : Rc} (h : r ∉ S) : S.filter (fun q => !decide (q = r)) = S :=
  List.filter_eq_self.2 fun q hq => by
    have : q ≠ r := fun e => h (e ▸ hq)
    simp [this]
theorem BkAt.added {w w' : World} {B m : Nat} {S : List Rc} {r : Rc} (h : BkAt w B m S) (hm : GMap recK w' m (putE (setE S) r (.bool true))) (hg : w.grownBy w' (some m)) (hv : rcB r = true) (hr : r ∉ S) : BkAt w' B m (S ++ [r]) := by
  rw [put_setE, filter_not_mem hr] at hm
  refine ⟨(hg.block B h.lt.1 (fun e => h.ne (Option.some.inj e))).trans h.b, hm, fun q hq => ?_⟩
  rcases List.mem_append.1 hq with hq | hq
  · exact h.v q hq
  · rw [List.mem_singleton] at hq; subst hq; exact hv
/-- What Add returns. -/
def addE (S : List Rc) (r : Rc) : Int := if rcB r = false then 90 else if r ∈ S then 22 else 0
/-- What it leaves. -/
def addS (S : List Rc) (r : Rc) : List Rc := if rcB r = true ∧ r ∉ S then S ++ [r] else S

set_option maxHeartbeats 4000000 in
set_option maxRecDepth 100000 in
theorem add_calls (r : Rc) {B m : Nat} {S : List Rc} (w : World) (h : BkAt w B m S) (hn : S.length < 1000000) :
    Calls Tryz.prog 49 #[.pointer (some ⟨B, 0, none⟩), rcV r] w fun e w' => e = .returned (.int .i64 (addE S r)) ∧ BkAt w' B m (addS S r) ∧ w.grownBy w' (some m) := by
  have hb0 := below_alloc w (.cells (rcA r) 82)
  have HB := hid hb0
  have HR := hid (RcAt.new w r)
  have HK := hid (h.below' hb0)
  have HLT := hid h.lt
  clear hb0
  show Calls Tryz.prog 49 #[.pointer (some ⟨B, 0, none⟩), .agg #[.int .i64 r.tab, .int .i64 r.num, .int .i64 r.hour, .int .i64 r.sign, .int .i64 r.fld, .int .i64 r.val, .int .i64 r.s0, .int .i64 r.s1, .int .i64 r.s2, .int .i64 r.s3, .int .i64 r.s4, .int .i64 r.s5, .int .i64 r.s6, .int .i64 r.s7]] w _
  go_enter Tryz.func49, Tryz.ntmps49
  go_upto_region 1 with (fail)
  change Code.wp _ _ _ _ (w.alloc (.cells (rcA r) 82))
  generalize w.alloc (.cells (rcA r) 82) = W at *
  obtain ⟨A, hA⟩ : ∃ A, A = w.heap.size := ⟨_, rfl⟩
  rw [← hA] at HR ⊢
  have HAE := hid hA
  clear hA h
  obtain ⟨c0, c1, c2, c3, c4, c5⟩ := (unhid HR).cells
  obtain ⟨e0, e1, e2, e3, e4, e5, e6, e7⟩ := (unhid HR).seen8
  have HN := hid hn
  clear hn
  go_wp2_with (first | (go_at_call 56; refine (none_calls _ (unhid HK)).mono ?_; rintro e w' ⟨rfl, rfl⟩) | (go_at_call 88; fail))
  refine (valid_calls r W).mono ?_
  rintro e w2 ⟨rfl, hb2⟩
  have hBW := unhid HB
  have hb02 : Below w.heap.size w w2 := hBW.trans (hb2.mono hBW.size)
  have HR := hid ((unhid HR).below hb2 (unhid HR).lt)
  have HK := hid ((unhid HK).below' hb2)
  have HB := hid hb02
  have HG := hid (grown_of_below hb02)
  clear hb2 hBW hb02 c0 c1 c2 c3 c4 c5 e0 e1 e2 e3 e4 e5 e6 e7
  cases hv : rcB r with
  | false =>
    have HE := hid (show addE S r = 90 by simp [addE, hv])
    have HS := hid (show addS S r = S by simp [addS, hv])
    go_wp2_with fail
    go_ret
    exact ⟨by rw [unhid HE]; rfl, by rw [unhid HS]; exact unhid HK, (unhid HG) _⟩
  | true =>
    have HW := hid (rcW_of hv)
    have HV := hid hv
    obtain ⟨f0, f1, f2, f3, f4, f5, f6, f7, f8, f9, f10, f11, f12, f13⟩ := (unhid HR).after
    have fb : ∀ p : After w2, p.w.cell? ⟨B, 0, none⟩ = some (.map (some m)) := After.cell (unhid HK).lt.1 (unhid HK).cell
    have hlk : ∀ p : After w2, (Instr.lookup 83 (.map (some m)) (.agg #[.int .i64 r.tab, .int .i64 r.num, .int .i64 r.hour, .int .i64 r.sign, .int .i64 r.fld, .int .i64 r.val, .int .i64 r.s0, .int .i64 r.s1, .int .i64 r.s2, .int .i64 r.s3, .int .i64 r.s4, .int .i64 r.s5, .int .i64 r.s6, .int .i64 r.s7]) false).run Tryz.prog p.w = .ok (.bool (decide (r ∈ S))) p.w := fun p => by
      have h := GMap.look (GMap.below (unhid HK).m p.below (unhid HK).lt.2) false Tryz.underlying83 (z := .bool false) (Tryz.zeroValue4 p.w) (a := r) (unhid HW)
      rw [get_setE] at h
      refine h.trans ?_
      by_cases hm : r ∈ S <;> simp [hm]
    by_cases hm : r ∈ S
    · have HE := hid (show addE S r = 22 by simp [addE, hv, hm])
      have HS := hid (show addS S r = S by simp [addS, hm])
      rw [decide_eq_true hm] at hlk
      clear hm
      go_wp2_with fail
      (refine wp_region_below (by kernel_rfl) (by kernel_rfl) ?_; (repeat (go_big_quiet_step (first | fail))); refine wpQuiet_nil ?_; intro wq hw'; obtain ⟨⟨wq2, hbq⟩, hw''⟩ := hw'; dsimp only at hw''; subst hw'')
      have HK := hid ((unhid HK).below' hbq)
      have HG := hid (grown_of_below ((unhid HB).trans (hbq.mono (unhid HB).size)))
      clear hbq f0 f1 f2 f3 f4 f5 f6 f7 f8 f9 f10 f11 f12 f13 fb hlk
      go_wp2_with fail
      go_ret
      exact ⟨by rw [unhid HE]; rfl, by rw [unhid HS]; exact unhid HK, (unhid HG) _⟩
    · have HE := hid (show addE S r = 0 by simp [addE, hv, hm])
      have HS := hid (show addS S r = S ++ [r] by simp [addS, hm, hv])
      have HM := hid hm
      rw [decide_eq_false hm] at hlk
      clear hm
      go_wp2_with fail
      (refine wp_region_below (by kernel_rfl) (by kernel_rfl) ?_; (repeat (go_big_quiet_step (first | fail))); refine wpQuiet_nil ?_; intro wq hw'; obtain ⟨⟨wq2, hbq⟩, hw''⟩ := hw'; dsimp only at hw''; subst hw'')
      have HR := hid ((unhid HR).below hbq (unhid HR).lt)
      have HK := hid ((unhid HK).below' hbq)
      have HB := hid ((unhid HB).trans (hbq.mono (unhid HB).size))
      clear hbq f0 f1 f2 f3 f4 f5 f6 f7 f8 f9 f10 f11 f12 f13 fb hlk
      go_wp2_with fail
      obtain ⟨c0, c1, c2, c3, c4, c5⟩ := (unhid HR).cells
      obtain ⟨e0, e1, e2, e3, e4, e5, e6, e7⟩ := (unhid HR).seen8
      have cb := (unhid HK).cell
      refine wp_region_still_tail 5 (by kernel_rfl) (by kernel_rfl) ?_
      simp only [List.take_succ_cons, List.take_zero, List.drop_succ_cons, List.drop_zero]
      iterate 5 still_step
      refine wpStill_nil ?_
      change wpList _ _ _ _ _ wq.drew
      have HK := hid (show BkAt wq.drew B m S from ⟨(unhid HK).b, GMap.block (unhid HK).m rfl, (unhid HK).v⟩)
      have HB := hid (Below.drew (unhid HB))
      generalize wq.drew = w3 at *
      go_wp2_with (at_mapUpdate; refine wpList_gput rfl _ _ _ 83 rfl 4 Tryz.underlying83 rfl (unhid HK).m (by have := unhid HN; simp only [setE, List.length_map, maxLen]; omega) r (unhid HW) rfl (.bool true) rfl ?_; intro w4 hm4 hg4)
      have HK4 := hid (BkAt.added (unhid HK) hm4 hg4 (unhid HV) (unhid HM))
      have HG := hid (grown_then (unhid HB) hg4)
      clear hm4 hg4
      go_wp2_with fail
      go_ret
      exact ⟨by rw [unhid HE]; rfl, by rw [unhid HS]; exact unhid HK4, unhid HG⟩

end Go.Proofs.YtegghimjmbgghaaGreat
