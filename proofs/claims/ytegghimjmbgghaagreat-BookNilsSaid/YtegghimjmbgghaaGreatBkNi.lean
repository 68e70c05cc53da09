/-
  The methods of a book that is none: nil, or the zero value.
-/
import Derived.Test.YtegghimjmbgghaaGreatBkX
import Derived.Test.YtegghimjmbgghaaGreatBkDp
import Derived.Test.YtegghimjmbgghaaGreatBkSg
set_option linter.unusedSimpArgs false
set_option linter.unusedVariables false
namespace Go.Proofs.YtegghimjmbgghaaGreat
open Go.RowKit Go.Shelf

/-- No book. -/
def NoBk (w : World) (p : Option Addr) : Prop := p = none ∨ ∃ B, p = some ⟨B, 0, none⟩ ∧ w.heap[B]? = some (.cells #[.map none] 85 (0, 0))
theorem NoBk.below {w w' : World} {p : Option Addr} (h : NoBk w p) (hb : Below w.heap.size w w') : NoBk w' p :=
  h.imp id fun ⟨B, e, h⟩ => ⟨B, e, (hb.block B (Array.getElem?_eq_some_iff.1 h).1).trans h⟩
theorem NoBk.grown {w w' : World} {p : Option Addr} {m : Nat} (h : NoBk w p) (hm : ∃ es c, w.heap[m]? = some (.map es c)) (hg : w.grownBy w' (some m)) : NoBk w' p :=
  h.imp id fun ⟨B, e, h⟩ => ⟨B, e, (hg.block B (Array.getElem?_eq_some_iff.1 h).1 (fun e => by
    have := Option.some.inj e
    subst this
    obtain ⟨es, c, hm⟩ := hm
    rw [h] at hm
    cases hm)).trans h⟩
set_option maxRecDepth 100000 in
theorem nnone_calls (p : Option Addr) (w : World) (h : NoBk w p) : Calls Tryz.prog 56 #[.pointer p] w fun e w' => e = .returned (.bool true) ∧ w = w' := by
  have qT : ∀ (w : World) (r : Option Nat), (binOp .eql 83 (.map r) (.map none)).run Tryz.prog w = .ok (.bool r.isNone) w := fun w r => run_eql_map_nil w _ _ _ r Tryz.underlying83
  rcases h with rfl | ⟨B, rfl, hB⟩
  · go_enter Tryz.func56, Tryz.ntmps56
    go_wp2_with fail
    go_ret
    exact ⟨rfl, rfl⟩
  · have c0 := cell_of_row _ B 0 _ _ _ hB
    clear hB
    go_enter Tryz.func56, Tryz.ntmps56
    go_wp2_with fail
    go_ret
    exact ⟨rfl, rfl⟩

set_option maxHeartbeats 4000000 in
set_option maxRecDepth 100000 in
theorem nadd_calls (r : Rc) (p : Option Addr) (w : World) (h : NoBk w p) : Calls Tryz.prog 49 #[.pointer p, rcV r] w fun e w' => e = .returned (.int .i64 2) ∧ Below w.heap.size w w' := by
  have hb0 := below_alloc w (.cells (rcA r) 82)
  have HB := hid hb0
  have HN := hid (h.below hb0)
  clear h hb0
  go_enter Tryz.func49, Tryz.ntmps49
  go_upto_region 1 with (fail)
  change Code.wp _ _ _ _ (w.alloc (.cells (rcA r) 82))
  generalize w.alloc (.cells (rcA r) 82) = W at *
  go_wp2_with (go_at_call 56; refine (nnone_calls _ _ (unhid HN)).mono ?_; rintro e w9 ⟨rfl, rfl⟩)
  go_ret
  exact ⟨rfl, unhid HB⟩

set_option maxHeartbeats 4000000 in
set_option maxRecDepth 100000 in
theorem njoin_calls (q : Option Addr) (p : Option Addr) (w : World) (h : NoBk w p) : Calls Tryz.prog 46 #[.pointer p, .pointer q] w fun e w' => e = .returned (.tuple #[.int .i64 0, .int .i64 2]) ∧ Below w.heap.size w w' := by
  have HN := hid h
  have HB := hid (Below.refl w.heap.size w)
  clear h
  go_enter Tryz.func46, Tryz.ntmps46
  go_wp2_with (go_at_call 56; refine (nnone_calls _ _ (unhid HN)).mono ?_; rintro e w9 ⟨rfl, rfl⟩)
  go_ret2
  exact ⟨rfl, unhid HB⟩

set_option maxHeartbeats 4000000 in
set_option maxRecDepth 100000 in
theorem nvalues_calls (s f : Int) (p : Option Addr) (w : World) (h : NoBk w p) : Calls Tryz.prog 20 #[.pointer p, .int .i64 s, .int .i64 f] w fun e w' => e = .returned (.tuple #[.slice none 0 0, .int .i64 2]) ∧ Below w.heap.size w w' := by
  have HN := hid h
  have HB := hid (Below.refl w.heap.size w)
  clear h
  go_enter Tryz.func20, Tryz.ntmps20
  go_wp2_with (go_at_call 56; refine (nnone_calls _ _ (unhid HN)).mono ?_; rintro e w9 ⟨rfl, rfl⟩)
  go_ret2
  exact ⟨rfl, unhid HB⟩

set_option maxHeartbeats 4000000 in
set_option maxRecDepth 100000 in
theorem nwrite_calls (a b c d f : Int) (p : Option Addr) (w : World) (h : NoBk w p) : Calls Tryz.prog 48 #[.pointer p, .int .i64 a, .int .i64 b, .int .i64 c, .int .i64 d, .int .i64 f] w fun e w' => e = .returned (.tuple #[rcV rc0, .int .i64 2]) ∧ Below w.heap.size w w' := by
  have hb0 := below_alloc w (.cells (rcA rc0) 82)
  have HB := hid hb0
  have HN := hid (h.below hb0)
  have hres := heap_alloc_new w (.cells (rcA rc0) 82)
  clear h hb0
  go_enter Tryz.func48, Tryz.ntmps48
  go_upto_region 1 with (fail)
  change Code.wp _ _ _ _ (w.alloc (.cells (rcA rc0) 82))
  generalize w.alloc (.cells (rcA rc0) 82) = W at *
  obtain ⟨R0, hR0⟩ : ∃ R0, R0 = w.heap.size := ⟨_, rfl⟩
  have HR0 := hid hR0
  rw [← hR0] at hres ⊢
  clear hR0
  go_wp2_with (first | (go_at_call 56; refine (nnone_calls _ _ (unhid HN)).mono ?_; rintro e w' ⟨rfl, rfl⟩) | (refine wpList_store_row rfl 82 (.tmp 12) (.tmp 25) rfl R0 (rcA rc0) rfl rfl 82 _ hres (rc_size rc0) rfl (rc_one rc0) ?_))
  refine bodyPost_ret_by (v := .tuple #[.agg (rcA rc0), .int .i64 2]) (results_cell_row_tmp Tryz.results48 _ _ R0 82 (rcA rc0) (0, 0) _ _ rfl rfl (setRow_heap _ _ _ _ _ _ hres) Tryz.underlying82 rfl (rc_size rc0)) rfl ?_
  exact ⟨rfl, below_setRow (unhid HB) (Nat.le_of_eq (unhid HR0).symm) _⟩

set_option maxHeartbeats 4000000 in
set_option maxRecDepth 100000 in
theorem nhistory_calls (s : Int) (p : Option Addr) (w : World) (h : NoBk w p) : Calls Tryz.prog 41 #[.pointer p, .int .i64 s] w fun e w' => e = .returned (.tuple #[.slice none 0 0, .int .i64 2]) ∧ Below w.heap.size w w' := by
  have hb0 := below_alloc w (.cells #[.int .i64 s] 3)
  have HB := hid hb0
  have HN := hid (h.below hb0)
  clear h hb0
  go_enter Tryz.func41, Tryz.ntmps41
  go_upto_region 1 with (fail)
  change Code.wp _ _ _ _ (w.alloc (.cells #[.int .i64 s] 3))
  generalize w.alloc (.cells #[.int .i64 s] 3) = W at *
  go_wp2_with (go_at_call 56; refine (nnone_calls _ _ (unhid HN)).mono ?_; rintro e w9 ⟨rfl, rfl⟩)
  go_ret2
  exact ⟨rfl, unhid HB⟩

set_option maxHeartbeats 4000000 in
set_option maxRecDepth 100000 in
theorem nasof_calls (s : Int) (p : Option Addr) (w : World) (h : NoBk w p) : Calls Tryz.prog 9 #[.pointer p, .int .i64 s] w fun e w' => e = .returned (.tuple #[.pointer none, .int .i64 2]) ∧ Below w.heap.size w w' := by
  have HN := hid h
  have HB := hid (Below.refl w.heap.size w)
  clear h
  go_enter Tryz.func9, Tryz.ntmps9
  go_wp2_with (go_at_call 56; refine (nnone_calls _ _ (unhid HN)).mono ?_; rintro e w9 ⟨rfl, rfl⟩)
  go_ret2
  exact ⟨rfl, unhid HB⟩

set_option maxHeartbeats 4000000 in
set_option maxRecDepth 100000 in
theorem nrecords_calls (p : Option Addr) (w : World) (h : NoBk w p) : Calls Tryz.prog 12 #[.pointer p] w fun e w' => e = .returned (.slice none 0 0) ∧ Below w.heap.size w w' := by
  have HN := hid h
  have HB := hid (Below.refl w.heap.size w)
  clear h
  go_enter Tryz.func12, Tryz.ntmps12
  go_wp2_with (go_at_call 56; refine (nnone_calls _ _ (unhid HN)).mono ?_; rintro e w9 ⟨rfl, rfl⟩)
  go_ret
  exact ⟨rfl, unhid HB⟩

set_option maxHeartbeats 4000000 in
set_option maxRecDepth 100000 in
theorem nsplit_calls (p : Option Addr) (w : World) (h : NoBk w p) : Calls Tryz.prog 58 #[.pointer p] w fun e w' => e = .returned (.tuple #[.slice none 0 0, .slice none 0 0]) ∧ Below w.heap.size w w' := by
  have HN := hid h
  have HB := hid (Below.refl w.heap.size w)
  clear h
  go_enter Tryz.func58, Tryz.ntmps58
  go_wp2_with (go_at_call 56; refine (nnone_calls _ _ (unhid HN)).mono ?_; rintro e w9 ⟨rfl, rfl⟩)
  go_ret2
  exact ⟨rfl, unhid HB⟩

set_option maxHeartbeats 4000000 in
set_option maxRecDepth 100000 in
theorem nforks_calls (p : Option Addr) (w : World) (h : NoBk w p) : Calls Tryz.prog 50 #[.pointer p] w fun e w' => e = .returned (.slice none 0 0) ∧ Below w.heap.size w w' := by
  have HN := hid h
  have HB := hid (Below.refl w.heap.size w)
  clear h
  go_enter Tryz.func50, Tryz.ntmps50
  go_wp2_with (go_at_call 56; refine (nnone_calls _ _ (unhid HN)).mono ?_; rintro e w9 ⟨rfl, rfl⟩)
  go_ret
  exact ⟨rfl, unhid HB⟩

set_option maxHeartbeats 4000000 in
set_option maxRecDepth 100000 in
theorem ncopy_calls (p : Option Addr) (w : World) (h : NoBk w p) : Calls Tryz.prog 51 #[.pointer p] w fun e w' => e = .returned (.pointer none) ∧ Below w.heap.size w w' := by
  have HN := hid h
  have HB := hid (Below.refl w.heap.size w)
  clear h
  go_enter Tryz.func51, Tryz.ntmps51
  go_wp2_with (go_at_call 56; refine (nnone_calls _ _ (unhid HN)).mono ?_; rintro e w9 ⟨rfl, rfl⟩)
  go_ret
  exact ⟨rfl, unhid HB⟩

set_option maxHeartbeats 4000000 in
set_option maxRecDepth 100000 in
theorem njoin2_calls {B m : Nat} {S : List Rc} (p : Option Addr) (w : World) (hk : BkAt w B m S) (h : NoBk w p) : Calls Tryz.prog 46 #[.pointer (some ⟨B, 0, none⟩), .pointer p] w fun e w' => e = .returned (.tuple #[.int .i64 0, .int .i64 2]) ∧ Below w.heap.size w w' := by
  have HN := hid h
  have HK := hid hk
  have HB := hid (Below.refl w.heap.size w)
  clear h hk
  go_enter Tryz.func46, Tryz.ntmps46
  go_wp2_with fail
  refine (none_calls w (unhid HK)).mono ?_
  rintro e w' ⟨rfl, rfl⟩
  go_wp2_with fail
  refine (nnone_calls _ w (unhid HN)).mono ?_
  rintro e w' ⟨rfl, rfl⟩
  go_wp2_with fail
  go_ret2
  exact ⟨rfl, unhid HB⟩

/-! ### What is called on what split returns -/
set_option maxHeartbeats 4000000 in
set_option maxRecDepth 100000 in
theorem nwaiting_calls (p : Option Addr) (w : World) (h : NoBk w p) : Calls Tryz.prog 13 #[.pointer p] w fun e w' => e = .returned (.slice none 0 0) ∧ Below w.heap.size w w' := by
  have HC := hid (nsplit_calls p w h)
  clear h
  go_enter Tryz.func13, Tryz.ntmps13
  go_wp2_with fail
  refine (unhid HC).mono ?_
  rintro e w2 ⟨rfl, hb⟩
  have HB := hid hb
  clear hb
  go_wp2_with fail
  go_ret
  exact ⟨rfl, unhid HB⟩
set_option maxHeartbeats 4000000 in
set_option maxRecDepth 100000 in
theorem ncases_calls (p : Option Addr) (w : World) (h : NoBk w p) : Calls Tryz.prog 64 #[.pointer p] w fun e w' => CasesPost w [] e w' := by
  have hmm := @run_makeMap Tryz.prog
  have hb0 := below_alloc w (.map #[] 0)
  have HM := hid (GMap.made (K := caseK) w)
  have HB := hid hb0
  have HC := hid (nsplit_calls p (w.alloc (.map #[] 0)) (h.below hb0))
  clear h hb0
  go_enter Tryz.func64, Tryz.ntmps64
  go_upto_region 2 with (fail)
  generalize w.alloc (.map #[] 0) = W at *
  clear hmm
  go_wp2_with fail
  refine (unhid HC).mono ?_
  rintro e w2 ⟨rfl, hb⟩
  have HM := hid (GMap.below (unhid HM) hb (unhid HM).lt)
  have HB := hid ((unhid HB).trans (hb.mono (unhid HB).size))
  clear hb HC
  have HP := hid (show CasesPost w [] (.returned (.map (some w.heap.size))) w2 from ⟨w.heap.size, [], [], rfl, unhid HM, csE_nil _ _, List.Perm.refl _, List.Pairwise.nil, Nat.le_refl _, unhid HB⟩)
  go_upto_region 4 with (fail)
  go_loopw [17] (fun iv wr => iv = .int .i64 0 ∧ w2 = wr) (fun _ _ => 0)
  case atStart => exact ⟨rfl, rfl⟩
  case round =>
    obtain ⟨rfl, rfl⟩ := hrel
    go_wp2_with fail
    go_ret
    exact unhid HP

end Go.Proofs.YtegghimjmbgghaaGreat
