/-
  The methods of a disk or a log that is none: nil, or the zero value.
-/
import Derived.Test.YtegghimjmbgghaaGreatBkX
set_option linter.unusedSimpArgs false
set_option linter.unusedVariables false
namespace Go.Proofs.YtegghimjmbgghaaGreat
open Go.RowKit Go.Shelf

/-- No disk. -/
def NoDk (w : World) (p : Option Addr) : Prop := p = none ∨ ∃ B, p = some ⟨B, 0, none⟩ ∧ w.heap[B]? = some (.cells #[.bool false, .bool false, .slice none 0 0, .int .i64 0, .int .i64 0, .int .i64 0] 95 (0, 0))
theorem NoDk.below {w w' : World} {p : Option Addr} (h : NoDk w p) (hb : Below w.heap.size w w') : NoDk w' p :=
  h.imp id fun ⟨B, e, h⟩ => ⟨B, e, (hb.block B (Array.getElem?_eq_some_iff.1 h).1).trans h⟩
/-- No log. -/
def NoLg (w : World) (p : Option Addr) : Prop := p = none ∨ ∃ B, p = some ⟨B, 0, none⟩ ∧ w.heap[B]? = some (.cells #[.pointer none, .int .i64 0, .bool false, .slice none 0 0] 100 (0, 0))
theorem NoLg.below {w w' : World} {p : Option Addr} (h : NoLg w p) (hb : Below w.heap.size w w') : NoLg w' p :=
  h.imp id fun ⟨B, e, h⟩ => ⟨B, e, (hb.block B (Array.getElem?_eq_some_iff.1 h).1).trans h⟩
set_option maxRecDepth 100000 in
theorem dnone_calls (p : Option Addr) (w : World) (h : NoDk w p) : Calls Tryz.prog 72 #[.pointer p] w fun e w' => e = .returned (.bool true) ∧ w = w' := by
  rcases h with rfl | ⟨B, rfl, hB⟩
  · go_enter Tryz.func72, Tryz.ntmps72
    go_wp2_with fail
    go_ret
    exact ⟨rfl, rfl⟩
  · have c0 := cell_of_row _ B 0 _ _ _ hB
    clear hB
    go_enter Tryz.func72, Tryz.ntmps72
    go_wp2_with fail
    go_ret
    exact ⟨rfl, rfl⟩
set_option maxRecDepth 100000 in
theorem lnone_calls (p : Option Addr) (w : World) (h : NoLg w p) : Calls Tryz.prog 75 #[.pointer p] w fun e w' => e = .returned (.bool true) ∧ w = w' := by
  rcases h with rfl | ⟨B, rfl, hB⟩
  · go_enter Tryz.func75, Tryz.ntmps75
    go_wp2_with fail
    go_ret
    exact ⟨rfl, rfl⟩
  · have c0 := cell_of_row _ B 0 _ _ _ hB
    clear hB
    go_enter Tryz.func75, Tryz.ntmps75
    go_wp2_with fail
    go_ret
    exact ⟨rfl, rfl⟩

set_option maxHeartbeats 4000000 in
set_option maxRecDepth 100000 in
theorem ddown_calls (p : Option Addr) (w : World) (h : NoDk w p) : Calls Tryz.prog 53 #[.pointer p] w fun e w' => e = .returned (.bool true) ∧ Below w.heap.size w w' := by
  have HN := hid h
  have HB := hid (Below.refl w.heap.size w)
  clear h
  go_enter Tryz.func53, Tryz.ntmps53
  go_wp2_with (go_at_call 72; refine (dnone_calls _ _ (unhid HN)).mono ?_; rintro e w9 ⟨rfl, rfl⟩)
  go_ret
  exact ⟨rfl, unhid HB⟩

set_option maxHeartbeats 4000000 in
set_option maxRecDepth 100000 in
theorem dappend_calls (A : Option Addr) (n c : Nat) (p : Option Addr) (w : World) (h : NoDk w p) : Calls Tryz.prog 22 #[.pointer p, .slice A n c] w fun e w' => e = .returned (.int .i64 92) ∧ Below w.heap.size w w' := by
  have HN := hid h
  have HB := hid (Below.refl w.heap.size w)
  clear h
  go_enter Tryz.func22, Tryz.ntmps22
  go_wp2_with fail
  refine (ddown_calls p w (unhid HN)).mono ?_
  rintro e w2 ⟨rfl, hb⟩
  have HB := hid hb
  clear hb
  go_wp2_with fail
  go_ret
  exact ⟨rfl, unhid HB⟩

set_option maxHeartbeats 4000000 in
set_option maxRecDepth 100000 in
theorem dsync_calls (p : Option Addr) (w : World) (h : NoDk w p) : Calls Tryz.prog 24 #[.pointer p] w fun e w' => e = .returned (.int .i64 92) ∧ Below w.heap.size w w' := by
  have HN := hid h
  have HB := hid (Below.refl w.heap.size w)
  clear h
  go_enter Tryz.func24, Tryz.ntmps24
  go_wp2_with fail
  refine (ddown_calls p w (unhid HN)).mono ?_
  rintro e w2 ⟨rfl, hb⟩
  have HB := hid hb
  clear hb
  go_wp2_with fail
  go_ret
  exact ⟨rfl, unhid HB⟩

set_option maxHeartbeats 4000000 in
set_option maxRecDepth 100000 in
theorem dcut_calls (n : Int) (p : Option Addr) (w : World) (h : NoDk w p) : Calls Tryz.prog 26 #[.pointer p, .int .i64 n] w fun e w' => e = .returned (.int .i64 92) ∧ Below w.heap.size w w' := by
  have HN := hid h
  have HB := hid (Below.refl w.heap.size w)
  clear h
  go_enter Tryz.func26, Tryz.ntmps26
  go_wp2_with fail
  refine (ddown_calls p w (unhid HN)).mono ?_
  rintro e w2 ⟨rfl, hb⟩
  have HB := hid hb
  clear hb
  go_wp2_with fail
  go_ret
  exact ⟨rfl, unhid HB⟩

set_option maxHeartbeats 4000000 in
set_option maxRecDepth 100000 in
theorem dread_calls (p : Option Addr) (w : World) (h : NoDk w p) : Calls Tryz.prog 52 #[.pointer p] w fun e w' => e = .returned (.tuple #[.slice none 0 0, .int .i64 92]) ∧ Below w.heap.size w w' := by
  have HN := hid h
  have HB := hid (Below.refl w.heap.size w)
  clear h
  go_enter Tryz.func52, Tryz.ntmps52
  go_wp2_with fail
  refine (ddown_calls p w (unhid HN)).mono ?_
  rintro e w2 ⟨rfl, hb⟩
  have HB := hid hb
  clear hb
  go_wp2_with fail
  go_ret2
  exact ⟨rfl, unhid HB⟩

set_option maxHeartbeats 4000000 in
set_option maxRecDepth 100000 in
theorem darm_calls (n : Int) (p : Option Addr) (w : World) (h : NoDk w p) : Calls Tryz.prog 28 #[.pointer p, .int .i64 n] w fun e w' => e = .returned (.tuple #[]) ∧ Below w.heap.size w w' := by
  have HN := hid h
  have HB := hid (Below.refl w.heap.size w)
  clear h
  go_enter Tryz.func28, Tryz.ntmps28
  go_wp2_with (go_at_call 72; refine (dnone_calls _ _ (unhid HN)).mono ?_; rintro e w9 ⟨rfl, rfl⟩)
  go_end0
  exact ⟨rfl, unhid HB⟩

set_option maxHeartbeats 4000000 in
set_option maxRecDepth 100000 in
theorem dcrash_calls (n : Int) (p : Option Addr) (w : World) (h : NoDk w p) : Calls Tryz.prog 30 #[.pointer p, .int .i64 n] w fun e w' => e = .returned (.tuple #[]) ∧ Below w.heap.size w w' := by
  have HN := hid h
  have HB := hid (Below.refl w.heap.size w)
  clear h
  go_enter Tryz.func30, Tryz.ntmps30
  go_wp2_with (go_at_call 72; refine (dnone_calls _ _ (unhid HN)).mono ?_; rintro e w9 ⟨rfl, rfl⟩)
  (try simp only [Exit.inBlock, Exit.then]); refine bodyPost_ret (results_none rfl _ _ _) rfl ?_
  exact ⟨rfl, unhid HB⟩

set_option maxHeartbeats 4000000 in
set_option maxRecDepth 100000 in
theorem dcopy_calls (p : Option Addr) (w : World) (h : NoDk w p) : Calls Tryz.prog 36 #[.pointer p] w fun e w' => e = .returned (.pointer none) ∧ Below w.heap.size w w' := by
  have HN := hid h
  have HB := hid (Below.refl w.heap.size w)
  clear h
  go_enter Tryz.func36, Tryz.ntmps36
  go_wp2_with (go_at_call 72; refine (dnone_calls _ _ (unhid HN)).mono ?_; rintro e w9 ⟨rfl, rfl⟩)
  go_ret
  exact ⟨rfl, unhid HB⟩

set_option maxHeartbeats 4000000 in
set_option maxRecDepth 100000 in
theorem dopen_calls (p : Option Addr) (w : World) (h : NoDk w p) : Calls Tryz.prog 32 #[.pointer p] w fun e w' => e = .returned (.tuple #[.pointer none, .int .i64 92]) ∧ Below w.heap.size w w' := by
  have HN := hid h
  have HB := hid (Below.refl w.heap.size w)
  clear h
  go_enter Tryz.func32, Tryz.ntmps32
  go_wp2_with fail
  refine (dread_calls p w (unhid HN)).mono ?_
  rintro e w2 ⟨rfl, hb⟩
  have HB := hid hb
  clear hb
  go_wp2_with fail
  go_ret2
  exact ⟨rfl, unhid HB⟩

set_option maxHeartbeats 4000000 in
set_option maxRecDepth 100000 in
theorem lentries_calls (p : Option Addr) (w : World) (h : NoLg w p) : Calls Tryz.prog 40 #[.pointer p] w fun e w' => e = .returned (.slice none 0 0) ∧ Below w.heap.size w w' := by
  have HN := hid h
  have HB := hid (Below.refl w.heap.size w)
  clear h
  go_enter Tryz.func40, Tryz.ntmps40
  go_wp2_with (go_at_call 75; refine (lnone_calls _ _ (unhid HN)).mono ?_; rintro e w9 ⟨rfl, rfl⟩)
  go_ret
  exact ⟨rfl, unhid HB⟩

set_option maxHeartbeats 4000000 in
set_option maxRecDepth 100000 in
theorem lput_calls (A : Option Addr) (n c : Nat) (p : Option Addr) (w : World) (h : NoLg w p) : Calls Tryz.prog 34 #[.pointer p, .slice A n c] w fun e w' => e = .returned (.int .i64 92) ∧ Below w.heap.size w w' := by
  have HN := hid h
  have HB := hid (Below.refl w.heap.size w)
  clear h
  go_enter Tryz.func34, Tryz.ntmps34
  go_wp2_with (go_at_call 75; refine (lnone_calls _ _ (unhid HN)).mono ?_; rintro e w9 ⟨rfl, rfl⟩)
  go_ret
  exact ⟨rfl, unhid HB⟩

end Go.Proofs.YtegghimjmbgghaaGreat
