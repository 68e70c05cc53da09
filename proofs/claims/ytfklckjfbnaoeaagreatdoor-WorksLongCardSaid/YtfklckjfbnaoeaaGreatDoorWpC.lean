/-
  What a nil and a zero works return, and Open on no disk.
-/
import Derived.Test.YtfklckjfbnaoeaaGreatDoorWpB
set_option linter.unusedSimpArgs false
set_option linter.unusedVariables false
namespace Go.Proofs.YtfklckjfbnaoeaaGreatDoor
open Go.RowKit

/-- A works that is nil or a zero value. -/
def NoW (w : World) (v : Value) : Prop := v = .pointer none ∨ ∃ B, v = .pointer (some ⟨B, 0, none⟩) ∧ w.heap[B]? = some (.cells #[.pointer none, .pointer none, .slice none 0 0] 45 (0, 0))
theorem NoW.below {w w' : World} {v : Value} (h : NoW w v) (hb : Below w.heap.size w w') : NoW w' v := by
  rcases h with h | ⟨B, h, hh⟩
  · exact .inl h
  · exact .inr ⟨B, h, (hb.block B (Array.getElem?_eq_some_iff.1 hh).1).trans hh⟩

theorem wnone_calls (v : Value) (w : World) (h : NoW w v) :
    Calls Tryz.prog 29 #[v] w fun e w' => e = .returned (.bool true) ∧ w = w' := by
  rcases h with rfl | ⟨B, rfl, hh⟩
  · go_enter Tryz.func29, Tryz.ntmps29
    go_wp2_with fail
    go_ret
    exact ⟨rfl, rfl⟩
  · have s1 := cell_of_row _ B 1 _ _ _ hh
    simp at s1
    go_enter Tryz.func29, Tryz.ntmps29
    go_wp2_with fail
    go_ret
    exact ⟨rfl, rfl⟩

theorem wdo_none (v : Value) (s : List UInt8) (w : World) (h : NoW w v) :
    Calls Tryz.prog 9 #[v, .string (SB s)] w fun e w' => e = .returned (.tuple #[.string ⟨#[]⟩, .int .i64 2]) ∧ w = w' := by
  have HN := hid (wnone_calls v w h)
  clear h
  go_enter Tryz.func9, Tryz.ntmps9
  go_wp2_with (go_at_call 29; refine (unhid HN).mono ?_; rintro e w' ⟨rfl, rfl⟩)
  go_ret2
  exact ⟨rfl, rfl⟩

theorem wrecall_none (v : Value) (n : Int) (w : World) (h : NoW w v) :
    Calls Tryz.prog 10 #[v, .int .i64 n] w fun e w' => e = .returned (.tuple #[.slice none 0 0, .int .i64 2]) ∧ w = w' := by
  have HN := hid (wnone_calls v w h)
  clear h
  go_enter Tryz.func10, Tryz.ntmps10
  go_wp2_with (go_at_call 29; refine (unhid HN).mono ?_; rintro e w' ⟨rfl, rfl⟩)
  go_ret2
  exact ⟨rfl, rfl⟩

theorem wdue_none (v : Value) (a b c d : Int) (w : World) (h : NoW w v) :
    Calls Tryz.prog 11 #[v, .int .i64 a, .int .i64 b, .int .i64 c, .int .i64 d] w fun e w' => e = .returned (.tuple #[.slice none 0 0, .int .i64 2]) ∧ w = w' := by
  have HN := hid (wnone_calls v w h)
  clear h
  go_enter Tryz.func11, Tryz.ntmps11
  go_wp2_with (go_at_call 29; refine (unhid HN).mono ?_; rintro e w' ⟨rfl, rfl⟩)
  go_ret2
  exact ⟨rfl, rfl⟩

theorem wtypes_none (v : Value) (n : Int) (w : World) (h : NoW w v) :
    Calls Tryz.prog 12 #[v, .int .i64 n] w fun e w' => e = .returned (.tuple #[.slice none 0 0, .int .i64 2]) ∧ w = w' := by
  have HN := hid (wnone_calls v w h)
  clear h
  go_enter Tryz.func12, Tryz.ntmps12
  go_wp2_with (go_at_call 29; refine (unhid HN).mono ?_; rintro e w' ⟨rfl, rfl⟩)
  go_ret2
  exact ⟨rfl, rfl⟩

theorem wlines_none (v : Value) (w : World) (h : NoW w v) :
    Calls Tryz.prog 13 #[v] w fun e w' => e = .returned (.slice none 0 0) ∧ w = w' := by
  have HN := hid (wnone_calls v w h)
  clear h
  go_enter Tryz.func13, Tryz.ntmps13
  go_wp2_with (go_at_call 29; refine (unhid HN).mono ?_; rintro e w' ⟨rfl, rfl⟩)
  go_ret
  exact ⟨rfl, rfl⟩

theorem wsigns_none (v : Value) (w : World) (h : NoW w v) :
    Calls Tryz.prog 14 #[v] w fun e w' => e = .returned (.slice none 0 0) ∧ w = w' := by
  have HN := hid (wnone_calls v w h)
  clear h
  go_enter Tryz.func14, Tryz.ntmps14
  go_wp2_with (go_at_call 29; refine (unhid HN).mono ?_; rintro e w' ⟨rfl, rfl⟩)
  go_ret
  exact ⟨rfl, rfl⟩

theorem wshelf_none (v : Value) (w : World) (h : NoW w v) :
    Calls Tryz.prog 15 #[v] w fun e w' => e = .returned (.pointer none) ∧ w = w' := by
  have HN := hid (wnone_calls v w h)
  clear h
  go_enter Tryz.func15, Tryz.ntmps15
  go_wp2_with (go_at_call 29; refine (unhid HN).mono ?_; rintro e w' ⟨rfl, rfl⟩)
  go_ret
  exact ⟨rfl, rfl⟩

theorem wbook_none (v : Value) (w : World) (h : NoW w v) :
    Calls Tryz.prog 16 #[v] w fun e w' => e = .returned (.pointer none) ∧ w = w' := by
  have HN := hid (wnone_calls v w h)
  clear h
  go_enter Tryz.func16, Tryz.ntmps16
  go_wp2_with (go_at_call 29; refine (unhid HN).mono ?_; rintro e w' ⟨rfl, rfl⟩)
  go_ret
  exact ⟨rfl, rfl⟩

theorem dnone_none (w : World) :
    Calls Tryz.prog 86 #[.pointer none] w fun e w' => e = .returned (.bool true) ∧ w = w' := by
  go_enter Tryz.func86, Tryz.ntmps86
  go_wp2_with fail
  go_ret
  exact ⟨rfl, rfl⟩

theorem ddown_none (w : World) :
    Calls Tryz.prog 92 #[.pointer none] w fun e w' => e = .returned (.bool true) ∧ w = w' := by
  go_enter Tryz.func92, Tryz.ntmps92
  go_wp2_with (go_at_call 86; refine (dnone_none _).mono ?_; rintro e w' ⟨rfl, rfl⟩)
  go_ret
  exact ⟨rfl, rfl⟩

theorem dread_none (w : World) :
    Calls Tryz.prog 51 #[.pointer none] w fun e w' => e = .returned (.tuple #[.slice none 0 0, .int .i64 92]) ∧ w = w' := by
  go_enter Tryz.func51, Tryz.ntmps51
  go_wp2_with (go_at_call 92; refine (ddown_none _).mono ?_; rintro e w' ⟨rfl, rfl⟩)
  go_ret2
  exact ⟨rfl, rfl⟩

theorem bopen_none (w : World) :
    Calls Tryz.prog 23 #[.pointer none] w fun e w' => e = .returned (.tuple #[.pointer none, .int .i64 92]) ∧ w = w' := by
  go_enter Tryz.func23, Tryz.ntmps23
  go_wp2_with (go_at_call 51; refine (dread_none _).mono ?_; rintro e w' ⟨rfl, rfl⟩)
  go_ret2
  exact ⟨rfl, rfl⟩

theorem wopen_none (a b l0 l1 l2 s k0 k1 k2 k3 er : Int) (w : World) (her : er = if setupB a b [l0, l1, l2] s [k0, k1, k2, k3] = true then 92 else 2) :
    Calls Tryz.prog 7 #[.agg #[.int .i64 a, .int .i64 b, .int .i64 l0, .int .i64 l1, .int .i64 l2, .int .i64 s, .int .i64 k0, .int .i64 k1, .int .i64 k2, .int .i64 k3], .pointer none] w fun e w' => e = .returned (.tuple #[.pointer none, .int .i64 er]) ∧ Below w.heap.size w w' := by
  have HB := hid (below_alloc w (.cells #[.int .i64 a, .int .i64 b, .int .i64 l0, .int .i64 l1, .int .i64 l2, .int .i64 s, .int .i64 k0, .int .i64 k1, .int .i64 k2, .int .i64 k3] 29))
  have HH := hid (heap_alloc_new w (.cells #[.int .i64 a, .int .i64 b, .int .i64 l0, .int .i64 l1, .int .i64 l2, .int .i64 s, .int .i64 k0, .int .i64 k1, .int .i64 k2, .int .i64 k3] 29))
  go_enter Tryz.func7, Tryz.ntmps7
  go_upto_region 1 with (fail)
  change Code.wp _ _ _ _ (w.alloc (.cells #[.int .i64 a, .int .i64 b, .int .i64 l0, .int .i64 l1, .int .i64 l2, .int .i64 s, .int .i64 k0, .int .i64 k1, .int .i64 k2, .int .i64 k3] 29))
  generalize w.alloc (.cells #[.int .i64 a, .int .i64 b, .int .i64 l0, .int .i64 l1, .int .i64 l2, .int .i64 s, .int .i64 k0, .int .i64 k1, .int .i64 k2, .int .i64 k3] 29) = W at *
  have hh := unhid HH
  have s0 := cell_of_row _ w.heap.size 0 _ _ _ hh
  have s1 := cell_of_row _ w.heap.size 1 _ _ _ hh
  have s2 := cell_of_row _ w.heap.size 2 _ _ _ hh
  have s3 := cell_of_row _ w.heap.size 3 _ _ _ hh
  have s4 := cell_of_row _ w.heap.size 4 _ _ _ hh
  have s5 := cell_of_row _ w.heap.size 5 _ _ _ hh
  have s6 := cell_of_row _ w.heap.size 6 _ _ _ hh
  have s7 := cell_of_row _ w.heap.size 7 _ _ _ hh
  have s8 := cell_of_row _ w.heap.size 8 _ _ _ hh
  have s9 := cell_of_row _ w.heap.size 9 _ _ _ hh
  simp at s0 s1 s2 s3 s4 s5 s6 s7 s8 s9
  have HV := hid (fun w => validSetup_calls a b l0 l1 l2 s k0 k1 k2 k3 w)
  generalize setupB a b [l0, l1, l2] s [k0, k1, k2, k3] = vb at *
  clear hh HH
  go_wp2_with fail
  refine ((unhid HV) _).mono ?_
  rintro e w2 ⟨rfl, hb⟩
  have HB := hid ((unhid HB).trans (hb.mono (unhid HB).size))
  clear hb HV s0 s1 s2 s3 s4 s5 s6 s7 s8 s9
  cases vb with
  | false =>
    have HR := hid (show er = 2 from her)
    clear her
    go_wp2_with fail
    go_ret2
    exact ⟨by rw [unhid HR]; rfl, unhid HB⟩
  | true =>
    have HR := hid (show er = 92 from her)
    clear her
    go_wp2_with (go_at_call 23; refine (bopen_none _).mono ?_; rintro e w' ⟨rfl, rfl⟩)
    go_ret2
    exact ⟨by rw [unhid HR]; rfl, unhid HB⟩

end Go.Proofs.YtfklckjfbnaoeaaGreatDoor
