/-
  slices.Clone and bytes.Clone at bytes.
-/
import Derived.Test.YtegghimjmbgghaaGreatBkCk
import Derived.Lib.SliceRun
set_option linter.unusedSimpArgs false
set_option linter.unusedVariables false
namespace Go.Proofs.YtegghimjmbgghaaGreat
open Go.RowKit Go.Shelf

theorem bys_oneC (l : List UInt8) : ∀ u ∈ bys l, u.oneCell' = true := by
  intro u hu
  obtain ⟨x, -, rfl⟩ := List.mem_map.1 hu
  rfl
def ClPost (w : World) (l : List UInt8) (e : Ending) (w' : World) : Prop :=
  ∃ (A' : Option Addr) (c' : Nat), e = .returned (.slice A' l.length c') ∧ w'.ownsRow w.heap.size 5 1 (.slice A' l.length c') l.length (bys l) ∧ Below w.heap.size w w'

set_option maxHeartbeats 1000000 in
set_option maxRecDepth 100000 in
theorem clone_calls (l : List UInt8) (A : Option Addr) (c : Nat) (w : World) (hr : Rd w A (bys l)) (hn : l.length ≤ 1000000) :
    Calls Tryz.prog 79 #[.slice A l.length c] w fun e w' => ClPost w l e w' := by
  obtain ⟨i0, hi, hz0, hz1, hz2⟩ := info_parts info_u8
  have heq := fun (w : World) (A : Option Addr) (n c : Nat) => Lib.run_eql_slice_nil (P := Tryz.prog) w 52 5 A n c 0 0 Tryz.underlying52
  cases A with
  | none =>
    have hl : l = [] := by
      cases l with
      | nil => rfl
      | cons x l =>
        obtain ⟨b, off, h, -⟩ := hr (by simp [bys])
        cases h
    subst hl
    go_enter Tryz.func79, Tryz.ntmps79
    go_wp2_with fail
    go_ret
    exact ⟨none, 0, rfl, World.ownsRow_nil _ _ _ _, Below.refl _ _⟩
  | some a =>
    have hnews : ∀ (j : Nat) u, (bys l)[j]? = some u → ∀ o, (w.alloc o).cell? (a.add j) = some u := by
      intro j u hu o
      have hne : bys l ≠ [] := by rintro h; rw [h] at hu; simp at hu
      obtain ⟨b, off, h, hb, hc⟩ := hr hne
      cases h
      rw [add_at, World.cell?_alloc_lt _ _ _ (by exact hb)]
      exact hc j u hu
    go_enter Tryz.func79, Tryz.ntmps79
    go_wp2_with (at_builtin; refine wpList_append_own _ rfl _ _ 52 rfl w.heap.size 5 i0 _ 1 1 Tryz.underlying52 hi hz0 hz1 hz2 rfl (by decide) (.slice (some ⟨w.heap.size, 0, none⟩) 0 0) 0 [] rfl ?d1 a l.length c (bys l) rfl (by simp) (fun j u hu => hnews j u hu _) (bys_oneC l) ?d2 ?d3 ?d4 ?_)
    case d1 => exact ⟨rfl, .inr ⟨w.heap.size, 0, #[], rfl, Nat.le_refl _, by rw [heap_alloc_new], Nat.le_refl _, by unfold maxLen; omega, rfl, rfl⟩⟩
    case d2 => unfold maxLen; omega
    case d3 => omega
    case d4 => simp
    intro v' w2 hown hg _
    have hb : Below w.heap.size w w2 := by
      refine Below.grown (below_alloc w (.cells #[] 5)) hg (by simp) (fun i hi => ?_)
      simp [Value.ownBlock] at hi; omega
    obtain ⟨A', c', rfl, -⟩ := own_slice hown
    have HO := hid hown
    clear hown hg
    go_wp2_with fail
    go_ret
    exact ⟨A', c', rfl, unhid HO, hb⟩

set_option maxHeartbeats 1000000 in
set_option maxRecDepth 100000 in
theorem bclone_calls (l : List UInt8) (A : Option Addr) (c : Nat) (w : World) (hr : Rd w A (bys l)) (hn : l.length ≤ 1000000) :
    Calls Tryz.prog 77 #[.slice A l.length c] w fun e w' => ClPost w l e w' := by
  obtain ⟨i0, hi, hz0, hz1, hz2⟩ := info_parts info_u8
  have heq := fun (w : World) (A : Option Addr) (n c : Nat) => Lib.run_eql_slice_nil (P := Tryz.prog) w 52 5 A n c 0 0 Tryz.underlying52
  cases A with
  | none =>
    have hl : l = [] := by
      cases l with
      | nil => rfl
      | cons x l =>
        obtain ⟨b, off, h, -⟩ := hr (by simp [bys])
        cases h
    subst hl
    go_enter Tryz.func77, Tryz.ntmps77
    go_wp2_with fail
    go_ret
    exact ⟨none, 0, rfl, World.ownsRow_nil _ _ _ _, Below.refl _ _⟩
  | some a =>
    have hnews : ∀ (j : Nat) u, (bys l)[j]? = some u → ∀ o, (w.alloc o).cell? (a.add j) = some u := by
      intro j u hu o
      have hne : bys l ≠ [] := by rintro h; rw [h] at hu; simp at hu
      obtain ⟨b, off, h, hb, hc⟩ := hr hne
      cases h
      rw [add_at, World.cell?_alloc_lt _ _ _ (by exact hb)]
      exact hc j u hu
    go_enter Tryz.func77, Tryz.ntmps77
    go_wp2_with (at_builtin; refine wpList_append_own _ rfl _ _ 52 rfl w.heap.size 5 i0 _ 1 1 Tryz.underlying52 hi hz0 hz1 hz2 rfl (by decide) (.slice (some ⟨w.heap.size, 0, none⟩) 0 0) 0 [] rfl ?d1 a l.length c (bys l) rfl (by simp) (fun j u hu => hnews j u hu _) (bys_oneC l) ?d2 ?d3 ?d4 ?_)
    case d1 => exact ⟨rfl, .inr ⟨w.heap.size, 0, #[], rfl, Nat.le_refl _, by rw [heap_alloc_new], Nat.le_refl _, by unfold maxLen; omega, rfl, rfl⟩⟩
    case d2 => unfold maxLen; omega
    case d3 => omega
    case d4 => simp
    intro v' w2 hown hg _
    have hb : Below w.heap.size w w2 := by
      refine Below.grown (below_alloc w (.cells #[] 5)) hg (by simp) (fun i hi => ?_)
      simp [Value.ownBlock] at hi; omega
    obtain ⟨A', c', rfl, -⟩ := own_slice hown
    have HO := hid hown
    clear hown hg
    go_wp2_with fail
    go_ret
    exact ⟨A', c', rfl, unhid HO, hb⟩

end Go.Proofs.YtegghimjmbgghaaGreat
