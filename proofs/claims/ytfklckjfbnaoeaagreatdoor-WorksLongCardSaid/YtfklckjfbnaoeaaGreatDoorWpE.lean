/-
  New states, Open on a new disk, Play of too many lines.
-/
import Derived.Test.YtfklckjfbnaoeaaGreatDoorWpD
set_option linter.unusedSimpArgs false
set_option linter.unusedVariables false
namespace Go.Proofs.YtfklckjfbnaoeaaGreatDoor
open Go.RowKit

theorem setup_shelf {a b l0 l1 l2 s k0 k1 k2 k3 : Int} (h : setupB a b [l0, l1, l2] s [k0, k1, k2, k3] = true) : shelfB a b [l0, l1, l2] = true := by
  simp only [setupB, Bool.and_eq_true] at h
  exact h.1.1

theorem lnone_new (L D : Nat) (w : World) (h : w.heap[L]? = some (logO D)) :
    Calls Tryz.prog 57 #[.pointer (some ⟨L, 0, none⟩)] w fun e w' => e = .returned (.bool false) ∧ w = w' := by
  have s0 := cell_of_row _ L 0 _ _ _ h
  simp at s0
  clear h
  go_enter Tryz.func57, Tryz.ntmps57
  go_wp2_with fail
  go_ret
  exact ⟨rfl, rfl⟩
theorem lentries_new (L D : Nat) (w : World) (h : w.heap[L]? = some (logO D)) :
    Calls Tryz.prog 25 #[.pointer (some ⟨L, 0, none⟩)] w fun e w' => e = .returned (.slice none 0 0) ∧ w = w' := by
  have s3 := cell_of_row _ L 3 _ _ _ h
  simp at s3
  have HL := hid h
  clear h
  go_enter Tryz.func25, Tryz.ntmps25
  go_wp2_with (go_at_call 57; refine (lnone_new _ _ _ (unhid HL)).mono ?_; rintro e w' ⟨rfl, rfl⟩)
  go_loopw [13, 3] (fun iv av wr => iv = .int .i64 0 ∧ av = .slice none 0 0 ∧ wr = w) (fun _ _ _ => 0)
  case atStart => exact ⟨rfl, rfl, (by first | rfl | trivial)⟩
  case round =>
    obtain ⟨rfl, rfl, rfl⟩ := hrel
    go_wp2_with fail
    go_ret
    exact ⟨rfl, (by first | rfl | trivial)⟩
set_option maxHeartbeats 1000000 in
theorem sheetNew_calls (a b l0 l1 l2 : Int) (w : World) (hv : shelfB a b [l0, l1, l2] = true) :
    Calls Tryz.prog 55 #[.agg #[.int .i64 a, .int .i64 b, .int .i64 l0, .int .i64 l1, .int .i64 l2]] w fun e w' => ∃ v, e = .returned (.tuple #[.pointer v, .int .i64 0]) ∧ Below w.heap.size w w' := by
  have HB := hid (below_alloc w (.cells #[.int .i64 a, .int .i64 b, .int .i64 l0, .int .i64 l1, .int .i64 l2] 24))
  have HH := hid (heap_alloc_new w (.cells #[.int .i64 a, .int .i64 b, .int .i64 l0, .int .i64 l1, .int .i64 l2] 24))
  have HV := hid (pvalidRules_calls a b l0 l1 l2)
  rw [hv] at HV
  clear hv
  have hmm := @run_makeMap Tryz.prog
  go_enter Tryz.func55, Tryz.ntmps55
  go_upto_region 1 with (fail)
  change Code.wp _ _ _ _ (w.alloc (.cells #[.int .i64 a, .int .i64 b, .int .i64 l0, .int .i64 l1, .int .i64 l2] 24))
  generalize w.alloc (.cells #[.int .i64 a, .int .i64 b, .int .i64 l0, .int .i64 l1, .int .i64 l2] 24) = W at *
  have hh := unhid HH
  have s0 := cell_of_row _ w.heap.size 0 _ _ _ hh
  have s1 := cell_of_row _ w.heap.size 1 _ _ _ hh
  have s2 := cell_of_row _ w.heap.size 2 _ _ _ hh
  have s3 := cell_of_row _ w.heap.size 3 _ _ _ hh
  have s4 := cell_of_row _ w.heap.size 4 _ _ _ hh
  simp at s0 s1 s2 s3 s4
  clear hh
  go_wp2_with fail
  refine ((unhid HV) _).mono ?_
  rintro e w2 ⟨rfl, hb⟩
  have HB := hid ((unhid HB).trans (hb.mono (unhid HB).size))
  have hh := (hb.block _ (Array.getElem?_eq_some_iff.1 (unhid HH)).1).trans (unhid HH)
  clear hb s0 s1 s2 s3 s4 HV HH
  have s0 := cell_of_row _ w.heap.size 0 _ _ _ hh
  have s1 := cell_of_row _ w.heap.size 1 _ _ _ hh
  have s2 := cell_of_row _ w.heap.size 2 _ _ _ hh
  have s3 := cell_of_row _ w.heap.size 3 _ _ _ hh
  have s4 := cell_of_row _ w.heap.size 4 _ _ _ hh
  simp at s0 s1 s2 s3 s4
  clear hh
  go_wp2_with fail
  go_ret2
  have hb := unhid HB
  exact ⟨_, rfl, by repeat (first | exact hb | apply below_alloc')⟩
theorem bookNew_calls (w : World) : Calls Tryz.prog 56 #[] w fun e w' => ∃ v, e = .returned (.pointer v) ∧ Below w.heap.size w w' := by
  have hmm := @run_makeMap Tryz.prog
  go_enter Tryz.func56, Tryz.ntmps56
  go_wp2_with fail
  go_ret
  exact ⟨_, rfl, by repeat (first | exact Below.refl _ _ | apply below_alloc')⟩

set_option maxHeartbeats 4000000 in
set_option maxRecDepth 100000 in
theorem newState_calls (a b l0 l1 l2 s k0 k1 k2 k3 : Int) (w : World) (hv : setupB a b [l0, l1, l2] s [k0, k1, k2, k3] = true) :
    Calls Tryz.prog 24 #[.agg #[.int .i64 a, .int .i64 b, .int .i64 l0, .int .i64 l1, .int .i64 l2, .int .i64 s, .int .i64 k0, .int .i64 k1, .int .i64 k2, .int .i64 k3]] w fun e w' => ∃ v, e = .returned (.pointer v) ∧ Below w.heap.size w w' := by
  have HB := hid (below_alloc w (.cells #[.int .i64 a, .int .i64 b, .int .i64 l0, .int .i64 l1, .int .i64 l2, .int .i64 s, .int .i64 k0, .int .i64 k1, .int .i64 k2, .int .i64 k3] 29))
  have HH := hid (heap_alloc_new w (.cells #[.int .i64 a, .int .i64 b, .int .i64 l0, .int .i64 l1, .int .i64 l2, .int .i64 s, .int .i64 k0, .int .i64 k1, .int .i64 k2, .int .i64 k3] 29))
  have HN := hid (fun w => sheetNew_calls a b l0 l1 l2 w (setup_shelf hv))
  clear hv
  go_enter Tryz.func24, Tryz.ntmps24
  go_upto_region 1 with (fail)
  change Code.wp _ _ _ _ (w.alloc (.cells #[.int .i64 a, .int .i64 b, .int .i64 l0, .int .i64 l1, .int .i64 l2, .int .i64 s, .int .i64 k0, .int .i64 k1, .int .i64 k2, .int .i64 k3] 29))
  generalize w.alloc (.cells #[.int .i64 a, .int .i64 b, .int .i64 l0, .int .i64 l1, .int .i64 l2, .int .i64 s, .int .i64 k0, .int .i64 k1, .int .i64 k2, .int .i64 k3] 29) = W at *
  have hh := unhid HH
  have s0 := cell_of_row _ w.heap.size 0 _ _ _ hh
  have s1 := cell_of_row _ w.heap.size 1 _ _ _ hh
  have s2 := cell_of_row _ w.heap.size 2 _ _ _ hh
  have s3 := cell_of_row _ w.heap.size 3 _ _ _ hh
  have s4 := cell_of_row _ w.heap.size 4 _ _ _ hh
  have s5 := cell_of_row _ w.heap.size 5 _ _ _ hh
  have s6 := cell_of_row _ w.heap.size 6 _ _ _ hh
  have s7 := cell_of_row _ w.heap.size 7 _ _ _ hh
  have s8 := cell_of_row _ w.heap.size 8 _ _ _ hh
  have s9 := cell_of_row _ w.heap.size 9 _ _ _ hh
  simp at s0 s1 s2 s3 s4 s5 s6 s7 s8 s9
  clear hh
  go_wp2_with fail
  refine ((unhid HN) _).mono ?_
  rintro e w2 ⟨v, rfl, hb⟩
  have HB := hid ((unhid HB).trans (hb.mono (unhid HB).size))
  have HH := hid ((hb.block _ (Array.getElem?_eq_some_iff.1 (unhid HH)).1).trans (unhid HH))
  clear hb s0 s1 s2 s3 s4 s5 s6 s7 s8 s9 HN
  go_upto_region 2 with (fail)
  have hSF : ∀ w' : World, w'.heap[w.heap.size]? = some (.cells #[.int .i64 a, .int .i64 b, .int .i64 l0, .int .i64 l1, .int .i64 l2, .int .i64 s, .int .i64 k0, .int .i64 k1, .int .i64 k2, .int .i64 k3] 29 (0, 0)) → (w'.cell? ⟨w.heap.size, 0, none⟩ = some (.int .i64 a) ∧ w'.cell? ⟨w.heap.size, 1, none⟩ = some (.int .i64 b) ∧ w'.cell? ⟨w.heap.size, 2, none⟩ = some (.int .i64 l0) ∧ w'.cell? ⟨w.heap.size, 3, none⟩ = some (.int .i64 l1) ∧ w'.cell? ⟨w.heap.size, 4, none⟩ = some (.int .i64 l2) ∧ w'.cell? ⟨w.heap.size, 5, none⟩ = some (.int .i64 s) ∧ w'.cell? ⟨w.heap.size, 6, none⟩ = some (.int .i64 k0) ∧ w'.cell? ⟨w.heap.size, 7, none⟩ = some (.int .i64 k1) ∧ w'.cell? ⟨w.heap.size, 8, none⟩ = some (.int .i64 k2) ∧ w'.cell? ⟨w.heap.size, 9, none⟩ = some (.int .i64 k3)) := fun w' hh => by
    refine ⟨?_, ?_, ?_, ?_, ?_, ?_, ?_, ?_, ?_, ?_⟩
    all_goals (rw [cell_of_row _ _ _ _ _ _ hh]; rfl)
  have HSF := hid hSF
  have HH := hid (show w2.drew.heap[w.heap.size]? = _ from unhid HH)
  have HB := hid (Below.drew (unhid HB))
  clear hSF
  refine wp_region_noPanic ?_
  refine wp_region_E (S := fun w' => w'.cell? ⟨w.heap.size, 0, none⟩ = some (.int .i64 a) ∧ w'.cell? ⟨w.heap.size, 1, none⟩ = some (.int .i64 b) ∧ w'.cell? ⟨w.heap.size, 2, none⟩ = some (.int .i64 l0) ∧ w'.cell? ⟨w.heap.size, 3, none⟩ = some (.int .i64 l1) ∧ w'.cell? ⟨w.heap.size, 4, none⟩ = some (.int .i64 l2) ∧ w'.cell? ⟨w.heap.size, 5, none⟩ = some (.int .i64 s) ∧ w'.cell? ⟨w.heap.size, 6, none⟩ = some (.int .i64 k0) ∧ w'.cell? ⟨w.heap.size, 7, none⟩ = some (.int .i64 k1) ∧ w'.cell? ⟨w.heap.size, 8, none⟩ = some (.int .i64 k2) ∧ w'.cell? ⟨w.heap.size, 9, none⟩ = some (.int .i64 k3)) 4 6 rfl (by kernel_rfl) (by kernel_rfl) ((unhid HSF) _ (unhid HH)) ?_
  intro hSE
  generalize w2.drew = Wd at *
  (refine WE_take (i := 0) (v := ?_) rfl (by kernel_rfl) (by decide) (by kernel_rfl) (by kernel_rfl) (fun _ _ _ h => h) (by rfl) hSE ?_ ?_; rotate_left; (focus (intro w hSw; (try dsimp only at hSw); go_simp; (try with_reducible rfl))); simp only [Act.put, List.setIfInBounds_toArray, List.set_cons_zero, List.set_cons_succ])
  (refine WE_take (i := 1) (v := ?_) rfl (by kernel_rfl) (by decide) (by kernel_rfl) (by kernel_rfl) (fun _ _ _ h => h) (by rfl) hSE ?_ ?_; rotate_left; (focus (intro w hSw; (try dsimp only at hSw); go_simp; (try with_reducible rfl))); simp only [Act.put, List.setIfInBounds_toArray, List.set_cons_zero, List.set_cons_succ])
  (refine WE_one (i := 2) rfl (by decide) (by kernel_rfl) ?_; intro K hK)
  go_simp
  go_at_call 56
  refine (bookNew_calls Wd).mono ?_
  rintro e w5 ⟨v2, rfl, hb5⟩
  have HH := hid ((hb5.block _ (Array.getElem?_eq_some_iff.1 (unhid HH)).1).trans (unhid HH))
  have HB := hid ((unhid HB).trans (hb5.mono (unhid HB).size))
  refine hK.out _ _ ((unhid HSF) _ (unhid HH)) ?_
  clear hSE hK K hb5
  intro hSE
  (try simp only [Act.put, List.setIfInBounds_toArray, List.set_cons_zero, List.set_cons_succ])
  (refine WE_take (i := 3) (v := ?_) rfl (by kernel_rfl) (by decide) (by kernel_rfl) (by kernel_rfl) (fun _ _ _ h => h) (by rfl) hSE ?_ ?_; rotate_left; (focus (intro w hSw; (try dsimp only at hSw); go_simp; (try with_reducible rfl))); simp only [Act.put, List.setIfInBounds_toArray, List.set_cons_zero, List.set_cons_succ])
  refine WE_tail (by kernel_rfl) (by kernel_rfl) (by rfl) ?_
  simp only [List.drop_succ_cons, List.drop_zero]
  clear hSE
  go_wp2_with fail
  refine NoPanic.normal ?_
  go_wp2_with fail
  go_ret
  have hb := unhid HB
  exact ⟨_, rfl, by repeat (first | exact hb | apply below_alloc')⟩

set_option maxHeartbeats 4000000 in
set_option maxRecDepth 100000 in
theorem wopen_new (a b l0 l1 l2 s k0 k1 k2 k3 er : Int) (D : Nat) (w : World) (hd : DiskAt w D) (her : er = if setupB a b [l0, l1, l2] s [k0, k1, k2, k3] = true then 0 else 2) :
    Calls Tryz.prog 7 #[.agg #[.int .i64 a, .int .i64 b, .int .i64 l0, .int .i64 l1, .int .i64 l2, .int .i64 s, .int .i64 k0, .int .i64 k1, .int .i64 k2, .int .i64 k3], .pointer (some ⟨D, 0, none⟩)] w fun e w' => ∃ v, e = .returned (.tuple #[.pointer v, .int .i64 er]) ∧ Below w.heap.size w w' := by
  have HB := hid (below_alloc w (.cells #[.int .i64 a, .int .i64 b, .int .i64 l0, .int .i64 l1, .int .i64 l2, .int .i64 s, .int .i64 k0, .int .i64 k1, .int .i64 k2, .int .i64 k3] 29))
  have HH := hid (heap_alloc_new w (.cells #[.int .i64 a, .int .i64 b, .int .i64 l0, .int .i64 l1, .int .i64 l2, .int .i64 s, .int .i64 k0, .int .i64 k1, .int .i64 k2, .int .i64 k3] 29))
  have HD := hid (hd.below (below_alloc w (.cells #[.int .i64 a, .int .i64 b, .int .i64 l0, .int .i64 l1, .int .i64 l2, .int .i64 s, .int .i64 k0, .int .i64 k1, .int .i64 k2, .int .i64 k3] 29)))
  have HER := hid her
  clear hd her
  go_enter Tryz.func7, Tryz.ntmps7
  go_upto_region 1 with (fail)
  change Code.wp _ _ _ _ (w.alloc (.cells #[.int .i64 a, .int .i64 b, .int .i64 l0, .int .i64 l1, .int .i64 l2, .int .i64 s, .int .i64 k0, .int .i64 k1, .int .i64 k2, .int .i64 k3] 29))
  generalize w.alloc (.cells #[.int .i64 a, .int .i64 b, .int .i64 l0, .int .i64 l1, .int .i64 l2, .int .i64 s, .int .i64 k0, .int .i64 k1, .int .i64 k2, .int .i64 k3] 29) = W at *
  have hh := unhid HH
  have s0 := cell_of_row _ w.heap.size 0 _ _ _ hh
  have s1 := cell_of_row _ w.heap.size 1 _ _ _ hh
  have s2 := cell_of_row _ w.heap.size 2 _ _ _ hh
  have s3 := cell_of_row _ w.heap.size 3 _ _ _ hh
  have s4 := cell_of_row _ w.heap.size 4 _ _ _ hh
  have s5 := cell_of_row _ w.heap.size 5 _ _ _ hh
  have s6 := cell_of_row _ w.heap.size 6 _ _ _ hh
  have s7 := cell_of_row _ w.heap.size 7 _ _ _ hh
  have s8 := cell_of_row _ w.heap.size 8 _ _ _ hh
  have s9 := cell_of_row _ w.heap.size 9 _ _ _ hh
  simp at s0 s1 s2 s3 s4 s5 s6 s7 s8 s9
  have HV := hid (fun w => validSetup_calls a b l0 l1 l2 s k0 k1 k2 k3 w)
  have HN := hid (fun w h => newState_calls a b l0 l1 l2 s k0 k1 k2 k3 w h)
  generalize setupB a b [l0, l1, l2] s [k0, k1, k2, k3] = vb at *
  clear hh
  go_wp2_with fail
  refine ((unhid HV) _).mono ?_
  rintro e w2 ⟨rfl, hb⟩
  have HB := hid ((unhid HB).trans (hb.mono (unhid HB).size))
  have HD := hid ((unhid HD).below hb)
  have hh := (hb.block _ (Array.getElem?_eq_some_iff.1 (unhid HH)).1).trans (unhid HH)
  clear hb HV s0 s1 s2 s3 s4 s5 s6 s7 s8 s9 HH
  cases vb with
  | false =>
    have HR := hid (show er = 2 from unhid HER)
    clear HER
    go_wp2_with fail
    go_ret2
    exact ⟨_, by rw [unhid HR]; rfl, unhid HB⟩
  | true =>
    have HR := hid (show er = 0 from unhid HER)
    clear HER
    have hb := below_alloc w2 (logO D)
    have HB := hid ((unhid HB).trans (hb.mono (unhid HB).size))
    have hh := (hb.block _ (Array.getElem?_eq_some_iff.1 hh).1).trans hh
    have HL := hid (heap_alloc_new w2 (logO D))
    clear hb
    have s0 := cell_of_row _ w.heap.size 0 _ _ _ hh
    have s1 := cell_of_row _ w.heap.size 1 _ _ _ hh
    have s2 := cell_of_row _ w.heap.size 2 _ _ _ hh
    have s3 := cell_of_row _ w.heap.size 3 _ _ _ hh
    have s4 := cell_of_row _ w.heap.size 4 _ _ _ hh
    have s5 := cell_of_row _ w.heap.size 5 _ _ _ hh
    have s6 := cell_of_row _ w.heap.size 6 _ _ _ hh
    have s7 := cell_of_row _ w.heap.size 7 _ _ _ hh
    have s8 := cell_of_row _ w.heap.size 8 _ _ _ hh
    have s9 := cell_of_row _ w.heap.size 9 _ _ _ hh
    simp at s0 s1 s2 s3 s4 s5 s6 s7 s8 s9
    go_upto_region 4 with (go_at_call 23; refine (bopen_new D _ (unhid HD)).mono ?_; rintro e w' ⟨rfl, rfl⟩)
    generalize w2.alloc (logO D) = w3 at *
    generalize w2.heap.size = L at *
    clear hh HD
    go_wp2_with fail
    refine ((unhid HN) _ (by first | rfl | trivial)).mono ?_
    rintro e w4 ⟨v, rfl, hb⟩
    have HB := hid ((unhid HB).trans (hb.mono (unhid HB).size))
    have HL := hid ((hb.block _ (Array.getElem?_eq_some_iff.1 (unhid HL)).1).trans (unhid HL))
    clear hb HN s0 s1 s2 s3 s4 s5 s6 s7 s8 s9
    go_upto_region 7 with (fail)
    have hb := below_alloc w4 (.cells #[.pointer (some ⟨L, 0, none⟩), .pointer v, .slice none 0 0] 45)
    have HB := hid ((unhid HB).trans (hb.mono (unhid HB).size))
    have HL := hid ((hb.block _ (Array.getElem?_eq_some_iff.1 (unhid HL)).1).trans (unhid HL))
    change Code.wp _ _ _ _ (w4.alloc (.cells #[.pointer (some ⟨L, 0, none⟩), .pointer v, .slice none 0 0] 45))
    generalize w4.alloc (.cells #[.pointer (some ⟨L, 0, none⟩), .pointer v, .slice none 0 0] 45) = w5 at *
    clear hb
    go_upto_region 8 with (go_at_call 25; refine (lentries_new L D _ (unhid HL)).mono ?_; rintro e w' ⟨rfl, rfl⟩)
    go_loopw [35] (fun iv wr => iv = .int .i64 0 ∧ wr = w5) (fun _ _ => 0)
    case atStart => exact ⟨rfl, (by first | rfl | trivial)⟩
    case round =>
      obtain ⟨rfl, hwr⟩ := hrel
      subst hwr
      go_wp2_with fail
      go_ret2
      exact ⟨_, by rw [unhid HR]; rfl, unhid HB⟩

set_option maxHeartbeats 4000000 in
set_option maxRecDepth 100000 in
theorem play_long (a b l0 l1 l2 s k0 k1 k2 k3 : Int) (A : Option Addr) (n c : Nat) (w : World) (hn : 100 < n) :
    Calls Tryz.prog 6 #[.agg #[.int .i64 a, .int .i64 b, .int .i64 l0, .int .i64 l1, .int .i64 l2, .int .i64 s, .int .i64 k0, .int .i64 k1, .int .i64 k2, .int .i64 k3], .slice A n c] w fun e w' => e = .returned (.tuple #[.slice none 0 0, .int .i64 2]) ∧ Below w.heap.size w w' := by
  have HB := hid (below_alloc w (.cells #[.int .i64 a, .int .i64 b, .int .i64 l0, .int .i64 l1, .int .i64 l2, .int .i64 s, .int .i64 k0, .int .i64 k1, .int .i64 k2, .int .i64 k3] 29))
  have HH := hid (heap_alloc_new w (.cells #[.int .i64 a, .int .i64 b, .int .i64 l0, .int .i64 l1, .int .i64 l2, .int .i64 s, .int .i64 k0, .int .i64 k1, .int .i64 k2, .int .i64 k3] 29))
  have hnn : (100 : Int) < (n : Int) := by omega
  obtain ⟨er, her⟩ : ∃ x : Int, x = if setupB a b [l0, l1, l2] s [k0, k1, k2, k3] = true then 0 else 2 := ⟨_, rfl⟩
  have HO := hid (fun D w hd => wopen_new a b l0 l1 l2 s k0 k1 k2 k3 er D w hd her)
  have HER := hid (show er = 0 ∨ er = 2 by rw [her]; split <;> simp)
  clear her hn
  go_enter Tryz.func6, Tryz.ntmps6
  go_upto_region 1 with (fail)
  change Code.wp _ _ _ _ (w.alloc (.cells #[.int .i64 a, .int .i64 b, .int .i64 l0, .int .i64 l1, .int .i64 l2, .int .i64 s, .int .i64 k0, .int .i64 k1, .int .i64 k2, .int .i64 k3] 29))
  generalize w.alloc (.cells #[.int .i64 a, .int .i64 b, .int .i64 l0, .int .i64 l1, .int .i64 l2, .int .i64 s, .int .i64 k0, .int .i64 k1, .int .i64 k2, .int .i64 k3] 29) = W at *
  have hSF : ∀ w' : World, w'.heap[w.heap.size]? = some (.cells #[.int .i64 a, .int .i64 b, .int .i64 l0, .int .i64 l1, .int .i64 l2, .int .i64 s, .int .i64 k0, .int .i64 k1, .int .i64 k2, .int .i64 k3] 29 (0, 0)) → (w'.cell? ⟨w.heap.size, 0, none⟩ = some (.int .i64 a) ∧ w'.cell? ⟨w.heap.size, 1, none⟩ = some (.int .i64 b) ∧ w'.cell? ⟨w.heap.size, 2, none⟩ = some (.int .i64 l0) ∧ w'.cell? ⟨w.heap.size, 3, none⟩ = some (.int .i64 l1) ∧ w'.cell? ⟨w.heap.size, 4, none⟩ = some (.int .i64 l2) ∧ w'.cell? ⟨w.heap.size, 5, none⟩ = some (.int .i64 s) ∧ w'.cell? ⟨w.heap.size, 6, none⟩ = some (.int .i64 k0) ∧ w'.cell? ⟨w.heap.size, 7, none⟩ = some (.int .i64 k1) ∧ w'.cell? ⟨w.heap.size, 8, none⟩ = some (.int .i64 k2) ∧ w'.cell? ⟨w.heap.size, 9, none⟩ = some (.int .i64 k3)) := fun w' hh => by
    refine ⟨?_, ?_, ?_, ?_, ?_, ?_, ?_, ?_, ?_, ?_⟩
    all_goals (rw [cell_of_row _ _ _ _ _ _ hh]; rfl)
  have HSF := hid hSF
  have HH := hid (show W.drew.heap[w.heap.size]? = _ from unhid HH)
  have HB := hid (Below.drew (unhid HB))
  clear hSF
  refine wp_region_noPanic ?_
  refine wp_region_E (S := fun w' => w'.cell? ⟨w.heap.size, 0, none⟩ = some (.int .i64 a) ∧ w'.cell? ⟨w.heap.size, 1, none⟩ = some (.int .i64 b) ∧ w'.cell? ⟨w.heap.size, 2, none⟩ = some (.int .i64 l0) ∧ w'.cell? ⟨w.heap.size, 3, none⟩ = some (.int .i64 l1) ∧ w'.cell? ⟨w.heap.size, 4, none⟩ = some (.int .i64 l2) ∧ w'.cell? ⟨w.heap.size, 5, none⟩ = some (.int .i64 s) ∧ w'.cell? ⟨w.heap.size, 6, none⟩ = some (.int .i64 k0) ∧ w'.cell? ⟨w.heap.size, 7, none⟩ = some (.int .i64 k1) ∧ w'.cell? ⟨w.heap.size, 8, none⟩ = some (.int .i64 k2) ∧ w'.cell? ⟨w.heap.size, 9, none⟩ = some (.int .i64 k3)) 3 5 rfl (by kernel_rfl) (by kernel_rfl) ((unhid HSF) _ (unhid HH)) ?_
  intro hSE
  generalize W.drew = Wd at *
  (refine WE_take (i := 0) (v := ?_) rfl (by kernel_rfl) (by decide) (by kernel_rfl) (by kernel_rfl) (fun _ _ _ h => h) (by rfl) hSE ?_ ?_; rotate_left; (focus (intro w hSw; (try dsimp only at hSw); go_simp; (try with_reducible rfl))); simp only [Act.put, List.setIfInBounds_toArray, List.set_cons_zero, List.set_cons_succ])
  (refine WE_one (i := 1) rfl (by decide) (by kernel_rfl) ?_; intro K hK)
  go_simp
  go_at_call 19
  refine (newDisk_calls Wd).mono ?_
  rintro e w5 ⟨rfl, hw5⟩
  have hb5 : Below Wd.heap.size Wd w5 := hw5 ▸ below_alloc Wd diskO
  have hd : DiskAt w5 Wd.heap.size := by rw [hw5]; exact heap_alloc_new Wd diskO
  have HD := hid hd
  have HH := hid ((hb5.block _ (Array.getElem?_eq_some_iff.1 (unhid HH)).1).trans (unhid HH))
  have HB := hid ((unhid HB).trans (hb5.mono (unhid HB).size))
  refine hK.out _ _ ((unhid HSF) _ (unhid HH)) ?_
  clear hSE hK K hb5 hd hw5
  generalize Wd.heap.size = D at *
  intro hSE
  (try simp only [Act.put, List.setIfInBounds_toArray, List.set_cons_zero, List.set_cons_succ])
  (refine WE_take (i := 2) (v := ?_) rfl (by kernel_rfl) (by decide) (by kernel_rfl) (by kernel_rfl) (fun _ _ _ h => h) (by rfl) hSE ?_ ?_; rotate_left; (focus (intro w hSw; (try dsimp only at hSw); go_simp; (try with_reducible rfl))); simp only [Act.put, List.setIfInBounds_toArray, List.set_cons_zero, List.set_cons_succ])
  refine WE_tail (by kernel_rfl) (by kernel_rfl) (by rfl) ?_
  simp only [List.drop_succ_cons, List.drop_zero]
  clear hSE
  go_wp2_with fail
  refine NoPanic.normal ?_
  go_upto_region 2 with (fail)
  have hb := below_alloc w5 (.cells #[.int .i64 a, .int .i64 b, .int .i64 l0, .int .i64 l1, .int .i64 l2, .int .i64 s, .int .i64 k0, .int .i64 k1, .int .i64 k2, .int .i64 k3, .pointer (some ⟨D, 0, none⟩), .pointer none] 80)
  have HB := hid ((unhid HB).trans (hb.mono (unhid HB).size))
  have HH := hid ((hb.block _ (Array.getElem?_eq_some_iff.1 (unhid HH)).1).trans (unhid HH))
  have HD := hid ((unhid HD).below hb)
  have HP := hid (heap_alloc_new w5 (.cells #[.int .i64 a, .int .i64 b, .int .i64 l0, .int .i64 l1, .int .i64 l2, .int .i64 s, .int .i64 k0, .int .i64 k1, .int .i64 k2, .int .i64 k3, .pointer (some ⟨D, 0, none⟩), .pointer none] 80))
  change Code.wp _ _ _ _ (w5.alloc (.cells #[.int .i64 a, .int .i64 b, .int .i64 l0, .int .i64 l1, .int .i64 l2, .int .i64 s, .int .i64 k0, .int .i64 k1, .int .i64 k2, .int .i64 k3, .pointer (some ⟨D, 0, none⟩), .pointer none] 80))
  generalize w5.alloc (.cells #[.int .i64 a, .int .i64 b, .int .i64 l0, .int .i64 l1, .int .i64 l2, .int .i64 s, .int .i64 k0, .int .i64 k1, .int .i64 k2, .int .i64 k3, .pointer (some ⟨D, 0, none⟩), .pointer none] 80) = w6 at *
  generalize w5.heap.size = E at *
  clear hb HSF
  have hSF : ∀ w' : World, w'.heap[w.heap.size]? = some (.cells #[.int .i64 a, .int .i64 b, .int .i64 l0, .int .i64 l1, .int .i64 l2, .int .i64 s, .int .i64 k0, .int .i64 k1, .int .i64 k2, .int .i64 k3] 29 (0, 0)) → w'.heap[E]? = some (.cells #[.int .i64 a, .int .i64 b, .int .i64 l0, .int .i64 l1, .int .i64 l2, .int .i64 s, .int .i64 k0, .int .i64 k1, .int .i64 k2, .int .i64 k3, .pointer (some ⟨D, 0, none⟩), .pointer none] 80 (0, 0)) → (w'.cell? ⟨w.heap.size, 0, none⟩ = some (.int .i64 a) ∧ w'.cell? ⟨w.heap.size, 1, none⟩ = some (.int .i64 b) ∧ w'.cell? ⟨w.heap.size, 2, none⟩ = some (.int .i64 l0) ∧ w'.cell? ⟨w.heap.size, 3, none⟩ = some (.int .i64 l1) ∧ w'.cell? ⟨w.heap.size, 4, none⟩ = some (.int .i64 l2) ∧ w'.cell? ⟨w.heap.size, 5, none⟩ = some (.int .i64 s) ∧ w'.cell? ⟨w.heap.size, 6, none⟩ = some (.int .i64 k0) ∧ w'.cell? ⟨w.heap.size, 7, none⟩ = some (.int .i64 k1) ∧ w'.cell? ⟨w.heap.size, 8, none⟩ = some (.int .i64 k2) ∧ w'.cell? ⟨w.heap.size, 9, none⟩ = some (.int .i64 k3) ∧ w'.cell? ⟨E, 10, none⟩ = some (.pointer (some ⟨D, 0, none⟩))) := fun w' hh hp => by
    refine ⟨?_, ?_, ?_, ?_, ?_, ?_, ?_, ?_, ?_, ?_, ?_⟩
    all_goals first | (rw [cell_of_row _ _ _ _ _ _ hh]; rfl) | (rw [cell_of_row _ _ _ _ _ _ hp]; rfl)
  have HSF := hid hSF
  have HH := hid (show w6.drew.heap[w.heap.size]? = _ from unhid HH)
  have HP := hid (show w6.drew.heap[E]? = _ from unhid HP)
  have HD := hid (show DiskAt w6.drew D from unhid HD)
  have HB := hid (Below.drew (unhid HB))
  clear hSF
  refine wp_region_noPanic ?_
  refine wp_region_E (S := fun w' => w'.cell? ⟨w.heap.size, 0, none⟩ = some (.int .i64 a) ∧ w'.cell? ⟨w.heap.size, 1, none⟩ = some (.int .i64 b) ∧ w'.cell? ⟨w.heap.size, 2, none⟩ = some (.int .i64 l0) ∧ w'.cell? ⟨w.heap.size, 3, none⟩ = some (.int .i64 l1) ∧ w'.cell? ⟨w.heap.size, 4, none⟩ = some (.int .i64 l2) ∧ w'.cell? ⟨w.heap.size, 5, none⟩ = some (.int .i64 s) ∧ w'.cell? ⟨w.heap.size, 6, none⟩ = some (.int .i64 k0) ∧ w'.cell? ⟨w.heap.size, 7, none⟩ = some (.int .i64 k1) ∧ w'.cell? ⟨w.heap.size, 8, none⟩ = some (.int .i64 k2) ∧ w'.cell? ⟨w.heap.size, 9, none⟩ = some (.int .i64 k3) ∧ w'.cell? ⟨E, 10, none⟩ = some (.pointer (some ⟨D, 0, none⟩))) 10 11 rfl (by kernel_rfl) (by kernel_rfl) ((unhid HSF) _ (unhid HH) (unhid HP)) ?_
  intro hSE
  generalize w6.drew = Wd at *
  (refine WE_take (i := 0) (v := ?_) rfl (by kernel_rfl) (by decide) (by kernel_rfl) (by kernel_rfl) (fun _ _ _ h => h) (by rfl) hSE ?_ ?_; rotate_left; (focus (intro w hSw; (try dsimp only at hSw); go_simp; (try with_reducible rfl))); simp only [Act.put, List.setIfInBounds_toArray, List.set_cons_zero, List.set_cons_succ])
  (refine WE_take (i := 1) (v := ?_) rfl (by kernel_rfl) (by decide) (by kernel_rfl) (by kernel_rfl) (fun _ _ _ h => h) (by rfl) hSE ?_ ?_; rotate_left; (focus (intro w hSw; (try dsimp only at hSw); go_simp; (try with_reducible rfl))); simp only [Act.put, List.setIfInBounds_toArray, List.set_cons_zero, List.set_cons_succ])
  (refine WE_take (i := 2) (v := ?_) rfl (by kernel_rfl) (by decide) (by kernel_rfl) (by kernel_rfl) (fun _ _ _ h => h) (by rfl) hSE ?_ ?_; rotate_left; (focus (intro w hSw; (try dsimp only at hSw); go_simp; (try with_reducible rfl))); simp only [Act.put, List.setIfInBounds_toArray, List.set_cons_zero, List.set_cons_succ])
  (refine WE_take (i := 3) (v := ?_) rfl (by kernel_rfl) (by decide) (by kernel_rfl) (by kernel_rfl) (fun _ _ _ h => h) (by rfl) hSE ?_ ?_; rotate_left; (focus (intro w hSw; (try dsimp only at hSw); go_simp; (try with_reducible rfl))); simp only [Act.put, List.setIfInBounds_toArray, List.set_cons_zero, List.set_cons_succ])
  (refine WE_take (i := 4) (v := ?_) rfl (by kernel_rfl) (by decide) (by kernel_rfl) (by kernel_rfl) (fun _ _ _ h => h) (by rfl) hSE ?_ ?_; rotate_left; (focus (intro w hSw; (try dsimp only at hSw); go_simp; (try with_reducible rfl))); simp only [Act.put, List.setIfInBounds_toArray, List.set_cons_zero, List.set_cons_succ])
  (refine WE_one (i := 5) rfl (by decide) (by kernel_rfl) ?_; intro K hK)
  go_simp
  go_at_call 7
  refine ((unhid HO) D Wd (unhid HD)).mono ?_
  rintro e w7 ⟨v, rfl, hb⟩
  have HB := hid ((unhid HB).trans (hb.mono (unhid HB).size))
  have HH := hid ((hb.block _ (Array.getElem?_eq_some_iff.1 (unhid HH)).1).trans (unhid HH))
  have HP := hid ((hb.block _ (Array.getElem?_eq_some_iff.1 (unhid HP)).1).trans (unhid HP))
  refine hK.out _ _ ((unhid HSF) _ (unhid HH) (unhid HP)) ?_
  clear hSE hK K hb HO
  intro hSE
  (try simp only [Act.put, List.setIfInBounds_toArray, List.set_cons_zero, List.set_cons_succ])
  (refine WE_take (i := 6) (v := ?_) rfl (by kernel_rfl) (by decide) (by kernel_rfl) (by kernel_rfl) (fun _ _ _ h => h) (by rfl) hSE ?_ ?_; rotate_left; (focus (intro w hSw; (try dsimp only at hSw); go_simp; (try with_reducible rfl))); simp only [Act.put, List.setIfInBounds_toArray, List.set_cons_zero, List.set_cons_succ])
  (refine WE_take (i := 7) (v := ?_) rfl (by kernel_rfl) (by decide) (by kernel_rfl) (by kernel_rfl) (fun _ _ _ h => h) (by rfl) hSE ?_ ?_; rotate_left; (focus (intro w hSw; (try dsimp only at hSw); go_simp; (try with_reducible rfl))); simp only [Act.put, List.setIfInBounds_toArray, List.set_cons_zero, List.set_cons_succ])
  (refine WE_take (i := 8) (v := ?_) rfl (by kernel_rfl) (by decide) (by kernel_rfl) (by kernel_rfl) (fun _ _ _ h => h) (by rfl) hSE ?_ ?_; rotate_left; (focus (intro w hSw; (try dsimp only at hSw); go_simp; (try with_reducible rfl))); simp only [Act.put, List.setIfInBounds_toArray, List.set_cons_zero, List.set_cons_succ])
  (refine WE_take (i := 9) (v := ?_) rfl (by kernel_rfl) (by decide) (by kernel_rfl) (by kernel_rfl) (fun _ _ _ h => h) (by rfl) hSE ?_ ?_; rotate_left; (focus (intro w hSw; (try dsimp only at hSw); go_simp; (try with_reducible rfl))); simp only [Act.put, List.setIfInBounds_toArray, List.set_cons_zero, List.set_cons_succ])
  refine WE_tail (by kernel_rfl) (by kernel_rfl) (by rfl) ?_
  simp only [List.drop_succ_cons, List.drop_zero]
  clear hSE
  go_wp2_with fail
  refine NoPanic.normal ?_
  have her := unhid HER
  clear HER
  rcases her with rfl | rfl
  · go_wp2_with fail
    go_ret2
    exact ⟨rfl, unhid HB⟩
  · go_wp2_with fail
    go_ret2
    exact ⟨rfl, unhid HB⟩

end Go.Proofs.YtfklckjfbnaoeaaGreatDoor
