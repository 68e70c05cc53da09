/-
  The disk of the program: Crash.
-/
import Derived.Test.YtegghimjmbgghaaGreatBkDn
set_option linter.unusedSimpArgs false
set_option linter.unusedVariables false
namespace Go.Proofs.YtegghimjmbgghaaGreat
open Go.RowKit Go.Shelf

/-- How many loose bytes remain. -/
def keepN (d : Dk) (n : Int) : Nat := min n.toNat (d.bs.length - d.sf)
def crashD (d : Dk) (n : Int) : Dk := { dn := false, bs := d.bs.take (d.sf + keepN d n), sf := d.sf + keepN d n, ar := 0, lf := wrap64 (d.lf + 1) }

set_option maxHeartbeats 4000000 in
set_option maxRecDepth 100000 in
theorem kcrash_calls {base B : Nat} {v : Value} {d : Dk} (n : Int) (w : World) (h : DkAt w base B v d) (hn : d.bs.length ≤ 1000000) (h64 : I64 n) :
    Calls Tryz.prog 30 #[.pointer (some ⟨B, 0, none⟩), .int .i64 n] w fun e w' => e = .returned (.tuple #[]) ∧ ∃ v', DkAt w' base B v' (crashD d n) ∧ w.grownBy w' (some B) ∧ v'.ownBlock = v.ownBlock := by
  have HK := hid h
  have HN := hid hn
  clear h hn
  go_enter Tryz.func30, Tryz.ntmps30
  obtain ⟨A2, cc2, hv, -, hcc, -, -⟩ := own_slice2 (unhid HK).own
  subst hv
  have c2 := (unhid HK).cells.2.2.1
  have c3 := (unhid HK).cells.2.2.2.1
  go_upto_region 1 with (go_at_call 72; refine (knone_calls _ (unhid HK)).mono ?_; rintro e w9 ⟨rfl, rfl⟩)
  have hsf := (unhid HK).sf
  have hbl : (d.bs.length : Int) ≤ 1000000 := by have := unhid HN; omega
  have hsl : (d.sf : Int) ≤ (d.bs.length : Int) := by omega
  refine wp_region_still_tail 13 (by kernel_rfl) (by kernel_rfl) ?_
  simp only [List.take_succ_cons, List.take_zero, List.drop_succ_cons, List.drop_zero]
  iterate 13 still_step
  refine wpStill_nil ?_
  change wpList _ _ _ _ _ w.drew
  have hw1 : IntKind.i64.wrap ((d.bs.length : Int) - (d.sf : Int)) = (d.bs.length : Int) - (d.sf : Int) := IntWalk.i64_in _ (by omega)
  have hK : min (max n 0) (IntKind.i64.wrap ((d.bs.length : Int) - (d.sf : Int))) = ((keepN d n : Nat) : Int) := by
    rw [hw1]
    unfold keepN
    omega
  rw [hK]
  obtain ⟨k, hk⟩ : ∃ k, k = keepN d n := ⟨_, rfl⟩
  rw [← hk]
  have HKE := hid hk
  have hkl : d.sf + k ≤ d.bs.length := by rw [hk]; unfold keepN; omega
  clear hk hK hw1 c2 c3
  have hbd := Below.drew (Below.refl w.heap.size w)
  have HK := hid ((unhid HK).below hbd)
  have HG := hid (grown_of_below hbd (some B))
  clear hbd
  generalize w.drew = w1 at *
  have c3 := (unhid HK).cells.2.2.2.1
  have fz3 := (unhid HK).fz 3
  have hkl2 : (d.sf : Int) + (k : Int) ≤ 1000000 := by omega
  go_upto_region 3 with (fail)
  obtain ⟨m, hm⟩ : ∃ m, m = d.sf + k := ⟨_, rfl⟩
  rw [← hm] at hkl
  obtain ⟨hk2, hg2⟩ := (unhid HK).set 3 (.int .i64 ((d.sf : Int) + (k : Int))) (d' := { d with sf := m }) (by
    show _ = #[_, _, _, Value.int .i64 (m : Int), _, _]
    rw [show (m : Int) = (d.sf : Int) + (k : Int) by omega]
    rfl) rfl hkl (unhid HK).ar
  have HME := hid hm
  clear hm
  have HK2 := hid hk2
  have HG2 := hid (grown_two (unhid HG) hg2)
  clear hk2 hg2 c3 fz3
  generalize w1.setCell ⟨B, 3, none⟩ (.int .i64 ((d.sf : Int) + (k : Int))) = w2 at *
  have c2 := (unhid HK2).cells.2.2.1
  have c3 : w2.cell? ⟨B, 3, none⟩ = some (.int .i64 (m : Int)) := (unhid HK2).cells.2.2.2.1
  have fz2 := (unhid HK2).fz 2
  have hs1 := slice_h A2 d.bs.length cc2 m (by omega) (m : Int) rfl
  refine wp_region_still_tail 12 (by kernel_rfl) (by kernel_rfl) ?_
  simp only [List.take_succ_cons, List.take_zero, List.drop_succ_cons, List.drop_zero]
  iterate 12 still_step
  refine wpStill_nil ?_
  change wpList _ _ _ _ _ w2.drew
  clear c2 c3 fz2 hs1
  have hbd := Below.drew (Below.refl w2.heap.size w2)
  have HK3 := hid ((unhid HK2).below hbd)
  have HG3 := hid (grown_two (unhid HG2) (grown_of_below hbd (some B)))
  clear hbd HK2
  generalize w2.drew = w3 at *
  have c2 := (unhid HK3).cells.2.2.1
  have fz2 := (unhid HK3).fz 2
  go_upto_region 4 with (fail)
  have HO := hid (own_take (unhid HK3).own hkl)
  have hb4 := heap_setCell_same w3 B 2 _ _ (.slice A2 m cc2) (unhid HK3).b
  have hg4 := setCell_grown w3 (unhid HK3).b (i := 2) (.slice A2 m cc2)
  have hkt : (d.bs.take m).length = m := by rw [List.length_take]; omega
  have HK4 := hid (show DkAt (w3.setCell ⟨B, 2, none⟩ (.slice A2 m cc2)) base B (.slice A2 m cc2) { d with bs := d.bs.take m, sf := m } from
    ⟨hb4, by rw [hkt]; exact own_kept (unhid HO) hg4 (own_ne_blk (unhid HO) (unhid HK3).b (by decide)), by rw [hkt]; exact Nat.le_refl _, (unhid HK3).ar, Nat.le_trans (unhid HK3).lo hg4.size⟩)
  have HG4 := hid (grown_two (unhid HG3) hg4)
  clear c2 fz2 hb4 hg4
  generalize w3.setCell ⟨B, 2, none⟩ (.slice A2 m cc2) = w4 at *
  have c1 := (unhid HK4).cells.2.1
  have fz1 := (unhid HK4).fz 1
  have hb5 := heap_setCell_same w4 B 1 _ _ (.bool false) (unhid HK4).b
  have c4 : (w4.setCell ⟨B, 1, none⟩ (.bool false)).cell? ⟨B, 4, none⟩ = some (.int .i64 (d.ar : Int)) := cell_of_row _ B 4 _ _ _ hb5
  have fz4 : (w4.setCell ⟨B, 1, none⟩ (.bool false)).frozen? ⟨B, 4, none⟩ = false := frozen_of_row _ _ _ _ _ hb5
  go_upto_region 5 with (fail)
  have h5 := (unhid HK4).set 1 (.bool false) (d' := { dn := false, bs := d.bs.take m, sf := m, ar := d.ar, lf := d.lf }) rfl rfl (unhid HK4).sf (unhid HK4).ar
  have h6 := h5.1.set 4 (.int .i64 0) (d' := { dn := false, bs := d.bs.take m, sf := m, ar := 0, lf := d.lf }) rfl rfl (unhid HK4).sf (by show (0 : Int) ≤ _; omega)
  have HK6 := hid h6.1
  have HG6 := hid (grown_two (unhid HG4) (grown_two h5.2 h6.2))
  clear c1 fz1 hb5 c4 fz4 h5 h6
  generalize (w4.setCell ⟨B, 1, none⟩ (.bool false)).setCell ⟨B, 4, none⟩ (.int .i64 0) = w6 at *
  have c5 : w6.cell? ⟨B, 5, none⟩ = some (.int .i64 d.lf) := (unhid HK6).cells.2.2.2.2.2
  have fz5 := (unhid HK6).fz 5
  have h7 := (unhid HK6).set 5 (.int .i64 (wrap64 (d.lf + 1))) (d' := crashD d n) (by unfold crashD; rw [← unhid HKE, ← unhid HME]; rfl) (by unfold crashD; rw [← unhid HKE, ← unhid HME]) (by
    show (crashD d n).sf ≤ (d.bs.take m).length
    unfold crashD
    rw [← unhid HKE, ← unhid HME, hkt]
    exact Nat.le_refl _) (by show (0 : Int) ≤ _; omega)
  have HP := hid (⟨rfl, _, h7.1, grown_two (unhid HG6) h7.2, by cases A2 <;> rfl⟩ : Ending.returned (.tuple #[]) = .returned (.tuple #[]) ∧ ∃ v', DkAt (w6.setCell ⟨B, 5, none⟩ (.int .i64 (wrap64 (d.lf + 1)))) base B v' (crashD d n) ∧ w.grownBy (w6.setCell ⟨B, 5, none⟩ (.int .i64 (wrap64 (d.lf + 1)))) (some B) ∧ v'.ownBlock = (Value.slice A2 d.bs.length cc2).ownBlock)
  clear h7
  go_wp2_with fail
  go_end0
  exact ⟨rfl, (unhid HP).2⟩

end Go.Proofs.YtegghimjmbgghaaGreat
