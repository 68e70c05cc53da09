/-
  The disk of the program: Sync, Cut, Read, NewDisk, Arm.
-/
import Derived.Test.YtegghimjmbgghaaGreatBkDm
set_option linter.unusedSimpArgs false
set_option linter.unusedVariables false
namespace Go.Proofs.YtegghimjmbgghaaGreat
open Go.RowKit Go.Shelf

def syncD (d : Dk) : Dk := if d.dn then d else if d.ar = 1 then begD d else { begD d with sf := d.bs.length }
/-- What a call leaves that turns the disk's block alone. -/
def DkPost (w : World) (base B : Nat) (v : Value) (d' : Dk) (en : Int) (e : Ending) (w' : World) : Prop :=
  e = .returned (.int .i64 en) ∧ DkAt w' base B v d' ∧ w.grownBy w' (some B)
theorem grown_refl (w : World) (row : Option Nat) : w.grownBy w row := ⟨rfl, rfl, rfl, Nat.le_refl _, fun _ _ _ => rfl⟩
theorem grown_two {w w1 w2 : World} {B : Nat} (h : w.grownBy w1 (some B)) (h2 : w1.grownBy w2 (some B)) : w.grownBy w2 (some B) := h.andThen h2 (fun j e => .inr e)

set_option maxHeartbeats 4000000 in
set_option maxRecDepth 100000 in
theorem ksync_calls {base B : Nat} {v : Value} {d : Dk} (w : World) (h : DkAt w base B v d) (hn : d.bs.length ≤ 1000000) :
    Calls Tryz.prog 24 #[.pointer (some ⟨B, 0, none⟩)] w fun e w' => DkPost w base B v (syncD d) (downE d) e w' := by
  have HK := hid h
  have HN := hid hn
  clear h hn
  go_enter Tryz.func24, Tryz.ntmps24
  go_wp2_with fail
  refine (kdown_calls w (unhid HK)).mono ?_
  rintro e w' ⟨rfl, rfl⟩
  by_cases hdn : d.dn = true
  · have HP := hid (show DkPost w base B v (syncD d) (downE d) (.returned (.int .i64 92)) w from ⟨by rw [downE, if_pos hdn], by rw [syncD, if_pos hdn]; exact unhid HK, grown_refl _ _⟩)
    rw [hdn]
    clear hdn
    go_wp2_with fail
    go_ret
    exact unhid HP
  · have hdf : d.dn = false := by simpa using hdn
    rw [hdf]
    have HDF := hid hdf
    clear hdn hdf
    go_wp2_with fail
    refine (begin_calls w (unhid HK) (unhid HDF)).mono ?_
    rintro e w1 ⟨rfl, hk1, hg1⟩
    have HK1 := hid hk1
    have HG1 := hid hg1
    clear hk1 hg1
    by_cases h1 : d.ar = 1
    · have hbe : begE d = 92 := by rw [begE, if_pos h1]
      have HP := hid (show DkPost w base B v (syncD d) (downE d) (.returned (.int .i64 92)) w1 from ⟨by rw [downE, if_neg (by rw [unhid HDF]; simp), hbe], by rw [syncD, if_neg (by rw [unhid HDF]; simp), if_pos h1]; exact unhid HK1, unhid HG1⟩)
      rw [hbe]
      clear hbe h1
      go_wp2_with fail
      go_ret
      exact unhid HP
    · have hbe : begE d = 0 := by rw [begE, if_neg h1]
      have HE := hid (show downE d = 0 from by rw [downE, if_neg (by rw [unhid HDF]; simp), hbe])
      have HA := hid (show syncD d = { begD d with sf := d.bs.length } from by rw [syncD, if_neg (by rw [unhid HDF]; simp), if_neg h1])
      rw [hbe]
      clear hbe h1
      have c2 := (unhid HK1).cells.2.2.1
      have c3 := (unhid HK1).cells.2.2.2.1
      have fz3 := (unhid HK1).fz 3
      obtain ⟨A2, cc2, hv, -, -⟩ := own_slice (unhid HK1).own
      have hbs := (begD_bs d).1
      rw [hbs] at hv
      subst hv
      clear hbs
      go_wp2_with fail
      have hs := (unhid HK1).set 3 (.int .i64 (d.bs.length : Int)) (d' := { begD d with sf := d.bs.length }) rfl rfl (by rw [(begD_bs d).1]; exact Nat.le_refl _) (unhid HK1).ar
      have HP := hid (show DkPost w base B (.slice A2 d.bs.length cc2) (syncD d) (downE d) (.returned (.int .i64 0)) (w1.setCell ⟨B, 3, none⟩ (.int .i64 (d.bs.length : Int))) from ⟨by rw [unhid HE], by rw [unhid HA]; exact hs.1, grown_two (unhid HG1) hs.2⟩)
      clear hs
      go_ret
      exact unhid HP

/-- Cut. -/
def cutD (d : Dk) (n : Int) : Dk := if d.dn then d else if btw 0 n d.bs.length = false then d else if d.ar = 1 then begD d else { begD d with bs := d.bs.take n.toNat, sf := n.toNat }
def cutE (d : Dk) (n : Int) : Int := if d.dn then 92 else if btw 0 n d.bs.length = false then 2 else begE d
def CutPost (w : World) (base B : Nat) (v : Value) (d' : Dk) (en : Int) (e : Ending) (w' : World) : Prop :=
  e = .returned (.int .i64 en) ∧ ∃ v', DkAt w' base B v' d' ∧ w.grownBy w' (some B) ∧ v'.ownBlock = v.ownBlock
set_option maxHeartbeats 4000000 in
set_option maxRecDepth 100000 in
theorem kcut_calls {base B : Nat} {v : Value} {d : Dk} (n : Int) (w : World) (h : DkAt w base B v d) (hn : d.bs.length ≤ 1000000) :
    Calls Tryz.prog 26 #[.pointer (some ⟨B, 0, none⟩), .int .i64 n] w fun e w' => CutPost w base B v (cutD d n) (cutE d n) e w' := by
  have HK := hid h
  have HN := hid hn
  clear h hn
  go_enter Tryz.func26, Tryz.ntmps26
  go_wp2_with fail
  refine (kdown_calls w (unhid HK)).mono ?_
  rintro e w' ⟨rfl, rfl⟩
  by_cases hdn : d.dn = true
  · have HP := hid (show CutPost w base B v (cutD d n) (cutE d n) (.returned (.int .i64 92)) w from ⟨by rw [cutE, if_pos hdn], v, by rw [cutD, if_pos hdn]; exact unhid HK, grown_refl _ _, rfl⟩)
    rw [hdn]
    clear hdn
    go_wp2_with fail
    go_ret
    exact unhid HP
  · have hdf : d.dn = false := by simpa using hdn
    rw [hdf]
    have HDF := hid hdf
    clear hdn hdf
    have c2 := (unhid HK).cells.2.2.1
    obtain ⟨A2, cc2, hv, -, hcc, -, -⟩ := own_slice2 (unhid HK).own
    subst hv
    cases d0 : btw 0 n d.bs.length with
    | false =>
      have HP := hid (show CutPost w base B (.slice A2 d.bs.length cc2) (cutD d n) (cutE d n) (.returned (.int .i64 2)) w from ⟨by rw [cutE, if_neg (by rw [unhid HDF]; simp), if_pos d0], _, by rw [cutD, if_neg (by rw [unhid HDF]; simp), if_pos d0]; exact unhid HK, grown_refl _ _, rfl⟩)
      go_wp2_with (go_at_call 57; refine (within_calls _ _ _ _).mono ?_; rintro e w' ⟨rfl, rfl⟩)
      go_ret
      exact unhid HP
    | true =>
      obtain ⟨hn0, hnl⟩ := btw_iff.1 d0
      obtain ⟨k, rfl⟩ : ∃ k : Nat, n = (k : Int) := ⟨n.toNat, by omega⟩
      have hkl : k ≤ d.bs.length := by omega
      go_upto_region 5 with (go_at_call 57; refine (within_calls _ _ _ _).mono ?_; rintro e w' ⟨rfl, rfl⟩)
      have HD0 := hid d0
      clear d0 c2
      go_wp2_with fail
      refine (begin_calls w (unhid HK) (unhid HDF)).mono ?_
      rintro e w1 ⟨rfl, hk1, hg1⟩
      have HK1 := hid hk1
      have HG1 := hid hg1
      clear hk1 hg1
      by_cases h1 : d.ar = 1
      · have hbe : begE d = 92 := by rw [begE, if_pos h1]
        have HP := hid (show CutPost w base B (.slice A2 d.bs.length cc2) (cutD d k) (cutE d k) (.returned (.int .i64 92)) w1 from ⟨by rw [cutE, if_neg (by rw [unhid HDF]; simp), if_neg (by rw [unhid HD0]; simp), hbe], _, by rw [cutD, if_neg (by rw [unhid HDF]; simp), if_neg (by rw [unhid HD0]; simp), if_pos h1]; exact unhid HK1, unhid HG1, rfl⟩)
        rw [hbe]
        clear hbe h1
        go_wp2_with fail
        go_ret
        exact unhid HP
      · have hbe : begE d = 0 := by rw [begE, if_neg h1]
        have HE := hid (show cutE d k = 0 from by rw [cutE, if_neg (by rw [unhid HDF]; simp), if_neg (by rw [unhid HD0]; simp), hbe])
        have HA := hid (show cutD d k = { begD d with bs := d.bs.take k, sf := k } from by rw [cutD, if_neg (by rw [unhid HDF]; simp), if_neg (by rw [unhid HD0]; simp), if_neg h1, Int.toNat_natCast])
        rw [hbe]
        clear hbe h1
        have c2 := (unhid HK1).cells.2.2.1
        have c3 := (unhid HK1).cells.2.2.2.1
        have fz2 := (unhid HK1).fz 2
        have hs1 := slice_h A2 d.bs.length cc2 k (by omega) (k : Int) rfl
        have hown := (unhid HK1).own
        rw [(begD_bs d).1] at hown
        have HO := hid (own_take hown hkl)
        obtain ⟨u, hu⟩ : ∃ u, u = w1.setCell ⟨B, 2, none⟩ (.slice A2 k cc2) := ⟨_, rfl⟩
        have hb1 := heap_setCell_same w1 B 2 _ _ (.slice A2 k cc2) (unhid HK1).b
        have c3' : (w1.setCell ⟨B, 2, none⟩ (.slice A2 k cc2)).cell? ⟨B, 3, none⟩ = some (.int .i64 ((begD d).sf : Int)) := cell_of_row _ B 3 _ _ _ hb1
        have fz3 : (w1.setCell ⟨B, 2, none⟩ (.slice A2 k cc2)).frozen? ⟨B, 3, none⟩ = false := frozen_of_row _ _ _ _ _ hb1
        have hg2 := setCell_grown w1 (unhid HK1).b (i := 2) (.slice A2 k cc2)
        have hb2 := heap_setCell_same (w1.setCell ⟨B, 2, none⟩ (.slice A2 k cc2)) B 3 _ _ (.int .i64 (k : Int)) hb1
        have hg3 := setCell_grown (w1.setCell ⟨B, 2, none⟩ (.slice A2 k cc2)) hb1 (i := 3) (.int .i64 (k : Int))
        have hkt : (d.bs.take k).length = k := by rw [List.length_take]; omega
        have hdk : DkAt ((w1.setCell ⟨B, 2, none⟩ (.slice A2 k cc2)).setCell ⟨B, 3, none⟩ (.int .i64 (k : Int))) base B (.slice A2 k cc2) { begD d with bs := d.bs.take k, sf := k } :=
          ⟨hb2, by rw [hkt]; exact own_kept (unhid HO) (grown_two hg2 hg3) (own_ne_blk (unhid HO) (unhid HK1).b (by decide)), by rw [hkt]; exact Nat.le_refl _, (unhid HK1).ar, Nat.le_trans (unhid HK1).lo (grown_two hg2 hg3).size⟩
        have HP := hid (show CutPost w base B (.slice A2 d.bs.length cc2) (cutD d k) (cutE d k) (.returned (.int .i64 0)) ((w1.setCell ⟨B, 2, none⟩ (.slice A2 k cc2)).setCell ⟨B, 3, none⟩ (.int .i64 (k : Int))) from ⟨by rw [unhid HE], _, by rw [unhid HA]; exact hdk, grown_two (unhid HG1) (grown_two hg2 hg3), by cases A2 <;> rfl⟩)
        clear hdk hkt hg3 hb2 hg2 hb1 hu hown
        go_wp2_with fail
        go_ret
        exact unhid HP

/-- Read. -/
def ReadPost (w : World) (d : Dk) (e : Ending) (w' : World) : Prop :=
  (d.dn = true ∧ e = .returned (.tuple #[.slice none 0 0, .int .i64 92]) ∧ Below w.heap.size w w') ∨
  (d.dn = false ∧ ∃ (A' : Option Addr) (c' : Nat), e = .returned (.tuple #[.slice A' d.bs.length c', .int .i64 0]) ∧ w'.ownsRow w.heap.size 5 1 (.slice A' d.bs.length c') d.bs.length (bys d.bs) ∧ Below w.heap.size w w')
set_option maxHeartbeats 4000000 in
set_option maxRecDepth 100000 in
theorem kread_calls {base B : Nat} {v : Value} {d : Dk} (w : World) (h : DkAt w base B v d) (hn : d.bs.length ≤ 1000000) :
    Calls Tryz.prog 52 #[.pointer (some ⟨B, 0, none⟩)] w fun e w' => ReadPost w d e w' := by
  have HK := hid h
  have HN := hid hn
  clear h hn
  go_enter Tryz.func52, Tryz.ntmps52
  go_wp2_with fail
  refine (kdown_calls w (unhid HK)).mono ?_
  rintro e w' ⟨rfl, rfl⟩
  by_cases hdn : d.dn = true
  · have HP := hid (show ReadPost w d (.returned (.tuple #[.slice none 0 0, .int .i64 92])) w from .inl ⟨hdn, rfl, Below.refl _ _⟩)
    rw [hdn]
    clear hdn
    go_wp2_with fail
    go_ret2
    exact unhid HP
  · have hdf : d.dn = false := by simpa using hdn
    rw [hdf]
    have HDF := hid hdf
    clear hdn hdf
    have c2 := (unhid HK).cells.2.2.1
    obtain ⟨A2, cc2, hv, hrd, -⟩ := own_slice (unhid HK).own
    subst hv
    have HRD := hid hrd
    clear hrd
    go_wp2_with fail
    refine (clone_calls d.bs A2 cc2 w (unhid HRD) (unhid HN)).mono ?_
    rintro e w1 ⟨A', c', rfl, hown, hb⟩
    have HP := hid (show ReadPost w d (.returned (.tuple #[.slice A' d.bs.length c', .int .i64 0])) w1 from .inr ⟨unhid HDF, A', c', rfl, hown, hb⟩)
    clear hown hb
    go_wp2_with fail
    go_ret2
    exact unhid HP

set_option maxHeartbeats 4000000 in
set_option maxRecDepth 100000 in
theorem knew_calls (w : World) : Calls Tryz.prog 21 #[] w fun e w' => e = .returned (.pointer (some ⟨w.heap.size, 0, none⟩)) ∧ DkAt w' w.heap.size w.heap.size (.slice none 0 0) ⟨false, [], 0, 0, 0⟩ ∧ Below w.heap.size w w' := by
  have hb := below_alloc w (.cells #[.bool true, .bool false, .slice none 0 0, .int .i64 0, .int .i64 0, .int .i64 0] 95)
  have hn := heap_alloc_new w (.cells #[.bool true, .bool false, .slice none 0 0, .int .i64 0, .int .i64 0, .int .i64 0] 95)
  have HK := hid (show DkAt _ w.heap.size w.heap.size (.slice none 0 0) ⟨false, [], 0, 0, 0⟩ from ⟨hn, World.ownsRow_nil _ _ _ _, Nat.le_refl _, by show (0 : Int) ≤ _; omega, hb.size⟩)
  have HB := hid hb
  clear hb hn
  go_enter Tryz.func21, Tryz.ntmps21
  go_wp2_with fail
  go_ret
  exact ⟨rfl, unhid HK, unhid HB⟩

end Go.Proofs.YtegghimjmbgghaaGreat
