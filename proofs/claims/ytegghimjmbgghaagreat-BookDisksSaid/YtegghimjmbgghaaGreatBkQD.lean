/-
  The disk of the reference: fails, Append, Sync, Cut. The disk of the reference: Sync, Cut, Arm, Crash, Copy. Crash and Copy of the reference's disk, Copy of the program's. The entry's bytes, of the program. Put: what it makes of a disk and a log; what stays. Put of the program. append to a slice without room: the result is a new row. The reference's log in a block. Put of the reference. Open of the reference. shows: both disks read alike. The two disks and the two logs beside one another. The two disks: Open and Copy; how the bytes grow. Moves: their cells. The state of the two disks and logs as the law holds it. The law's state behind a move. The arguments opened: moves.
-/
import Derived.Test.YtegghimjmbgghaaGreatBkDo
import Derived.Deep.WholeRow
import Derived.Test.YtegghimjmbgghaaGreatBkRx
import Derived.Test.YtegghimjmbgghaaGreatBkCk
import Derived.Test.YtegghimjmbgghaaGreatBkEs
import Derived.Test.YtegghimjmbgghaaGreatBkRk
import Derived.Test.YtegghimjmbgghaaGreatBkOp
import Derived.Test.YtegghimjmbgghaaGreatBkX
import Derived.Deep.MidRow
import Derived.Test.YtegghimjmbgghaaGreatBkNt
set_option linter.unusedSimpArgs false
set_option linter.unusedVariables false
namespace Go.Proofs.YtegghimjmbgghaaGreat
open Go.RowKit

section
open Go.RowKit Go.Shelf

/-- The reference's disk in a block, with its bytes in a row of its own. -/
structure RkAt (w : World) (base B : Nat) (v : Value) (d : Dk) : Prop where
  b : w.heap[B]? = some (.cells #[v, .int .i64 (d.sf : Int), .int .i64 (d.ar : Int), .bool d.dn, .int .i64 d.lf] 54 (0, 0))
  own : w.ownsRow base 5 1 v d.bs.length (bys d.bs)
  sf : d.sf ≤ d.bs.length
  ar : (d.ar : Int) ≤ 9223372036854775807
  lo : base ≤ w.heap.size
section
variable {w w' : World} {base B : Nat} {v : Value} {d : Dk}
theorem RkAt.lt (h : RkAt w base B v d) : B < w.heap.size := (Array.getElem?_eq_some_iff.1 h.b).1
theorem RkAt.ne (h : RkAt w base B v d) : some B ≠ v.ownBlock := own_ne_blk h.own h.b (by decide)
theorem RkAt.below (h : RkAt w base B v d) (hb : Below w.heap.size w w') : RkAt w' base B v d := ⟨(hb.block B h.lt).trans h.b, own_below h.own hb, h.sf, h.ar, Nat.le_trans h.lo hb.size⟩
theorem RkAt.cells (h : RkAt w base B v d) : w.cell? ⟨B, 0, none⟩ = some v ∧ w.cell? ⟨B, 1, none⟩ = some (.int .i64 (d.sf : Int)) ∧ w.cell? ⟨B, 2, none⟩ = some (.int .i64 (d.ar : Int)) ∧ w.cell? ⟨B, 3, none⟩ = some (.bool d.dn) ∧ w.cell? ⟨B, 4, none⟩ = some (.int .i64 d.lf) :=
  ⟨cell_of_row _ B 0 _ _ _ h.b, cell_of_row _ B 1 _ _ _ h.b, cell_of_row _ B 2 _ _ _ h.b, cell_of_row _ B 3 _ _ _ h.b, cell_of_row _ B 4 _ _ _ h.b⟩
theorem RkAt.fz (h : RkAt w base B v d) (i : Nat) : w.frozen? ⟨B, i, none⟩ = false := frozen_of_row _ _ _ _ _ h.b
theorem RkAt.set (h : RkAt w base B v d) (i : Nat) (u : Value) {d' : Dk} (hd : (#[v, .int .i64 (d.sf : Int), .int .i64 (d.ar : Int), .bool d.dn, .int .i64 d.lf] : Array Value).setIfInBounds i u = #[v, .int .i64 (d'.sf : Int), .int .i64 (d'.ar : Int), .bool d'.dn, .int .i64 d'.lf])
    (hbs : d'.bs = d.bs) (hsf : d'.sf ≤ d.bs.length) (har : (d'.ar : Int) ≤ 9223372036854775807) : RkAt (w.setCell ⟨B, i, none⟩ u) base B v d' ∧ w.grownBy (w.setCell ⟨B, i, none⟩ u) (some B) := by
  have hg := setCell_grown w h.b (i := i) u
  have hb := heap_setCell_same w B i _ _ u h.b
  rw [hd] at hb
  exact ⟨⟨hb, by rw [hbs]; exact own_kept h.own hg h.ne, by rw [hbs]; exact hsf, har, Nat.le_trans h.lo hg.size⟩, hg⟩
theorem RkAt.setB (h : RkAt w base B v d) (u : Value) {bs : List UInt8} {w1 : World} (ho : w1.ownsRow base 5 1 u bs.length (bys bs)) (hb1 : w1.heap[B]? = w.heap[B]?) (hsz : w.heap.size ≤ w1.heap.size) (hsf : d.sf ≤ bs.length) :
    RkAt (w1.setCell ⟨B, 0, none⟩ u) base B u { d with bs := bs } ∧ w1.grownBy (w1.setCell ⟨B, 0, none⟩ u) (some B) := by
  have hB := hb1.trans h.b
  have hg := setCell_grown w1 hB (i := 0) u
  have hb := heap_setCell_same w1 B 0 _ _ u hB
  exact ⟨⟨hb, own_kept ho hg (own_ne_blk ho hB (by decide)), hsf, h.ar, Nat.le_trans h.lo (Nat.le_trans hsz hg.size)⟩, hg⟩
/-- Bytes do not lie in the disk's block. -/
theorem rd_rk (h : RkAt w base B v d) {A : Option Addr} {l : List UInt8} (hr : Rd w A (bys l)) (hg : w.grownBy w' (some B)) : Rd w' A (bys l) := fun hne => by
  obtain ⟨b, off, hA, hb, hc⟩ := hr hne
  have h0 : 0 < l.length := by
    rcases Nat.eq_zero_or_pos l.length with h | h
    · exact absurd (by rw [List.eq_nil_of_length_eq_zero h]; rfl) hne
    · exact h
  have hnb : b ≠ B := by
    rintro rfl
    have h1 := hc 0 _ (bys_at h0)
    rw [cell_of_row _ b _ _ _ _ h.b] at h1
    rcases off with _ | _ | _ | _ | _ | off
    all_goals simp at h1
    obtain ⟨A, c, rfl, -, -⟩ := own_slice h.own
    cases h1
  exact ⟨b, off, hA, Nat.lt_of_lt_of_le hb hg.size, fun j u hu => hg.cell (hc j u hu) (fun e => hnb (Option.some.inj e))⟩
end
/-- What a call of the reference's disk leaves: its block alone has turned, its bytes lie where they lay or in a new row. -/
def NewTop (w : World) (v v' : Value) : Prop := v' = v ∨ ∀ g, v'.ownBlock = some g → w.heap.size ≤ g
def RkPost (w : World) (base B : Nat) (v : Value) (d' : Dk) (r : Value) (e : Ending) (w' : World) : Prop :=
  e = .returned r ∧ ∃ v', RkAt w' base B v' d' ∧ w.grownBy w' (some B) ∧ NewTop w v v'

set_option maxHeartbeats 4000000 in
set_option maxRecDepth 100000 in
theorem fails_calls {base B : Nat} {v : Value} {d : Dk} (w : World) (h : RkAt w base B v d) (hdn : d.dn = false) :
    Calls Tryz.prog 71 #[.pointer (some ⟨B, 0, none⟩)] w fun e w' => e = .returned (.bool (decide (d.ar = 1))) ∧ RkAt w' base B v (begD d) ∧ w.grownBy w' (some B) := by
  have HK := hid h
  have c2 := h.cells.2.2.1
  have fz2 := h.fz 2
  have har := h.ar
  clear h
  go_enter Tryz.func71, Tryz.ntmps71
  by_cases h0 : d.ar = 0
  · have h0i : ((d.ar : Int) == 0) = true := by rw [h0]; rfl
    have h0j : (d.ar : Int) = 0 := by omega
    have HP := hid (show Ending.returned (.bool false) = .returned (.bool (decide (d.ar = 1))) ∧ RkAt w base B v (begD d) ∧ w.grownBy w (some B) from ⟨by rw [decide_eq_false (by omega)], by rw [begD, if_pos h0]; exact unhid HK, grown_refl _ _⟩)
    clear h0
    go_wp2_with fail
    go_ret
    exact unhid HP
  · have h0i : ((d.ar : Int) == 0) = false := beq_eq_false_iff_ne.2 (by omega)
    have h0j : ¬ (d.ar : Int) = 0 := by omega
    have hpos : (1 : Int) ≤ (d.ar : Int) := by omega
    have HNZ := hid h0
    clear h0
    go_upto_region 4 with (fail)
    obtain ⟨hk1, hg1⟩ := (unhid HK).set 2 (.int .i64 ((d.ar : Int) - 1)) (d' := { d with ar := d.ar - 1 }) (by
      show _ = #[_, _, Value.int .i64 ((d.ar - 1 : Nat) : Int), _, _]
      rw [show ((d.ar - 1 : Nat) : Int) = (d.ar : Int) - 1 by omega]
      rfl) rfl (unhid HK).sf (by show ((d.ar - 1 : Nat) : Int) ≤ _; omega)
    have HK1 := hid hk1
    have HG1 := hid hg1
    clear hk1 hg1 c2 fz2
    generalize w.setCell ⟨B, 2, none⟩ (.int .i64 ((d.ar : Int) - 1)) = w1 at *
    have c2 : w1.cell? ⟨B, 2, none⟩ = some (.int .i64 ((d.ar - 1 : Nat) : Int)) := (unhid HK1).cells.2.2.1
    have c3 : w1.cell? ⟨B, 3, none⟩ = some (.bool d.dn) := (unhid HK1).cells.2.2.2.1
    have fz3 := (unhid HK1).fz 3
    obtain ⟨r, hr⟩ : ∃ r, r = d.ar - 1 := ⟨_, rfl⟩
    rw [← hr] at c2
    have HR := hid hr
    clear hr
    go_upto_region 5 with (fail)
    have HRE := hid (show decide (d.ar = 1) = ((r : Int) == 0) from by
      have := unhid HR
      have := unhid HNZ
      by_cases h : d.ar = 1
      · have hr0 : r = 0 := by omega
        simp [h, hr0]
      · have hr0 : ¬ (r : Int) = 0 := by omega
        rw [decide_eq_false h]
        exact (beq_eq_false_iff_ne.2 hr0).symm)
    obtain ⟨hk2, hg2⟩ := (unhid HK1).set 3 (.bool ((r : Int) == 0)) (d' := begD d) (by
      rw [begD, if_neg (unhid HNZ)]
      show _ = #[_, _, _, Value.bool (decide (d.ar = 1)), _]
      rw [unhid HRE]
      rfl) (begD_bs d).1 (by rw [(begD_bs d).2.1]; exact (unhid HK).sf) (by rw [begD, if_neg (unhid HNZ)]; show ((d.ar - 1 : Nat) : Int) ≤ _; omega)
    have HK2 := hid hk2
    have HG2 := hid (grown_two (unhid HG1) hg2)
    clear hk2 hg2 c2 c3 fz3
    generalize w1.setCell ⟨B, 3, none⟩ (.bool ((r : Int) == 0)) = w2 at *
    have c3 := (unhid HK2).cells.2.2.2.1
    rw [begD_dn hdn] at c3
    have HP := hid (show Ending.returned (.bool (decide (d.ar = 1))) = .returned (.bool (decide (d.ar = 1))) ∧ RkAt w2 base B v (begD d) ∧ w.grownBy w2 (some B) from ⟨rfl, unhid HK2, unhid HG2⟩)
    go_wp2_with fail
    go_ret
    exact ⟨rfl, (unhid HP).2⟩

set_option maxHeartbeats 4000000 in
set_option maxRecDepth 100000 in
theorem rappend_calls {base B : Nat} {v : Value} {d : Dk} (l : List UInt8) (A : Option Addr) (c : Nat) (w : World) (h : RkAt w base B v d) (hr : Rd w A (bys l)) (hn : d.bs.length + l.length ≤ 1000000) :
    Calls Tryz.prog 23 #[.pointer (some ⟨B, 0, none⟩), .slice A l.length c] w fun e w' => RkPost w base B v (appD d l) (.int .i64 (downE d)) e w' := by
  obtain ⟨i0, hi, hz0, hz1, hz2⟩ := info_parts info_u8
  have HK := hid h
  have HR := hid hr
  have HN := hid hn
  have c3 := h.cells.2.2.2.1
  clear h hr hn
  go_enter Tryz.func23, Tryz.ntmps23
  by_cases hdn : d.dn = true
  · have HP := hid (show RkPost w base B v (appD d l) (.int .i64 (downE d)) (.returned (.int .i64 92)) w from ⟨by rw [downE, if_pos hdn], v, by rw [appD, if_pos hdn]; exact unhid HK, grown_refl _ _, .inl rfl⟩)
    rw [hdn] at c3
    clear hdn
    go_wp2_with fail
    go_ret
    exact unhid HP
  · have hdf : d.dn = false := by simpa using hdn
    rw [hdf] at c3
    have HDF := hid hdf
    clear hdn hdf
    go_wp2_with fail
    refine (fails_calls w (unhid HK) (unhid HDF)).mono ?_
    rintro e w1 ⟨rfl, hk1, hg1⟩
    have HK1 := hid hk1
    have HG1 := hid hg1
    clear hk1 hg1 c3
    by_cases h1 : d.ar = 1
    · rw [decide_eq_true h1]
      have HP := hid (show RkPost w base B v (appD d l) (.int .i64 (downE d)) (.returned (.int .i64 92)) w1 from ⟨by rw [downE, if_neg (by rw [unhid HDF]; simp), begE, if_pos h1], v, by rw [appD, if_neg (by rw [unhid HDF]; simp), if_pos h1]; exact unhid HK1, unhid HG1, .inl rfl⟩)
      clear h1
      go_wp2_with fail
      go_ret
      exact unhid HP
    · rw [decide_eq_false h1]
      have HE := hid (show downE d = 0 from by rw [downE, if_neg (by rw [unhid HDF]; simp), begE, if_neg h1])
      have HA := hid (show appD d l = { begD d with bs := d.bs ++ l } from by rw [appD, if_neg (by rw [unhid HDF]; simp), if_neg h1])
      clear h1
      have c0 := (unhid HK1).cells.1
      have hlt1 : B < w1.heap.size := (unhid HK1).lt
      obtain ⟨A1, c1, hv1, hrd1, -⟩ := own_slice (unhid HK1).own
      rw [(begD_bs d).1] at hv1 hrd1
      subst hv1
      have hb0 := below_alloc w1 (.cells #[] 5)
      have hE0 : (w1.alloc (.cells #[] 5)).ownsRow w1.heap.size 5 1 (.slice (some ⟨w1.heap.size, 0, none⟩) 0 0) 0 [] := World.ownsRow_made w1 #[] 0 (Nat.le_refl _) (by unfold maxLen; omega) rfl
      have HRD := hid (hrd1.below hb0)
      have HRA := hid ((rd_rk (unhid HK) (unhid HR) (unhid HG1)).below hb0)
      have hnl : d.bs.length + l.length ≤ 1000000 := unhid HN
      have HB0 := hid hb0
      have hsz0 := hb0.size
      clear hrd1 hb0
      go_upto_region 4 with (first | (at_builtin; refine wpList_append_any rfl _ _ 52 rfl w1.heap.size 5 i0 (.int .u8 0) 1 1 Tryz.underlying52 hi hz0 hz1 hz2 rfl (by decide) _ _ _ rfl hE0 A1 d.bs.length c1 (bys d.bs) rfl (by simp) (unhid HRD) (bys_oneC d.bs) (by unfold maxLen; omega) (by omega) hsz0 ?_; intro v2 w2 hown2 hg2 hnew2; rw [Nat.zero_add, List.nil_append] at hown2; have hB2 : Below w1.heap.size w1 w2 := (unhid HB0).grown hg2 hsz0 (fun j e => by have h := Option.some.inj (show some w1.heap.size = some j from e); omega); have hRA2 := (rd_rk (unhid HK) (unhid HR) (unhid HG1)).below hB2; have hsz2 := hB2.size) | (at_builtin; refine wpList_append_any rfl _ _ 52 rfl w1.heap.size 5 i0 (.int .u8 0) 1 1 Tryz.underlying52 hi hz0 hz1 hz2 rfl (by decide) _ _ _ rfl hown2 A l.length c (bys l) rfl (by simp) hRA2 (bys_oneC l) (by unfold maxLen; omega) (by omega) hsz2 ?_; intro v3 w3 hown3 hg3 hnew3; have hB3 : Below w1.heap.size w1 w3 := hB2.grown hg3 hsz2 (fun j e => (own_block_lt hown2 (g := j) e).1); have hbB : w3.heap[B]? = w1.heap[B]? := hB3.block B (unhid HK1).lt; have c0' : w3.cell? ⟨B, 0, none⟩ = some (.slice A1 d.bs.length c1) := (World.cell?_of_block (a := ⟨B, 0, none⟩) hbB).trans c0; have fz3 : w3.frozen? ⟨B, 0, none⟩ = false := frozen_of_row _ _ _ _ _ (hbB.trans (unhid HK1).b); obtain ⟨A3, c3, hv3, -, -⟩ := own_slice hown3; subst hv3))
      have hown4 : w3.ownsRow base 5 1 (.slice A3 (d.bs.length + l.length) c3) (d.bs ++ l).length (bys (d.bs ++ l)) := by rw [List.length_append, bys_append]; exact own_base hown3 (unhid HK1).lo
      have hs := (unhid HK1).setB (.slice A3 (d.bs.length + l.length) c3) hown4 hbB hB3.size (by rw [(begD_bs d).2.1, List.length_append]; have := (unhid HK).sf; omega)
      have HP := hid (show RkPost w base B (.slice A1 d.bs.length c1) (appD d l) (.int .i64 (downE d)) (.returned (.int .i64 0)) (w3.setCell ⟨B, 0, none⟩ (.slice A3 (d.bs.length + l.length) c3)) from ⟨by rw [unhid HE], _, by rw [unhid HA]; exact hs.1, grown_two (unhid HG1) ((grown_of_below hB3 _).andThen hs.2 (fun j e => .inr e)), .inr (fun g hg => Nat.le_trans (unhid HG1).size (own_block_lt hown3 hg).1)⟩)
      clear hs hown4 hown3 hown2 hB2 hB3 hg2 hg3 hnew2 hnew3 hE0 hRA2 c0 c0' fz3
      go_wp2_with fail
      go_ret
      exact unhid HP
end

section
open Go.RowKit Go.Shelf

set_option maxHeartbeats 4000000 in
set_option maxRecDepth 100000 in
theorem rsync_calls {base B : Nat} {v : Value} {d : Dk} (w : World) (h : RkAt w base B v d) (hn : d.bs.length ≤ 1000000) :
    Calls Tryz.prog 25 #[.pointer (some ⟨B, 0, none⟩)] w fun e w' => RkPost w base B v (syncD d) (.int .i64 (downE d)) e w' := by
  have HK := hid h
  have c3 := h.cells.2.2.2.1
  clear h
  go_enter Tryz.func25, Tryz.ntmps25
  by_cases hdn : d.dn = true
  · have HP := hid (show RkPost w base B v (syncD d) (.int .i64 (downE d)) (.returned (.int .i64 92)) w from ⟨by rw [downE, if_pos hdn], v, by rw [syncD, if_pos hdn]; exact unhid HK, grown_refl _ _, .inl rfl⟩)
    rw [hdn] at c3
    clear hdn
    go_wp2_with fail
    go_ret
    exact unhid HP
  · have hdf : d.dn = false := by simpa using hdn
    rw [hdf] at c3
    have HDF := hid hdf
    clear hdn hdf
    go_wp2_with fail
    refine (fails_calls w (unhid HK) (unhid HDF)).mono ?_
    rintro e w1 ⟨rfl, hk1, hg1⟩
    have HK1 := hid hk1
    have HG1 := hid hg1
    clear hk1 hg1 c3
    by_cases h1 : d.ar = 1
    · rw [decide_eq_true h1]
      have HP := hid (show RkPost w base B v (syncD d) (.int .i64 (downE d)) (.returned (.int .i64 92)) w1 from ⟨by rw [downE, if_neg (by rw [unhid HDF]; simp), begE, if_pos h1], v, by rw [syncD, if_neg (by rw [unhid HDF]; simp), if_pos h1]; exact unhid HK1, unhid HG1, .inl rfl⟩)
      clear h1
      go_wp2_with fail
      go_ret
      exact unhid HP
    · rw [decide_eq_false h1]
      have HE := hid (show downE d = 0 from by rw [downE, if_neg (by rw [unhid HDF]; simp), begE, if_neg h1])
      have HA := hid (show syncD d = { begD d with sf := d.bs.length } from by rw [syncD, if_neg (by rw [unhid HDF]; simp), if_neg h1])
      clear h1
      have c0 := (unhid HK1).cells.1
      have c1 := (unhid HK1).cells.2.1
      have fz1 := (unhid HK1).fz 1
      obtain ⟨A2, cc2, hv, -, -⟩ := own_slice (unhid HK1).own
      rw [(begD_bs d).1] at hv
      subst hv
      go_wp2_with fail
      have hs := (unhid HK1).set 1 (.int .i64 (d.bs.length : Int)) (d' := { begD d with sf := d.bs.length }) rfl rfl (by rw [(begD_bs d).1]; exact Nat.le_refl _) (unhid HK1).ar
      have HP := hid (show RkPost w base B (.slice A2 d.bs.length cc2) (syncD d) (.int .i64 (downE d)) (.returned (.int .i64 0)) (w1.setCell ⟨B, 1, none⟩ (.int .i64 (d.bs.length : Int))) from ⟨by rw [unhid HE], _, by rw [unhid HA]; exact hs.1, grown_two (unhid HG1) hs.2, .inl rfl⟩)
      clear hs
      go_ret
      exact unhid HP

set_option maxHeartbeats 4000000 in
set_option maxRecDepth 100000 in
theorem rcut_calls {base B : Nat} {v : Value} {d : Dk} (n : Int) (w : World) (h : RkAt w base B v d) (hn : d.bs.length ≤ 1000000) :
    Calls Tryz.prog 27 #[.pointer (some ⟨B, 0, none⟩), .int .i64 n] w fun e w' => RkPost w base B v (cutD d n) (.int .i64 (cutE d n)) e w' := by
  obtain ⟨i0, hi, hz0, hz1, hz2⟩ := info_parts info_u8
  have HK := hid h
  have HN := hid hn
  have c3 := h.cells.2.2.2.1
  have c0 := h.cells.1
  clear h hn
  go_enter Tryz.func27, Tryz.ntmps27
  by_cases hdn : d.dn = true
  · have HP := hid (show RkPost w base B v (cutD d n) (.int .i64 (cutE d n)) (.returned (.int .i64 92)) w from ⟨by rw [cutE, if_pos hdn], v, by rw [cutD, if_pos hdn]; exact unhid HK, grown_refl _ _, .inl rfl⟩)
    rw [hdn] at c3
    clear hdn
    go_wp2_with fail
    go_ret
    exact unhid HP
  · have hdf : d.dn = false := by simpa using hdn
    rw [hdf] at c3
    have HDF := hid hdf
    clear hdn hdf
    obtain ⟨A2, cc2, hv, -, hcc, -, -⟩ := own_slice2 (unhid HK).own
    subst hv
    cases d0 : btw 0 n d.bs.length with
    | false =>
      have HP := hid (show RkPost w base B (.slice A2 d.bs.length cc2) (cutD d n) (.int .i64 (cutE d n)) (.returned (.int .i64 2)) w from ⟨by rw [cutE, if_neg (by rw [unhid HDF]; simp), if_pos d0], _, by rw [cutD, if_neg (by rw [unhid HDF]; simp), if_pos d0]; exact unhid HK, grown_refl _ _, .inl rfl⟩)
      have hor : ¬ (0 ≤ n ∧ n ≤ (d.bs.length : Int)) := fun h => by rw [btw_iff.2 h] at d0; cases d0
      clear d0
      by_cases hn0 : n < 0
      · go_wp2_with fail
        go_ret
        exact unhid HP
      · have hgt : (d.bs.length : Int) < n := by omega
        clear hor
        go_wp2_with fail
        go_ret
        exact unhid HP
    | true =>
      obtain ⟨hn0, hnl⟩ := btw_iff.1 d0
      obtain ⟨k, rfl⟩ : ∃ k : Nat, n = (k : Int) := ⟨n.toNat, by omega⟩
      have hkl : k ≤ d.bs.length := by omega
      have HD0 := hid d0
      have hk0 : ¬ (k : Int) < 0 := by omega
      have hkg : ¬ (d.bs.length : Int) < (k : Int) := by omega
      clear d0
      go_wp2_with fail
      refine (fails_calls w (unhid HK) (unhid HDF)).mono ?_
      rintro e w1 ⟨rfl, hk1, hg1⟩
      have HK1 := hid hk1
      have HG1 := hid hg1
      clear hk1 hg1 c3 c0
      by_cases h1 : d.ar = 1
      · rw [decide_eq_true h1]
        have HP := hid (show RkPost w base B (.slice A2 d.bs.length cc2) (cutD d k) (.int .i64 (cutE d k)) (.returned (.int .i64 92)) w1 from ⟨by rw [cutE, if_neg (by rw [unhid HDF]; simp), if_neg (by rw [unhid HD0]; simp), begE, if_pos h1], _, by rw [cutD, if_neg (by rw [unhid HDF]; simp), if_neg (by rw [unhid HD0]; simp), if_pos h1]; exact unhid HK1, unhid HG1, .inl rfl⟩)
        clear h1
        go_wp2_with fail
        go_ret
        exact unhid HP
      · rw [decide_eq_false h1]
        have HE := hid (show cutE d k = 0 from by rw [cutE, if_neg (by rw [unhid HDF]; simp), if_neg (by rw [unhid HD0]; simp), begE, if_neg h1])
        have HA := hid (show cutD d k = { begD d with bs := d.bs.take k, sf := k } from by rw [cutD, if_neg (by rw [unhid HDF]; simp), if_neg (by rw [unhid HD0]; simp), if_neg h1, Int.toNat_natCast])
        clear h1
        have c0 := (unhid HK1).cells.1
        have hlt1 : B < w1.heap.size := (unhid HK1).lt
        obtain ⟨A1, c1, hv1, hrd1, -⟩ := own_slice (unhid HK1).own
        rw [(begD_bs d).1] at hv1 hrd1
        injection hv1 with q1 q2 q3
        subst q1 q3
        have hb0 := below_alloc w1 (.cells #[] 5)
        have hE0 : (w1.alloc (.cells #[] 5)).ownsRow w1.heap.size 5 1 (.slice (some ⟨w1.heap.size, 0, none⟩) 0 0) 0 [] := World.ownsRow_made w1 #[] 0 (Nat.le_refl _) (by unfold maxLen; omega) rfl
        have HRD := hid (rd_takeB (hrd1.below hb0) k)
        have hkt : (d.bs.take k).length = k := by rw [List.length_take]; omega
        have HKT := hid hkt
        have hk6 : k ≤ 1000000 := by have := unhid HN; omega
        have HB0 := hid hb0
        have hsz0 := hb0.size
        have hs1 := slice_h A2 d.bs.length cc2 k (by omega) (k : Int) rfl
        clear hrd1 hb0 hkt q2
        go_upto_region 8 with (at_builtin; refine wpList_append_any rfl _ _ 52 rfl w1.heap.size 5 i0 (.int .u8 0) 1 1 Tryz.underlying52 hi hz0 hz1 hz2 rfl (by decide) _ _ _ rfl hE0 A2 k cc2 (bys (d.bs.take k)) rfl (by rw [bys_len, unhid HKT, Nat.mul_one]) (unhid HRD) (bys_oneC (d.bs.take k)) (by unfold maxLen; omega) (by omega) hsz0 ?_; intro v2 w2 hown2 hg2 hnew2; rw [Nat.zero_add, List.nil_append] at hown2; have hB2 : Below w1.heap.size w1 w2 := (unhid HB0).grown hg2 hsz0 (fun j e => by have h := Option.some.inj (show some w1.heap.size = some j from e); omega); have hbB : w2.heap[B]? = w1.heap[B]? := hB2.block B (unhid HK1).lt; obtain ⟨A3, c3, hv3, -, -⟩ := own_slice hown2; subst hv3; have hB := hbB.trans (unhid HK1).b; have c0a := cell_of_row _ B 0 _ _ _ hB; have fz0 := frozen_of_row _ B 0 _ _ hB; have hbS := heap_setCell_same w2 B 0 _ _ (.slice A3 k c3) hB; have c1a := cell_of_row _ B 1 _ _ _ hbS; have fz1 := frozen_of_row _ B 1 _ _ hbS; simp only [List.getElem?_toArray, List.getElem?_cons_zero, List.getElem?_cons_succ, List.setIfInBounds_toArray, List.set_cons_zero, List.set_cons_succ] at c0a c1a)
        have hown3 : w2.ownsRow base 5 1 (.slice A3 k c3) (d.bs.take k).length (bys (d.bs.take k)) := by rw [unhid HKT]; exact own_base hown2 (unhid HK1).lo
        have hg3 := setCell_grown w2 hB (i := 0) (.slice A3 k c3)
        have hbT := heap_setCell_same (w2.setCell ⟨B, 0, none⟩ (.slice A3 k c3)) B 1 _ _ (.int .i64 (k : Int)) hbS
        have hg4 := setCell_grown (w2.setCell ⟨B, 0, none⟩ (.slice A3 k c3)) hbS (i := 1) (.int .i64 (k : Int))
        have hrk : RkAt ((w2.setCell ⟨B, 0, none⟩ (.slice A3 k c3)).setCell ⟨B, 1, none⟩ (.int .i64 (k : Int))) base B (.slice A3 k c3) { begD d with bs := d.bs.take k, sf := k } :=
          ⟨hbT, own_kept hown3 (grown_two hg3 hg4) (own_ne_blk hown3 hB (by decide)), by rw [unhid HKT]; exact Nat.le_refl _, (unhid HK1).ar, Nat.le_trans (unhid HK1).lo (Nat.le_trans hB2.size (grown_two hg3 hg4).size)⟩
        have HP := hid (show RkPost w base B (.slice A2 d.bs.length cc2) (cutD d k) (.int .i64 (cutE d k)) (.returned (.int .i64 0)) ((w2.setCell ⟨B, 0, none⟩ (.slice A3 k c3)).setCell ⟨B, 1, none⟩ (.int .i64 (k : Int))) from ⟨by rw [unhid HE], _, by rw [unhid HA]; exact hrk, grown_two (unhid HG1) ((grown_of_below hB2 _).andThen (grown_two hg3 hg4) (fun j e => .inr e)), .inr (fun g hg => Nat.le_trans (unhid HG1).size (own_block_lt hown2 hg).1)⟩)
        clear hrk hg4 hbT hg3 hown3 hown2 hB2 hbB hnew2 hg2 hE0 c0 c0a fz0 hbS c1a fz1 hB hs1
        go_wp2_with fail
        go_ret
        exact unhid HP

/-- Arm. -/
def armD (d : Dk) (n : Int) : Dk := { d with ar := n.toNat }
set_option maxHeartbeats 4000000 in
set_option maxRecDepth 100000 in
theorem rarm_calls {base B : Nat} {v : Value} {d : Dk} (n : Int) (w : World) (h : RkAt w base B v d) (h64 : I64 n) :
    Calls Tryz.prog 29 #[.pointer (some ⟨B, 0, none⟩), .int .i64 n] w fun e w' => RkPost w base B v (armD d n) (.tuple #[]) e w' := by
  have HK := hid h
  have c2 := h.cells.2.2.1
  have fz2 := h.fz 2
  unfold I64 at h64
  clear h
  go_enter Tryz.func29, Tryz.ntmps29
  go_wp2_with fail
  have hm : max 0 n = ((n.toNat : Nat) : Int) := by omega
  rw [hm]
  have hs := (unhid HK).set 2 (.int .i64 (n.toNat : Int)) (d' := armD d n) rfl rfl (unhid HK).sf (by show ((n.toNat : Nat) : Int) ≤ _; omega)
  go_end0
  exact ⟨rfl, v, hs.1, hs.2, .inl rfl⟩
set_option maxHeartbeats 4000000 in
set_option maxRecDepth 100000 in
theorem karm_calls {base B : Nat} {v : Value} {d : Dk} (n : Int) (w : World) (h : DkAt w base B v d) (h64 : I64 n) :
    Calls Tryz.prog 28 #[.pointer (some ⟨B, 0, none⟩), .int .i64 n] w fun e w' => e = .returned (.tuple #[]) ∧ DkAt w' base B v (armD d n) ∧ w.grownBy w' (some B) := by
  have HK := hid h
  have c4 := h.cells.2.2.2.2.1
  have fz4 := h.fz 4
  unfold I64 at h64
  clear h
  go_enter Tryz.func28, Tryz.ntmps28
  go_wp2_with (go_at_call 72; refine (knone_calls _ (unhid HK)).mono ?_; rintro e w9 ⟨rfl, rfl⟩)
  have hm : max n 0 = ((n.toNat : Nat) : Int) := by omega
  rw [hm]
  have hs := (unhid HK).set 4 (.int .i64 (n.toNat : Int)) (d' := armD d n) rfl rfl (unhid HK).sf (by show ((n.toNat : Nat) : Int) ≤ _; omega)
  go_end0
  exact ⟨rfl, hs.1, hs.2⟩
end

section
open Go.RowKit Go.Shelf

set_option maxHeartbeats 4000000 in
set_option maxRecDepth 100000 in
theorem rcrash_calls {base B : Nat} {v : Value} {d : Dk} (n : Int) (w : World) (h : RkAt w base B v d) (hn : d.bs.length ≤ 1000000) (h64 : I64 n) :
    Calls Tryz.prog 31 #[.pointer (some ⟨B, 0, none⟩), .int .i64 n] w fun e w' => RkPost w base B v (crashD d n) (.tuple #[]) e w' := by
  obtain ⟨i0, hi, hz0, hz1, hz2⟩ := info_parts info_u8
  have HK := hid h
  have HN := hid hn
  obtain ⟨A2, cc2, hv, -, hcc, -, -⟩ := own_slice2 h.own
  subst hv
  have c0 := h.cells.1
  have c1 := h.cells.2.1
  have hsf := h.sf
  have hbl : (d.bs.length : Int) ≤ 1000000 := by omega
  have hsl : (d.sf : Int) ≤ (d.bs.length : Int) := by omega
  clear h hn
  go_enter Tryz.func31, Tryz.ntmps31
  go_upto_region 0 with (fail)
  refine wp_region_still_tail 18 (by kernel_rfl) (by kernel_rfl) ?_
  simp only [List.take_succ_cons, List.take_zero, List.drop_succ_cons, List.drop_zero]
  iterate 18 still_step
  refine wpStill_nil ?_
  change wpList _ _ _ _ _ w.drew
  have hw1 : IntKind.i64.wrap ((d.bs.length : Int) - (d.sf : Int)) = (d.bs.length : Int) - (d.sf : Int) := IntWalk.i64_in _ (by omega)
  obtain ⟨k, hk⟩ : ∃ k, k = keepN d n := ⟨_, rfl⟩
  have hK : min (max 0 n) (IntKind.i64.wrap ((d.bs.length : Int) - (d.sf : Int))) = (k : Int) := by
    rw [hw1, hk]
    unfold keepN
    omega
  obtain ⟨m, hm⟩ : ∃ m, m = d.sf + k := ⟨_, rfl⟩
  have hml : m ≤ d.bs.length := by rw [hm, hk]; unfold keepN; omega
  have hS : IntKind.i64.wrap ((d.sf : Int) + (k : Int)) = (m : Int) := by rw [IntWalk.i64_in _ (by omega)]; omega
  rw [hK]
  rw [hS]
  have HCR := hid (show crashD d n = { dn := false, bs := d.bs.take m, sf := m, ar := 0, lf := wrap64 (d.lf + 1) } from by unfold crashD; rw [← hk, ← hm])
  clear hw1 hK hS hk hm c0 c1
  have hbd := Below.drew (Below.refl w.heap.size w)
  have HK1 := hid ((unhid HK).below hbd)
  have HG1 := hid (grown_of_below hbd (some B))
  clear hbd
  generalize w.drew = w1 at *
  have c0 := (unhid HK1).cells.1
  have hlt1 : B < w1.heap.size := (unhid HK1).lt
  obtain ⟨A1, c1, hv1, hrd1, -⟩ := own_slice (unhid HK1).own
  injection hv1 with q1 q2 q3
  subst q1 q3
  have hb0 := below_alloc w1 (.cells #[] 5)
  have hE0 : (w1.alloc (.cells #[] 5)).ownsRow w1.heap.size 5 1 (.slice (some ⟨w1.heap.size, 0, none⟩) 0 0) 0 [] := World.ownsRow_made w1 #[] 0 (Nat.le_refl _) (by unfold maxLen; omega) rfl
  have HRD := hid (rd_takeB (hrd1.below hb0) m)
  have hkt : (d.bs.take m).length = m := by rw [List.length_take]; omega
  have HKT := hid hkt
  have hk6 : m ≤ 1000000 := by omega
  have HB0 := hid hb0
  have hsz0 := hb0.size
  have hs1 := slice_h A2 d.bs.length cc2 m (by omega) (m : Int) rfl
  clear hrd1 hb0 hkt q2
  go_upto_region 2 with (at_builtin; refine wpList_append_any rfl _ _ 52 rfl w1.heap.size 5 i0 (.int .u8 0) 1 1 Tryz.underlying52 hi hz0 hz1 hz2 rfl (by decide) _ _ _ rfl hE0 A2 m cc2 (bys (d.bs.take m)) rfl (by rw [bys_len, unhid HKT, Nat.mul_one]) (unhid HRD) (bys_oneC (d.bs.take m)) (by unfold maxLen; omega) (by omega) hsz0 ?_; intro v2 w2 hown2 hg2 hnew2; rw [Nat.zero_add, List.nil_append] at hown2; have hB2 : Below w1.heap.size w1 w2 := (unhid HB0).grown hg2 hsz0 (fun j e => by have h := Option.some.inj (show some w1.heap.size = some j from e); omega); have hbB : w2.heap[B]? = w1.heap[B]? := hB2.block B (unhid HK1).lt; obtain ⟨A3, c3, hv3, -, -⟩ := own_slice hown2; subst hv3; have hB := hbB.trans (unhid HK1).b; have c0a := cell_of_row _ B 0 _ _ _ hB; have fz0 := frozen_of_row _ B 0 _ _ hB; have hbS := heap_setCell_same w2 B 0 _ _ (.slice A3 m c3) hB; have c1a := cell_of_row _ B 1 _ _ _ hbS; have fz1 := frozen_of_row _ B 1 _ _ hbS; simp only [List.getElem?_toArray, List.getElem?_cons_zero, List.getElem?_cons_succ, List.setIfInBounds_toArray, List.set_cons_zero, List.set_cons_succ] at c0a c1a)
  have hown3 : w2.ownsRow base 5 1 (.slice A3 m c3) (d.bs.take m).length (bys (d.bs.take m)) := by rw [unhid HKT]; exact own_base hown2 (unhid HK1).lo
  have hg3 := setCell_grown w2 hB (i := 0) (.slice A3 m c3)
  have hbT := heap_setCell_same (w2.setCell ⟨B, 0, none⟩ (.slice A3 m c3)) B 1 _ _ (.int .i64 (m : Int)) hbS
  have hg4 := setCell_grown (w2.setCell ⟨B, 0, none⟩ (.slice A3 m c3)) hbS (i := 1) (.int .i64 (m : Int))
  have HK3 := hid (show RkAt ((w2.setCell ⟨B, 0, none⟩ (.slice A3 m c3)).setCell ⟨B, 1, none⟩ (.int .i64 (m : Int))) base B (.slice A3 m c3) { d with bs := d.bs.take m, sf := m } from
    ⟨hbT, own_kept hown3 (grown_two hg3 hg4) (own_ne_blk hown3 hB (by decide)), by rw [unhid HKT]; exact Nat.le_refl _, (unhid HK1).ar, Nat.le_trans (unhid HK1).lo (Nat.le_trans hB2.size (grown_two hg3 hg4).size)⟩)
  have HG3 := hid (grown_two (unhid HG1) ((grown_of_below hB2 _).andThen (grown_two hg3 hg4) (fun j e => .inr e)))
  have HNT := hid (show NewTop w (.slice A2 d.bs.length cc2) (.slice A3 m c3) from .inr (fun g hg => Nat.le_trans (unhid HG1).size (own_block_lt hown2 hg).1))
  clear hg4 hbT hg3 hown3 hown2 hB2 hbB hnew2 hg2 hE0 c0 c0a fz0 hbS c1a fz1 hB hs1
  generalize (w2.setCell ⟨B, 0, none⟩ (.slice A3 m c3)).setCell ⟨B, 1, none⟩ (.int .i64 (m : Int)) = w3 at *
  have c2 := (unhid HK3).cells.2.2.1
  have fz2 := (unhid HK3).fz 2
  have h4 := (unhid HK3).set 2 (.int .i64 0) (d' := { d with bs := d.bs.take m, sf := m, ar := 0 }) rfl rfl (unhid HK3).sf (by show (0 : Int) ≤ _; omega)
  have c3a := h4.1.cells.2.2.2.1
  have fz3 := h4.1.fz 3
  go_upto_region 3 with (fail)
  have h5 := h4.1.set 3 (.bool false) (d' := { dn := false, bs := d.bs.take m, sf := m, ar := 0, lf := d.lf }) rfl rfl (unhid HK3).sf (by show (0 : Int) ≤ _; omega)
  have HK5 := hid h5.1
  have HG5 := hid (grown_two (unhid HG3) (grown_two h4.2 h5.2))
  clear c2 fz2 c3a fz3 h4 h5
  generalize (w3.setCell ⟨B, 2, none⟩ (.int .i64 0)).setCell ⟨B, 3, none⟩ (.bool false) = w5 at *
  have c4 := (unhid HK5).cells.2.2.2.2
  have fz4 := (unhid HK5).fz 4
  have h6 := (unhid HK5).set 4 (.int .i64 (wrap64 (d.lf + 1))) (d' := crashD d n) (by rw [unhid HCR]; rfl) (by rw [unhid HCR]) (by rw [unhid HCR]; exact (unhid HK5).sf) (by rw [unhid HCR]; show (0 : Int) ≤ _; omega)
  have HP := hid (⟨h6.1, grown_two (unhid HG5) h6.2⟩ : _ ∧ _)
  clear h6
  go_wp2_with fail
  go_end0
  exact ⟨rfl, _, (unhid HP).1, (unhid HP).2, unhid HNT⟩

theorem DkAt.base {w : World} {base base' B : Nat} {v : Value} {d : Dk} (h : DkAt w base B v d) (hb : base' ≤ base) : DkAt w base' B v d := ⟨h.b, own_base h.own hb, h.sf, h.ar, Nat.le_trans hb h.lo⟩
theorem RkAt.base {w : World} {base base' B : Nat} {v : Value} {d : Dk} (h : RkAt w base B v d) (hb : base' ≤ base) : RkAt w base' B v d := ⟨h.b, own_base h.own hb, h.sf, h.ar, Nat.le_trans hb h.lo⟩
set_option maxHeartbeats 4000000 in
set_option maxRecDepth 100000 in
theorem rcopyD_calls {base B : Nat} {v : Value} {d : Dk} (w : World) (h : RkAt w base B v d) (hn : d.bs.length ≤ 1000000) :
    Calls Tryz.prog 37 #[.pointer (some ⟨B, 0, none⟩)] w fun e w' => ∃ C u, e = .returned (.pointer (some ⟨C, 0, none⟩)) ∧ RkAt w' base C u d ∧ w.heap.size ≤ C ∧ (∀ g, u.ownBlock = some g → w.heap.size ≤ g) ∧ Below w.heap.size w w' := by
  obtain ⟨i0, hi, hz0, hz1, hz2⟩ := info_parts info_u8
  have HK := hid h
  have HN := hid hn
  obtain ⟨A2, cc2, hv, -, -, -, -⟩ := own_slice2 h.own
  subst hv
  clear h hn
  go_enter Tryz.func37, Tryz.ntmps37
  go_upto_region 2 with (first | (refine wpList_load_row rfl 54 _ rfl B rfl 54 #[.slice A2 d.bs.length cc2, .int .i64 (d.sf : Int), .int .i64 (d.ar : Int), .bool d.dn, .int .i64 d.lf] (0, 0) _ (unhid HK).b Tryz.underlying54 rfl (by kernel_rfl) ?_) | (refine wpList_store_row rfl 54 _ _ rfl w.heap.size #[.slice A2 d.bs.length cc2, .int .i64 (d.sf : Int), .int .i64 (d.ar : Int), .bool d.dn, .int .i64 d.lf] rfl rfl 54 _ (heap_alloc_new w _) (by kernel_rfl) rfl (by simp [Value.oneCell']) ?_; rw [World.setRow_alloc_new]))
  have hb1 := below_alloc w (.cells #[.slice A2 d.bs.length cc2, .int .i64 (d.sf : Int), .int .i64 (d.ar : Int), .bool d.dn, .int .i64 d.lf] 54)
  have hC := heap_alloc_new w (.cells #[.slice A2 d.bs.length cc2, .int .i64 (d.sf : Int), .int .i64 (d.ar : Int), .bool d.dn, .int .i64 d.lf] 54)
  have HK1 := hid ((unhid HK).below hb1)
  have HC1 := hid (show RkAt _ base w.heap.size (.slice A2 d.bs.length cc2) d from ⟨hC, own_below (unhid HK).own hb1, (unhid HK).sf, (unhid HK).ar, Nat.le_trans (unhid HK).lo hb1.size⟩)
  have HB1 := hid hb1
  obtain ⟨C, hCe⟩ : ∃ C, C = w.heap.size := ⟨_, rfl⟩
  have HCE := hid hCe
  rw [← hCe] at HC1 ⊢
  clear hb1 hC hCe
  change Code.wp _ _ _ _ (w.alloc (.cells #[.slice A2 d.bs.length cc2, .int .i64 (d.sf : Int), .int .i64 (d.ar : Int), .bool d.dn, .int .i64 d.lf] 54))
  generalize w.alloc (.cells #[.slice A2 d.bs.length cc2, .int .i64 (d.sf : Int), .int .i64 (d.ar : Int), .bool d.dn, .int .i64 d.lf] 54) = w1 at *
  have c0 := (unhid HK1).cells.1
  have hlt1 : B < w1.heap.size := (unhid HK1).lt
  obtain ⟨A1, c1, hv1, hrd1, -⟩ := own_slice (unhid HK1).own
  injection hv1 with q1 q2 q3
  subst q1 q3
  have hb0 := below_alloc w1 (.cells #[] 5)
  have hE0 : (w1.alloc (.cells #[] 5)).ownsRow w1.heap.size 5 1 (.slice (some ⟨w1.heap.size, 0, none⟩) 0 0) 0 [] := World.ownsRow_made w1 #[] 0 (Nat.le_refl _) (by unfold maxLen; omega) rfl
  have HRD := hid (hrd1.below hb0)
  have hk6 : d.bs.length ≤ 1000000 := unhid HN
  have HB0 := hid hb0
  have hsz0 := hb0.size
  clear hrd1 hb0 q2
  go_upto_region 3 with (at_builtin; refine wpList_append_any rfl _ _ 52 rfl w1.heap.size 5 i0 (.int .u8 0) 1 1 Tryz.underlying52 hi hz0 hz1 hz2 rfl (by decide) _ _ _ rfl hE0 A2 d.bs.length cc2 (bys d.bs) rfl (by simp) (unhid HRD) (bys_oneC d.bs) (by unfold maxLen; omega) (by omega) hsz0 ?_; intro v2 w2 hown2 hg2 hnew2; rw [Nat.zero_add, List.nil_append] at hown2; have hB2 : Below w1.heap.size w1 w2 := (unhid HB0).grown hg2 hsz0 (fun j e => by have h := Option.some.inj (show some w1.heap.size = some j from e); omega); have hbB : w2.heap[C]? = w1.heap[C]? := hB2.block C (unhid HC1).lt; obtain ⟨A3, c3, hv3, -, -⟩ := own_slice hown2; subst hv3; have hB := hbB.trans (unhid HC1).b; have c0a := cell_of_row _ C 0 _ _ _ hB; have fz0 := frozen_of_row _ C 0 _ _ hB; simp only [List.getElem?_toArray, List.getElem?_cons_zero] at c0a)
  have hs := (unhid HC1).setB (.slice A3 d.bs.length c3) (own_base hown2 (unhid HK1).lo) hbB hB2.size (unhid HK).sf
  have HP := hid (⟨C, .slice A3 d.bs.length c3, rfl, hs.1, Nat.le_of_eq (unhid HCE).symm, fun g hg => Nat.le_trans (unhid HB1).size (own_block_lt hown2 hg).1, (((unhid HB1).trans (hB2.mono (unhid HB1).size)).grown hs.2 (Nat.le_trans (unhid HB1).size hB2.size) (fun j e => by have := Option.some.inj e; have := unhid HCE; omega))⟩ :
    ∃ C' u, Ending.returned (.pointer (some ⟨C, 0, none⟩)) = .returned (.pointer (some ⟨C', 0, none⟩)) ∧ RkAt (w2.setCell ⟨C, 0, none⟩ (.slice A3 d.bs.length c3)) base C' u d ∧ w.heap.size ≤ C' ∧ (∀ g, u.ownBlock = some g → w.heap.size ≤ g) ∧ Below w.heap.size w (w2.setCell ⟨C, 0, none⟩ (.slice A3 d.bs.length c3)))
  have HPP := hid HP
  clear hs hown2 hB2 hbB hnew2 hg2 hE0 c0 c0a fz0 hB HP
  go_wp2_with fail
  go_ret
  exact unhid (unhid HPP)

set_option maxHeartbeats 4000000 in
set_option maxRecDepth 100000 in
theorem kcopyD_calls {base B : Nat} {v : Value} {d : Dk} (w : World) (h : DkAt w base B v d) (hn : d.bs.length ≤ 1000000) :
    Calls Tryz.prog 36 #[.pointer (some ⟨B, 0, none⟩)] w fun e w' => ∃ C u, e = .returned (.pointer (some ⟨C, 0, none⟩)) ∧ DkAt w' base C u d ∧ w.heap.size ≤ C ∧ (∀ g, u.ownBlock = some g → w.heap.size ≤ g) ∧ Below w.heap.size w w' := by
  have HK := hid h
  have HN := hid hn
  obtain ⟨A2, cc2, hv, hrd, -, -, -⟩ := own_slice2 h.own
  subst hv
  have HRD := hid hrd
  clear h hn hrd
  go_enter Tryz.func36, Tryz.ntmps36
  go_upto_region 4 with (first | (go_at_call 72; refine (knone_calls _ (unhid HK)).mono ?_; rintro e w9 ⟨rfl, rfl⟩) | (refine wpList_load_row rfl 95 _ rfl B rfl 95 #[.bool true, .bool d.dn, .slice A2 d.bs.length cc2, .int .i64 (d.sf : Int), .int .i64 (d.ar : Int), .int .i64 d.lf] (0, 0) _ (unhid HK).b Tryz.underlying95 rfl (by kernel_rfl) ?_) | (refine wpList_store_row rfl 95 _ _ rfl w.heap.size #[.bool true, .bool d.dn, .slice A2 d.bs.length cc2, .int .i64 (d.sf : Int), .int .i64 (d.ar : Int), .int .i64 d.lf] rfl rfl 95 _ (heap_alloc_new w _) (by kernel_rfl) rfl (by simp [Value.oneCell']) ?_; rw [World.setRow_alloc_new]))
  have hb1 := below_alloc w (.cells #[.bool true, .bool d.dn, .slice A2 d.bs.length cc2, .int .i64 (d.sf : Int), .int .i64 (d.ar : Int), .int .i64 d.lf] 95)
  have hC := heap_alloc_new w (.cells #[.bool true, .bool d.dn, .slice A2 d.bs.length cc2, .int .i64 (d.sf : Int), .int .i64 (d.ar : Int), .int .i64 d.lf] 95)
  have HK1 := hid ((unhid HK).below hb1)
  have HC1 := hid (show DkAt _ base w.heap.size (.slice A2 d.bs.length cc2) d from ⟨hC, own_below (unhid HK).own hb1, (unhid HK).sf, (unhid HK).ar, Nat.le_trans (unhid HK).lo hb1.size⟩)
  have HB1 := hid hb1
  have HRD1 := hid ((unhid HRD).below hb1)
  obtain ⟨C, hCe⟩ : ∃ C, C = w.heap.size := ⟨_, rfl⟩
  have HCE := hid hCe
  rw [← hCe] at HC1 ⊢
  clear hb1 hC hCe
  change Code.wp _ _ _ _ (w.alloc (.cells #[.bool true, .bool d.dn, .slice A2 d.bs.length cc2, .int .i64 (d.sf : Int), .int .i64 (d.ar : Int), .int .i64 d.lf] 95))
  generalize w.alloc (.cells #[.bool true, .bool d.dn, .slice A2 d.bs.length cc2, .int .i64 (d.sf : Int), .int .i64 (d.ar : Int), .int .i64 d.lf] 95) = w1 at *
  have c2 := (unhid HK1).cells.2.2.1
  go_wp2_with fail
  refine (clone_calls d.bs A2 cc2 w1 (unhid HRD1) (unhid HN)).mono ?_
  rintro e w2 ⟨A3, c3, rfl, hown2, hb2⟩
  have HC2 := hid ((unhid HC1).below hb2)
  have HO2 := hid hown2
  have HB2 := hid hb2
  have c2' := (unhid HC2).cells.2.2.1
  have fz2 := (unhid HC2).fz 2
  clear hown2 hb2 c2
  have hs := (unhid HC2).setB (.slice A3 d.bs.length c3) (own_base (unhid HO2) (unhid HK1).lo) rfl (Nat.le_refl _) (unhid HK).sf
  have HP := hid (⟨C, .slice A3 d.bs.length c3, rfl, hs.1, Nat.le_of_eq (unhid HCE).symm, fun g hg => Nat.le_trans (unhid HB1).size (own_block_lt (unhid HO2) hg).1, (((unhid HB1).trans ((unhid HB2).mono (unhid HB1).size)).grown hs.2 (Nat.le_trans (unhid HB1).size (unhid HB2).size) (fun j e => by have := Option.some.inj e; have := unhid HCE; omega))⟩ :
    ∃ C' u, Ending.returned (.pointer (some ⟨C, 0, none⟩)) = .returned (.pointer (some ⟨C', 0, none⟩)) ∧ DkAt (w2.setCell ⟨C, 2, none⟩ (.slice A3 d.bs.length c3)) base C' u d ∧ w.heap.size ≤ C' ∧ (∀ g, u.ownBlock = some g → w.heap.size ≤ g) ∧ Below w.heap.size w (w2.setCell ⟨C, 2, none⟩ (.slice A3 d.bs.length c3)))
  have HPP := hid HP
  clear hs HP
  go_wp2_with fail
  go_ret
  exact unhid (unhid HPP)
end

section
open Go.RowKit Go.Shelf

theorem rd_three (w : World) (a b c : UInt8) : Rd (w.alloc (.cells #[.int .u8 (a.toNat : Int), .int .u8 (b.toNat : Int), .int .u8 (c.toNat : Int)] 5)) (some ⟨w.heap.size, 0, none⟩) (bys [a, b, c]) := fun _ => by
  refine ⟨_, 0, rfl, by simp, fun j u hu => ?_⟩
  rw [Nat.zero_add, cell_of_row _ _ j _ _ _ (heap_alloc_new w _), ← hu, ← Array.getElem?_toList]
  rfl
theorem numBs_two (v : Nat) : numBs 2 v = [byt v 1, byt v 0] := rfl

set_option maxHeartbeats 4000000 in
set_option maxRecDepth 100000 in
theorem encode_calls (en : List UInt8) (A : Option Addr) (c : Nat) (w : World) (hr : Rd w A (bys en)) (hl : en.length ≤ 2000) :
    Calls Tryz.prog 76 #[.slice A en.length c] w fun e w' => BysPost w (encE en) e w' := by
  obtain ⟨i0, hi, hz0, hz1, hz2⟩ := info_parts info_u8
  have HR := hid hr
  have HL := hid hl
  obtain ⟨n7, hn7⟩ : ∃ n7, n7 = en.length + 7 := ⟨_, rfl⟩
  have hmkE : ∃ mk, mk.size = n7 ∧ (Instr.makeSlice 52 (.int .i64 0) (.int .i64 (n7 : Int))).run Tryz.prog w = .ok (.slice (some ⟨w.heap.size, 0, none⟩) 0 n7) (w.alloc (.cells mk 5)) :=
    ⟨madeCells #[.int .u8 0] n7, by rw [size_madeCells], by
      have h := run_make (P := Tryz.prog) w 52 5 i0 (.int .u8 0) Tryz.underlying52 hi hz0 .i64 .i64 0 n7 (by omega) (by omega) (by rw [hz2]; omega) (by omega)
      rw [hz1, Int.toNat_natCast, Nat.mul_one] at h
      exact h⟩
  obtain ⟨mk, hms, hmk⟩ := hmkE
  rw [show (n7 : Int) = (en.length : Int) + 7 from by omega] at hmk
  have HO := hid (World.ownsRow_made (e := 5) (size := 1) w mk n7 (Nat.le_refl _) (by unfold maxLen; omega) (by rw [hms]; omega))
  have hbm := below_alloc w (.cells mk 5)
  obtain ⟨wm, hwm⟩ : ∃ wm, wm = w.alloc (.cells mk 5) := ⟨_, rfl⟩
  rw [← hwm] at HO hbm hmk
  have h3 := rd_three wm 66 (byt en.length 1) (byt en.length 0)
  have hb3 := below_alloc wm (.cells #[.int .u8 ((66 : UInt8).toNat : Int), .int .u8 ((byt en.length 1).toNat : Int), .int .u8 ((byt en.length 0).toNat : Int)] 5)
  have HO3 := hid ((unhid HO).alloc (.cells #[.int .u8 ((66 : UInt8).toNat : Int), .int .u8 ((byt en.length 1).toNat : Int), .int .u8 ((byt en.length 0).toNat : Int)] 5))
  have HB3 := hid (hbm.trans (hb3.mono hbm.size))
  have H3 := hid h3
  have HRd := hid ((unhid HR).below (unhid HB3))
  have HR0 := hid (unhid HR)
  have hw1 : IntKind.i64.wrap (3 + (en.length : Int)) = 3 + (en.length : Int) := wrap_s64 (by omega) (by omega)
  have hw1' : wrap64 (3 + (en.length : Int)) = 3 + (en.length : Int) := by unfold wrap64; omega
  have hw2 : IntKind.i64.wrap (3 + (en.length : Int) + 4) = (en.length : Int) + 7 := by rw [wrap_s64 (by omega) (by omega)]; omega
  have hw2' : wrap64 (3 + (en.length : Int) + 4) = (en.length : Int) + 7 := by unfold wrap64; omega
  have hy1 : IntKind.u8.wrap ((en.length : Int) / 256) = ((byt en.length 1).toNat : Int) := byt_wrap en.length 1
  have hy0 : IntKind.u8.wrap (en.length : Int) = ((byt en.length 0).toNat : Int) := by
    have h := byt_wrap en.length 0
    simp at h
    exact h
  rw [show ((66 : UInt8).toNat : Int) = 66 from rfl] at HB3 HO3 H3 HRd
  have hl2 := hl
  clear hr hl hbm h3 hb3 HR
  subst hwm
  subst hn7
  have hws : (w.alloc (.cells mk 5)).heap.size = w.heap.size + 1 := by simp
  rw [hws] at H3
  have hen3 : ([66, byt en.length 1, byt en.length 0] : List UInt8) = [66] ++ numBs 2 en.length := rfl
  go_enter Tryz.func76, Tryz.ntmps76
  go_upto_region 2 with (at_builtin; refine wpList_append_any rfl _ _ 52 rfl w.heap.size 5 i0 (.int .u8 0) 1 1 Tryz.underlying52 hi hz0 hz1 hz2 rfl (by decide) _ _ _ rfl (unhid HO3) _ 3 3 (bys [66, byt en.length 1, byt en.length 0]) rfl rfl (unhid H3) (bys_oneC _) (by unfold maxLen; omega) (by omega) (unhid HB3).size ?_; intro v1 w1 hown1 hg1 hnew1)
  have HB1 := hid ((unhid HB3).grown hg1 (unhid HB3).size (fun j e => (own_block_lt (unhid HO3) (g := j) e).1))
  have HR1 := hid ((unhid HR0).below (unhid HB1))
  have hsz : w.heap.size ≤ w1.heap.size := (unhid HB1).size
  rw [List.nil_append, Nat.zero_add] at hown1
  clear hg1 hnew1 HO3 H3 HB3 HO hmk hms hw1 hw1' hw2 hw2' hy1 hy0 hws
  go_upto_region 3 with (at_builtin; refine wpList_append_any rfl _ _ 52 rfl w.heap.size 5 i0 (.int .u8 0) 1 1 Tryz.underlying52 hi hz0 hz1 hz2 rfl (by decide) _ _ _ rfl hown1 A en.length c (bys en) rfl (by simp) (unhid HR1) (bys_oneC en) (by unfold maxLen; omega) (by omega) hsz ?_; intro v' w2 hown2 hg2 hnew)
  have HB2 := hid ((unhid HB1).grown hg2 hsz (fun j e => (own_block_lt hown1 (g := j) e).1))
  obtain ⟨m, hm⟩ : ∃ m, m = [66] ++ numBs 2 en.length ++ en := ⟨_, rfl⟩
  have hml : m.length = 3 + en.length := by rw [hm, ← hen3, List.length_append]; rfl
  have hown3 : w2.ownsRow w.heap.size 5 1 v' m.length (bys m) := by rw [hml, hm, bys_append, ← hen3]; exact hown2
  have HENC := hid (show encE en = m ++ numBs 4 (crcL m) from by rw [hm]; rfl)
  have HML := hid (show m.length ≤ 1000000 from by omega)
  obtain ⟨A2, c2, hv2, hrd2, -⟩ := own_slice hown3
  subst hv2
  have HR2 := hid hrd2
  have HO2 := hid hown3
  clear hsz hown1 hown2 hg2 hnew hm hml hown3 hrd2 HRd HR1 hl2
  go_wp2_with fail
  refine (checksum_calls m A2 c2 w2 (unhid HR2) (unhid HML)).mono ?_
  rintro e w3 ⟨rfl, rfl⟩
  obtain ⟨q, hq⟩ : ∃ q, q = crcL m := ⟨_, rfl⟩
  have HQ := hid hq
  have hql : q < 4294967296 := by rw [hq]; exact crcL_lt _
  rw [← hq]
  have hwq : IntKind.u64.wrap (q : Int) = (q : Int) := by simp [IntKind.wrap, IntKind.signed, IntKind.bits]; omega
  have HC4 := hid (number_calls 4 q (by omega) (by omega) w2 (unhid HO2) (unhid HML) (unhid HB2).size)
  clear hq
  go_wp2_with fail
  refine (unhid HC4).mono ?_
  rintro e w4 ⟨u4, rfl, hn4⟩
  have HP := hid (show BysPost w (encE en) (.returned u4) w4 from ⟨u4, rfl, by rw [unhid HENC, ← unhid HQ]; exact hn4.own, (unhid HB2).trans hn4.b⟩)
  clear hn4 hwq
  go_wp2_with fail
  go_ret
  exact unhid HP
end

section
open Go.RowKit Go.Shelf

/-- Put refuses. -/
def lpS (fl : Bool) (life : Int) (d : Dk) (en : List UInt8) : Prop := fl = true ∨ life ≠ d.lf ∨ 2000 < en.length
instance (fl : Bool) (life : Int) (d : Dk) (en : List UInt8) : Decidable (lpS fl life d en) := by unfold lpS; infer_instance
def lpD (fl : Bool) (life : Int) (d : Dk) (en : List UInt8) : Dk :=
  if lpS fl life d en then d else if downE d = 0 then syncD (appD d (encE en)) else appD d (encE en)
def lpE (fl : Bool) (life : Int) (d : Dk) (en : List UInt8) : Int :=
  if fl = true ∨ life ≠ d.lf then 93 else if 2000 < en.length then 2 else if downE d = 0 then downE (appD d (encE en)) else downE d
def lpF (fl : Bool) (life : Int) (d : Dk) (en : List UInt8) : Bool :=
  if lpS fl life d en then fl else decide (lpE fl life d en ≠ 0)
def lpL (fl : Bool) (life : Int) (d : Dk) (en : List UInt8) (ls : List (List UInt8)) : List (List UInt8) :=
  if lpE fl life d en = 0 then ls ++ [en] else ls
/-- Nothing has turned but the blocks of a set. -/
structure But (w w' : World) (S : Nat → Prop) : Prop where
  os : w'.os = w.os
  tape : w'.tape = w.tape
  output : w'.output = w.output
  size : w.heap.size ≤ w'.heap.size
  block : ∀ k, k < w.heap.size → ¬ S k → w'.heap[k]? = w.heap[k]?
section
variable {w w1 w2 : World} {S S2 : Nat → Prop}
theorem But.refl (w : World) (S : Nat → Prop) : But w w S := ⟨rfl, rfl, rfl, Nat.le_refl _, fun _ _ _ => rfl⟩
theorem But.mono (h : But w w1 S) (hs : ∀ k, k < w.heap.size → S k → S2 k) : But w w1 S2 := ⟨h.os, h.tape, h.output, h.size, fun k hk hn => h.block k hk (fun e => hn (hs k hk e))⟩
theorem But.then (h : But w w1 S) (h2 : But w1 w2 S2) (hs : ∀ k, k < w.heap.size → S2 k → S k) : But w w2 S :=
  ⟨h2.os.trans h.os, h2.tape.trans h.tape, h2.output.trans h.output, Nat.le_trans h.size h2.size, fun k hk hn => (h2.block k (Nat.lt_of_lt_of_le hk h.size) (fun e => hn (hs k hk e))).trans (h.block k hk hn)⟩
theorem But.of_two {B : Nat} {row : Option Nat} (h : TwoBut w w1 B row) : But w w1 (fun k => k = B ∨ some k = row) := ⟨h.os, h.tape, h.output, h.size, fun k hk hn => h.block k hk (fun e => hn (.inl e)) (fun e => hn (.inr e))⟩
theorem But.of_grown {row : Option Nat} (h : w.grownBy w1 row) : But w w1 (fun k => some k = row) := ⟨h.os, h.tape, h.output, h.size, fun k hk hn => h.block k hk hn⟩
theorem But.of_below (h : Below w.heap.size w w1) (S : Nat → Prop) : But w w1 S := ⟨h.os, h.tape, h.output, h.size, fun k hk _ => h.block k hk⟩
/-- A row that is not of the set. -/
theorem But.own (h : But w w1 S) {base n k : Nat} {ty : TypeId} {v : Value} {xs : List Value} (ho : w.ownsRow base ty k v n xs) (hn : ∀ g, v.ownBlock = some g → ¬ S g) : w1.ownsRow base ty k v n xs := by
  refine ⟨ho.1, ?_⟩
  rcases ho.2 with h1 | ⟨g, cap, cur, rfl, hb, hh, h3⟩
  · exact .inl h1
  · exact .inr ⟨g, cap, cur, rfl, hb, (h.block g (Array.getElem?_eq_some_iff.1 hh).1 (hn g rfl)).trans hh, h3⟩
theorem But.at (h : But w w1 S) {B : Nat} {cs : Array Value} {ty : TypeId} (hB : w.heap[B]? = some (.cells cs ty (0, 0))) (hn : ¬ S B) : w1.heap[B]? = some (.cells cs ty (0, 0)) := (h.block B (Array.getElem?_eq_some_iff.1 hB).1 hn).trans hB
theorem But.ens (h : But w w1 S) {base lo : Nat} {v : Value} {L : List Ent} (he : EnsAt w base lo v L) (hn : ∀ g, v.ownBlock = some g → ¬ S g) (hn2 : ∀ e ∈ L, ∀ g, (enV e).ownBlock = some g → ¬ S g) : EnsAt w1 base lo v L :=
  ⟨h.own he.own hn, fun e he2 => h.own (he.ok e he2) (hn2 e he2)⟩
end
/-- The entries lie apart from a row. -/
def EntsOff (v : Value) (L : List Ent) : Prop := ∀ e ∈ L, ∀ g, (enV e).ownBlock = some g → v.ownBlock ≠ some g
/-- What Put turns: the disk, its bytes, the log, its list. -/
def PutS (B : Nat) (v : Value) (Bl : Nat) (lv : Value) (k : Nat) : Prop := k = B ∨ some k = v.ownBlock ∨ k = Bl ∨ some k = lv.ownBlock
theorem own_lt {w : World} {base n k : Nat} {ty : TypeId} {v : Value} {xs : List Value} (ho : w.ownsRow base ty k v n xs) {g : Nat} (h : v.ownBlock = some g) : base ≤ g ∧ g < w.heap.size := ⟨(own_block_lt ho h).1, (own_block_lt ho h).2⟩
end

section
open Go.RowKit Go.Shelf

section
variable {fl : Bool} {life : Int} {d : Dk} {en : List UInt8} {ls : List (List UInt8)}
theorem lp_no (h : fl = true ∨ life ≠ d.lf) : lpD fl life d en = d ∧ lpF fl life d en = fl ∧ lpE fl life d en = 93 ∧ lpL fl life d en ls = ls := by
  have hs : lpS fl life d en := h.elim .inl (fun h => .inr (.inl h))
  have he : lpE fl life d en = 93 := by rw [lpE, if_pos h]
  refine ⟨by rw [lpD, if_pos hs], by rw [lpF, if_pos hs], he, by rw [lpL, if_neg (by rw [he]; decide)]⟩
theorem lp_long (h : ¬ (fl = true ∨ life ≠ d.lf)) (hl : 2000 < en.length) : lpD fl life d en = d ∧ lpF fl life d en = fl ∧ lpE fl life d en = 2 ∧ lpL fl life d en ls = ls := by
  have hs : lpS fl life d en := .inr (.inr hl)
  have he : lpE fl life d en = 2 := by rw [lpE, if_neg h, if_pos hl]
  refine ⟨by rw [lpD, if_pos hs], by rw [lpF, if_pos hs], he, by rw [lpL, if_neg (by rw [he]; decide)]⟩
theorem lp_go (h : ¬ (fl = true ∨ life ≠ d.lf)) (hl : ¬ 2000 < en.length) : ¬ lpS fl life d en := by
  rintro (h1 | h1 | h1)
  · exact h (.inl h1)
  · exact h (.inr h1)
  · exact hl h1
theorem lp_down (h : ¬ (fl = true ∨ life ≠ d.lf)) (hl : ¬ 2000 < en.length) (hd : downE d ≠ 0) : lpD fl life d en = appD d (encE en) ∧ lpF fl life d en = true ∧ lpE fl life d en = downE d ∧ lpL fl life d en ls = ls := by
  have hs := lp_go h hl
  have he : lpE fl life d en = downE d := by rw [lpE, if_neg h, if_neg hl, if_neg hd]
  refine ⟨by rw [lpD, if_neg hs, if_neg hd], by rw [lpF, if_neg hs, he]; simp [hd], he, by rw [lpL, if_neg (by rw [he]; exact hd)]⟩
theorem lp_sync (h : ¬ (fl = true ∨ life ≠ d.lf)) (hl : ¬ 2000 < en.length) (hd : downE d = 0) (h2 : downE (appD d (encE en)) ≠ 0) : lpD fl life d en = syncD (appD d (encE en)) ∧ lpF fl life d en = true ∧ lpE fl life d en = downE (appD d (encE en)) ∧ lpL fl life d en ls = ls := by
  have hs := lp_go h hl
  have he : lpE fl life d en = downE (appD d (encE en)) := by rw [lpE, if_neg h, if_neg hl, if_pos hd]
  refine ⟨by rw [lpD, if_neg hs, if_pos hd], by rw [lpF, if_neg hs, he]; simp [h2], he, by rw [lpL, if_neg (by rw [he]; exact h2)]⟩
theorem lp_ok (h : ¬ (fl = true ∨ life ≠ d.lf)) (hl : ¬ 2000 < en.length) (hd : downE d = 0) (h2 : downE (appD d (encE en)) = 0) : lpD fl life d en = syncD (appD d (encE en)) ∧ lpF fl life d en = fl ∧ lpE fl life d en = 0 ∧ lpL fl life d en ls = ls ++ [en] := by
  have hs := lp_go h hl
  have he : lpE fl life d en = 0 := by rw [lpE, if_neg h, if_neg hl, if_pos hd, h2]
  have hf : fl = false := by simpa using (fun e => h (.inl e) : ¬ fl = true)
  refine ⟨by rw [lpD, if_neg hs, if_pos hd], by rw [lpF, if_neg hs, he, hf]; rfl, he, by rw [lpL, if_pos he]⟩
end
def LpPost (w : World) (base B : Nat) (v : Value) (Bl : Nat) (lv : Value) (life : Int) (d' : Dk) (fl' : Bool) (ls' : List (List UInt8)) (en : Int) (e : Ending) (w' : World) : Prop :=
  e = .returned (.int .i64 en) ∧ ∃ v' lv' L', DkAt w' base B v' d' ∧ LoAt w' base base Bl B life fl' lv' L' ∧ ents L' = ls' ∧ EntsOff v' L' ∧ But w w' (PutS B v Bl lv) ∧ NewRow w v v' ∧ NewRow w lv lv'
theorem NewRow.refl (w : World) (v : Value) : NewRow w v v := .inl rfl
theorem NewRow.of_le {w w1 : World} {v v' : Value} (h : NewRow w1 v v') (hs : w.heap.size ≤ w1.heap.size) : NewRow w v v' := h.elim .inl (fun ⟨g, e, h⟩ => .inr ⟨g, e, Nat.le_trans hs h⟩)
theorem blk_ne {w : World} {B B2 : Nat} {cs cs2 : Array Value} {ty ty2 : TypeId} (h : w.heap[B]? = some (.cells cs ty (0, 0))) (h2 : w.heap[B2]? = some (.cells cs2 ty2 (0, 0))) (hne : ty ≠ ty2) : B ≠ B2 := by
  rintro rfl
  rw [h] at h2
  injection h2 with h2
  injection h2 with _ h2 _
  exact hne h2
section
variable {w w1 w' : World} {base lo Bl B : Nat} {life : Int} {fl : Bool} {v lv : Value} {L : List Ent} {d : Dk}
theorem EntsOff.new {v5 : Value} (h : EntsOff v L) (he : EnsAt w base lo lv L) (hn : NewRow w v v5) : EntsOff v5 L := fun e hx g hg => by
  rcases hn with hn | ⟨k, hk, hs⟩
  · rw [hn]
    exact h e hx g hg
  · rw [hk]
    intro e2
    have := (own_block_lt (he.ok e hx) hg).2
    have := Option.some.inj e2
    omega
theorem LoAt.but {S : Nat → Prop} (h : LoAt w base lo Bl B life fl lv L) (hb : But w w1 S) (h1 : ¬ S Bl) (h2 : ∀ g, lv.ownBlock = some g → ¬ S g) (h3 : ∀ e ∈ L, ∀ g, (enV e).ownBlock = some g → ¬ S g) : LoAt w1 base lo Bl B life fl lv L := ⟨hb.at h.b h1, hb.ens h.e h2 h3⟩
theorem DkAt.but {S : Nat → Prop} (h : DkAt w base B v d) (hb : But w w1 S) (h1 : ¬ S B) (h2 : ∀ g, v.ownBlock = some g → ¬ S g) : DkAt w1 base B v d := ⟨hb.at h.b h1, hb.own h.own h2, h.sf, h.ar, Nat.le_trans h.lo hb.size⟩
/-- The disk turns. -/
theorem LoAt.two (hd : DkAt w base B v d) (h : LoAt w base lo Bl B life fl lv L) (hoff : EntsOff v L) (ht : TwoBut w w1 B v.ownBlock) : LoAt w1 base lo Bl B life fl lv L := by
  refine h.but (But.of_two ht) ?_ (fun g hg => ?_) (fun e he g hg => ?_)
  · rintro (e | e)
    · exact blk_ne h.b hd.b (by decide) e
    · exact own_ne_blk hd.own h.b (by decide) e
  · rintro (e | e)
    · exact own_ne_blk h.e.own hd.b (by decide) (by rw [← e]; exact hg.symm)
    · rcases own_apart hd.own h.e.own (by decide) with h0 | h0
      · rw [h0] at hg
        cases hg
      · exact h0 (by rw [hg, e])
  · rintro (e2 | e2)
    · exact own_ne_blk (h.e.ok e he) hd.b (by decide) (by rw [← e2]; exact hg.symm)
    · exact hoff e he g hg e2.symm
theorem LoAt.fail (h : LoAt w base lo Bl B life fl lv L) : LoAt (w.setCell ⟨Bl, 2, none⟩ (.bool true)) base lo Bl B life true lv L ∧ w.grownBy (w.setCell ⟨Bl, 2, none⟩ (.bool true)) (some Bl) := by
  have hg := setCell_grown w h.b (i := 2) (.bool true)
  exact ⟨⟨heap_setCell_same w Bl 2 _ _ _ h.b, h.e.other h.b (by decide) (by decide) hg⟩, hg⟩
theorem LoAt.push {v' : Value} {e : Ent} {tmp : Obj} (h : LoAt w base lo Bl B life fl lv L) (he : w.ownsRow lo 5 1 (enV e) e.l.length (bys e.l)) (hown : w1.ownsRow base 52 1 v' (L.length + 1) (ens L ++ [enV e])) (hg : (w.alloc tmp).grownBy w1 lv.ownBlock) :
    LoAt (w1.setCell ⟨Bl, 3, none⟩ v') base lo Bl B life fl v' (L ++ [e]) ∧ But w (w1.setCell ⟨Bl, 3, none⟩ v') (fun k => k = Bl ∨ some k = lv.ownBlock) := by
  have hbt := below_alloc w tmp
  have h2 := h.below hbt
  have hE := h.e.push he hown hg
  have hBl : w1.heap[Bl]? = some (.cells #[.pointer (some ⟨B, 0, none⟩), .int .i64 life, .bool fl, lv] 100 (0, 0)) :=
    (hg.block Bl (Array.getElem?_eq_some_iff.1 h2.b).1 (own_ne_blk h2.e.own h2.b (by decide))).trans h2.b
  have hb1 := heap_setCell_same w1 Bl 3 _ _ v' hBl
  have hg1 := setCell_grown w1 hBl (i := 3) v'
  refine ⟨⟨hb1, hE.other hBl (by decide) (by decide) hg1⟩, ?_⟩
  exact ((But.of_below hbt _).then (But.of_grown hg) (fun k _ e => .inr e)).then (But.of_grown hg1) (fun k _ e => .inl (Option.some.inj e))
/-- The log turns. -/
theorem DkAt.log (hd : DkAt w base B v d) (h : LoAt w base lo Bl B life fl lv L) (hb : But w w1 (fun k => k = Bl ∨ some k = lv.ownBlock)) : DkAt w1 base B v d := by
  refine hd.but hb ?_ (fun g hg => ?_)
  · rintro (e | e)
    · exact blk_ne h.b hd.b (by decide) e.symm
    · exact own_ne_blk h.e.own hd.b (by decide) e
  · rintro (e | e)
    · exact own_ne_blk hd.own h.b (by decide) (by rw [← e]; exact hg.symm)
    · rcases own_apart hd.own h.e.own (by decide) with h0 | h0
      · rw [h0] at e
        cases e
      · exact h0 (by rw [hg, e])
/-- The disk has turned, and the log fails. -/
theorem lp_fail {v5 : Value} {d5 : Dk} {d' : Dk} {fl' : Bool} {ls' : List (List UInt8)} {n : Int} {w5 : World} (hd5 : DkAt w5 base B v5 d5) (hlo5 : LoAt w5 base base Bl B life fl lv L) (hoff5 : EntsOff v5 L) (hb : But w w5 (PutS B v Bl lv)) (hn : NewRow w v v5)
    (h1 : d' = d5) (h2 : fl' = true) (h3 : ls' = ents L) : LpPost w base B v Bl lv life d' fl' ls' n (.returned (.int .i64 n)) (w5.setCell ⟨Bl, 2, none⟩ (.bool true)) := by
  subst h1 h2 h3
  obtain ⟨hf, hg⟩ := hlo5.fail
  have hb5 : But w5 (w5.setCell ⟨Bl, 2, none⟩ (.bool true)) (fun k => k = Bl ∨ some k = lv.ownBlock) := (But.of_grown hg).mono (fun k _ e => .inl (Option.some.inj e))
  exact ⟨rfl, v5, lv, L, hd5.log hlo5 hb5, hf, rfl, hoff5, hb.then hb5 (fun k _ e => .inr (.inr e)), hn, .refl _ _⟩
end

set_option maxHeartbeats 8000000 in
set_option maxRecDepth 100000 in
theorem kput_calls {base B Bl : Nat} {v lv : Value} {d : Dk} {life : Int} {fl : Bool} {L : List Ent} (en : List UInt8) (A : Option Addr) (c : Nat) (w : World) (hd : DkAt w base B v d) (hlo : LoAt w base base Bl B life fl lv L) (hoff : EntsOff v L) (hr : Rd w A (bys en))
    (hR : ∀ w1, But w w1 (PutS B v Bl lv) → Rd w1 A (bys en)) (hn : d.bs.length + 2007 ≤ 1000000) (hln : L.length ≤ 100000) (hen : en.length ≤ 1000000) :
    Calls Tryz.prog 34 #[.pointer (some ⟨Bl, 0, none⟩), .slice A en.length c] w fun e w' => LpPost w base B v Bl lv life (lpD fl life d en) (lpF fl life d en) (lpL fl life d en (ents L)) (lpE fl life d en) e w' := by
  obtain ⟨i0, hi, hz0, hz1, hz2⟩ := info_parts info_bytes
  have HD := hid hd
  have HLO := hid hlo
  have HOF := hid hoff
  have HR := hid hR
  have HN := hid hn
  have HLN := hid hln
  have HEN := hid hen
  have hlb : Bl < w.heap.size := (Array.getElem?_eq_some_iff.1 hlo.b).1
  have l0 := cell_of_row _ Bl 0 _ _ _ hlo.b
  have l1 := cell_of_row _ Bl 1 _ _ _ hlo.b
  have l2 := cell_of_row _ Bl 2 _ _ _ hlo.b
  simp only [List.getElem?_toArray, List.getElem?_cons_zero, List.getElem?_cons_succ] at l0 l1 l2
  have d5 := hd.cells.2.2.2.2.2
  have hdb := hd.lt
  have p0 := fun p : After w => After.cell (by dsimp only; exact hlb) l0 p
  have p1 := fun p : After w => After.cell (by dsimp only; exact hlb) l1 p
  have p2 := fun p : After w => After.cell (by dsimp only; exact hlb) l2 p
  have q5 := fun p : After w => After.cell (by dsimp only; exact hdb) d5 p
  have HSTAY := hid (show ∀ w1, Below w.heap.size w w1 → ∀ (n : Int) d' fl' ls', d' = d → fl' = fl → ls' = ents L → LpPost w base B v Bl lv life d' fl' ls' n (.returned (.int .i64 n)) w1 from by
    rintro w1 hb n d' fl' ls' rfl rfl rfl
    exact ⟨rfl, v, lv, L, hd.below hb, hlo.below hb, rfl, hoff, But.of_below hb _, .refl _ _, .refl _ _⟩)
  clear hd hlo hoff hr hR hn hln hen l0 l1 l2 d5
  go_enter Tryz.func34, Tryz.ntmps34
  go_wp2_with fail
  refine (kl_none_calls w (unhid HLO)).mono ?_
  rintro e w' ⟨rfl, rfl⟩
  cases hfl : fl with
  | true =>
    have HX := hid (lp_no (fl := fl) (life := life) (d := d) (en := en) (ls := ents L) (.inl hfl))
    rw [hfl] at p2
    have HP := hid (fun w1 hb => unhid HSTAY w1 hb 93 _ _ _ (unhid HX).1 (unhid HX).2.1 (unhid HX).2.2.2)
    have HPE := hid (unhid HX).2.2.1
    clear hfl
    go_upto_region 3 with (fail)
    (refine wp_region_below (by kernel_rfl) (by kernel_rfl) ?_; (repeat (go_big_quiet_step (first | fail))); refine wpQuiet_nil ?_; intro wq hw'; obtain ⟨⟨wq2, hbq⟩, hw''⟩ := hw'; dsimp only at hw''; subst hw'')
    have HPP := hid ((unhid HP) _ hbq)
    clear hbq HP HSTAY p0 p1 p2 q5
    go_wp2_with fail
    go_ret
    rw [unhid HPE]
    exact unhid HPP
  | false =>
    rw [hfl] at p2
    by_cases hne : life = d.lf
    · have HG := hid (show ¬ (fl = true ∨ life ≠ d.lf) from by rw [hfl]; rintro (h | h); cases h; exact h hne)
      rw [hfl] at HG
      subst hfl
      subst hne
      go_upto_region 3 with (fail)
      (refine wp_region_below (by kernel_rfl) (by kernel_rfl) ?_; (repeat (go_big_quiet_step (first | fail))); refine wpQuiet_nil ?_; intro wq hw'; obtain ⟨⟨wq2, hbq⟩, hw''⟩ := hw'; dsimp only at hw''; subst hw'')
      have HD := hid ((unhid HD).below hbq)
      have HLO := hid ((unhid HLO).below hbq)
      have HR := hid (show ∀ w1, But wq w1 (PutS B v Bl lv) → Rd w1 A (bys en) from fun w1 h => (unhid HR) w1 ((But.of_below hbq _).then h (fun _ _ e => e)))
      have HBQ := hid hbq
      clear hbq p0 p1 p2 q5
      by_cases hll : 2000 < en.length
      · have hlli : (2000 : Int) < (en.length : Int) := by omega
        have HX := hid (lp_long (ls := ents L) (unhid HG) hll)
        have HP := hid (unhid HSTAY wq (unhid HBQ) 2 _ _ _ (unhid HX).1 (unhid HX).2.1 (unhid HX).2.2.2)
        have HPE := hid (unhid HX).2.2.1
        clear hll
        go_wp2_with fail
        go_ret
        rw [unhid HPE]
        exact unhid HP
      · have hlli : ¬ (2000 : Int) < (en.length : Int) := by omega
        have HLL := hid hll
        have HL2 := hid (show en.length ≤ 2000 from by omega)
        clear hll HSTAY
        go_upto_region 7 with (fail)
        clear hlli
        have k0 := cell_of_row _ Bl 0 _ _ _ (unhid HLO).b
        simp only [List.getElem?_toArray, List.getElem?_cons_zero, List.getElem?_cons_succ] at k0
        have HK0 := hid k0
        have HLB := hid (Array.getElem?_eq_some_iff.1 (unhid HLO).b).1
        have HSF := hid (show ∀ w', Below wq.heap.size wq w' → w'.cell? ⟨Bl, 0, none⟩ = some (.pointer (some ⟨B, 0, none⟩)) from fun w' hb => (World.cell?_of_block (a := ⟨Bl, 0, none⟩) (hb.block Bl (unhid HLB))).trans (unhid HK0))
        clear k0
        refine wp_region_noPanic ?_
        refine wp_region_E (S := fun w' => w'.cell? ⟨Bl, 0, none⟩ = some (.pointer (some ⟨B, 0, none⟩))) 7 8 rfl (by kernel_rfl) (by kernel_rfl) ((unhid HSF) _ (Below.drew (Below.refl _ _))) ?_
        intro hSE
        have HBe := hid (Below.drew (Below.refl wq.heap.size wq))
        generalize wq.drew = Wd at *
        (refine WE_take (i := 0) (v := ?_) rfl (by kernel_rfl) (by decide) (by kernel_rfl) (by kernel_rfl) (fun _ _ _ h => h) (by rfl) hSE ?_ ?_; rotate_left; (focus (intro w hSw; (try dsimp only at hSw); go_simp; (try with_reducible rfl))); simp only [Act.put, List.setIfInBounds_toArray, List.set_cons_zero, List.set_cons_succ])
        (refine WE_take (i := 1) (v := ?_) rfl (by kernel_rfl) (by decide) (by kernel_rfl) (by kernel_rfl) (fun _ _ _ h => h) (by rfl) hSE ?_ ?_; rotate_left; (focus (intro w hSw; (try dsimp only at hSw); go_simp; (try with_reducible rfl))); simp only [Act.put, List.setIfInBounds_toArray, List.set_cons_zero, List.set_cons_succ])
        (refine WE_take (i := 2) (v := ?_) rfl (by kernel_rfl) (by decide) (by kernel_rfl) (by kernel_rfl) (fun _ _ _ h => h) (by rfl) hSE ?_ ?_; rotate_left; (focus (intro w hSw; (try dsimp only at hSw); go_simp; (try with_reducible rfl))); simp only [Act.put, List.setIfInBounds_toArray, List.set_cons_zero, List.set_cons_succ])
        (refine WE_take (i := 3) (v := ?_) rfl (by kernel_rfl) (by decide) (by kernel_rfl) (by kernel_rfl) (fun _ _ _ h => h) (by rfl) hSE ?_ ?_; rotate_left; (focus (intro w hSw; (try dsimp only at hSw); go_simp; (try with_reducible rfl))); simp only [Act.put, List.setIfInBounds_toArray, List.set_cons_zero, List.set_cons_succ])
        (refine WE_take (i := 4) (v := ?_) rfl (by kernel_rfl) (by decide) (by kernel_rfl) (by kernel_rfl) (fun _ _ _ h => h) (by rfl) hSE ?_ ?_; rotate_left; (focus (intro w hSw; (try dsimp only at hSw); go_simp; (try with_reducible rfl))); simp only [Act.put, List.setIfInBounds_toArray, List.set_cons_zero, List.set_cons_succ])
        (refine WE_one (i := 5) rfl (by decide) (by kernel_rfl) ?_; intro K hK)
        go_simp
        go_at_call 76
        refine (encode_calls en A c Wd ((unhid HR) _ (But.of_below (unhid HBe) _)) (unhid HL2)).mono ?_
        rintro e w4 ⟨u4, rfl, hown4, hb4⟩
        obtain ⟨A4, c4, hv4, hrd4, -⟩ := own_slice hown4
        subst hv4
        have HRD4 := hid hrd4
        have HBe := hid ((unhid HBe).trans (hb4.mono (unhid HBe).size))
        clear hown4 hb4 hrd4
        (refine hK.out _ _ ((unhid HSF) _ (unhid HBe)) ?_); clear hSE hK K; intro hSE; (try simp only [Act.put, List.setIfInBounds_toArray, List.set_cons_zero, List.set_cons_succ])
        have HD4 := hid ((unhid HD).below (unhid HBe))
        have HLO4 := hid ((unhid HLO).below (unhid HBe))
        (refine WE_one (i := 6) rfl (by decide) (by kernel_rfl) ?_; intro K hK)
        go_simp
        go_at_call 22
        refine (kappend_calls (encE en) A4 c4 w4 (unhid HD4) (unhid HRD4) (by rw [encE_len]; have := unhid HN; have := unhid HL2; omega)).mono ?_
        rintro e w5 ⟨rfl, v5, hk5, ht5, hn5⟩
        have hlo5 := (unhid HLO4).two (unhid HD4) (unhid HOF) ht5
        have k5 := cell_of_row _ Bl 0 _ _ _ hlo5.b
        have k52 := cell_of_row _ Bl 2 _ _ _ hlo5.b
        simp only [List.getElem?_toArray, List.getElem?_cons_zero, List.getElem?_cons_succ] at k5 k52
        have fz5 := frozen_of_row _ Bl 2 _ _ hlo5.b
        refine hK.out _ _ k5 ?_
        clear hSE hK K
        intro hSE
        (try simp only [Act.put, List.setIfInBounds_toArray, List.set_cons_zero, List.set_cons_succ])
        have HD5 := hid hk5
        have HLO5 := hid hlo5
        have HOF5 := hid ((unhid HOF).new (unhid HLO4).e hn5)
        have HN5 := hid (hn5.of_le (Nat.le_trans (unhid HBQ).size (unhid HBe).size) : NewRow w v v5)
        have HB5 := hid (((But.of_below (unhid HBQ) (PutS B v Bl lv)).then (But.of_below (unhid HBe) (PutS B v Bl lv)) (fun _ _ e => e)).then (But.of_two ht5) (fun k _ e => by rcases e with e | e; exact .inl e; exact .inr (.inl e)))
        have HBW5 := hid ((But.of_below (unhid HBe) (PutS B v Bl lv)).then (But.of_two ht5) (fun k _ e => by rcases e with e | e; exact .inl e; exact .inr (.inl e)))
        clear hk5 hlo5 hn5 ht5
        (refine WE_last rfl (by kernel_rfl) (by kernel_rfl) (by kernel_rfl) ?_; intro K hK; go_simp; refine hK.out _ _ (NoPanic.normal ?_); clear hK K)
        clear hSE HSF HBe HRD4 HD4 HLO4 HK0
        by_cases hdz : downE d = 0
        · have HDZ := hid hdz
          rw [hdz]
          clear hdz
          go_wp2_with fail
          refine (ksync_calls w5 (unhid HD5) (by
            have h := unhid HN
            have h2 := unhid HL2
            have h3 := encE_len en
            unfold appD
            split
            · omega
            · split
              · rw [(begD_bs d).1]; omega
              · simp only [List.length_append]; omega)).mono ?_
          rintro e w6 ⟨rfl, hk6, hg6⟩
          have HD6 := hid hk6
          have hlo6 := (unhid HLO5).two (unhid HD5) (unhid HOF5) (TwoBut.of hg6)
          have HLO6 := hid hlo6
          have HB6 := hid ((unhid HB5).then (But.of_grown hg6) (fun k _ e => .inl (Option.some.inj e)))
          have HBW6 := hid ((unhid HBW5).then (But.of_grown hg6) (fun k _ e => .inl (Option.some.inj e)))
          have k52 := cell_of_row _ Bl 2 _ _ _ hlo6.b
          simp only [List.getElem?_toArray, List.getElem?_cons_zero, List.getElem?_cons_succ] at k52
          have fz5 := frozen_of_row _ Bl 2 _ _ hlo6.b
          clear hk6 hg6 hlo6
          by_cases hdz2 : downE (appD d (encE en)) = 0
          · have HX := hid (lp_ok (ls := ents L) (unhid HG) (unhid HLL) (unhid HDZ) hdz2)
            rw [hdz2]
            clear hdz2
            have HPE := hid (unhid HX).2.2.1
            have k3 := cell_of_row _ Bl 3 _ _ _ (unhid HLO6).b
            simp only [List.getElem?_toArray, List.getElem?_cons_zero, List.getElem?_cons_succ] at k3
            have HK3 := hid k3
            have HLB6 := hid (Array.getElem?_eq_some_iff.1 (unhid HLO6).b).1
            have HSF := hid (show ∀ w', Below w6.heap.size w6 w' → w'.cell? ⟨Bl, 3, none⟩ = some lv from fun w' hb => (World.cell?_of_block (a := ⟨Bl, 3, none⟩) (hb.block Bl (unhid HLB6))).trans (unhid HK3))
            have HR6 := hid ((unhid HR) w6 (unhid HBW6))
            clear k3 k52 fz5
            obtain ⟨Al, cl, hlv, -, -⟩ := own_slice (unhid HLO6).e.own
            subst hlv
            go_upto_region 13 with (fail)
            refine wp_region_noPanic ?_
            refine wp_region_E (S := fun w' => w'.cell? ⟨Bl, 3, none⟩ = some (.slice Al L.length cl)) 11 12 rfl (by kernel_rfl) (by kernel_rfl) ((unhid HSF) _ (Below.drew (Below.refl _ _))) ?_
            intro hSE
            have HBe := hid (Below.drew (Below.refl w6.heap.size w6))
            generalize w6.drew = We at *
            (refine WE_take (i := 0) (v := ?_) rfl (by kernel_rfl) (by decide) (by kernel_rfl) (by kernel_rfl) (fun _ _ _ h => h) (by rfl) hSE ?_ ?_; rotate_left; (focus (intro w hSw; (try dsimp only at hSw); go_simp; (try with_reducible rfl))); simp only [Act.put, List.setIfInBounds_toArray, List.set_cons_zero, List.set_cons_succ])
            (refine WE_take (i := 1) (v := ?_) rfl (by kernel_rfl) (by decide) (by kernel_rfl) (by kernel_rfl) (fun _ _ _ h => h) (by rfl) hSE ?_ ?_; rotate_left; (focus (intro w hSw; (try dsimp only at hSw); go_simp; (try with_reducible rfl))); simp only [Act.put, List.setIfInBounds_toArray, List.set_cons_zero, List.set_cons_succ])
            (refine WE_take (i := 2) (v := ?_) rfl (by kernel_rfl) (by decide) (by kernel_rfl) (by kernel_rfl) (fun _ _ _ h => h) (by rfl) hSE ?_ ?_; rotate_left; (focus (intro w hSw; (try dsimp only at hSw); go_simp; (try with_reducible rfl))); simp only [Act.put, List.setIfInBounds_toArray, List.set_cons_zero, List.set_cons_succ])
            (refine WE_take (i := 3) (v := ?_) rfl (by kernel_rfl) (by decide) (by kernel_rfl) (by kernel_rfl) (fun _ _ _ h => h) (by rfl) hSE ?_ ?_; rotate_left; (focus (intro w hSw; (try dsimp only at hSw); go_simp; (try with_reducible rfl))); simp only [Act.put, List.setIfInBounds_toArray, List.set_cons_zero, List.set_cons_succ])
            (refine WE_take (i := 4) (v := ?_) rfl (by kernel_rfl) (by decide) (by kernel_rfl) (by kernel_rfl) (fun _ _ _ h => h) (by rfl) hSE ?_ ?_; rotate_left; (focus (intro w hSw; (try dsimp only at hSw); go_simp; (try with_reducible rfl))); simp only [Act.put, List.setIfInBounds_toArray, List.set_cons_zero, List.set_cons_succ])
            (refine WE_take (i := 5) (v := ?_) rfl (by kernel_rfl) (by decide) (by kernel_rfl) (by kernel_rfl) (fun _ _ _ h => h) (by rfl) hSE ?_ ?_; rotate_left; (focus (intro w hSw; (try dsimp only at hSw); go_simp; (try with_reducible rfl))); simp only [Act.put, List.setIfInBounds_toArray, List.set_cons_zero, List.set_cons_succ])
            (refine WE_one (i := 6) rfl (by decide) (by kernel_rfl) ?_; intro K hK)
            go_simp
            go_at_call 77
            refine (bclone_calls en A c We ((unhid HR6).below (unhid HBe)) (unhid HEN)).mono ?_
            rintro e w7 ⟨A7, c7, rfl, hown7, hb7⟩
            have HO7 := hid (own_base hown7 (Nat.le_trans (unhid HD6).lo (unhid HBe).size))
            have HNEW7 := hid (show ∀ g, (Value.slice A7 en.length c7).ownBlock = some g → w6.heap.size ≤ g from fun g hg => Nat.le_trans (unhid HBe).size (own_block_lt hown7 hg).1)
            have HBe := hid ((unhid HBe).trans (hb7.mono (unhid HBe).size))
            clear hown7 hb7
            (refine hK.out _ _ ((unhid HSF) _ (unhid HBe)) ?_); clear hSE hK K; intro hSE; (try simp only [Act.put, List.setIfInBounds_toArray, List.set_cons_zero, List.set_cons_succ])
            have HLO7 := hid ((unhid HLO6).below (unhid HBe))
            have HD7 := hid ((unhid HD6).below (unhid HBe))
            (refine WE_one (i := 7) rfl (by decide) (by kernel_rfl) ?_; intro K hK)
            go_simp
            have HNW := hid (en_news w7 A7 en.length c7)
            have hy := (unhid HLO7).e.own.alloc (.cells #[.slice A7 en.length c7] 52)
            obtain ⟨Bn, hBn⟩ : ∃ Bn, Bn = w7.heap.size := ⟨_, rfl⟩
            rw [← hBn] at HNW ⊢
            have HBf := hid ((unhid HBe).alloc (unhid HBe).size (.cells #[.slice A7 en.length c7] 52))
            refine hK.out _ _ ((unhid HSF) _ (unhid HBf)) ?_
            clear hSE hK K hBn
            intro hSE
            (try simp only [Act.put, List.setIfInBounds_toArray, List.set_cons_zero, List.set_cons_succ])
            have HBb := hid (below_alloc w7 (.cells #[.slice A7 en.length c7] 52))
            obtain ⟨Wb, hWb⟩ : ∃ Wb, Wb = w7.alloc (.cells #[.slice A7 en.length c7] 52) := ⟨_, rfl⟩
            rw [← hWb] at hy HNW HBf HBb hSE ⊢
            have hlo8 := (unhid HLO7).below (unhid HBb)
            have hln8 : L.length ≤ 100000 := unhid HLN
            have hbs8 : base ≤ Wb.heap.size := Nat.le_trans (unhid HD7).lo (unhid HBb).size
            (refine WE_one (i := 8) rfl (by decide) (by kernel_rfl) ?_; intro K hK)
            refine step_append_lies _ (by rfl) _ _ 70 (by rfl) base 52 i0 (.slice none 0 0) 1 24 Tryz.underlying70 hi hz0 hz1 hz2 rfl (by decide) (.slice Al L.length cl) L.length (ens L) (by rfl) hy ⟨Bn, 0, none⟩ 1 1 [.slice A7 en.length c7] (by rfl) (by rfl) (unhid HNW) (by simp [Value.oneCell']) (by omega) (by unfold maxLen; omega) (by omega) hbs8 Wb.heap.size rfl ?_
            intro g9 cap9 w9 hown9 hg9 hat9 hlt9
            have hB9 := (hg9.block Bl (Array.getElem?_eq_some_iff.1 hlo8.b).1 (own_ne_blk hlo8.e.own hlo8.b (by decide))).trans hlo8.b
            have k9 := cell_of_row _ Bl 3 _ _ _ hB9
            simp only [List.getElem?_toArray, List.getElem?_cons_zero, List.getElem?_cons_succ] at k9
            have fz9 := frozen_of_row _ Bl 3 _ _ hB9
            refine hK.out _ _ k9 ?_
            clear hSE hK K
            intro hSE
            (try simp only [Act.put, List.setIfInBounds_toArray, List.set_cons_zero, List.set_cons_succ])
            rw [hWb] at hg9
            have hpush := (unhid HLO7).push (e := ⟨A7, c7, en⟩) (unhid HO7) hown9 hg9
            have HPU := hid hpush
            have HNL := hid (show NewRow w (.slice Al L.length cl) (.slice (some ⟨g9, 0, none⟩) (L.length + 1) cap9) from by
              rcases hat9 with h | h
              · exact .inl h.symm
              · exact .inr ⟨g9, rfl, by rw [h]; exact Nat.le_trans (unhid HB6).size (unhid HBf).size⟩)
            clear hpush hown9 hg9 hat9 hlt9 hy HNW hWb hlo8 hln8 hbs8 hB9 HBf HBb
            (refine WE_take (i := 9) (v := ?_) rfl (by kernel_rfl) (by decide) (by kernel_rfl) (by kernel_rfl) (fun _ _ _ h => h) (by rfl) hSE ?_ ?_; rotate_left; (focus (intro w hSw; (try dsimp only at hSw); go_simp; (try with_reducible rfl))); simp only [Act.put, List.setIfInBounds_toArray, List.set_cons_zero, List.set_cons_succ])
            (refine WE_take (i := 10) (v := ?_) rfl (by kernel_rfl) (by decide) (by kernel_rfl) (by kernel_rfl) (fun _ _ _ h => h) (by rfl) hSE ?_ ?_; rotate_left; (focus (intro w hSw; (try dsimp only at hSw); go_simp; (try with_reducible rfl))); simp only [Act.put, List.setIfInBounds_toArray, List.set_cons_zero, List.set_cons_succ])
            (refine WE_last rfl (by kernel_rfl) (by kernel_rfl) (by kernel_rfl) ?_; intro K hK; go_simp; refine hK.out _ _ (NoPanic.normal ?_); clear hK K)
            have HP := hid (show LpPost w base B v Bl (.slice Al L.length cl) d.lf (lpD false d.lf d en) (lpF false d.lf d en) (lpL false d.lf d en (ents L)) (lpE false d.lf d en) (.returned (.int .i64 0)) (w9.setCell ⟨Bl, 3, none⟩ (.slice (some ⟨g9, 0, none⟩) (L.length + 1) cap9)) from by
              obtain ⟨x1, x2, x3, x4⟩ := unhid HX
              rw [x1, x2, x3, x4]
              refine ⟨rfl, v5, _, _, (unhid HD7).log (unhid HLO7) (unhid HPU).2, (unhid HPU).1, by simp [ents], ?_, ?_, unhid HN5, unhid HNL⟩
              · intro e he g hg
                rcases List.mem_append.1 he with he | he
                · exact unhid HOF5 e he g hg
                · rw [List.mem_singleton] at he
                  subst he
                  intro e2
                  have h1 := unhid HNEW7 g hg
                  have h2 := (own_block_lt (unhid HD6).own e2).2
                  omega
              · exact ((unhid HB6).then (But.of_below (unhid HBe) (PutS B v Bl (.slice Al L.length cl))) (fun _ _ e => e)).then (unhid HPU).2 (fun k _ e => .inr (.inr e)))
            clear hSE k9 fz9 HPU HSF
            go_wp2_with fail
            go_ret
            exact unhid HP
          · obtain ⟨n5, hn5⟩ : ∃ n5, n5 = downE (appD d (encE en)) := ⟨_, rfl⟩
            have HX := hid (lp_sync (ls := ents L) (unhid HG) (unhid HLL) (unhid HDZ) hdz2)
            have HP := hid (lp_fail (n := downE (appD d (encE en))) (unhid HD6) (unhid HLO6) (unhid HOF5) (unhid HB6) (unhid HN5) (unhid HX).1 (unhid HX).2.1 (unhid HX).2.2.2)
            have HPE := hid (unhid HX).2.2.1
            rw [← hn5] at hdz2 HP HPE ⊢
            have hb1 : (n5 == 0) = false := beq_eq_false_iff_ne.2 hdz2
            have hb2 : (n5 != 0) = true := bne_iff_ne.2 hdz2
            clear hn5 HX
            go_wp2_with fail
            go_ret
            rw [unhid HPE]
            exact unhid HP
        · obtain ⟨n5, hn5⟩ : ∃ n5, n5 = downE d := ⟨_, rfl⟩
          have HX := hid (lp_down (ls := ents L) (unhid HG) (unhid HLL) hdz)
          have HP := hid (lp_fail (n := downE d) (unhid HD5) (unhid HLO5) (unhid HOF5) (unhid HB5) (unhid HN5) (unhid HX).1 (unhid HX).2.1 (unhid HX).2.2.2)
          have HPE := hid (unhid HX).2.2.1
          rw [← hn5] at hdz HP HPE ⊢
          have hb1 : (n5 == 0) = false := beq_eq_false_iff_ne.2 hdz
          have hb2 : (n5 != 0) = true := bne_iff_ne.2 hdz
          clear hn5 HX
          go_wp2_with fail
          go_ret
          rw [unhid HPE]
          exact unhid HP
    · have hb1 : (life != d.lf) = true := bne_iff_ne.2 hne
      have HX := hid (lp_no (fl := fl) (en := en) (ls := ents L) (.inr hne : fl = true ∨ life ≠ d.lf))
      have HP := hid (fun w1 hb => unhid HSTAY w1 hb 93 _ _ _ (unhid HX).1 (unhid HX).2.1 (unhid HX).2.2.2)
      have HPE := hid (unhid HX).2.2.1
      clear hfl hne
      go_upto_region 3 with (fail)
      (refine wp_region_below (by kernel_rfl) (by kernel_rfl) ?_; (repeat (go_big_quiet_step (first | fail))); refine wpQuiet_nil ?_; intro wq hw'; obtain ⟨⟨wq2, hbq⟩, hw''⟩ := hw'; dsimp only at hw''; subst hw'')
      have HPP := hid ((unhid HP) _ hbq)
      clear hbq HP HSTAY p0 p1 p2 q5
      go_wp2_with fail
      go_ret
      rw [unhid HPE]
      exact unhid HPP
end

section
open Go.RowKit Go.Shelf

section
variable {P : Program} {w : World}
theorem run_append_full (base : Nat) (t ty e : TypeId) (i : TypeInfo) (z : Value) (bytes : Nat) (ht : P.underlying t = some (.slice e)) (hi : P.info? e = some i) (hz : i.zero = some z)
    (hsize : i.size = 1) (hby : i.bytes = bytes) (hzs : z.cells.size = 1) (A : Option Addr) (n c : Nat) (xs : List Value) (hown : w.ownsRow base e 1 (.slice A n c) n xs)
    (a : Addr) (c2 : Nat) (x : Value) (hnews : ∀ j u, ([x])[j]? = some u → w.cell? (a.add j) = some u) (h1 : x.oneCell' = true)
    (h63 : n + 1 ≤ maxLen) (hbytes : (n + 1) * bytes ≤ 140737488355328) :
    ∃ cap w', (Builtin.append_ #[t, t] ty #[.slice A n n, .slice (some a) 1 c2]).run P w = .ok (.slice (some ⟨w.heap.size, 0, none⟩) (n + 1) cap) w' ∧ w'.ownsRow w.heap.size e 1 (.slice (some ⟨w.heap.size, 0, none⟩) (n + 1) cap) (n + 1) (xs ++ [x]) ∧ w.grownBy w' none := by
  subst hby
  rcases hown.2 with ⟨h, h0⟩ | ⟨g, cap, cur, h, hbg, hg, hnc, hcm, hcs, htake⟩
  · injection h with e1 e2 e3
    subst e1 e2 e3
    have hx : xs = [] := List.eq_nil_of_length_eq_zero (by simpa using hown.1)
    subst hx
    have hr := run_append_nil (P := P) w t ty e i z ht hi hz a 1 c2 [x] (by simp [hsize]) hnews (by omega) (by omega) (by omega)
    obtain ⟨v', w', hr2, ho2, hg2, -⟩ := run_append_own (P := P) w w.heap.size t ty e i z 1 i.bytes ht hi hz hsize rfl hzs (by omega) (.slice none 0 0) 0 [] (World.ownsRow_nil _ _ _ _) a 1 c2 [x] rfl hnews (by simpa using h1) (by unfold maxLen; omega) (by omega) (Nat.le_refl _)
    rw [hr] at hr2
    injection hr2 with q1 q2
    subst q1 q2
    exact ⟨_, _, hr, by simpa using ho2, hg2⟩
  · injection h with e1 e2 e3
    subst e1 e3
    have holds : ∀ j u, xs[j]? = some u → w.cell? ((⟨g, 0, none⟩ : Addr).add j) = some u := hown.cells (g := g) rfl
    have hlx : xs.length = n := by simpa using hown.1
    have hr := run_append_grow (P := P) w t ty e i z ht hi hz ⟨g, 0, none⟩ n n xs (by rw [hsize]; exact hown.1) holds a 1 c2 [x] (by simp [hsize]) hnews (by omega) (by simp only [maxLen] at h63; omega) (growslice_fits (by omega) hbytes)
    refine ⟨_, _, hr, ⟨by simp [hlx], .inr ⟨w.heap.size, _, _, rfl, Nat.le_refl _, heap_alloc_new w.drew _, grownCap_ge w (n + 1) n e, grownCap_le_maxLen w (n + 1) n e h63, ?_, ?_⟩⟩, ⟨rfl, rfl, rfl, by simp, fun k hk _ => heap_alloc_old w.drew _ k hk⟩⟩
    · have := grownCap_ge w (n + 1) n e
      simp only [Array.size_append, List.size_toArray, size_zeroCells, hzs, hlx, List.length_singleton]
      omega
    · have hl : (n + 1) * 1 = (xs ++ [x]).length := by simp [hlx]
      rw [hl]
      simp only [Array.toList_append]
      exact List.take_left
theorem step_append_full {ops : Array Oper} {o : Oper} {a : Act} {K : Act → World → Prop} {Q : Exit → Act → World → Prop} {E : Prop} (hgd : o.guard = none) (s x : Operand) (t : TypeId)
    (ho : o.op = .call { callee := .builtin .append, args := #[s, x], argTypes := #[t, t] })
    (base : Nat) (e : TypeId) (i : TypeInfo) (z : Value) (bytes : Nat) (ht : P.underlying t = some (.slice e)) (hi : P.info? e = some i) (hz : i.zero = some z)
    (hsize : i.size = 1) (hby : i.bytes = bytes) (hzs : z.cells.size = 1) (A : Option Addr) (n c : Nat) (xs : List Value) (hs : a.eval s = .slice A n n) (hown : w.ownsRow base e 1 (.slice A n c) n xs)
    (ad : Addr) (c2 : Nat) (y : Value) (hx : a.eval x = .slice (some ad) 1 c2) (hnews : ∀ j u, ([y])[j]? = some u → w.cell? (ad.add j) = some u) (h1 : y.oneCell' = true)
    (h63 : n + 1 ≤ maxLen) (hbytes : (n + 1) * bytes ≤ 140737488355328) (H : Nat) (hH : w.heap.size = H)
    (h : ∀ cap w', w'.ownsRow H e 1 (.slice (some ⟨H, 0, none⟩) (n + 1) cap) (n + 1) (xs ++ [y]) → w.grownBy w' none → K (a.put o.dst (.slice (some ⟨H, 0, none⟩) (n + 1) cap)) w') :
    if Region.wanted o (yielded ops a.tmps) = true then Oper.wp P o a w K Q else E := by
  have hw : Region.wanted o (yielded ops a.tmps) = true := by simp [Region.wanted, hgd]
  rw [if_pos hw]
  subst hH
  obtain ⟨cap, w', hr, h2, h3⟩ := run_append_full (P := P) base t o.type e i z bytes ht hi hz hsize hby hzs A n c xs hown ad c2 y hnews h1 h63 hbytes
  unfold Oper.wp execOp
  simp only [ho, resolve, invoke, builtin, Sem.run_bind, Sem.run_pure, Result.andThen_ok, List.map_toArray, List.map_cons, List.map_nil, hs, hx, hr]
  exact h cap w' h2 h3
theorem step_append_any {ops : Array Oper} {o : Oper} {a : Act} {K : Act → World → Prop} {Q : Exit → Act → World → Prop} {E : Prop} (hgd : o.guard = none) (s x : Operand) (t : TypeId)
    (ho : o.op = .call { callee := .builtin .append, args := #[s, x], argTypes := #[t, t] })
    (base : Nat) (e : TypeId) (i : TypeInfo) (z : Value) (size bytes : Nat) (ht : P.underlying t = some (.slice e)) (hi : P.info? e = some i) (hz : i.zero = some z)
    (hsize : i.size = size) (hby : i.bytes = bytes) (hzs : z.cells.size = size) (hsz : 0 < size)
    (v : Value) (n : Nat) (xs : List Value) (hs : a.eval s = v) (hown : w.ownsRow base e size v n xs)
    (A : Option Addr) (m c : Nat) (news : List Value) (hx : a.eval x = .slice A m c) (hl : news.length = m * size) (hnews : Rd w A news) (h1 : ∀ u ∈ news, u.oneCell' = true)
    (h63 : n + m ≤ maxLen) (hbytes : (n + m) * bytes ≤ 140737488355328) (hbase : base ≤ w.heap.size)
    (h : ∀ v' w', w'.ownsRow base e size v' (n + m) (xs ++ news) → w.grownBy w' v.ownBlock → K (a.put o.dst v') w') :
    if Region.wanted o (yielded ops a.tmps) = true then Oper.wp P o a w K Q else E := by
  have hw : Region.wanted o (yielded ops a.tmps) = true := by simp [Region.wanted, hgd]
  rw [if_pos hw]
  obtain ⟨v', w', hr, h2, h3, h4⟩ := run_append_any (P := P) base t o.type e i z size bytes ht hi hz hsize hby hzs hsz v n xs hown A m c news hl hnews h1 h63 hbytes hbase
  unfold Oper.wp execOp
  simp only [ho, resolve, invoke, builtin, Sem.run_bind, Sem.run_pure, Result.andThen_ok, List.map_toArray, List.map_cons, List.map_nil, hs, hx, hr]
  exact h v' w' h2 h3
end

/-- The reference's log in a block. -/
structure RoAt (w : World) (base lo Bl B : Nat) (life : Int) (fl : Bool) (v : Value) (L : List Ent) : Prop where
  b : w.heap[Bl]? = some (.cells #[.pointer (some ⟨B, 0, none⟩), .int .i64 life, .bool fl, v] 73 (0, 0))
  e : EnsAt w base lo v L
/-- What Put of the reference turns: the disk, the log. -/
def RutS (B Bl : Nat) (k : Nat) : Prop := k = B ∨ k = Bl
def RpPost (w : World) (base B : Nat) (v : Value) (Bl : Nat) (lv : Value) (L : List Ent) (life : Int) (d' : Dk) (fl' : Bool) (ls' : List (List UInt8)) (en : Int) (e : Ending) (w' : World) : Prop :=
  e = .returned (.int .i64 en) ∧ ∃ v' lv' L', RkAt w' base B v' d' ∧ RoAt w' base base Bl B life fl' lv' L' ∧ ents L' = ls' ∧ But w w' (RutS B Bl) ∧ NewTop w v v' ∧ NewTop w lv lv' ∧ ∀ e ∈ L', e ∈ L ∨ ∀ g, (enV e).ownBlock = some g → w.heap.size ≤ g
section
variable {w w1 w' : World} {base lo Bl B : Nat} {life : Int} {fl : Bool} {v lv : Value} {L : List Ent} {d : Dk}
theorem RoAt.below (h : RoAt w base lo Bl B life fl v L) (hb : Below w.heap.size w w') : RoAt w' base lo Bl B life fl v L :=
  ⟨(hb.block Bl (Array.getElem?_eq_some_iff.1 h.b).1).trans h.b, h.e.below hb⟩
theorem NewTop.refl (w : World) (v : Value) : NewTop w v v := .inl rfl
theorem RoAt.but {S : Nat → Prop} (h : RoAt w base lo Bl B life fl lv L) (hb : But w w1 S) (h1 : ¬ S Bl) (h2 : ∀ g, lv.ownBlock = some g → ¬ S g) (h3 : ∀ e ∈ L, ∀ g, (enV e).ownBlock = some g → ¬ S g) : RoAt w1 base lo Bl B life fl lv L := ⟨hb.at h.b h1, hb.ens h.e h2 h3⟩
theorem RkAt.but {S : Nat → Prop} (h : RkAt w base B v d) (hb : But w w1 S) (h1 : ¬ S B) (h2 : ∀ g, v.ownBlock = some g → ¬ S g) : RkAt w1 base B v d := ⟨hb.at h.b h1, hb.own h.own h2, h.sf, h.ar, Nat.le_trans h.lo hb.size⟩
/-- The disk turns. -/
theorem RoAt.two (hd : RkAt w base B v d) (h : RoAt w base lo Bl B life fl lv L) (hg : w.grownBy w1 (some B)) : RoAt w1 base lo Bl B life fl lv L :=
  ⟨(hg.block Bl (Array.getElem?_eq_some_iff.1 h.b).1 (fun e => blk_ne h.b hd.b (by decide) (Option.some.inj e))).trans h.b, h.e.other hd.b (by decide) (by decide) hg⟩
theorem RoAt.fail (h : RoAt w base lo Bl B life fl lv L) : RoAt (w.setCell ⟨Bl, 2, none⟩ (.bool true)) base lo Bl B life true lv L ∧ w.grownBy (w.setCell ⟨Bl, 2, none⟩ (.bool true)) (some Bl) := by
  have hg := setCell_grown w h.b (i := 2) (.bool true)
  exact ⟨⟨heap_setCell_same w Bl 2 _ _ _ h.b, h.e.other h.b (by decide) (by decide) hg⟩, hg⟩
/-- An entry more, in a new row. -/
theorem RoAt.push {v' : Value} {e : Ent} (h : RoAt w base lo Bl B life fl lv L) (hb : Below w.heap.size w w1) (he : w1.ownsRow lo 5 1 (enV e) e.l.length (bys e.l)) (hown : w1.ownsRow base 52 1 v' (L.length + 1) (ens L ++ [enV e])) :
    RoAt (w1.setCell ⟨Bl, 3, none⟩ v') base lo Bl B life fl v' (L ++ [e]) ∧ But w (w1.setCell ⟨Bl, 3, none⟩ v') (fun k => k = Bl) := by
  have h2 := h.below hb
  have hb1 := heap_setCell_same w1 Bl 3 _ _ v' h2.b
  have hg1 := setCell_grown w1 h2.b (i := 3) v'
  have hE : EnsAt w1 base lo v' (L ++ [e]) := ⟨by rw [List.length_append, List.length_singleton, ens_append]; exact hown, fun x hx => by
    rcases List.mem_append.1 hx with hx | hx
    · exact h2.e.ok x hx
    · rw [List.mem_singleton] at hx
      subst hx
      exact he⟩
  exact ⟨⟨hb1, hE.other h2.b (by decide) (by decide) hg1⟩, (But.of_below hb _).then (But.of_grown hg1) (fun k _ e => Option.some.inj e)⟩
/-- The log's block turns. -/
theorem RkAt.log (hd : RkAt w base B v d) (h : RoAt w base lo Bl B life fl lv L) (hb : But w w1 (fun k => k = Bl)) : RkAt w1 base B v d := by
  refine hd.but hb (fun e => blk_ne h.b hd.b (by decide) e.symm) (fun g hg e => ?_)
  exact own_ne_blk hd.own h.b (by decide) (by rw [← e]; exact hg.symm)
theorem NewTop.of_le {v' : Value} (h : NewTop w1 v v') (hs : w.heap.size ≤ w1.heap.size) : NewTop w v v' := h.elim .inl (fun h => .inr fun g hg => Nat.le_trans hs (h g hg))
end
end

section
open Go.RowKit Go.Shelf

set_option maxRecDepth 100000 in
theorem slice_hm (A : Option Addr) (n c : Nat) (hn : n ≤ c) (w : World) :
    (Instr.slice 70 (.slice A n c) none (some (.int .i64 (n : Int))) (some (.int .i64 (n : Int)))).run Tryz.prog w = .ok (.slice A n n) w := by
  rw [run_slice_hm (P := Tryz.prog) w 70 A n c (by kernel_rfl) .i64 .i64 (n : Int) (n : Int) (by omega) (by omega) (by omega)]
  rw [Int.toNat_natCast]
  show Result.ok (sliced _ _ _ _ 1) w = _
  have e := cutA_zero A n
  simp only [cutA] at e
  simp only [sliced, Nat.mul_one, Nat.sub_zero, e]
section
variable {w w1 : World} {base Bl B : Nat} {life : Int} {fl : Bool} {v lv : Value} {L : List Ent} {d : Dk}
theorem NewTop.trans {v5 v6 : Value} (h : NewTop w v v5) (h2 : NewTop w1 v5 v6) (hs : w.heap.size ≤ w1.heap.size) : NewTop w v v6 := by
  rcases h2 with h2 | h2
  · rw [h2]
    exact h
  · exact .inr fun g hg => Nat.le_trans hs (h2 g hg)
/-- The disk has turned, and the log fails. -/
theorem rp_fail {v5 : Value} {d5 : Dk} {d' : Dk} {fl' : Bool} {ls' : List (List UInt8)} {n : Int} {w5 : World} (hd5 : RkAt w5 base B v5 d5) (hlo5 : RoAt w5 base base Bl B life fl lv L) (hb : But w w5 (RutS B Bl)) (hn : NewTop w v v5)
    (h1 : d' = d5) (h2 : fl' = true) (h3 : ls' = ents L) : RpPost w base B v Bl lv L life d' fl' ls' n (.returned (.int .i64 n)) (w5.setCell ⟨Bl, 2, none⟩ (.bool true)) := by
  subst h1 h2 h3
  obtain ⟨hf, hg⟩ := hlo5.fail
  have hb5 : But w5 (w5.setCell ⟨Bl, 2, none⟩ (.bool true)) (fun k => k = Bl) := (But.of_grown hg).mono (fun k _ e => Option.some.inj e)
  exact ⟨rfl, v5, lv, L, hd5.log hlo5 hb5, hf, rfl, hb.then hb5 (fun k _ e => .inr e), hn, .refl _ _, fun e he => .inl he⟩
end

set_option maxHeartbeats 8000000 in
set_option maxRecDepth 100000 in
theorem rput_calls {base B Bl : Nat} {v lv : Value} {d : Dk} {life : Int} {fl : Bool} {L : List Ent} (en : List UInt8) (A : Option Addr) (c : Nat) (w : World) (hd : RkAt w base B v d) (hlo : RoAt w base base Bl B life fl lv L) (hr : Rd w A (bys en))
    (hR : ∀ w1, But w w1 (RutS B Bl) → Rd w1 A (bys en)) (hn : d.bs.length + 2007 ≤ 1000000) (hln : L.length ≤ 100000) (hen : en.length ≤ 1000000) :
    Calls Tryz.prog 35 #[.pointer (some ⟨Bl, 0, none⟩), .slice A en.length c] w fun e w' => RpPost w base B v Bl lv L life (lpD fl life d en) (lpF fl life d en) (lpL fl life d en (ents L)) (lpE fl life d en) e w' := by
  obtain ⟨i0, hi, hz0, hz1, hz2⟩ := info_parts info_bytes
  obtain ⟨j0, hj, hy0, hy1, hy2⟩ := info_parts info_u8
  have HD := hid hd
  have HLO := hid hlo
  have HR := hid hR
  have HN := hid hn
  have HLN := hid hln
  have HEN := hid hen
  have hlb : Bl < w.heap.size := (Array.getElem?_eq_some_iff.1 hlo.b).1
  have l0 := cell_of_row _ Bl 0 _ _ _ hlo.b
  have l1 := cell_of_row _ Bl 1 _ _ _ hlo.b
  have l2 := cell_of_row _ Bl 2 _ _ _ hlo.b
  simp only [List.getElem?_toArray, List.getElem?_cons_zero, List.getElem?_cons_succ] at l0 l1 l2
  have d5 := hd.cells.2.2.2.2
  have hdb := hd.lt
  have p0 := fun p : After w => After.cell (by dsimp only; exact hlb) l0 p
  have p1 := fun p : After w => After.cell (by dsimp only; exact hlb) l1 p
  have p2 := fun p : After w => After.cell (by dsimp only; exact hlb) l2 p
  have q5 := fun p : After w => After.cell (by dsimp only; exact hdb) d5 p
  have HSTAY := hid (show ∀ w1, Below w.heap.size w w1 → ∀ (n : Int) d' fl' ls', d' = d → fl' = fl → ls' = ents L → RpPost w base B v Bl lv L life d' fl' ls' n (.returned (.int .i64 n)) w1 from by
    rintro w1 hb n d' fl' ls' rfl rfl rfl
    exact ⟨rfl, v, lv, L, hd.below hb, hlo.below hb, rfl, But.of_below hb _, .refl _ _, .refl _ _, fun e he => .inl he⟩)
  clear hd hlo hr hR hn hln hen l0 l1 l2 d5
  go_enter Tryz.func35, Tryz.ntmps35
  cases hfl : fl with
  | true =>
    have HX := hid (lp_no (fl := fl) (life := life) (d := d) (en := en) (ls := ents L) (.inl hfl))
    rw [hfl] at p2
    have HP := hid (fun w1 hb => unhid HSTAY w1 hb 93 _ _ _ (unhid HX).1 (unhid HX).2.1 (unhid HX).2.2.2)
    have HPE := hid (unhid HX).2.2.1
    rw [hfl] at HP HPE
    clear hfl
    go_upto_region 1 with (fail)
    (refine wp_region_below (by kernel_rfl) (by kernel_rfl) ?_; (repeat (go_big_quiet_step (first | fail))); refine wpQuiet_nil ?_; intro wq hw'; obtain ⟨⟨wq2, hbq⟩, hw''⟩ := hw'; dsimp only at hw''; subst hw'')
    have HPP := hid ((unhid HP) _ hbq)
    clear hbq HP HSTAY p0 p1 p2 q5
    go_wp2_with fail
    go_ret
    rw [unhid HPE]
    exact unhid HPP
  | false =>
    rw [hfl] at p2
    by_cases hne : life = d.lf
    · have HG := hid (show ¬ (fl = true ∨ life ≠ d.lf) from by rw [hfl]; rintro (h | h); cases h; exact h hne)
      rw [hfl] at HG
      subst hfl
      subst hne
      go_upto_region 1 with (fail)
      (refine wp_region_below (by kernel_rfl) (by kernel_rfl) ?_; (repeat (go_big_quiet_step (first | fail))); refine wpQuiet_nil ?_; intro wq hw'; obtain ⟨⟨wq2, hbq⟩, hw''⟩ := hw'; dsimp only at hw''; subst hw'')
      have HD := hid ((unhid HD).below hbq)
      have HLO := hid ((unhid HLO).below hbq)
      have HR := hid (show ∀ w1, But wq w1 (RutS B Bl) → Rd w1 A (bys en) from fun w1 h => (unhid HR) w1 ((But.of_below hbq _).then h (fun _ _ e => e)))
      have HBQ := hid hbq
      clear hbq p0 p1 p2 q5
      by_cases hll : 2000 < en.length
      · have hlli : (2000 : Int) < (en.length : Int) := by omega
        have HX := hid (lp_long (ls := ents L) (unhid HG) hll)
        have HP := hid (unhid HSTAY wq (unhid HBQ) 2 _ _ _ (unhid HX).1 (unhid HX).2.1 (unhid HX).2.2.2)
        have HPE := hid (unhid HX).2.2.1
        clear hll
        go_wp2_with fail
        go_ret
        rw [unhid HPE]
        exact unhid HP
      · have hlli : ¬ (2000 : Int) < (en.length : Int) := by omega
        have HLL := hid hll
        have HL2 := hid (show en.length ≤ 2000 from by omega)
        clear hll HSTAY
        go_upto_region 5 with (fail)
        clear hlli
        have k0 := cell_of_row _ Bl 0 _ _ _ (unhid HLO).b
        simp only [List.getElem?_toArray, List.getElem?_cons_zero, List.getElem?_cons_succ] at k0
        have HK0 := hid k0
        have HLB := hid (Array.getElem?_eq_some_iff.1 (unhid HLO).b).1
        have HSF := hid (show ∀ w', Below wq.heap.size wq w' → w'.cell? ⟨Bl, 0, none⟩ = some (.pointer (some ⟨B, 0, none⟩)) from fun w' hb => (World.cell?_of_block (a := ⟨Bl, 0, none⟩) (hb.block Bl (unhid HLB))).trans (unhid HK0))
        clear k0
        refine wp_region_noPanic ?_
        refine wp_region_E (S := fun w' => w'.cell? ⟨Bl, 0, none⟩ = some (.pointer (some ⟨B, 0, none⟩))) 7 8 rfl (by kernel_rfl) (by kernel_rfl) ((unhid HSF) _ (Below.drew (Below.refl _ _))) ?_
        intro hSE
        have HBe := hid (Below.drew (Below.refl wq.heap.size wq))
        generalize wq.drew = Wd at *
        (refine WE_take (i := 0) (v := ?_) rfl (by kernel_rfl) (by decide) (by kernel_rfl) (by kernel_rfl) (fun _ _ _ h => h) (by rfl) hSE ?_ ?_; rotate_left; (focus (intro w hSw; (try dsimp only at hSw); go_simp; (try with_reducible rfl))); simp only [Act.put, List.setIfInBounds_toArray, List.set_cons_zero, List.set_cons_succ])
        (refine WE_take (i := 1) (v := ?_) rfl (by kernel_rfl) (by decide) (by kernel_rfl) (by kernel_rfl) (fun _ _ _ h => h) (by rfl) hSE ?_ ?_; rotate_left; (focus (intro w hSw; (try dsimp only at hSw); go_simp; (try with_reducible rfl))); simp only [Act.put, List.setIfInBounds_toArray, List.set_cons_zero, List.set_cons_succ])
        (refine WE_take (i := 2) (v := ?_) rfl (by kernel_rfl) (by decide) (by kernel_rfl) (by kernel_rfl) (fun _ _ _ h => h) (by rfl) hSE ?_ ?_; rotate_left; (focus (intro w hSw; (try dsimp only at hSw); go_simp; (try with_reducible rfl))); simp only [Act.put, List.setIfInBounds_toArray, List.set_cons_zero, List.set_cons_succ])
        (refine WE_take (i := 3) (v := ?_) rfl (by kernel_rfl) (by decide) (by kernel_rfl) (by kernel_rfl) (fun _ _ _ h => h) (by rfl) hSE ?_ ?_; rotate_left; (focus (intro w hSw; (try dsimp only at hSw); go_simp; (try with_reducible rfl))); simp only [Act.put, List.setIfInBounds_toArray, List.set_cons_zero, List.set_cons_succ])
        (refine WE_take (i := 4) (v := ?_) rfl (by kernel_rfl) (by decide) (by kernel_rfl) (by kernel_rfl) (fun _ _ _ h => h) (by rfl) hSE ?_ ?_; rotate_left; (focus (intro w hSw; (try dsimp only at hSw); go_simp; (try with_reducible rfl))); simp only [Act.put, List.setIfInBounds_toArray, List.set_cons_zero, List.set_cons_succ])
        (refine WE_one (i := 5) rfl (by decide) (by kernel_rfl) ?_; intro K hK)
        go_simp
        go_at_call 78
        refine (rencoding_calls en A c Wd ((unhid HR) _ (But.of_below (unhid HBe) _)) (unhid HL2)).mono ?_
        rintro e w4 ⟨u4, rfl, hown4, hb4⟩
        obtain ⟨A4, c4, hv4, hrd4, -⟩ := own_slice hown4
        subst hv4
        have HRD4 := hid hrd4
        have HBe := hid ((unhid HBe).trans (hb4.mono (unhid HBe).size))
        clear hown4 hb4 hrd4
        (refine hK.out _ _ ((unhid HSF) _ (unhid HBe)) ?_); clear hSE hK K; intro hSE; (try simp only [Act.put, List.setIfInBounds_toArray, List.set_cons_zero, List.set_cons_succ])
        have HD4 := hid ((unhid HD).below (unhid HBe))
        have HLO4 := hid ((unhid HLO).below (unhid HBe))
        (refine WE_one (i := 6) rfl (by decide) (by kernel_rfl) ?_; intro K hK)
        go_simp
        go_at_call 23
        refine (rappend_calls (encE en) A4 c4 w4 (unhid HD4) (unhid HRD4) (by rw [encE_len]; have := unhid HN; have := unhid HL2; omega)).mono ?_
        rintro e w5 ⟨rfl, v5, hk5, ht5, hn5⟩
        have hlo5 := (unhid HLO4).two (unhid HD4) ht5
        have k5 := cell_of_row _ Bl 0 _ _ _ hlo5.b
        have k52 := cell_of_row _ Bl 2 _ _ _ hlo5.b
        simp only [List.getElem?_toArray, List.getElem?_cons_zero, List.getElem?_cons_succ] at k5 k52
        have fz5 := frozen_of_row _ Bl 2 _ _ hlo5.b
        refine hK.out _ _ k5 ?_
        clear hSE hK K
        intro hSE
        (try simp only [Act.put, List.setIfInBounds_toArray, List.set_cons_zero, List.set_cons_succ])
        have HD5 := hid hk5
        have HLO5 := hid hlo5
        have HN5 := hid (hn5.of_le (Nat.le_trans (unhid HBQ).size (unhid HBe).size) : NewTop w v v5)
        have HB5 := hid (((But.of_below (unhid HBQ) (RutS B Bl)).then (But.of_below (unhid HBe) (RutS B Bl)) (fun _ _ e => e)).then (But.of_grown ht5) (fun k _ e => .inl (Option.some.inj e)))
        have HBW5 := hid ((But.of_below (unhid HBe) (RutS B Bl)).then (But.of_grown ht5) (fun k _ e => .inl (Option.some.inj e)))
        clear hk5 hlo5 hn5 ht5
        (refine WE_last rfl (by kernel_rfl) (by kernel_rfl) (by kernel_rfl) ?_; intro K hK; go_simp; refine hK.out _ _ (NoPanic.normal ?_); clear hK K)
        clear hSE HSF HBe HRD4 HD4 HLO4 HK0
        by_cases hdz : downE d = 0
        · have HDZ := hid hdz
          rw [hdz]
          clear hdz
          go_wp2_with fail
          refine (rsync_calls w5 (unhid HD5) (by
            have h := unhid HN
            have h2 := unhid HL2
            have h3 := encE_len en
            unfold appD
            split
            · omega
            · split
              · rw [(begD_bs d).1]; omega
              · simp only [List.length_append]; omega)).mono ?_
          rintro e w6 ⟨rfl, v6, hk6, hg6, hn6⟩
          have HD6 := hid hk6
          have hlo6 := (unhid HLO5).two (unhid HD5) hg6
          have HLO6 := hid hlo6
          have HB6 := hid ((unhid HB5).then (But.of_grown hg6) (fun k _ e => .inl (Option.some.inj e)))
          have HN6 := hid ((unhid HN5).trans hn6 (unhid HB5).size)
          have HBW6 := hid ((unhid HBW5).then (But.of_grown hg6) (fun k _ e => .inl (Option.some.inj e)))
          have k52 := cell_of_row _ Bl 2 _ _ _ hlo6.b
          simp only [List.getElem?_toArray, List.getElem?_cons_zero, List.getElem?_cons_succ] at k52
          have fz5 := frozen_of_row _ Bl 2 _ _ hlo6.b
          clear hk6 hg6 hlo6 hn6
          by_cases hdz2 : downE (appD d (encE en)) = 0
          · have HX := hid (lp_ok (ls := ents L) (unhid HG) (unhid HLL) (unhid HDZ) hdz2)
            rw [hdz2]
            clear hdz2
            have HPE := hid (unhid HX).2.2.1
            have k3 := cell_of_row _ Bl 3 _ _ _ (unhid HLO6).b
            simp only [List.getElem?_toArray, List.getElem?_cons_zero, List.getElem?_cons_succ] at k3
            have HK3 := hid k3
            have HLB6 := hid (Array.getElem?_eq_some_iff.1 (unhid HLO6).b).1
            have HSF := hid (show ∀ w', Below w6.heap.size w6 w' → w'.cell? ⟨Bl, 3, none⟩ = some lv from fun w' hb => (World.cell?_of_block (a := ⟨Bl, 3, none⟩) (hb.block Bl (unhid HLB6))).trans (unhid HK3))
            have HR6 := hid ((unhid HR) w6 (unhid HBW6))
            clear k3 k52 fz5
            obtain ⟨Al, cl, hlv, -, hcl, -, -⟩ := own_slice2 (unhid HLO6).e.own
            subst hlv
            have hcc : L.length ≤ cl := hcl
            have hsl : ∀ w, (Instr.slice 70 (.slice Al L.length cl) none (some (.int .i64 (L.length : Int))) (some (.int .i64 (L.length : Int)))).run Tryz.prog w = .ok (.slice Al L.length L.length) w := fun w => slice_hm Al L.length cl hcc w
            go_upto_region 11 with (fail)
            refine wp_region_noPanic ?_
            refine wp_region_E (S := fun w' => w'.cell? ⟨Bl, 3, none⟩ = some (.slice Al L.length cl)) 23 24 rfl (by kernel_rfl) (by kernel_rfl) ((unhid HSF) _ (Below.drew (Below.refl _ _))) ?_
            intro hSE
            have HBe := hid (Below.drew (Below.refl w6.heap.size w6))
            generalize w6.drew = We at *
            (refine WE_take (i := 0) (v := ?_) rfl (by kernel_rfl) (by decide) (by kernel_rfl) (by kernel_rfl) (fun _ _ _ h => h) (by rfl) hSE ?_ ?_; rotate_left; (focus (intro w hSw; (try dsimp only at hSw); go_simp; (try with_reducible rfl))); simp only [Act.put, List.setIfInBounds_toArray, List.set_cons_zero, List.set_cons_succ])
            (refine WE_take (i := 1) (v := ?_) rfl (by kernel_rfl) (by decide) (by kernel_rfl) (by kernel_rfl) (fun _ _ _ h => h) (by rfl) hSE ?_ ?_; rotate_left; (focus (intro w hSw; (try dsimp only at hSw); go_simp; (try with_reducible rfl))); simp only [Act.put, List.setIfInBounds_toArray, List.set_cons_zero, List.set_cons_succ])
            (refine WE_take (i := 2) (v := ?_) rfl (by kernel_rfl) (by decide) (by kernel_rfl) (by kernel_rfl) (fun _ _ _ h => h) (by rfl) hSE ?_ ?_; rotate_left; (focus (intro w hSw; (try dsimp only at hSw); go_simp; (try with_reducible rfl))); simp only [Act.put, List.setIfInBounds_toArray, List.set_cons_zero, List.set_cons_succ])
            (refine WE_take (i := 3) (v := ?_) rfl (by kernel_rfl) (by decide) (by kernel_rfl) (by kernel_rfl) (fun _ _ _ h => h) (by rfl) hSE ?_ ?_; rotate_left; (focus (intro w hSw; (try dsimp only at hSw); go_simp; (try with_reducible rfl))); simp only [Act.put, List.setIfInBounds_toArray, List.set_cons_zero, List.set_cons_succ])
            (refine WE_take (i := 4) (v := ?_) rfl (by kernel_rfl) (by decide) (by kernel_rfl) (by kernel_rfl) (fun _ _ _ h => h) (by rfl) hSE ?_ ?_; rotate_left; (focus (intro w hSw; (try dsimp only at hSw); go_simp; (try with_reducible rfl))); simp only [Act.put, List.setIfInBounds_toArray, List.set_cons_zero, List.set_cons_succ])
            (refine WE_take (i := 5) (v := ?_) rfl (by kernel_rfl) (by decide) (by kernel_rfl) (by kernel_rfl) (fun _ _ _ h => h) (by rfl) hSE ?_ ?_; rotate_left; (focus (intro w hSw; (try dsimp only at hSw); go_simp; (try with_reducible rfl))); simp only [Act.put, List.setIfInBounds_toArray, List.set_cons_zero, List.set_cons_succ])
            (refine WE_take (i := 6) (v := ?_) rfl (by kernel_rfl) (by decide) (by kernel_rfl) (by kernel_rfl) (fun _ _ _ h => h) (by rfl) hSE ?_ ?_; rotate_left; (focus (intro w hSw; (try dsimp only at hSw); go_simp; (try with_reducible rfl))); simp only [Act.put, List.setIfInBounds_toArray, List.set_cons_zero, List.set_cons_succ])
            (refine WE_take (i := 7) (v := ?_) rfl (by kernel_rfl) (by decide) (by kernel_rfl) (by kernel_rfl) (fun _ _ _ h => h) (by rfl) hSE ?_ ?_; rotate_left; (focus (intro w hSw; (try dsimp only at hSw); go_simp; (try with_reducible rfl))); simp only [Act.put, List.setIfInBounds_toArray, List.set_cons_zero, List.set_cons_succ])
            (refine WE_take (i := 8) (v := ?_) rfl (by kernel_rfl) (by decide) (by kernel_rfl) (by kernel_rfl) (fun _ _ _ h => h) (by rfl) hSE ?_ ?_; rotate_left; (focus (intro w hSw; (try dsimp only at hSw); go_simp; (try with_reducible rfl))); simp only [Act.put, List.setIfInBounds_toArray, List.set_cons_zero, List.set_cons_succ])
            (refine WE_take (i := 9) (v := ?_) rfl (by kernel_rfl) (by decide) (by kernel_rfl) (by kernel_rfl) (fun _ _ _ h => h) (by rfl) hSE ?_ ?_; rotate_left; (focus (intro w hSw; (try dsimp only at hSw); go_simp; (try with_reducible rfl))); simp only [Act.put, List.setIfInBounds_toArray, List.set_cons_zero, List.set_cons_succ])
            (refine WE_take (i := 10) (v := ?_) rfl (by kernel_rfl) (by decide) (by kernel_rfl) (by kernel_rfl) (fun _ _ _ h => h) (by rfl) hSE ?_ ?_; rotate_left; (focus (intro w hSw; (try dsimp only at hSw); go_simp; (try with_reducible rfl))); simp only [Act.put, List.setIfInBounds_toArray, List.set_cons_zero, List.set_cons_succ])
            (refine WE_take (i := 11) (v := ?_) rfl (by kernel_rfl) (by decide) (by kernel_rfl) (by kernel_rfl) (fun _ _ _ h => h) (by rfl) hSE ?_ ?_; rotate_left; (focus (intro w hSw; (try dsimp only at hSw); go_simp; (try with_reducible rfl))); simp only [Act.put, List.setIfInBounds_toArray, List.set_cons_zero, List.set_cons_succ])
            (refine WE_take (i := 12) (v := ?_) rfl (by kernel_rfl) (by decide) (by kernel_rfl) (by kernel_rfl) (fun _ _ _ h => h) (by rfl) hSE ?_ ?_; rotate_left; (focus (intro w hSw; (try dsimp only at hSw); go_simp; (try with_reducible rfl))); simp only [Act.put, List.setIfInBounds_toArray, List.set_cons_zero, List.set_cons_succ])
            (refine WE_take (i := 13) (v := ?_) rfl (by kernel_rfl) (by decide) (by kernel_rfl) (by kernel_rfl) (fun _ _ _ h => h) (by rfl) hSE ?_ ?_; rotate_left; (focus (intro w hSw; (try dsimp only at hSw); go_simp; (try with_reducible rfl))); simp only [Act.put, List.setIfInBounds_toArray, List.set_cons_zero, List.set_cons_succ])
            (refine WE_take (i := 14) (v := ?_) rfl (by kernel_rfl) (by decide) (by kernel_rfl) (by kernel_rfl) (fun _ _ _ h => h) (by rfl) hSE ?_ ?_; rotate_left; (focus (intro w hSw; (try dsimp only at hSw); go_simp; (try with_reducible rfl))); simp only [Act.put, List.setIfInBounds_toArray, List.set_cons_zero, List.set_cons_succ])
            (refine WE_take (i := 15) (v := ?_) rfl (by kernel_rfl) (by decide) (by kernel_rfl) (by kernel_rfl) (fun _ _ _ h => h) (by rfl) hSE ?_ ?_; rotate_left; (focus (intro w hSw; (try dsimp only at hSw); go_simp; (try with_reducible rfl))); simp only [Act.put, List.setIfInBounds_toArray, List.set_cons_zero, List.set_cons_succ])
            (refine WE_take (i := 17) (v := ?_) rfl (by kernel_rfl) (by decide) (by kernel_rfl) (by kernel_rfl) (fun _ _ _ h => h) (by rfl) hSE ?_ ?_; rotate_left; (focus (intro w hSw; (try dsimp only at hSw); go_simp; (try with_reducible rfl))); simp only [Act.put, List.setIfInBounds_toArray, List.set_cons_zero, List.set_cons_succ])
            (refine WE_one (i := 16) rfl (by decide) (by kernel_rfl) ?_; intro K hK)
            go_simp
            have HE0 := hid (show (We.alloc (.cells #[] 5)).ownsRow We.heap.size 5 1 (.slice (some ⟨We.heap.size, 0, none⟩) 0 0) 0 [] from World.ownsRow_made We #[] 0 (Nat.le_refl _) (by unfold maxLen; omega) rfl)
            have HSZ := hid (show w6.heap.size ≤ We.heap.size from (unhid HBe).size)
            have HBe := hid ((unhid HBe).alloc (unhid HBe).size (.cells #[] 5))
            have HRe := hid ((unhid HR6).below (unhid HBe))
            have HSZ0 := hid (show We.heap.size ≤ (We.alloc (.cells #[] 5)).heap.size by simp)
            obtain ⟨Bq, hBq⟩ : ∃ Bq, Bq = We.heap.size := ⟨_, rfl⟩
            rw [← hBq] at HE0 HSZ HSZ0 ⊢
            (refine hK.out _ _ ((unhid HSF) _ (unhid HBe)) ?_); clear hSE hK K; intro hSE; (try simp only [Act.put, List.setIfInBounds_toArray, List.set_cons_zero, List.set_cons_succ])
            clear hBq
            generalize We.alloc (.cells #[] 5) = Wf at *
            have henl : en.length ≤ 1000000 := unhid HEN
            (refine WE_one (i := 18) rfl (by decide) (by kernel_rfl) ?_; intro K hK)
            refine step_append_any (by rfl) _ _ 52 (by rfl) Bq 5 j0 (.int .u8 0) 1 1 Tryz.underlying52 hj hy0 hy1 hy2 rfl (by decide) _ 0 [] (by rfl) (unhid HE0) A en.length c (bys en) (by rfl) (by simp) (unhid HRe) (bys_oneC en) (by unfold maxLen; omega) (by omega) (unhid HSZ0) ?_
            intro u7 w7 hown7 hg7
            rw [Nat.zero_add, List.nil_append] at hown7
            obtain ⟨A7, c7, hu7, -, -⟩ := own_slice hown7
            subst hu7
            have HBe := hid ((unhid HBe).grown hg7 (unhid HBe).size (fun j e => by have h := (own_block_lt (unhid HE0) e).1; have := unhid HSZ; omega))
            have HO7 := hid (own_base hown7 (Nat.le_trans (Nat.le_trans (unhid HD6).lo (unhid HSZ)) (Nat.le_refl _)))
            have HNEW7 := hid (show ∀ g, (Value.slice A7 en.length c7).ownBlock = some g → w.heap.size ≤ g from fun g hg => Nat.le_trans (Nat.le_trans (unhid HB6).size (unhid HSZ)) (own_block_lt hown7 hg).1)
            clear hown7 hg7 HE0 HSZ HSZ0 HRe
            (refine hK.out _ _ ((unhid HSF) _ (unhid HBe)) ?_); clear hSE hK K; intro hSE; (try simp only [Act.put, List.setIfInBounds_toArray, List.set_cons_zero, List.set_cons_succ])
            have HLO7 := hid ((unhid HLO6).below (unhid HBe))
            have HD7 := hid ((unhid HD6).below (unhid HBe))
            (refine WE_one (i := 19) rfl (by decide) (by kernel_rfl) ?_; intro K hK)
            go_simp
            have HNW := hid (en_news w7 A7 en.length c7)
            have hy := (unhid HLO7).e.own.alloc (.cells #[.slice A7 en.length c7] 52)
            obtain ⟨Bn, hBn⟩ : ∃ Bn, Bn = w7.heap.size := ⟨_, rfl⟩
            rw [← hBn] at HNW ⊢
            have HBf := hid ((unhid HBe).alloc (unhid HBe).size (.cells #[.slice A7 en.length c7] 52))
            have HBb := hid (below_alloc w7 (.cells #[.slice A7 en.length c7] 52))
            refine hK.out _ _ ((unhid HSF) _ (unhid HBf)) ?_
            clear hSE hK K hBn
            intro hSE
            (try simp only [Act.put, List.setIfInBounds_toArray, List.set_cons_zero, List.set_cons_succ])
            generalize w7.alloc (.cells #[.slice A7 en.length c7] 52) = Wb at *
            have hln8 : L.length ≤ 100000 := unhid HLN
            (refine WE_one (i := 20) rfl (by decide) (by kernel_rfl) ?_; intro K hK)
            refine step_append_full (by rfl) _ _ 70 (by rfl) base 52 i0 (.slice none 0 0) 24 Tryz.underlying70 hi hz0 hz1 hz2 rfl Al L.length cl (ens L) (by rfl) hy ⟨Bn, 0, none⟩ 1 (.slice A7 en.length c7) (by rfl) (unhid HNW) (by simp [Value.oneCell']) (by unfold maxLen; omega) (by omega) Wb.heap.size rfl ?_
            intro cap9 w9 hown9 hg9
            have hb9 : Below w7.heap.size w7 w9 := (unhid HBb).grown hg9 (unhid HBb).size (fun j e => by cases e)
            have HB9 := hid ((unhid HBe).trans (hb9.mono (unhid HBe).size))
            have hlo9 := (unhid HLO7).below hb9
            have k9 := cell_of_row _ Bl 3 _ _ _ hlo9.b
            simp only [List.getElem?_toArray, List.getElem?_cons_zero, List.getElem?_cons_succ] at k9
            have fz9 := frozen_of_row _ Bl 3 _ _ hlo9.b
            refine hK.out _ _ k9 ?_
            clear hSE hK K
            intro hSE
            (try simp only [Act.put, List.setIfInBounds_toArray, List.set_cons_zero, List.set_cons_succ])
            have HPU := hid ((unhid HLO7).push (e := ⟨A7, c7, en⟩) hb9 (own_below (unhid HO7) hb9) (own_base hown9 (Nat.le_trans (unhid HD7).lo (unhid HBb).size)))
            have HNL := hid (show NewTop w (.slice Al L.length cl) (.slice (some ⟨Wb.heap.size, 0, none⟩) (L.length + 1) cap9) from .inr fun g hg => by
              have h1 : Wb.heap.size = g := by simpa [Value.ownBlock] using hg
              rw [← h1]
              exact Nat.le_trans (unhid HB6).size (unhid HBf).size)
            obtain ⟨g9, hg9e⟩ : ∃ g9, g9 = Wb.heap.size := ⟨_, rfl⟩
            rw [← hg9e] at HPU HNL ⊢
            clear hown9 hg9 hb9 hlo9 hy HNW hln8 HBf HBb hg9e
            (refine WE_take (i := 21) (v := ?_) rfl (by kernel_rfl) (by decide) (by kernel_rfl) (by kernel_rfl) (fun _ _ _ h => h) (by rfl) hSE ?_ ?_; rotate_left; (focus (intro w hSw; (try dsimp only at hSw); go_simp; (try with_reducible rfl))); simp only [Act.put, List.setIfInBounds_toArray, List.set_cons_zero, List.set_cons_succ])
            (refine WE_take (i := 22) (v := ?_) rfl (by kernel_rfl) (by decide) (by kernel_rfl) (by kernel_rfl) (fun _ _ _ h => h) (by rfl) hSE ?_ ?_; rotate_left; (focus (intro w hSw; (try dsimp only at hSw); go_simp; (try with_reducible rfl))); simp only [Act.put, List.setIfInBounds_toArray, List.set_cons_zero, List.set_cons_succ])
            (refine WE_last rfl (by kernel_rfl) (by kernel_rfl) (by kernel_rfl) ?_; intro K hK; go_simp; refine hK.out _ _ (NoPanic.normal ?_); clear hK K)
            have HP := hid (show RpPost w base B v Bl (.slice Al L.length cl) L d.lf (lpD false d.lf d en) (lpF false d.lf d en) (lpL false d.lf d en (ents L)) (lpE false d.lf d en) (.returned (.int .i64 0)) (w9.setCell ⟨Bl, 3, none⟩ (.slice (some ⟨g9, 0, none⟩) (L.length + 1) cap9)) from by
              obtain ⟨x1, x2, x3, x4⟩ := unhid HX
              rw [x1, x2, x3, x4]
              refine ⟨rfl, v6, _, _, (unhid HD7).log (unhid HLO7) (unhid HPU).2, (unhid HPU).1, by simp [ents], ?_, unhid HN6, unhid HNL, ?_⟩
              · exact ((unhid HB6).then (But.of_below (unhid HBe) (RutS B Bl)) (fun _ _ e => e)).then (unhid HPU).2 (fun k _ e => .inr e)
              · intro e he
                rcases List.mem_append.1 he with he | he
                · exact .inl he
                · rw [List.mem_singleton] at he
                  subst he
                  exact .inr (unhid HNEW7))
            clear hSE k9 fz9 HPU HSF
            go_wp2_with fail
            go_ret
            exact unhid HP
          · obtain ⟨n5, hn5⟩ : ∃ n5, n5 = downE (appD d (encE en)) := ⟨_, rfl⟩
            have HX := hid (lp_sync (ls := ents L) (unhid HG) (unhid HLL) (unhid HDZ) hdz2)
            have HP := hid (rp_fail (n := downE (appD d (encE en))) (unhid HD6) (unhid HLO6) (unhid HB6) (unhid HN6) (unhid HX).1 (unhid HX).2.1 (unhid HX).2.2.2)
            have HPE := hid (unhid HX).2.2.1
            rw [← hn5] at hdz2 HP HPE ⊢
            have hb1 : (n5 == 0) = false := beq_eq_false_iff_ne.2 hdz2
            have hb2 : (n5 != 0) = true := bne_iff_ne.2 hdz2
            clear hn5 HX
            go_wp2_with fail
            go_ret
            rw [unhid HPE]
            exact unhid HP
        · obtain ⟨n5, hn5⟩ : ∃ n5, n5 = downE d := ⟨_, rfl⟩
          have HX := hid (lp_down (ls := ents L) (unhid HG) (unhid HLL) hdz)
          have HP := hid (rp_fail (n := downE d) (unhid HD5) (unhid HLO5) (unhid HB5) (unhid HN5) (unhid HX).1 (unhid HX).2.1 (unhid HX).2.2.2)
          have HPE := hid (unhid HX).2.2.1
          rw [← hn5] at hdz HP HPE ⊢
          have hb1 : (n5 == 0) = false := beq_eq_false_iff_ne.2 hdz
          have hb2 : (n5 != 0) = true := bne_iff_ne.2 hdz
          clear hn5 HX
          go_wp2_with fail
          go_ret
          rw [unhid HPE]
          exact unhid HP
    · have hb1 : (life != d.lf) = true := bne_iff_ne.2 hne
      have HX := hid (lp_no (fl := fl) (en := en) (ls := ents L) (.inr hne : fl = true ∨ life ≠ d.lf))
      have HP := hid (fun w1 hb => unhid HSTAY w1 hb 93 _ _ _ (unhid HX).1 (unhid HX).2.1 (unhid HX).2.2.2)
      have HPE := hid (unhid HX).2.2.1
      rw [hfl] at HP HPE
      clear hfl hne
      go_upto_region 1 with (fail)
      (refine wp_region_below (by kernel_rfl) (by kernel_rfl) ?_; (repeat (go_big_quiet_step (first | fail))); refine wpQuiet_nil ?_; intro wq hw'; obtain ⟨⟨wq2, hbq⟩, hw''⟩ := hw'; dsimp only at hw''; subst hw'')
      have HPP := hid ((unhid HP) _ hbq)
      clear hbq HP HSTAY p0 p1 p2 q5
      go_wp2_with fail
      go_ret
      rw [unhid HPE]
      exact unhid HPP
end

section
open Go.RowKit Go.Shelf

/-- What Open of the reference returns. -/
def RopenRes (w : World) (B : Nat) (d : Dk) (e : Ending) (w' : World) : Prop :=
  (openE d ≠ 0 ∧ e = .returned (.pointer none)) ∨
  (openE d = 0 ∧ ∃ Bl lv M, e = .returned (.pointer (some ⟨Bl, 0, none⟩)) ∧ w.heap.size ≤ Bl ∧ RoAt w' w.heap.size w.heap.size Bl B d.lf false lv M ∧ ents M = (scanP d.bs).2)
def RopenPost (w : World) (base B : Nat) (v : Value) (d : Dk) (e : Ending) (w' : World) : Prop :=
  ∃ v', RkAt w' base B v' (openD d) ∧ w.grownBy w' (some B) ∧ NewTop w v v' ∧ RopenRes w B d e w'
theorem cutD_lf (d : Dk) (a : Int) : (cutD d a).lf = d.lf := by
  unfold cutD
  repeat' (first | rfl | exact (begD_bs d).2.2 | split)
theorem syncD_lf (d : Dk) : (syncD d).lf = d.lf := by
  unfold syncD
  repeat' (first | rfl | exact (begD_bs d).2.2 | split)
theorem openD_lf (d : Dk) : (openD d).lf = d.lf := by
  unfold openD
  repeat' (first | rfl | exact cutD_lf d _ | exact syncD_lf d | split)

set_option maxHeartbeats 8000000 in
set_option maxRecDepth 100000 in
theorem ropen_calls {base B : Nat} {v : Value} {d : Dk} (w : World) (h : RkAt w base B v d) (hn : d.bs.length ≤ 1000000) :
    Calls Tryz.prog 33 #[.pointer (some ⟨B, 0, none⟩)] w fun e w' => RopenPost w base B v d e w' := by
  have HK := hid h
  have HN := hid hn
  obtain ⟨c0, c1, c2, c3, c4⟩ := h.cells
  clear h hn c1 c2
  go_enter Tryz.func33, Tryz.ntmps33
  cases hdn : d.dn with
  | true =>
    have HP := hid (show RopenPost w base B v d (.returned (.pointer none)) w from ⟨v, by rw [openD, if_pos hdn]; exact unhid HK, grown_refl _ _, .inl rfl, .inl ⟨by rw [openE, if_pos hdn]; omega, rfl⟩⟩)
    rw [hdn] at c3
    clear hdn
    go_wp2_with fail
    go_ret
    exact unhid HP
  | false =>
    rw [hdn] at c3
    have HDF := hid hdn
    clear hdn
    obtain ⟨A, c, hv, hrd, hcc, -, -⟩ := own_slice2 (unhid HK).own
    subst hv
    have HRD := hid hrd
    have HCC := hid hcc
    clear hrd hcc
    go_wp2_with fail
    refine (rscan_calls d.bs A c w (unhid HRD) (unhid HN) (unhid HCC)).mono ?_
    rintro e w1 ⟨u1, M, rfl, hM, hens, hb⟩
    have HB := hid hb
    have HM := hid hM
    have HE := hid hens
    have HK1 := hid ((unhid HK).below hb)
    obtain ⟨c0', c1', c2', c3', c4'⟩ := (unhid HK1).cells
    clear hb hM hens c0 c3 c4 c1' c2' c3'
    obtain ⟨a, ha⟩ : ∃ a, a = (scanP d.bs).1 := ⟨_, rfl⟩
    rw [← ha]
    have HA := hid ha
    clear ha
    obtain ⟨A1, cc1, hu1, -, -⟩ := own_slice (unhid HE).own
    subst hu1
    by_cases hlt : a < d.bs.length
    · have hlti : (a : Int) < (d.bs.length : Int) := by omega
      have HOD := hid (show openD d = cutD d (a : Int) ∧ openE d = cutE d (a : Int) from by
        have h1 : (scanP d.bs).1 < d.bs.length := by rw [← unhid HA]; exact hlt
        unfold openD openE
        rw [if_neg (by rw [unhid HDF]; simp), if_pos h1, if_neg (by rw [unhid HDF]; simp), if_pos h1, ← unhid HA]
        exact ⟨rfl, rfl⟩)
      clear hlt
      go_wp2_with fail
      refine (rcut_calls (a : Int) w1 (unhid HK1) (unhid HN)).mono ?_
      rintro e w4 ⟨rfl, v', hk4, hg4, hv4⟩
      have HK4 := hid (show RkAt w4 base B v' (openD d) from by rw [(unhid HOD).1]; exact hk4)
      have HG4 := hid ((grown_of_below (unhid HB) (some B)).andThen hg4 (fun j e => .inr e))
      have HE4 := hid ((unhid HE).other (unhid HK1).b (by decide) (by decide) hg4)
      have HN4 := hid (hv4.of_le (unhid HB).size : NewTop w (.slice A d.bs.length c) v')
      clear hk4 hg4 hv4 c0' c4'
      by_cases h0 : cutE d (a : Int) = 0
      · have HOE := hid (show openE d = 0 from by rw [(unhid HOD).2]; exact h0)
        rw [h0]
        clear h0
        have c4 := (unhid HK4).cells.2.2.2.2
        rw [openD_lf] at c4
        have hba := below_alloc w4 (.cells #[.pointer (some ⟨B, 0, none⟩), .int .i64 d.lf, .bool false, .slice A1 M.length cc1] 73)
        have hna := heap_alloc_new w4 (.cells #[.pointer (some ⟨B, 0, none⟩), .int .i64 d.lf, .bool false, .slice A1 M.length cc1] 73)
        have HP := hid (show RopenPost w base B (.slice A d.bs.length c) d (.returned (.pointer (some ⟨w4.heap.size, 0, none⟩))) (w4.alloc (.cells #[.pointer (some ⟨B, 0, none⟩), .int .i64 d.lf, .bool false, .slice A1 M.length cc1] 73)) from
          ⟨v', (unhid HK4).below hba, (unhid HG4).andThen (grown_of_below hba (some B)) (fun j e => .inr e), unhid HN4, .inr ⟨unhid HOE, w4.heap.size, _, M, rfl, (unhid HG4).size, ⟨hna, (unhid HE4).below hba⟩, unhid HM⟩⟩)
        clear hba hna
        go_wp2_with fail
        go_ret
        exact unhid HP
      · obtain ⟨n5, hn5⟩ : ∃ n5, n5 = cutE d (a : Int) := ⟨_, rfl⟩
        have HP := hid (show RopenPost w base B (.slice A d.bs.length c) d (.returned (.pointer none)) w4 from ⟨v', unhid HK4, unhid HG4, unhid HN4, .inl ⟨by rw [(unhid HOD).2]; exact h0, rfl⟩⟩)
        rw [← hn5] at h0 ⊢
        have hb2 : (n5 != 0) = true := bne_iff_ne.2 h0
        clear hn5
        go_wp2_with fail
        go_ret
        exact unhid HP
    · have hlti : ¬ (a : Int) < (d.bs.length : Int) := by omega
      have HOD := hid (show openD d = syncD d ∧ openE d = downE d from by
        have h1 : ¬ (scanP d.bs).1 < d.bs.length := by rw [← unhid HA]; exact hlt
        unfold openD openE
        rw [if_neg (by rw [unhid HDF]; simp), if_neg h1, if_neg (by rw [unhid HDF]; simp), if_neg h1]
        exact ⟨rfl, rfl⟩)
      clear hlt
      go_wp2_with fail
      refine (rsync_calls w1 (unhid HK1) (unhid HN)).mono ?_
      rintro e w4 ⟨rfl, v', hk4, hg4, hv4⟩
      have HK4 := hid (show RkAt w4 base B v' (openD d) from by rw [(unhid HOD).1]; exact hk4)
      have HG4 := hid ((grown_of_below (unhid HB) (some B)).andThen hg4 (fun j e => .inr e))
      have HE4 := hid ((unhid HE).other (unhid HK1).b (by decide) (by decide) hg4)
      have HN4 := hid (hv4.of_le (unhid HB).size : NewTop w (.slice A d.bs.length c) v')
      clear hk4 hg4 hv4 c0' c4'
      by_cases h0 : downE d = 0
      · have HOE := hid (show openE d = 0 from by rw [(unhid HOD).2]; exact h0)
        rw [h0]
        clear h0
        have c4 := (unhid HK4).cells.2.2.2.2
        rw [openD_lf] at c4
        have hba := below_alloc w4 (.cells #[.pointer (some ⟨B, 0, none⟩), .int .i64 d.lf, .bool false, .slice A1 M.length cc1] 73)
        have hna := heap_alloc_new w4 (.cells #[.pointer (some ⟨B, 0, none⟩), .int .i64 d.lf, .bool false, .slice A1 M.length cc1] 73)
        have HP := hid (show RopenPost w base B (.slice A d.bs.length c) d (.returned (.pointer (some ⟨w4.heap.size, 0, none⟩))) (w4.alloc (.cells #[.pointer (some ⟨B, 0, none⟩), .int .i64 d.lf, .bool false, .slice A1 M.length cc1] 73)) from
          ⟨v', (unhid HK4).below hba, (unhid HG4).andThen (grown_of_below hba (some B)) (fun j e => .inr e), unhid HN4, .inr ⟨unhid HOE, w4.heap.size, _, M, rfl, (unhid HG4).size, ⟨hna, (unhid HE4).below hba⟩, unhid HM⟩⟩)
        clear hba hna
        go_wp2_with fail
        go_ret
        exact unhid HP
      · obtain ⟨n5, hn5⟩ : ∃ n5, n5 = downE d := ⟨_, rfl⟩
        have HP := hid (show RopenPost w base B (.slice A d.bs.length c) d (.returned (.pointer none)) w4 from ⟨v', unhid HK4, unhid HG4, unhid HN4, .inl ⟨by rw [(unhid HOD).2]; exact h0, rfl⟩⟩)
        rw [← hn5] at h0 ⊢
        have hb2 : (n5 != 0) = true := bne_iff_ne.2 h0
        clear hn5
        go_wp2_with fail
        go_ret
        exact unhid HP
end

section
open Go.RowKit Go.Shelf

set_option maxHeartbeats 4000000 in
set_option maxRecDepth 100000 in
theorem shows_calls {base B B2 : Nat} {v v2 : Value} {d : Dk} (w : World) (h : DkAt w base B v d) (h2 : RkAt w base B2 v2 d) (hn : d.bs.length ≤ 1000000) :
    Calls Tryz.prog 38 #[.pointer (some ⟨B, 0, none⟩), .pointer (some ⟨B2, 0, none⟩)] w fun e w' => e = .returned (.bool true) ∧ Below w.heap.size w w' := by
  have HK := hid h
  have HR := hid h2
  have HN := hid hn
  clear h h2 hn
  go_enter Tryz.func38, Tryz.ntmps38
  go_wp2_with fail
  refine (kread_calls w (unhid HK) (unhid HN)).mono ?_
  rintro e w1 (⟨hdn, rfl, hb⟩ | ⟨hdn, A, c, rfl, hown, hb⟩)
  · have HB := hid hb
    have HK1 := hid ((unhid HK).below hb)
    have c3 := ((unhid HR).below hb).cells.2.2.2.1
    rw [hdn] at c3
    have HD := hid hdn
    clear hb hdn
    go_wp2_with fail
    refine (kdown_calls w1 (unhid HK1)).mono ?_
    rintro e w2 ⟨rfl, rfl⟩
    rw [unhid HD]
    go_wp2_with fail
    go_ret
    exact ⟨rfl, unhid HB⟩
  · have HB := hid hb
    have HK1 := hid ((unhid HK).below hb)
    have HR1 := hid ((unhid HR).below hb)
    have c3 := (unhid HR1).cells.2.2.2.1
    rw [hdn] at c3
    have HD := hid hdn
    have HO := hid hown
    clear hb hdn hown
    go_upto_region 4 with (fail)
    obtain ⟨A2, c2, hv2, hrd2, -⟩ := own_slice (unhid HR1).own
    subst hv2
    obtain ⟨A', c', hv', hrd, -⟩ := own_slice (unhid HO)
    injection hv' with q1 q2 q3
    subst q1 q3
    have hlt2 := (unhid HR1).lt
    have r0 := fun p : After w1 => After.cell (by dsimp only; exact hlt2) (unhid HR1).cells.1 p
    have cv1 : ∀ p : After w1, (convert 52 9 (.slice A d.bs.length c)).run Tryz.prog p.w = .ok (.string ⟨d.bs.toArray⟩) p.w := fun p => conv_bytes (hrd.below p.below) c
    have cv2 : ∀ p : After w1, (convert 52 9 (.slice A2 d.bs.length c2)).run Tryz.prog p.w = .ok (.string ⟨d.bs.toArray⟩) p.w := fun p => conv_bytes (hrd2.below p.below) c2
    have HDW := hid (fun p : After w1 => by
      have h := kdown_calls p.w ((unhid HK1).below p.below)
      rw [unhid HD] at h
      exact h)
    clear hrd hrd2
    (refine wp_region_below (by kernel_rfl) (by kernel_rfl) ?_; (repeat (go_big_quiet_step (first | (go_at_call 53; exact Calls.after_same ((unhid HDW) _))))); refine wpQuiet_nil ?_; intro wq hw'; obtain ⟨⟨wq2, hbq⟩, hw''⟩ := hw'; dsimp only at hw''; subst hw'')
    go_wp2_with fail
    go_ret
    exact ⟨rfl, (unhid HB).trans (hbq.mono (unhid HB).size)⟩
end

section
open Go.RowKit Go.Shelf

theorem below_but {w0 w w1 : World} {S : Nat → Prop} (h : Below w0.heap.size w0 w) (hb : But w w1 S) (hs : ∀ k, S k → w0.heap.size ≤ k) : Below w0.heap.size w0 w1 :=
  ⟨hb.os.trans h.os, hb.tape.trans h.tape, hb.output.trans h.output, Nat.le_trans h.size hb.size, fun k hk => (hb.block k (Nat.lt_of_lt_of_le hk h.size) (fun e => by have := hs k e; omega)).trans (h.block k hk)⟩

/-- Two disks of the same state. -/
structure Duo (w0 w : World) (B : Nat) (v : Value) (B2 : Nat) (v2 : Value) (d : Dk) : Prop where
  b : Below w0.heap.size w0 w
  k : DkAt w w0.heap.size B v d
  r : RkAt w w0.heap.size B2 v2 d
  hB : w0.heap.size ≤ B
  hB2 : w0.heap.size ≤ B2
  ne : ∀ g, v.ownBlock = some g → v2.ownBlock ≠ some g
/-- Two logs of the same entries. -/
structure Logs (w0 w : World) (B : Nat) (v : Value) (B2 : Nat) (Bl Bm : Nat) (lf : Int) (fl : Bool) (lv mv : Value) (L M : List Ent) : Prop where
  lo : LoAt w w0.heap.size w0.heap.size Bl B lf fl lv L
  ro : RoAt w w0.heap.size w0.heap.size Bm B2 lf fl mv M
  en : ents L = ents M
  off : EntsOff v L
  off2 : EntsOff v M
  ne : ∀ g, lv.ownBlock = some g → mv.ownBlock ≠ some g
  hBl : w0.heap.size ≤ Bl
  hBm : w0.heap.size ≤ Bm
def DS (B : Nat) (v : Value) (k : Nat) : Prop := k = B ∨ some k = v.ownBlock
section
variable {w0 w w1 w2 : World} {B B2 Bl Bm : Nat} {v v2 lv mv : Value} {d : Dk} {lf : Int} {fl : Bool} {L M : List Ent}
theorem Duo.below (h : Duo w0 w B v B2 v2 d) (hb : Below w.heap.size w w1) : Duo w0 w1 B v B2 v2 d := ⟨h.b.trans (hb.mono h.b.size), h.k.below hb, h.r.below hb, h.hB, h.hB2, h.ne⟩
theorem Logs.below (h : Logs w0 w B v B2 Bl Bm lf fl lv mv L M) (hb : Below w.heap.size w w1) : Logs w0 w1 B v B2 Bl Bm lf fl lv mv L M := ⟨h.lo.below hb, h.ro.below hb, h.en, h.off, h.off2, h.ne, h.hBl, h.hBm⟩
theorem row_ne {w : World} {base n k : Nat} {ty ty' : TypeId} {v : Value} {xs : List Value} {B : Nat} {cs : Array Value} (ho : w.ownsRow base ty k v n xs) (hB : w.heap[B]? = some (.cells cs ty' (0, 0))) (hne : ty ≠ ty') {g : Nat} (hg : v.ownBlock = some g) : g ≠ B := fun e => own_ne_blk ho hB hne (by rw [← e]; exact hg.symm)
theorem rows_ne {w : World} {b1 b2 n1 n2 k1 k2 : Nat} {t1 t2 : TypeId} {v u : Value} {xs ys : List Value} (hv : w.ownsRow b1 t1 k1 v n1 xs) (hu : w.ownsRow b2 t2 k2 u n2 ys) (hne : t1 ≠ t2) {g : Nat} (hg : u.ownBlock = some g) : some g ≠ v.ownBlock := fun e => by
  rcases own_apart hv hu hne with h | h
  · rw [h] at hg
    cases hg
  · exact h (by rw [hg, e])
/-- The reference's disk stays, when the program's turns. -/
theorem Duo.rk (h : Duo w0 w B v B2 v2 d) (hb : But w w1 (DS B v)) : RkAt w1 w0.heap.size B2 v2 d := by
  refine h.r.but hb ?_ (fun g hg => ?_)
  · rintro (e | e)
    · exact blk_ne h.r.b h.k.b (by decide) e
    · exact own_ne_blk h.k.own h.r.b (by decide) e
  · rintro (e | e)
    · exact row_ne h.r.own h.k.b (by decide) hg e
    · exact h.ne g e.symm hg
/-- The reference's log stays, when the program's disk turns. -/
theorem Logs.rk (h : Logs w0 w B v B2 Bl Bm lf fl lv mv L M) (hd : DkAt w w0.heap.size B v d) (hb : But w w1 (DS B v)) : RoAt w1 w0.heap.size w0.heap.size Bm B2 lf fl mv M := by
  refine h.ro.but hb ?_ (fun g hg => ?_) (fun e he g hg => ?_)
  · rintro (e | e)
    · exact blk_ne h.ro.b hd.b (by decide) e
    · exact own_ne_blk hd.own h.ro.b (by decide) e
  · rintro (e | e)
    · exact row_ne h.ro.e.own hd.b (by decide) hg e
    · exact rows_ne hd.own h.ro.e.own (by decide) hg e
  · rintro (e2 | e2)
    · exact row_ne (h.ro.e.ok e he) hd.b (by decide) hg e2
    · exact h.off2 e he g hg e2.symm
/-- The program's disk stays, when the reference's turns. -/
theorem dk_r {base : Nat} {d2 : Dk} (hk : DkAt w base B v d) (hr : RkAt w base B2 v2 d2) (hg : w.grownBy w1 (some B2)) : DkAt w1 base B v d :=
  hk.but (But.of_grown hg) (fun e => blk_ne hk.b hr.b (by decide) (Option.some.inj e)) (fun g hg2 e => row_ne hk.own hr.b (by decide) hg2 (Option.some.inj e))
theorem lo_r {base : Nat} {d2 : Dk} (hl : LoAt w base base Bl B lf fl lv L) (hr : RkAt w base B2 v2 d2) (hg : w.grownBy w1 (some B2)) : LoAt w1 base base Bl B lf fl lv L :=
  hl.but (But.of_grown hg) (fun e => blk_ne hl.b hr.b (by decide) (Option.some.inj e)) (fun g hg2 e => row_ne hl.e.own hr.b (by decide) hg2 (Option.some.inj e)) (fun e he g hg2 e2 => row_ne (hl.e.ok e he) hr.b (by decide) hg2 (Option.some.inj e2))
theorem two_ds (h : TwoBut w w1 B v.ownBlock) : But w w1 (DS B v) := But.of_two h
/-- Both disks have turned, the one behind the other. -/
theorem Duo.both {v' v2' : Value} {d' : Dk} (h : Duo w0 w B v B2 v2 d) (hk : DkAt w1 w0.heap.size B v' d') (hb : But w w1 (DS B v)) (hn : NewRow w v v')
    (hr : RkAt w2 w0.heap.size B2 v2' d') (hg : w1.grownBy w2 (some B2)) (hn2 : NewTop w1 v2 v2') : Duo w0 w2 B v' B2 v2' d' := by
  have hr1 := h.rk hb
  refine ⟨?_, dk_r hk hr1 hg, hr, h.hB, h.hB2, fun g hg1 hg2 => ?_⟩
  · have h1 := below_but h.b hb (fun k e => by
      rcases e with rfl | e
      · exact h.hB
      · exact (own_lt h.k.own e.symm).1)
    exact below_but h1 (But.of_grown hg) (fun k e => by have := Option.some.inj e; have := h.hB2; omega)
  · have hlt := (own_lt hk.own hg1).2
    rcases hn2 with rfl | hn2
    · have hlt2 := (own_lt h.r.own hg2).2
      rcases hn with hn | ⟨k, hk2, hs⟩
      · rw [hn] at hg1
        exact h.ne g hg1 hg2
      · have := Option.some.inj (hk2.symm.trans hg1)
        omega
    · have := hn2 g hg2
      omega
theorem Logs.both {v' v2' : Value} {d' : Dk} (h : Duo w0 w B v B2 v2 d) (hl : Logs w0 w B v B2 Bl Bm lf fl lv mv L M) (hk : DkAt w1 w0.heap.size B v' d') (ht : TwoBut w w1 B v.ownBlock) (hn : NewRow w v v')
    (hg : w1.grownBy w2 (some B2)) : Logs w0 w2 B v' B2 Bl Bm lf fl lv mv L M := by
  have hb := two_ds ht
  have hr1 := h.rk hb
  have hro1 := hl.rk h.k hb
  exact ⟨lo_r (LoAt.two h.k hl.lo hl.off ht) hr1 hg, hro1.two hr1 hg, hl.en, hl.off.new hl.lo.e hn, hl.off2.new hl.ro.e hn, hl.ne, hl.hBl, hl.hBm⟩
/-- The reference's disk and log stay, when the program puts. -/
theorem Duo.rkP (h : Duo w0 w B v B2 v2 d) (hl : Logs w0 w B v B2 Bl Bm lf fl lv mv L M) (hb : But w w1 (PutS B v Bl lv)) : RkAt w1 w0.heap.size B2 v2 d := by
  refine h.r.but hb ?_ (fun g hg => ?_)
  · rintro (e | e | e | e)
    · exact blk_ne h.r.b h.k.b (by decide) e
    · exact own_ne_blk h.k.own h.r.b (by decide) e
    · exact blk_ne h.r.b hl.lo.b (by decide) e
    · exact own_ne_blk hl.lo.e.own h.r.b (by decide) e
  · rintro (e | e | e | e)
    · exact row_ne h.r.own h.k.b (by decide) hg e
    · exact h.ne g e.symm hg
    · exact row_ne h.r.own hl.lo.b (by decide) hg e
    · exact rows_ne hl.lo.e.own h.r.own (by decide) hg e
theorem Logs.roP (h : Duo w0 w B v B2 v2 d) (hl : Logs w0 w B v B2 Bl Bm lf fl lv mv L M) (hb : But w w1 (PutS B v Bl lv)) : RoAt w1 w0.heap.size w0.heap.size Bm B2 lf fl mv M := by
  refine hl.ro.but hb ?_ (fun g hg => ?_) (fun e he g hg => ?_)
  · rintro (e | e | e | e)
    · exact blk_ne hl.ro.b h.k.b (by decide) e
    · exact own_ne_blk h.k.own hl.ro.b (by decide) e
    · exact blk_ne hl.ro.b hl.lo.b (by decide) e
    · exact own_ne_blk hl.lo.e.own hl.ro.b (by decide) e
  · rintro (e | e | e | e)
    · exact row_ne hl.ro.e.own h.k.b (by decide) hg e
    · exact rows_ne h.k.own hl.ro.e.own (by decide) hg e
    · exact row_ne hl.ro.e.own hl.lo.b (by decide) hg e
    · exact hl.ne g e.symm hg
  · rintro (e2 | e2 | e2 | e2)
    · exact row_ne (hl.ro.e.ok e he) h.k.b (by decide) hg e2
    · exact hl.off2 e he g hg e2.symm
    · exact row_ne (hl.ro.e.ok e he) hl.lo.b (by decide) hg e2
    · exact rows_ne hl.lo.e.own (hl.ro.e.ok e he) (by decide) hg e2
/-- Both have put, the one behind the other. -/
theorem Duo.put {v' v2' lv' mv' : Value} {d' : Dk} {fl' : Bool} {L' M' : List Ent} (h : Duo w0 w B v B2 v2 d) (hl : Logs w0 w B v B2 Bl Bm lf fl lv mv L M)
    (hk : DkAt w1 w0.heap.size B v' d') (hlo : LoAt w1 w0.heap.size w0.heap.size Bl B lf fl' lv' L') (hoff : EntsOff v' L') (hb : But w w1 (PutS B v Bl lv)) (hn : NewRow w v v') (hnl : NewRow w lv lv')
    (hr : RkAt w2 w0.heap.size B2 v2' d') (hro : RoAt w2 w0.heap.size w0.heap.size Bm B2 lf fl' mv' M') (hb2 : But w1 w2 (RutS B2 Bm)) (hn2 : NewTop w1 v2 v2') (hnm : NewTop w1 mv mv') (hen : ents L' = ents M') (hM : ∀ e ∈ M', e ∈ M ∨ ∀ g, (enV e).ownBlock = some g → w1.heap.size ≤ g) :
    Duo w0 w2 B v' B2 v2' d' ∧ Logs w0 w2 B v' B2 Bl Bm lf fl' lv' mv' L' M' := by
  have hr1 := h.rkP hl hb
  have hro1 := Logs.roP h hl hb
  have fresh : ∀ {a a' x : Value} {g : Nat}, NewRow w a a' → a'.ownBlock = some g → (a.ownBlock = some g ∨ w.heap.size ≤ g) := by
    intro a a' x g h1 h2
    rcases h1 with h1 | ⟨k, hk2, hs⟩
    · exact .inl (by rw [← h1]; exact h2)
    · have := Option.some.inj (hk2.symm.trans h2)
      exact .inr (by omega)
  refine ⟨⟨?_, ?_, hr, h.hB, h.hB2, fun g hg1 hg2 => ?_⟩, ⟨?_, hro, hen, hoff, fun e he g hg hg1 => ?_, fun g hg1 hg2 => ?_, hl.hBl, hl.hBm⟩⟩
  · have h1 := below_but h.b hb (fun k e => by
      rcases e with rfl | e | rfl | e
      · exact h.hB
      · exact (own_lt h.k.own e.symm).1
      · exact hl.hBl
      · exact (own_lt hl.lo.e.own e.symm).1)
    exact below_but h1 hb2 (fun k e => by
      rcases e with rfl | rfl
      · exact h.hB2
      · exact hl.hBm)
  · refine hk.but hb2 ?_ (fun g hg => ?_)
    · rintro (e | e)
      · exact blk_ne hk.b hr1.b (by decide) e
      · exact blk_ne hk.b hro1.b (by decide) e
    · rintro (e | e)
      · exact row_ne hk.own hr1.b (by decide) hg e
      · exact row_ne hk.own hro1.b (by decide) hg e
  · have hlt := (own_lt hk.own hg1).2
    rcases hn2 with rfl | hn2
    · have hlt2 := (own_lt h.r.own hg2).2
      rcases fresh (x := v) hn hg1 with h3 | h3
      · exact h.ne g h3 hg2
      · omega
    · have := hn2 g hg2
      omega
  · refine hlo.but hb2 ?_ (fun g hg => ?_) (fun e he g hg => ?_)
    · rintro (e | e)
      · exact blk_ne hlo.b hr1.b (by decide) e
      · exact blk_ne hlo.b hro1.b (by decide) e
    · rintro (e | e)
      · exact row_ne hlo.e.own hr1.b (by decide) hg e
      · exact row_ne hlo.e.own hro1.b (by decide) hg e
    · rintro (e2 | e2)
      · exact row_ne (hlo.e.ok e he) hr1.b (by decide) hg e2
      · exact row_ne (hlo.e.ok e he) hro1.b (by decide) hg e2
  · have hlt := (own_lt hk.own hg1).2
    rcases hM e he with he | he
    · have hlt2 := (own_lt (hl.ro.e.ok e he) hg).2
      rcases fresh (x := v) hn hg1 with h3 | h3
      · exact hl.off2 e he g hg h3
      · omega
    · have := he g hg
      omega
  · have hlt := (own_lt hlo.e.own hg1).2
    rcases hnm with rfl | hnm
    · have hlt2 := (own_lt hl.ro.e.own hg2).2
      rcases fresh (x := v) hnl hg1 with h3 | h3
      · exact hl.ne g h3 hg2
      · omega
    · have := hnm g hg2
      omega
end
end

section
open Go.RowKit Go.Shelf

theorem EnsAt.base {w : World} {b1 b2 l1 l2 : Nat} {v : Value} {L : List Ent} (h : EnsAt w b1 l1 v L) (hb : b2 ≤ b1) (hl : l2 ≤ l1) : EnsAt w b2 l2 v L := ⟨own_base h.own hb, fun e he => own_base (h.ok e he) hl⟩
section
variable {w0 w w1 w2 : World} {B B2 Bl Bm : Nat} {v v2 lv mv : Value} {d : Dk} {lf : Int} {fl : Bool} {L M : List Ent}
theorem grown_ds (h : w.grownBy w1 (some B)) (v : Value) : But w w1 (DS B v) := (But.of_grown h).mono (fun k _ e => .inl (Option.some.inj e))
/-- Both have opened. -/
theorem Duo.opened {v' v2' : Value} {d' : Dk} {b1 : Nat} (h : Duo w0 w B v B2 v2 d) (hk : DkAt w1 w0.heap.size B v' d') (hg : w.grownBy w1 (some B)) (hv : v'.ownBlock = v.ownBlock) (hlo : LoAt w1 b1 w.heap.size Bl B lf fl lv L) (hb1 : w0.heap.size ≤ b1) (hBl : w.heap.size ≤ Bl)
    (hr : RkAt w2 w0.heap.size B2 v2' d') (hg2 : w1.grownBy w2 (some B2)) (hn2 : NewTop w1 v2 v2') (hro : RoAt w2 w1.heap.size w1.heap.size Bm B2 lf fl mv M) (hBm : w1.heap.size ≤ Bm) (hen : ents L = ents M) :
    Duo w0 w2 B v' B2 v2' d' ∧ Logs w0 w2 B v' B2 Bl Bm lf fl lv mv L M := by
  have hs0 := h.b.size
  have hs1 := hg.size
  have hD := h.both hk (grown_ds hg v) (.inl hv) hr hg2 hn2
  have hr1 := h.rk (grown_ds hg v)
  refine ⟨hD, ⟨?_, ⟨hro.b, hro.e.base (by omega) (by omega)⟩, hen, fun e he g hg3 hg4 => ?_, fun e he g hg3 hg4 => ?_, fun g hg3 hg4 => ?_, by omega, by omega⟩⟩
  · exact lo_r ⟨hlo.b, hlo.e.base hb1 (by omega)⟩ hr1 hg2
  · have h1 := (own_lt (hlo.e.ok e he) hg3).1
    rw [hv] at hg4
    have := (own_lt h.k.own hg4).2
    omega
  · have h1 := (own_lt (hro.e.ok e he) hg3).1
    rw [hv] at hg4
    have := (own_lt h.k.own hg4).2
    omega
  · have h1 := (own_lt hlo.e.own hg3).2
    have h2 := (own_lt hro.e.own hg4).1
    omega
/-- Both have been copied. -/
theorem Duo.copied {C C2 : Nat} {u u2 : Value} (h : Duo w0 w B v B2 v2 d) (hk : DkAt w1 w0.heap.size C u d) (hC : w.heap.size ≤ C) (hb : Below w.heap.size w w1)
    (hr : RkAt w2 w0.heap.size C2 u2 d) (hC2 : w1.heap.size ≤ C2) (hu2 : ∀ g, u2.ownBlock = some g → w1.heap.size ≤ g) (hb2 : Below w1.heap.size w1 w2) : Duo w0 w2 C u C2 u2 d := by
  have hs0 := h.b.size
  have hs1 := hb.size
  refine ⟨(h.b.trans (hb.mono hs0)).trans (hb2.mono (by omega)), hk.below hb2, hr, by omega, by omega, fun g hg1 hg2 => ?_⟩
  have h1 := (own_lt hk.own hg1).2
  have h2 := hu2 g hg2
  omega
end
theorem appD_len (d : Dk) (l : List UInt8) : (appD d l).bs.length ≤ d.bs.length + l.length := by
  unfold appD
  split
  · omega
  · split
    · rw [(begD_bs d).1]; omega
    · simp
theorem syncD_len (d : Dk) : (syncD d).bs.length = d.bs.length := by
  unfold syncD
  split
  · rfl
  · split
    · rw [(begD_bs d).1]
    · show (begD d).bs.length = _
      rw [(begD_bs d).1]
theorem cutD_len (d : Dk) (n : Int) : (cutD d n).bs.length ≤ d.bs.length := by
  unfold cutD
  split
  · omega
  · split
    · omega
    · split
      · rw [(begD_bs d).1]; omega
      · simp; omega
theorem openD_len (d : Dk) : (openD d).bs.length ≤ d.bs.length := by
  unfold openD
  split
  · omega
  · split
    · exact cutD_len _ _
    · rw [syncD_len]; omega
theorem crashD_len (d : Dk) (n : Int) : (crashD d n).bs.length ≤ d.bs.length := by
  unfold crashD
  simp
  omega
theorem lpD_len (fl : Bool) (lf : Int) (d : Dk) (en : List UInt8) : (lpD fl lf d en).bs.length ≤ d.bs.length + 2007 := by
  unfold lpD
  split
  · omega
  · rename_i hs
    have hl : ¬ 2000 < en.length := fun h => hs (.inr (.inr h))
    have h1 := appD_len d (encE en)
    rw [encE_len] at h1
    split
    · rw [syncD_len]; omega
    · omega
theorem lpL_len (fl : Bool) (lf : Int) (d : Dk) (en : List UInt8) (ls : List (List UInt8)) : (lpL fl lf d en ls).length ≤ ls.length + 1 := by
  unfold lpL
  split <;> simp
theorem lpL_ok {fl : Bool} {lf : Int} {d : Dk} {en : List UInt8} {ls : List (List UInt8)} {n : Nat} (h : ∀ e ∈ ls, e.length ≤ n) (hn : en.length ≤ n) : ∀ e ∈ lpL fl lf d en ls, e.length ≤ n := by
  unfold lpL
  split
  · intro e he
    rcases List.mem_append.1 he with he | he
    · exact h e he
    · rw [List.mem_singleton] at he
      rw [he]
      exact hn
  · exact h
end

section
open Go.RowKit Go.Shelf

/-- A move. -/
structure Mv where
  kd : Int
  n : Int
  A : Option Addr
  c : Nat
  l : List UInt8
def mvC (m : Mv) : List Value := [.int .i64 m.kd, .int .i64 m.n, .slice m.A m.l.length m.c]
def mvs (L : List Mv) : List Value := L.flatMap mvC
theorem mvs_len (L : List Mv) : (mvs L).length = L.length * 3 := by
  induction L with
  | nil => rfl
  | cons x t ih =>
    show (mvC x ++ mvs t).length = _
    rw [List.length_append, ih, List.length_cons]
    show 3 + _ = _
    omega
theorem mvs_at {L : List Mv} {k : Nat} (h : k < L.length) : ∀ j, j < 3 → (mvs L)[k * 3 + j]? = (mvC L[k])[j]? := by
  induction L generalizing k with
  | nil => simp at h
  | cons x t ih =>
    intro j hj
    show (mvC x ++ mvs t)[k * 3 + j]? = _
    cases k with
    | zero => rw [Nat.zero_mul, Nat.zero_add, List.getElem?_append_left (by show j < 3; exact hj)]; rfl
    | succ k =>
      rw [List.getElem?_append_right (by show 3 ≤ _; omega)]
      have h2 := ih (k := k) (by simpa using h) j hj
      rw [show (k + 1) * 3 + j - (mvC x).length = k * 3 + j by show (k + 1) * 3 + j - 3 = _; omega, h2]
      rfl
theorem mvs_ne {L : List Mv} {k : Nat} (h : k < L.length) : mvs L ≠ [] := fun e => by
  have := mvs_len L
  rw [e] at this
  simp at this
  omega
theorem mvs_cells {w : World} {b off : Nat} {L : List Mv} (h : ∀ j u, (mvs L)[j]? = some u → w.cell? ⟨b, off + j, none⟩ = some u) {k : Nat} (hk : k < L.length) {x : Mv} (hx : L[k]'hk = x) :
    w.cell? ⟨b, off + k * 3, none⟩ = some (.int .i64 x.kd) ∧ w.cell? ⟨b, off + k * 3 + 1, none⟩ = some (.int .i64 x.n) ∧ w.cell? ⟨b, off + k * 3 + 2, none⟩ = some (.slice x.A x.l.length x.c) := by
  have f : ∀ j u, (mvC x)[j]? = some u → j < 3 → w.cell? ⟨b, off + k * 3 + j, none⟩ = some u := fun j u hu hj => by
    rw [Nat.add_assoc]
    refine h (k * 3 + j) u ?_
    rw [mvs_at hk j hj, hx]
    exact hu
  exact ⟨f 0 _ rfl (by omega), f 1 _ rfl (by omega), f 2 _ rfl (by omega)⟩
/-- A move in a block of its own. -/
def MvAt (w : World) (X : Nat) (m : Mv) : Prop := w.heap[X]? = some (.cells (mvC m).toArray 58 (0, 0))
section
variable {w0 w w1 : World} {X : Nat} {m : Mv}
theorem MvAt.below (h : MvAt w X m) (hb : Below w.heap.size w w1) : MvAt w1 X m := (hb.block X (Array.getElem?_eq_some_iff.1 h).1).trans h
theorem MvAt.lt (h : MvAt w X m) : X < w.heap.size := (Array.getElem?_eq_some_iff.1 h).1
theorem MvAt.cells (h : MvAt w X m) : w.cell? ⟨X, 0, none⟩ = some (.int .i64 m.kd) ∧ w.cell? ⟨X, 1, none⟩ = some (.int .i64 m.n) ∧ w.cell? ⟨X, 2, none⟩ = some (.slice m.A m.l.length m.c) :=
  ⟨cell_of_row _ X 0 _ _ _ h, cell_of_row _ X 1 _ _ _ h, cell_of_row _ X 2 _ _ _ h⟩
theorem MvAt.but {S : Nat → Prop} (h : MvAt w X m) (hb : But w w1 S) (hn : ¬ S X) : MvAt w1 X m := hb.at h hn
end
/-- The law's state after n moves. -/
def DuoV (w0 w : World) (n : Nat) (kv rv lp mp : Value) : Prop :=
  ∃ B v B2 v2 d, kv = .pointer (some ⟨B, 0, none⟩) ∧ rv = .pointer (some ⟨B2, 0, none⟩) ∧ Duo w0 w B v B2 v2 d ∧ d.bs.length ≤ n * 2107 ∧
    ((lp = .pointer none ∧ mp = .pointer none) ∨ ∃ Bl Bm lf fl lv mv L M, lp = .pointer (some ⟨Bl, 0, none⟩) ∧ mp = .pointer (some ⟨Bm, 0, none⟩) ∧ Logs w0 w B v B2 Bl Bm lf fl lv mv L M ∧ L.length ≤ n * 2107 ∧ ∀ e ∈ L, e.l.length ≤ 2000)
theorem DuoV.below {w0 w w1 : World} {n : Nat} {kv rv lp mp : Value} (h : DuoV w0 w n kv rv lp mp) (hb : Below w.heap.size w w1) : DuoV w0 w1 n kv rv lp mp := by
  obtain ⟨B, v, B2, v2, d, h1, h2, h3, h4, h5⟩ := h
  refine ⟨B, v, B2, v2, d, h1, h2, h3.below hb, h4, ?_⟩
  rcases h5 with h5 | ⟨Bl, Bm, lf, fl, lv, mv, L, M, q1, q2, q3, q4, q5⟩
  · exact .inl h5
  · exact .inr ⟨Bl, Bm, lf, fl, lv, mv, L, M, q1, q2, q3.below hb, q4, q5⟩
theorem DuoV.b {w0 w : World} {n : Nat} {kv rv lp mp : Value} (h : DuoV w0 w n kv rv lp mp) : Below w0.heap.size w0 w := by
  obtain ⟨B, v, B2, v2, d, h1, h2, h3, h4, h5⟩ := h
  exact h3.b
theorem DuoV.up {w0 w : World} {n n' : Nat} {kv rv lp mp : Value} (h : DuoV w0 w n kv rv lp mp) (hn : n ≤ n') : DuoV w0 w n' kv rv lp mp := by
  obtain ⟨B, v, B2, v2, d, h1, h2, h3, h4, h5⟩ := h
  refine ⟨B, v, B2, v2, d, h1, h2, h3, Nat.le_trans h4 (Nat.mul_le_mul_right _ hn), ?_⟩
  rcases h5 with h5 | ⟨Bl, Bm, lf, fl, lv, mv, L, M, q1, q2, q3, q4, q5⟩
  · exact .inl h5
  · exact .inr ⟨Bl, Bm, lf, fl, lv, mv, L, M, q1, q2, q3, Nat.le_trans q4 (Nat.mul_le_mul_right _ hn), q5⟩
end

section
open Go.RowKit Go.Shelf

def LogsOr (w0 w : World) (B : Nat) (v : Value) (B2 : Nat) (n : Nat) (lp mp : Value) : Prop :=
  (lp = .pointer none ∧ mp = .pointer none) ∨ ∃ Bl Bm lf fl lv mv L M, lp = .pointer (some ⟨Bl, 0, none⟩) ∧ mp = .pointer (some ⟨Bm, 0, none⟩) ∧ Logs w0 w B v B2 Bl Bm lf fl lv mv L M ∧ L.length ≤ n * 2107 ∧ ∀ e ∈ L, e.l.length ≤ 2000
section
variable {w0 w w1 w2 : World} {B B2 : Nat} {v v2 v' v2' : Value} {d d' : Dk} {k X : Nat} {m : Mv} {lp mp : Value}
theorem LogsOr.below (h : LogsOr w0 w B v B2 k lp mp) (hb : Below w.heap.size w w1) : LogsOr w0 w1 B v B2 k lp mp := by
  rcases h with h5 | ⟨Bl, Bm, lf, fl, lv, mv, L, M, q1, q2, q3, q4, q5⟩
  · exact .inl h5
  · exact .inr ⟨Bl, Bm, lf, fl, lv, mv, L, M, q1, q2, q3.below hb, q4, q5⟩
theorem LogsOr.both (h : Duo w0 w B v B2 v2 d) (hl : LogsOr w0 w B v B2 k lp mp) (hk : DkAt w1 w0.heap.size B v' d') (ht : TwoBut w w1 B v.ownBlock) (hn : NewRow w v v')
    (hg : w1.grownBy w2 (some B2)) : LogsOr w0 w2 B v' B2 (k + 1) lp mp := by
  rcases hl with h5 | ⟨Bl, Bm, lf, fl, lv, mv, L, M, q1, q2, q3, q4, q5⟩
  · exact .inl h5
  · exact .inr ⟨Bl, Bm, lf, fl, lv, mv, L, M, q1, q2, Logs.both (v2' := v2) h q3 hk ht hn hg, Nat.le_trans q4 (Nat.mul_le_mul_right _ (Nat.le_succ k)), q5⟩
theorem Duo.bs (h : Duo w0 w B v B2 v2 d) (hb : But w w1 (DS B v)) : Below w0.heap.size w0 w1 := below_but h.b hb (fun k e => by
  rcases e with rfl | e
  · exact h.hB
  · exact (own_lt h.k.own e.symm).1)
theorem MvAt.ds {base : Nat} (h : MvAt w X m) (hk : DkAt w base B v d) (hb : But w w1 (DS B v)) : MvAt w1 X m := by
  refine h.but hb ?_
  rintro (e | e)
  · exact blk_ne h hk.b (by decide) e
  · exact own_ne_blk hk.own h (by decide) e
theorem MvAt.rs {base : Nat} (h : MvAt w X m) (hr : RkAt w base B2 v2 d) (hg : w.grownBy w1 (some B2)) : MvAt w1 X m :=
  h.but (But.of_grown hg) (fun e => blk_ne h hr.b (by decide) (Option.some.inj e))
theorem Duo.bp {Bl Bm : Nat} {lf : Int} {fl : Bool} {lv mv : Value} {L M : List Ent} (h : Duo w0 w B v B2 v2 d) (hl : Logs w0 w B v B2 Bl Bm lf fl lv mv L M) (hb : But w w1 (PutS B v Bl lv)) : Below w0.heap.size w0 w1 := below_but h.b hb (fun k e => by
  rcases e with rfl | e | rfl | e
  · exact h.hB
  · exact (own_lt h.k.own e.symm).1
  · exact hl.hBl
  · exact (own_lt hl.lo.e.own e.symm).1)
theorem MvAt.ps {Bl Bm : Nat} {lf : Int} {fl : Bool} {lv mv : Value} {L M : List Ent} (h : MvAt w X m) (hD : Duo w0 w B v B2 v2 d) (hl : Logs w0 w B v B2 Bl Bm lf fl lv mv L M) (hb : But w w1 (PutS B v Bl lv)) : MvAt w1 X m := by
  refine h.but hb ?_
  rintro (e | e | e | e)
  · exact blk_ne h hD.k.b (by decide) e
  · exact own_ne_blk hD.k.own h (by decide) e
  · exact blk_ne h hl.lo.b (by decide) e
  · exact own_ne_blk hl.lo.e.own h (by decide) e
/-- The state behind a move that leaves no logs. -/
theorem duoV_no (h : Duo w0 w B v B2 v2 d) (hn : d.bs.length ≤ (k + 1) * 2107) : DuoV w0 w (k + 1) (.pointer (some ⟨B, 0, none⟩)) (.pointer (some ⟨B2, 0, none⟩)) (.pointer none) (.pointer none) :=
  ⟨B, v, B2, v2, d, rfl, rfl, h, hn, .inl ⟨rfl, rfl⟩⟩
theorem duoV_lg (h : Duo w0 w B v B2 v2 d) (hn : d.bs.length ≤ (k + 1) * 2107) (hl : LogsOr w0 w B v B2 (k + 1) lp mp) : DuoV w0 w (k + 1) (.pointer (some ⟨B, 0, none⟩)) (.pointer (some ⟨B2, 0, none⟩)) lp mp :=
  ⟨B, v, B2, v2, d, rfl, rfl, h, hn, hl⟩
end

theorem duoK_sizes (l : List UInt8) : ∀ k, (scanK l k).2.length ≤ (scanK l k).1 ∧ ∀ e ∈ (scanK l k).2, e.length ≤ 2000
  | 0 => ⟨Nat.le_refl _, fun e he => by simp [scanK] at he⟩
  | k + 1 => by
    obtain ⟨h1, h2⟩ := duoK_sizes l k
    rw [scanK]
    split
    · rename_i hF
      dsimp only
      refine ⟨by rw [List.length_append, List.length_singleton]; omega, fun e he => ?_⟩
      rcases List.mem_append.1 he with he | he
      · exact h2 e he
      · rw [List.mem_singleton] at he
        subst he
        rw [hF.ent_len]
        exact hF.2.2.1
    · exact ⟨h1, h2⟩
theorem duo_sizes (l : List UInt8) {M : List Ent} (h : ents M = (scanP l).2) : M.length ≤ l.length ∧ ∀ e ∈ M, e.l.length ≤ 2000 := by
  obtain ⟨h1, h2⟩ := duoK_sizes l (l.length + 1)
  refine ⟨?_, fun e he => h2 _ ?_⟩
  · rw [← ents_len, h]
    exact Nat.le_trans h1 (scanK_le _ _)
  · change e.l ∈ (scanP l).2
    rw [← h]
    exact List.mem_map.2 ⟨e, he, rfl⟩
theorem openE_92 {d : Dk} (h : openE d ≠ 0) : openE d = 92 := by
  unfold openE at h ⊢
  split at h
  · rename_i h1; rw [if_pos h1]
  · rename_i h1
    rw [if_neg h1]
    split at h
    · rename_i h2
      rw [if_pos h2]
      unfold cutE at h ⊢
      have hb : btw 0 ((scanP d.bs).1 : Nat) d.bs.length = true := btw_iff.2 (by omega)
      rw [if_neg h1, hb] at h ⊢
      unfold begE at h ⊢
      by_cases ha : d.ar = 1
      · simp [ha]
      · simp [ha] at h
    · rename_i h2
      rw [if_neg h2]
      unfold downE begE at h ⊢
      rw [if_neg h1] at h ⊢
      by_cases ha : d.ar = 1
      · simp [ha]
      · simp [ha] at h
theorem lpL_ok2 {fl : Bool} {lf : Int} {d : Dk} {en : List UInt8} {ls : List (List UInt8)} (h : ∀ e ∈ ls, e.length ≤ 2000) : ∀ e ∈ lpL fl lf d en ls, e.length ≤ 2000 := by
  by_cases hn : en.length ≤ 2000
  · exact lpL_ok h hn
  · unfold lpL
    rw [if_neg]
    · exact h
    · unfold lpE
      split
      · decide
      · rw [if_pos (by omega)]
        decide
end

section
open Go.RowKit Go.ChangeShapes Go.WideShapes Go.Deep

/-- What a move's parts are. -/
def MvW (w : World) (m : Mv) : Prop := I64 m.kd ∧ I64 m.n ∧ InOk w m.A m.l.length m.c (bys m.l) reachBytes
structure MvsIn (w : World) (A : Option Addr) (l : List Mv) (c : Nat) : Prop where
  rd : Rd w A (mvs l)
  ok : ∀ m ∈ l, MvW w m
  len : (l.length : Int) ≤ 9223372036854775807
section
variable {H : Type} {enc : TypeId × Value → H} {w : World} {base : Nat} {spare : Nat → Bool} {held : Bool}
theorem len3 {α : Type} {l : List α} (h : l.length = 3) : ∃ a b c, l = [a, b, c] := by
  match l, h with
  | [a, b, c], _ => exact ⟨a, b, c, rfl⟩
theorem open_move {fuel : Nat} {cs : List Value} {x : DataW H × List MemPlace} (h : DataW.trod enc Tryz.prog w base spare held fuel 58 cs = some x) (hw : Fit Tryz.prog 58 x.1) :
    ∃ m : Mv, cs = mvC m ∧ MvW w m := by
  obtain ⟨xs, n', -, rfl, hlen, hxl, hg⟩ := DataW.trod_struct Tryz.underlying58 h
  rw [show Tryz.prog.cellsOf 58 = 3 by kernel_rfl] at hlen
  have hxl : xs.length = 3 := hxl
  obtain ⟨c0, c1, c2, rfl⟩ := len3 hlen
  obtain ⟨m0, rfl, w0⟩ := cell_int (off := 0) (List.getElem?_eq_getElem (by omega : 0 < xs.length)) rfl (hg 0 _ rfl)
  obtain ⟨m1, rfl, w1⟩ := cell_int (off := 1) (List.getElem?_eq_getElem (by omega : 1 < xs.length)) rfl (hg 1 _ rfl)
  have h2 := hg 2 _ rfl
  rw [List.getElem?_eq_getElem (by omega)] at h2
  obtain ⟨A, l, c, hcs, hl⟩ := open_bytes h2 (hw.part (j := 2) Tryz.underlying58 rfl (by rw [List.getElem?_map, List.getElem?_eq_getElem (by omega)]; rfl))
  have hcs2 : List.take (Tryz.prog.cellsOf 52) [c2] = [Value.slice A l.length c] := hcs
  rw [show Tryz.prog.cellsOf 52 = 1 by kernel_rfl] at hcs2
  have hcs' : [c2] = [Value.slice A l.length c] := hcs2
  obtain rfl := List.cons.inj hcs' |>.1
  exact ⟨⟨m0, m1, A, c, l⟩, rfl, w0, w1, hl⟩
theorem open_moves {fuel : Nat} {cs : List Value} {x : DataW H × List MemPlace} (h : DataW.trod enc Tryz.prog w base spare held fuel 48 cs = some x) (hw : Fit Tryz.prog 48 x.1) :
    ∃ (A : Option Addr) (l : List Mv) (c : Nat), cs = [.slice A l.length c] ∧ MvsIn w A l c := by
  obtain ⟨A, l, c, rfl, hr, hok, hb⟩ := open_rows mvC 3 40 (MvW w) Tryz.underlying48 (by kernel_rfl) (by omega) (fun _ => rfl) (by kernel_rfl)
    (fun n cs x h hf => open_move h hf) h hw
  exact ⟨A, l, c, rfl, ⟨hr, hok, by unfold reachBytes at hb; omega⟩⟩
end
end

end Go.Proofs.YtegghimjmbgghaaGreat
