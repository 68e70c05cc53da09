/-
  The disk of the program.
-/
import Derived.Test.YtegghimjmbgghaaGreatBkAw
set_option linter.unusedSimpArgs false
set_option linter.unusedVariables false
namespace Go.Proofs.YtegghimjmbgghaaGreat
open Go.RowKit Go.Shelf

/-- A disk: whether it is down, its bytes, how many are safe, the call that will fail, its life. -/
structure Dk where
  dn : Bool
  bs : List UInt8
  sf : Nat
  ar : Nat
  lf : Int
/-- A disk in a block, with its bytes in a row of its own. -/
structure DkAt (w : World) (base B : Nat) (v : Value) (d : Dk) : Prop where
  b : w.heap[B]? = some (.cells #[.bool true, .bool d.dn, v, .int .i64 (d.sf : Int), .int .i64 (d.ar : Int), .int .i64 d.lf] 95 (0, 0))
  own : w.ownsRow base 5 1 v d.bs.length (bys d.bs)
  sf : d.sf ≤ d.bs.length
  ar : (d.ar : Int) ≤ 9223372036854775807
  lo : base ≤ w.heap.size
theorem own_ne_blk {w : World} {base n k : Nat} {ty ty' : TypeId} {v : Value} {xs : List Value} {B : Nat} {cs : Array Value} (ho : w.ownsRow base ty k v n xs) (hB : w.heap[B]? = some (.cells cs ty' (0, 0))) (hne : ty ≠ ty') : some B ≠ v.ownBlock := by
  intro e
  rcases ho.2 with ⟨rfl, _⟩ | ⟨g, cap, cur, rfl, hb, hh, _⟩
  · simp [Value.ownBlock] at e
  · have : g = B := by simpa [Value.ownBlock] using e.symm
    subst this
    rw [hh] at hB
    injection hB with hB
    injection hB with _ hB _
    exact hne hB
theorem own_kept {w w' : World} {base n k : Nat} {ty : TypeId} {v : Value} {xs : List Value} {B : Nat} (ho : w.ownsRow base ty k v n xs) (hg : w.grownBy w' (some B)) (hne : some B ≠ v.ownBlock) : w'.ownsRow base ty k v n xs :=
  ho.kept hg (by
    cases hv : v.ownBlock with
    | none => exact .inl rfl
    | some g => exact .inr (fun e => hne (e.symm.trans hv.symm)))
section
variable {w w' : World} {base B : Nat} {v : Value} {d : Dk}
theorem DkAt.lt (h : DkAt w base B v d) : B < w.heap.size := (Array.getElem?_eq_some_iff.1 h.b).1
theorem DkAt.ne (h : DkAt w base B v d) : some B ≠ v.ownBlock := own_ne_blk h.own h.b (by decide)
theorem DkAt.below (h : DkAt w base B v d) (hb : Below w.heap.size w w') : DkAt w' base B v d := ⟨(hb.block B h.lt).trans h.b, own_below h.own hb, h.sf, h.ar, Nat.le_trans h.lo hb.size⟩
theorem DkAt.cells (h : DkAt w base B v d) : w.cell? ⟨B, 0, none⟩ = some (.bool true) ∧ w.cell? ⟨B, 1, none⟩ = some (.bool d.dn) ∧ w.cell? ⟨B, 2, none⟩ = some v ∧ w.cell? ⟨B, 3, none⟩ = some (.int .i64 (d.sf : Int)) ∧ w.cell? ⟨B, 4, none⟩ = some (.int .i64 (d.ar : Int)) ∧ w.cell? ⟨B, 5, none⟩ = some (.int .i64 d.lf) :=
  ⟨cell_of_row _ B 0 _ _ _ h.b, cell_of_row _ B 1 _ _ _ h.b, cell_of_row _ B 2 _ _ _ h.b, cell_of_row _ B 3 _ _ _ h.b, cell_of_row _ B 4 _ _ _ h.b, cell_of_row _ B 5 _ _ _ h.b⟩
theorem DkAt.fz (h : DkAt w base B v d) (i : Nat) : w.frozen? ⟨B, i, none⟩ = false := frozen_of_row _ _ _ _ _ h.b
/-- A cell is written (not that of the bytes). -/
theorem DkAt.set (h : DkAt w base B v d) (i : Nat) (u : Value) {d' : Dk} (hd : (#[.bool true, .bool d.dn, v, .int .i64 (d.sf : Int), .int .i64 (d.ar : Int), .int .i64 d.lf] : Array Value).setIfInBounds i u = #[.bool true, .bool d'.dn, v, .int .i64 (d'.sf : Int), .int .i64 (d'.ar : Int), .int .i64 d'.lf])
    (hbs : d'.bs = d.bs) (hsf : d'.sf ≤ d.bs.length) (har : (d'.ar : Int) ≤ 9223372036854775807) : DkAt (w.setCell ⟨B, i, none⟩ u) base B v d' ∧ w.grownBy (w.setCell ⟨B, i, none⟩ u) (some B) := by
  have hg := setCell_grown w h.b (i := i) u
  have hb := heap_setCell_same w B i _ _ u h.b
  rw [hd] at hb
  exact ⟨⟨hb, by rw [hbs]; exact own_kept h.own hg h.ne, by rw [hbs]; exact hsf, har, Nat.le_trans h.lo hg.size⟩, hg⟩
/-- The bytes are written, and the cell that names them. -/
theorem DkAt.setB (h : DkAt w base B v d) (u : Value) {bs : List UInt8} {w1 : World} (ho : w1.ownsRow base 5 1 u bs.length (bys bs)) (hb1 : w1.heap[B]? = w.heap[B]?) (hsz : w.heap.size ≤ w1.heap.size) (hsf : d.sf ≤ bs.length) :
    DkAt (w1.setCell ⟨B, 2, none⟩ u) base B u { d with bs := bs } ∧ w1.grownBy (w1.setCell ⟨B, 2, none⟩ u) (some B) := by
  have hB := hb1.trans h.b
  have hg := setCell_grown w1 hB (i := 2) u
  have hb := heap_setCell_same w1 B 2 _ _ u hB
  exact ⟨⟨hb, own_kept ho hg (own_ne_blk ho hB (by decide)), hsf, h.ar, Nat.le_trans h.lo (Nat.le_trans hsz hg.size)⟩, hg⟩
end

set_option maxRecDepth 100000 in
theorem knone_calls {base B : Nat} {v : Value} {d : Dk} (w : World) (h : DkAt w base B v d) : Calls Tryz.prog 72 #[.pointer (some ⟨B, 0, none⟩)] w fun e w' => e = .returned (.bool false) ∧ w = w' := by
  have c0 := h.cells.1
  clear h
  go_enter Tryz.func72, Tryz.ntmps72
  go_wp2_with fail
  go_ret
  exact ⟨rfl, rfl⟩
set_option maxRecDepth 100000 in
theorem kdown_calls {base B : Nat} {v : Value} {d : Dk} (w : World) (h : DkAt w base B v d) : Calls Tryz.prog 53 #[.pointer (some ⟨B, 0, none⟩)] w fun e w' => e = .returned (.bool d.dn) ∧ w = w' := by
  have HK := hid h
  have c1 := h.cells.2.1
  clear h
  go_enter Tryz.func53, Tryz.ntmps53
  go_wp2_with (go_at_call 72; refine (knone_calls _ (unhid HK)).mono ?_; rintro e w9 ⟨rfl, rfl⟩)
  go_ret
  exact ⟨rfl, rfl⟩

/-- What a call that counts makes of a disk that is up, and what it returns. -/
def begD (d : Dk) : Dk := if d.ar = 0 then d else { d with ar := d.ar - 1, dn := decide (d.ar = 1) }
def begE (d : Dk) : Int := if d.ar = 1 then 92 else 0
theorem begD_bs (d : Dk) : (begD d).bs = d.bs ∧ (begD d).sf = d.sf ∧ (begD d).lf = d.lf := by
  unfold begD
  split <;> exact ⟨rfl, rfl, rfl⟩
theorem begD_dn {d : Dk} (h : d.dn = false) : (begD d).dn = decide (d.ar = 1) := by
  unfold begD
  split
  · rename_i h0
    rw [h, h0]
    rfl
  · rfl
set_option maxHeartbeats 4000000 in
set_option maxRecDepth 100000 in
theorem begin_calls {base B : Nat} {v : Value} {d : Dk} (w : World) (h : DkAt w base B v d) (hdn : d.dn = false) :
    Calls Tryz.prog 70 #[.pointer (some ⟨B, 0, none⟩)] w fun e w' => e = .returned (.int .i64 (begE d)) ∧ DkAt w' base B v (begD d) ∧ w.grownBy w' (some B) := by
  have HK := hid h
  have c1 := h.cells.2.1
  have c4 := h.cells.2.2.2.2.1
  have fz4 := h.fz 4
  have har := h.ar
  clear h
  go_enter Tryz.func70, Tryz.ntmps70
  by_cases h0 : d.ar = 0
  · have h0i : ¬ (0 : Int) < (d.ar : Int) := by omega
    rw [hdn] at c1
    have HP := hid (show Ending.returned (.int .i64 0) = .returned (.int .i64 (begE d)) ∧ DkAt w base B v (begD d) ∧ w.grownBy w (some B) from ⟨by rw [begE, if_neg (by omega)], by rw [begD, if_pos h0]; exact unhid HK, ⟨rfl, rfl, rfl, Nat.le_refl _, fun _ _ _ => rfl⟩⟩)
    clear h0
    go_wp2_with fail
    go_ret
    exact unhid HP
  · have h0i : (0 : Int) < (d.ar : Int) := by omega
    have HNZ := hid h0
    clear h0
    go_upto_region 3 with (fail)
    obtain ⟨hk1, hg1⟩ := (unhid HK).set 4 (.int .i64 ((d.ar : Int) - 1)) (d' := { d with ar := d.ar - 1 }) (by
      show _ = #[_, _, _, _, Value.int .i64 ((d.ar - 1 : Nat) : Int), _]
      rw [show ((d.ar - 1 : Nat) : Int) = (d.ar : Int) - 1 by omega]
      rfl) rfl (unhid HK).sf (by show ((d.ar - 1 : Nat) : Int) ≤ _; omega)
    have HK1 := hid hk1
    have HG1 := hid hg1
    clear hk1 hg1 c1 c4 fz4
    generalize w.setCell ⟨B, 4, none⟩ (.int .i64 ((d.ar : Int) - 1)) = w1 at *
    have c4 : w1.cell? ⟨B, 4, none⟩ = some (.int .i64 ((d.ar - 1 : Nat) : Int)) := (unhid HK1).cells.2.2.2.2.1
    have c1' : w1.cell? ⟨B, 1, none⟩ = some (.bool d.dn) := (unhid HK1).cells.2.1
    have fz1 := (unhid HK1).fz 1
    obtain ⟨r, hr⟩ : ∃ r, r = d.ar - 1 := ⟨_, rfl⟩
    rw [← hr] at c4
    have HR := hid hr
    clear hr
    go_upto_region 4 with (fail)
    obtain ⟨hk2, hg2⟩ := (unhid HK1).set 1 (.bool ((r : Int) == 0)) (d' := begD d) (by
      rw [begD, if_neg (unhid HNZ)]
      have e : decide (d.ar = 1) = ((r : Int) == 0) := by
        have := unhid HR
        have := unhid HNZ
        by_cases h : d.ar = 1
        · have hr0 : r = 0 := by omega
          simp [h, hr0]
        · have hr0 : ¬ (r : Int) = 0 := by omega
          rw [decide_eq_false h]
          exact (beq_eq_false_iff_ne.2 hr0).symm
      show _ = #[_, Value.bool (decide (d.ar = 1)), _, _, _, _]
      rw [e]
      rfl) (begD_bs d).1 (by rw [(begD_bs d).2.1]; exact (unhid HK).sf) (by rw [begD, if_neg (unhid HNZ)]; show ((d.ar - 1 : Nat) : Int) ≤ _; omega)
    have HK2 := hid hk2
    have HG2 := hid (show w.grownBy _ (some B) from (unhid HG1).andThen hg2 (fun j e => .inr e))
    clear hk2 hg2 c4 c1' fz1
    generalize w1.setCell ⟨B, 1, none⟩ (.bool ((r : Int) == 0)) = w2 at *
    have c1 := (unhid HK2).cells.2.1
    rw [begD_dn hdn] at c1
    by_cases h1 : d.ar = 1
    · rw [decide_eq_true h1] at c1
      have HP := hid (show Ending.returned (.int .i64 92) = .returned (.int .i64 (begE d)) ∧ DkAt w2 base B v (begD d) ∧ w.grownBy w2 (some B) from ⟨by rw [begE, if_pos h1], unhid HK2, unhid HG2⟩)
      clear h1
      go_wp2_with fail
      go_ret
      exact unhid HP
    · rw [decide_eq_false h1] at c1
      have HP := hid (show Ending.returned (.int .i64 0) = .returned (.int .i64 (begE d)) ∧ DkAt w2 base B v (begD d) ∧ w.grownBy w2 (some B) from ⟨by rw [begE, if_neg h1], unhid HK2, unhid HG2⟩)
      clear h1
      go_wp2_with fail
      go_ret
      exact unhid HP

end Go.Proofs.YtegghimjmbgghaaGreat
