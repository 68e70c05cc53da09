/-
  The disk of the program: Append, Sync, Cut, Read, NewDisk.
-/
import Derived.Test.YtegghimjmbgghaaGreatBkDk
set_option linter.unusedSimpArgs false
set_option linter.unusedVariables false
namespace Go.Proofs.YtegghimjmbgghaaGreat
open Go.RowKit Go.Shelf

/-- Nothing has turned but block B, and one row. -/
structure TwoBut (w w' : World) (B : Nat) (row : Option Nat) : Prop where
  os : w'.os = w.os
  tape : w'.tape = w.tape
  output : w'.output = w.output
  size : w.heap.size ≤ w'.heap.size
  block : ∀ k, k < w.heap.size → k ≠ B → some k ≠ row → w'.heap[k]? = w.heap[k]?
theorem TwoBut.of {w w' : World} {B : Nat} {row : Option Nat} (h : w.grownBy w' (some B)) : TwoBut w w' B row := ⟨h.os, h.tape, h.output, h.size, fun k hk h1 _ => h.block k hk (fun e => h1 (Option.some.inj e))⟩
theorem TwoBut.refl (w : World) (B : Nat) (row : Option Nat) : TwoBut w w B row := ⟨rfl, rfl, rfl, Nat.le_refl _, fun _ _ _ _ => rfl⟩
theorem TwoBut.then {w w1 w2 : World} {B : Nat} {row : Option Nat} (h : TwoBut w w1 B row) (h2 : w1.grownBy w2 (some B)) : TwoBut w w2 B row :=
  ⟨h2.os.trans h.os, h2.tape.trans h.tape, h2.output.trans h.output, Nat.le_trans h.size h2.size, fun k hk h1 h3 => (h2.block k (Nat.lt_of_lt_of_le hk h.size) (fun e => h1 (Option.some.inj e))).trans (h.block k hk h1 h3)⟩
theorem TwoBut.thenRow {w w1 w2 : World} {B : Nat} {row : Option Nat} (h : TwoBut w w1 B row) (h2 : w1.grownBy w2 row) : TwoBut w w2 B row :=
  ⟨h2.os.trans h.os, h2.tape.trans h.tape, h2.output.trans h.output, Nat.le_trans h.size h2.size, fun k hk h1 h3 => (h2.block k (Nat.lt_of_lt_of_le hk h.size) h3).trans (h.block k hk h1 h3)⟩
theorem TwoBut.below {w w1 w2 : World} {B : Nat} {row : Option Nat} (h : TwoBut w w1 B row) (h2 : Below w1.heap.size w1 w2) : TwoBut w w2 B row :=
  ⟨h2.os.trans h.os, h2.tape.trans h.tape, h2.output.trans h.output, Nat.le_trans h.size h2.size, fun k hk h1 h3 => (h2.block k (Nat.lt_of_lt_of_le hk h.size)).trans (h.block k hk h1 h3)⟩
theorem TwoBut.trans {w w1 w2 : World} {B : Nat} {row row2 : Option Nat} (h : TwoBut w w1 B row) (h2 : TwoBut w1 w2 B row2) (hr : ∀ g, row2 = some g → row = some g ∨ w.heap.size ≤ g) : TwoBut w w2 B row :=
  ⟨h2.os.trans h.os, h2.tape.trans h.tape, h2.output.trans h.output, Nat.le_trans h.size h2.size, fun k hk h1 h3 => (h2.block k (Nat.lt_of_lt_of_le hk h.size) h1 (fun e => by
    rcases hr k e.symm with h | h
    · exact h3 h.symm
    · omega)).trans (h.block k hk h1 h3)⟩
/-- Bytes do not lie in a disk's block. -/
theorem rd_ne_dk {w : World} {base B : Nat} {v : Value} {d : Dk} (h : DkAt w base B v d) {l : List UInt8} {b off : Nat} (hc : ∀ j u, (bys l)[j]? = some u → w.cell? ⟨b, off + j, none⟩ = some u) (hl : l ≠ []) : b ≠ B := by
  rintro rfl
  have h0 : 0 < l.length := List.length_pos_iff.2 hl
  have h1 := hc 0 _ (bys_at h0)
  rw [cell_of_row _ b _ _ _ _ h.b] at h1
  rcases off with _ | _ | _ | _ | _ | _ | off
  all_goals simp at h1
  obtain ⟨A, c, rfl, -, -⟩ := own_slice h.own
  cases h1
theorem rd_dk {w w' : World} {base B : Nat} {v : Value} {d : Dk} (h : DkAt w base B v d) {A : Option Addr} {l : List UInt8} (hr : Rd w A (bys l)) (hg : w.grownBy w' (some B)) : Rd w' A (bys l) := fun hne => by
  obtain ⟨b, off, hA, hb, hc⟩ := hr hne
  have hnb := rd_ne_dk h hc (fun e => hne (by rw [e]; rfl))
  refine ⟨b, off, hA, Nat.lt_of_lt_of_le hb hg.size, fun j u hu => ?_⟩
  exact hg.cell (hc j u hu) (fun e => hnb (Option.some.inj e))
theorem own_take {w : World} {base : Nat} {A : Option Addr} {c : Nat} {bs : List UInt8} (h : w.ownsRow base 5 1 (.slice A bs.length c) bs.length (bys bs)) {n : Nat} (hn : n ≤ bs.length) : w.ownsRow base 5 1 (.slice A n c) n (bys (bs.take n)) := by
  refine ⟨by simp [hn], ?_⟩
  rcases h.2 with ⟨h1, h2⟩ | ⟨g, cap, cur, h1, hb, hh, hnc, hcm, hcs, htk⟩
  · injection h1 with e1 e2 e3
    subst e1 e3
    have : n = 0 := by omega
    subst this
    exact .inl ⟨rfl, rfl⟩
  · injection h1 with e1 e2 e3
    subst e1 e3
    refine .inr ⟨g, c, cur, rfl, hb, hh, by omega, hcm, hcs, ?_⟩
    have e : (cur.toList.take (bs.length * 1)).take (n * 1) = (bys bs).take (n * 1) := by rw [htk]
    rw [List.take_take, Nat.min_eq_left (by omega)] at e
    rw [e, Nat.mul_one]
    simp [bys, List.map_take]

def appD (d : Dk) (l : List UInt8) : Dk := if d.dn then d else if d.ar = 1 then begD d else { begD d with bs := d.bs ++ l }
def downE (d : Dk) : Int := if d.dn then 92 else begE d
/-- The bytes lie where they lay, or in a new row. -/
def NewRow (w : World) (v v' : Value) : Prop := v'.ownBlock = v.ownBlock ∨ ∃ g, v'.ownBlock = some g ∧ w.heap.size ≤ g
def AppPost (w : World) (base B : Nat) (v : Value) (d' : Dk) (en : Int) (e : Ending) (w' : World) : Prop :=
  e = .returned (.int .i64 en) ∧ ∃ v', DkAt w' base B v' d' ∧ TwoBut w w' B v.ownBlock ∧ NewRow w v v'

set_option maxHeartbeats 4000000 in
set_option maxRecDepth 100000 in
theorem kappend_calls {base B : Nat} {v : Value} {d : Dk} (l : List UInt8) (A : Option Addr) (c : Nat) (w : World) (h : DkAt w base B v d) (hr : Rd w A (bys l)) (hn : d.bs.length + l.length ≤ 1000000) :
    Calls Tryz.prog 22 #[.pointer (some ⟨B, 0, none⟩), .slice A l.length c] w fun e w' => AppPost w base B v (appD d l) (downE d) e w' := by
  obtain ⟨i0, hi, hz0, hz1, hz2⟩ := info_parts info_u8
  have HK := hid h
  have HR := hid hr
  have HN := hid hn
  clear h hr hn
  go_enter Tryz.func22, Tryz.ntmps22
  go_wp2_with fail
  refine (kdown_calls w (unhid HK)).mono ?_
  rintro e w' ⟨rfl, rfl⟩
  by_cases hdn : d.dn = true
  · have HP := hid (show AppPost w base B v (appD d l) (downE d) (.returned (.int .i64 92)) w from ⟨by rw [downE, if_pos hdn], v, by rw [appD, if_pos hdn]; exact unhid HK, TwoBut.refl _ _ _, .inl rfl⟩)
    rw [hdn]
    clear hdn
    go_wp2_with fail
    go_ret
    exact unhid HP
  · have hdf : d.dn = false := by simpa using hdn
    rw [hdf]
    have HDF := hid hdf
    clear hdn hdf
    go_wp2_with fail
    refine (begin_calls w (unhid HK) (unhid HDF)).mono ?_
    rintro e w1 ⟨rfl, hk1, hg1⟩
    have HK1 := hid hk1
    have HG1 := hid hg1
    clear hk1 hg1
    by_cases h1 : d.ar = 1
    · have hbe : begE d = 92 := by rw [begE, if_pos h1]
      have HP := hid (show AppPost w base B v (appD d l) (downE d) (.returned (.int .i64 92)) w1 from ⟨by rw [downE, if_neg (by rw [unhid HDF]; simp), hbe], v, by rw [appD, if_neg (by rw [unhid HDF]; simp), if_pos h1]; exact unhid HK1, TwoBut.of (unhid HG1), .inl rfl⟩)
      rw [hbe]
      clear hbe h1
      go_wp2_with fail
      go_ret
      exact unhid HP
    · have hbe : begE d = 0 := by rw [begE, if_neg h1]
      have HE := hid (show downE d = 0 from by rw [downE, if_neg (by rw [unhid HDF]; simp), hbe])
      have HA := hid (show appD d l = { begD d with bs := d.bs ++ l } from by rw [appD, if_neg (by rw [unhid HDF]; simp), if_neg h1])
      rw [hbe]
      clear hbe h1
      have c2 := (unhid HK1).cells.2.2.1
      have hown := (unhid HK1).own
      rw [(begD_bs d).1] at hown
      have HR1 := hid (rd_dk (unhid HK) (unhid HR) (unhid HG1))
      have hlo := (unhid HK1).lo
      have hnl : d.bs.length + l.length ≤ 1000000 := unhid HN
      go_wp2_with (at_builtin; refine wpList_append_any rfl _ _ 52 rfl base 5 i0 (.int .u8 0) 1 1 Tryz.underlying52 hi hz0 hz1 hz2 rfl (by decide) _ _ _ rfl hown A l.length c (bys l) rfl (by simp) (unhid HR1) (bys_oneC l) (by unfold maxLen; omega) (by omega) hlo ?_; intro v' w2 hown2 hg2 hnew; have hb2 : w2.heap[B]? = w1.heap[B]? := hg2.block B (unhid HK1).lt (unhid HK1).ne; have c2' : w2.cell? ⟨B, 2, none⟩ = some v := (World.cell?_of_block (a := ⟨B, 2, none⟩) hb2).trans c2; have fz2 : w2.frozen? ⟨B, 2, none⟩ = false := frozen_of_row _ _ _ _ _ (hb2.trans (unhid HK1).b); obtain ⟨A2, cc2, hv2, -, -⟩ := own_slice hown2; subst hv2)
      have HO2 := hid (show w2.ownsRow base 5 1 (.slice A2 (d.bs.length + l.length) cc2) (d.bs ++ l).length (bys (d.bs ++ l)) from by rw [List.length_append, bys_append]; exact hown2)
      have HB2 := hid hb2
      have HG2 := hid hg2
      have HNW := hid (show NewRow w v (.slice A2 (d.bs.length + l.length) cc2) from by
        rcases hnew with h | h
        · exact .inl h
        · exact .inr ⟨_, h, (unhid HG1).size⟩)
      clear hown hown2 hg2 hnew hb2 c2 hlo
      have hs := (unhid HK1).setB _ (unhid HO2) (unhid HB2) (unhid HG2).size (by rw [(begD_bs d).2.1, List.length_append]; have := (unhid HK).sf; omega)
      have HP := hid (show AppPost w base B v (appD d l) (downE d) (.returned (.int .i64 0)) (w2.setCell ⟨B, 2, none⟩ (.slice A2 (d.bs.length + l.length) cc2)) from ⟨by rw [unhid HE], _, by rw [unhid HA]; exact hs.1, ((TwoBut.of (unhid HG1)).thenRow (unhid HG2)).then hs.2, unhid HNW⟩)
      clear hs
      go_ret
      exact unhid HP

end Go.Proofs.YtegghimjmbgghaaGreat
