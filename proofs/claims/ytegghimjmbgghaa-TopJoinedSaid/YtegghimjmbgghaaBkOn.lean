/-
  The arguments opened: bytes, records. The arguments opened: a record. The arguments opened: records. Notes: their cells, the arguments opened.
-/
import Derived.Test.YtegghimjmbgghaaOpenK
import Derived.Test.YtegghimjmbgghaaBkZ
import Derived.OpenShut
import Derived.Test.YtegghimjmbgghaaBkF
set_option linter.unusedSimpArgs false
set_option linter.unusedVariables false
namespace Go.Proofs.Ytegghimjmbgghaa
open Go.RowKit

section
open Go.RowKit Go.ChangeShapes Go.WideShapes Go.Deep

section
variable {H : Type} {enc : TypeId × Value → H} {w : World} {base : Nat} {spare : Nat → Bool} {held : Bool}

/-- What came in of one slice. -/
structure InOk (w : World) (A : Option Addr) (n c : Nat) (cs : List Value) (m : Nat) : Prop where
  rd : Rd w A cs
  cap : n ≤ c
  len : n ≤ m

theorem wf_in {m : Int} (h : (Lit.int .i64 m).wf = true) : I64 m := by
  simp [Lit.wf, IntKind.min, IntKind.max, IntKind.signed, IntKind.bits] at h
  exact ⟨by omega, by omega⟩
theorem wf_u8 {m : Int} (h : (Lit.int .u8 m).wf = true) : 0 ≤ m ∧ m ≤ 255 := by
  simp [Lit.wf, IntKind.min, IntKind.max, IntKind.signed, IntKind.bits] at h
  omega
theorem cells_int' : Try.prog.cellsOf 3 = 1 := by kernel_rfl
theorem one_int' {n : Nat} {cs : List Value} {y : DataW H × List MemPlace} (h : DataW.trod enc Try.prog w base spare held n 3 cs = some y) : ∃ m, cs = [.int .i64 m] ∧ I64 m := by
  obtain ⟨m, rfl, -, hw⟩ := DataW.trod_int Try.underlying3 h
  exact ⟨m, rfl, wf_in hw⟩
theorem one_u8 {n : Nat} {cs : List Value} {y : DataW H × List MemPlace} (h : DataW.trod enc Try.prog w base spare held n 5 cs = some y) : ∃ b : UInt8, cs = [.int .u8 (b.toNat : Int)] := by
  obtain ⟨m, rfl, -, hw⟩ := DataW.trod_int Try.underlying5 h
  have := wf_u8 hw
  refine ⟨UInt8.ofNat m.toNat, ?_⟩
  have e : (UInt8.ofNat m.toNat).toNat = m.toNat := by
    rw [UInt8.toNat_ofNat']
    omega
  rw [e]
  simp
  omega
theorem cap_le {t e : TypeId} {P : Program} {fuel : Nat} {A : Option Addr} {n c : Nat} {x : DataW H × List MemPlace} (ht : P.underlying t = some (.slice e)) (h : DataW.trod enc P w base spare held fuel t [.slice A n c] = some x) : n ≤ c := by
  rcases open_slice ht h with ⟨h0, -⟩ | ⟨a, len, cap, m, n', D, Pl, h0, -, hl, -⟩
  · simp only [List.cons.injEq, Value.slice.injEq, and_true] at h0
    omega
  · simp only [List.cons.injEq, Value.slice.injEq, and_true] at h0
    omega

theorem open_bytes {fuel : Nat} {cs : List Value} {x : DataW H × List MemPlace} (h : DataW.trod enc Try.prog w base spare held fuel 43 cs = some x) (hw : Fit Try.prog 43 x.1) :
    ∃ (A : Option Addr) (l : List UInt8) (c : Nat), cs = [.slice A l.length c] ∧ InOk w A l.length c (bys l) reachBytes := by
  obtain ⟨A, l, c, rfl, hr, -, hb⟩ := open_rows (fun b : UInt8 => [Value.int .u8 (b.toNat : Int)]) 1 1 (fun _ => True) Try.underlying43 (by kernel_rfl) (by omega) (fun _ => rfl) (by kernel_rfl)
    (fun n cs x h _ => (one_u8 h).imp fun b hb => ⟨hb, trivial⟩) h hw
  have e : l.flatMap (fun b : UInt8 => [Value.int .u8 (b.toNat : Int)]) = bys l := by simp [bys, List.map_eq_flatMap]
  exact ⟨A, l, c, rfl, by rw [← e]; exact hr, cap_le Try.underlying43 h, by omega⟩
end
end

section
open Go.RowKit Go.ChangeShapes Go.WideShapes Go.Deep

section
variable {H : Type} {enc : TypeId × Value → H} {w : World} {base : Nat} {spare : Nat → Bool} {held : Bool}

/-- A record that came in. -/
theorem cells14 {l : List Value} (h : l.length = 14) : ∃ c0 c1 c2 c3 c4 c5 c6 c7 c8 c9 c10 c11 c12 c13, l = [c0, c1, c2, c3, c4, c5, c6, c7, c8, c9, c10, c11, c12, c13] := by
  match l, h with
  | [a, b, c, d, e, f, g, i, j, k, m, n, o, p], _ => exact ⟨a, b, c, d, e, f, g, i, j, k, m, n, o, p, rfl⟩
theorem cell_int {n : Nat} {cs : List Value} {off : Nat} {c : Value} {y : Option (DataW H × List MemPlace)} {z : DataW H × List MemPlace} (hz : y = some z) (hc : cs[off]? = some c)
    (h : DataW.trod enc Try.prog w base spare held n 3 ((cs.drop off).take (Try.prog.cellsOf 3)) = y) : ∃ m, c = .int .i64 m ∧ I64 m := by
  rw [hz, cells_int'] at h
  obtain ⟨m, hm, hw⟩ := one_int' h
  obtain ⟨hlt, rfl⟩ := List.getElem?_eq_some_iff.1 hc
  rw [List.drop_eq_getElem_cons hlt] at hm
  simp only [List.take_succ_cons, List.take_zero, List.cons.injEq, and_true] at hm
  exact ⟨m, hm, hw⟩
set_option maxRecDepth 100000 in
theorem open_cells {fuel : Nat} {cs : List Value} {x : DataW H × List MemPlace} (h : DataW.trod enc Try.prog w base spare held fuel 33 cs = some x) :
    ∃ r : Rc, cs = rcC r ∧ RcW r := by
  obtain ⟨xs, n, -, rfl, hlen, hxl, hg⟩ := DataW.trod_struct Try.underlying33 h
  rw [show Try.prog.cellsOf 33 = 14 by kernel_rfl] at hlen
  have hxl : xs.length = 7 := hxl
  obtain ⟨c0, c1, c2, c3, c4, c5, c6, c7, c8, c9, c10, c11, c12, c13, rfl⟩ := cells14 hlen
  obtain ⟨m0, rfl, w0⟩ := cell_int (off := 0) (List.getElem?_eq_getElem (by omega : 0 < xs.length)) rfl (hg 0 _ rfl)
  obtain ⟨m1, rfl, w1⟩ := cell_int (off := 1) (List.getElem?_eq_getElem (by omega : 1 < xs.length)) rfl (hg 1 _ rfl)
  obtain ⟨m2, rfl, w2⟩ := cell_int (off := 2) (List.getElem?_eq_getElem (by omega : 2 < xs.length)) rfl (hg 2 _ rfl)
  obtain ⟨m3, rfl, w3⟩ := cell_int (off := 3) (List.getElem?_eq_getElem (by omega : 3 < xs.length)) rfl (hg 3 _ rfl)
  obtain ⟨m4, rfl, w4⟩ := cell_int (off := 4) (List.getElem?_eq_getElem (by omega : 4 < xs.length)) rfl (hg 4 _ rfl)
  obtain ⟨m5, rfl, w5⟩ := cell_int (off := 5) (List.getElem?_eq_getElem (by omega : 5 < xs.length)) rfl (hg 5 _ rfl)
  have h6 := hg 6 _ rfl
  rw [List.getElem?_eq_getElem (by omega : 6 < xs.length)] at h6
  have h7 : DataW.trod enc Try.prog w base spare held n 31 ([c6, c7, c8, c9, c10, c11, c12, c13]) = some xs[6] := h6
  obtain ⟨ys, m, -, -, -, hyl, hy⟩ := DataW.trod_array Try.underlying31 h7
  obtain ⟨n0, rfl, v0⟩ := cell_int (off := 0) (cs := [c6, c7, c8, c9, c10, c11, c12, c13]) (List.getElem?_eq_getElem (by omega : 0 < ys.length)) rfl (by have := hy 0 (by omega); rw [cells_int'] at this ⊢; exact this)
  obtain ⟨n1, rfl, v1⟩ := cell_int (off := 1) (cs := [.int .i64 n0, c7, c8, c9, c10, c11, c12, c13]) (List.getElem?_eq_getElem (by omega : 1 < ys.length)) rfl (by have := hy 1 (by omega); rw [cells_int'] at this ⊢; exact this)
  obtain ⟨n2, rfl, v2⟩ := cell_int (off := 2) (cs := [.int .i64 n0, .int .i64 n1, c8, c9, c10, c11, c12, c13]) (List.getElem?_eq_getElem (by omega : 2 < ys.length)) rfl (by have := hy 2 (by omega); rw [cells_int'] at this ⊢; exact this)
  obtain ⟨n3, rfl, v3⟩ := cell_int (off := 3) (cs := [.int .i64 n0, .int .i64 n1, .int .i64 n2, c9, c10, c11, c12, c13]) (List.getElem?_eq_getElem (by omega : 3 < ys.length)) rfl (by have := hy 3 (by omega); rw [cells_int'] at this ⊢; exact this)
  obtain ⟨n4, rfl, v4⟩ := cell_int (off := 4) (cs := [.int .i64 n0, .int .i64 n1, .int .i64 n2, .int .i64 n3, c10, c11, c12, c13]) (List.getElem?_eq_getElem (by omega : 4 < ys.length)) rfl (by have := hy 4 (by omega); rw [cells_int'] at this ⊢; exact this)
  obtain ⟨n5, rfl, v5⟩ := cell_int (off := 5) (cs := [.int .i64 n0, .int .i64 n1, .int .i64 n2, .int .i64 n3, .int .i64 n4, c11, c12, c13]) (List.getElem?_eq_getElem (by omega : 5 < ys.length)) rfl (by have := hy 5 (by omega); rw [cells_int'] at this ⊢; exact this)
  obtain ⟨n6, rfl, v6⟩ := cell_int (off := 6) (cs := [.int .i64 n0, .int .i64 n1, .int .i64 n2, .int .i64 n3, .int .i64 n4, .int .i64 n5, c12, c13]) (List.getElem?_eq_getElem (by omega : 6 < ys.length)) rfl (by have := hy 6 (by omega); rw [cells_int'] at this ⊢; exact this)
  obtain ⟨n7, rfl, v7⟩ := cell_int (off := 7) (cs := [.int .i64 n0, .int .i64 n1, .int .i64 n2, .int .i64 n3, .int .i64 n4, .int .i64 n5, .int .i64 n6, c13]) (List.getElem?_eq_getElem (by omega : 7 < ys.length)) rfl (by have := hy 7 (by omega); rw [cells_int'] at this ⊢; exact this)
  exact ⟨⟨m0, m1, m2, m3, m4, m5, n0, n1, n2, n3, n4, n5, n6, n7⟩, rfl, fun k hk => by
    simp only [Rc.flds, List.mem_cons, List.not_mem_nil, or_false] at hk
    rcases hk with rfl | rfl | rfl | rfl | rfl | rfl | rfl | rfl | rfl | rfl | rfl | rfl | rfl | rfl <;> assumption⟩
theorem open_rec {fuel : Nat} {cs : List Value} {x : DataW H × List MemPlace} (h : DataW.trod enc Try.prog w base spare held fuel 33 cs = some x) (_ : Fit Try.prog 33 x.1) :
    ∃ r : Rc, cs = rcC r ∧ RcW r := open_cells h
end
end

section
open Go.RowKit Go.ChangeShapes Go.WideShapes Go.Deep

section
variable {H : Type} {enc : TypeId × Value → H} {w : World} {base : Nat} {spare : Nat → Bool} {held : Bool}

/-- Records that came in. -/
structure RecsIn (w : World) (A : Option Addr) (l : List Rc) (c : Nat) : Prop where
  rd : Rd w A (recs l)
  ok : ∀ r ∈ l, RcW r
  cap : l.length ≤ c
theorem open_recs {fuel : Nat} {cs : List Value} {x : DataW H × List MemPlace} (h : DataW.trod enc Try.prog w base spare held fuel 22 cs = some x) (hw : Fit Try.prog 22 x.1) :
    ∃ (A : Option Addr) (l : List Rc) (c : Nat), cs = [.slice A l.length c] ∧ RecsIn w A l c := by
  obtain ⟨A, l, c, rfl, hr, hok, -⟩ := open_rows rcC 14 112 RcW Try.underlying22 (by kernel_rfl) (by omega) (fun _ => rfl) (by kernel_rfl)
    (fun n cs x h _ => open_cells h) h hw
  exact ⟨A, l, c, rfl, hr, hok, cap_le Try.underlying22 h⟩
end
end

section
open Go.RowKit Go.ChangeShapes Go.WideShapes Go.Deep

/-- What Write is given. -/
structure Nt where
  tab : Int
  hour : Int
  sign : Int
  fld : Int
  val : Int
def ntC (n : Nt) : List Value := [.int .i64 n.tab, .int .i64 n.hour, .int .i64 n.sign, .int .i64 n.fld, .int .i64 n.val]
def nts (l : List Nt) : List Value := l.flatMap ntC
def NtW (n : Nt) : Prop := I64 n.tab ∧ I64 n.hour ∧ I64 n.sign ∧ I64 n.fld ∧ I64 n.val
theorem nts_ne {l : List Nt} {k : Nat} (h : k < l.length) : nts l ≠ [] := flat_ne (f := ntC) (K := 5) (fun _ => rfl) (by omega) h
theorem nts_cells {w : World} {b off : Nat} {l : List Nt} (h : ∀ j u, (nts l)[j]? = some u → w.cell? ⟨b, off + j, none⟩ = some u) {k : Nat} (hk : k < l.length) {x : Nt} (hx : l[k]'hk = x) :
    w.cell? ⟨b, off + k * 5, none⟩ = some (.int .i64 x.tab) ∧ w.cell? ⟨b, off + k * 5 + 1, none⟩ = some (.int .i64 x.hour) ∧ w.cell? ⟨b, off + k * 5 + 2, none⟩ = some (.int .i64 x.sign) ∧ w.cell? ⟨b, off + k * 5 + 3, none⟩ = some (.int .i64 x.fld) ∧ w.cell? ⟨b, off + k * 5 + 4, none⟩ = some (.int .i64 x.val) := by
  have e : ∀ j, j < 5 → (nts l)[k * 5 + j]? = (ntC x)[j]? := fun j hj => by rw [← hx]; exact flat_at (f := ntC) (K := 5) (fun _ => rfl) l k j hk hj
  have h0 := h (k * 5) _ (e 0 (by omega))
  have h1 := h (k * 5 + 1) _ (e 1 (by omega))
  have h2 := h (k * 5 + 2) _ (e 2 (by omega))
  have h3 := h (k * 5 + 3) _ (e 3 (by omega))
  have h4 := h (k * 5 + 4) _ (e 4 (by omega))
  exact ⟨h0, by rw [Nat.add_assoc]; exact h1, by rw [Nat.add_assoc]; exact h2, by rw [Nat.add_assoc]; exact h3, by rw [Nat.add_assoc]; exact h4⟩

section
variable {H : Type} {enc : TypeId × Value → H} {w : World} {base : Nat} {spare : Nat → Bool} {held : Bool}

theorem cells5 {l : List Value} (h : l.length = 5) : ∃ c0 c1 c2 c3 c4, l = [c0, c1, c2, c3, c4] := by
  match l, h with
  | [a, b, c, d, e], _ => exact ⟨a, b, c, d, e, rfl⟩
theorem open_note {fuel : Nat} {cs : List Value} {x : DataW H × List MemPlace} (h : DataW.trod enc Try.prog w base spare held fuel 30 cs = some x) : ∃ n : Nt, cs = ntC n ∧ NtW n := by
  obtain ⟨xs, n, -, rfl, hlen, hxl, hg⟩ := DataW.trod_struct Try.underlying30 h
  rw [show Try.prog.cellsOf 30 = 5 by kernel_rfl] at hlen
  have hxl : xs.length = 5 := hxl
  obtain ⟨c0, c1, c2, c3, c4, rfl⟩ := cells5 hlen
  obtain ⟨m0, rfl, w0⟩ := cell_int (off := 0) (List.getElem?_eq_getElem (by omega : 0 < xs.length)) rfl (hg 0 _ rfl)
  obtain ⟨m1, rfl, w1⟩ := cell_int (off := 1) (List.getElem?_eq_getElem (by omega : 1 < xs.length)) rfl (hg 1 _ rfl)
  obtain ⟨m2, rfl, w2⟩ := cell_int (off := 2) (List.getElem?_eq_getElem (by omega : 2 < xs.length)) rfl (hg 2 _ rfl)
  obtain ⟨m3, rfl, w3⟩ := cell_int (off := 3) (List.getElem?_eq_getElem (by omega : 3 < xs.length)) rfl (hg 3 _ rfl)
  obtain ⟨m4, rfl, w4⟩ := cell_int (off := 4) (List.getElem?_eq_getElem (by omega : 4 < xs.length)) rfl (hg 4 _ rfl)
  exact ⟨⟨m0, m1, m2, m3, m4⟩, rfl, w0, w1, w2, w3, w4⟩
/-- Notes that came in. -/
structure NtsIn (w : World) (A : Option Addr) (l : List Nt) (c : Nat) : Prop where
  rd : Rd w A (nts l)
  ok : ∀ n ∈ l, NtW n
  cap : l.length ≤ c
theorem open_notes {fuel : Nat} {cs : List Value} {x : DataW H × List MemPlace} (h : DataW.trod enc Try.prog w base spare held fuel 23 cs = some x) (hw : Fit Try.prog 23 x.1) :
    ∃ (A : Option Addr) (l : List Nt) (c : Nat), cs = [.slice A l.length c] ∧ NtsIn w A l c := by
  obtain ⟨A, l, c, rfl, hr, hok, -⟩ := open_rows ntC 5 40 NtW Try.underlying23 (by kernel_rfl) (by omega) (fun _ => rfl) (by kernel_rfl)
    (fun n cs x h _ => open_note h) h hw
  exact ⟨A, l, c, rfl, hr, hok, cap_le Try.underlying23 h⟩
end
end

end Go.Proofs.Ytegghimjmbgghaa
