/-
  The reference's book; the prefix of a tablet.
-/
import Derived.Test.YtegghimjmbgghaaGreatBkI
import Derived.Test.YtegghimjmbgghaaGreatBkS
set_option linter.unusedSimpArgs false
set_option linter.unusedVariables false
namespace Go.Proofs.YtegghimjmbgghaaGreat
open Go.RowKit Go.Shelf

def boolsV (C : List Bool) : List Value := C.map Value.bool
/-- The reference's book: its records and which of them count. -/
structure RBk (w : World) (B : Nat) (L : List Rc) (C : List Bool) (A : Option Addr) (c : Nat) (A2 : Option Addr) (c2 : Nat) : Prop where
  b : w.heap[B]? = some (.cells #[.slice A L.length c, .slice A2 C.length c2] 36 (0, 0))
  l : Rd w A (recs L)
  n : Rd w A2 (boolsV C)
theorem RBk.cell0 {w : World} {B : Nat} {L : List Rc} {C : List Bool} {A A2 : Option Addr} {c c2 : Nat} (h : RBk w B L C A c A2 c2) : w.cell? ⟨B, 0, none⟩ = some (.slice A L.length c) := cell_of_row _ B 0 _ _ _ h.b
theorem RBk.cell1 {w : World} {B : Nat} {L : List Rc} {C : List Bool} {A A2 : Option Addr} {c c2 : Nat} (h : RBk w B L C A c A2 c2) : w.cell? ⟨B, 1, none⟩ = some (.slice A2 C.length c2) := cell_of_row _ B 1 _ _ _ h.b
theorem RBk.below {w w' : World} {B : Nat} {L : List Rc} {C : List Bool} {A A2 : Option Addr} {c c2 : Nat} (h : RBk w B L C A c A2 c2) (hb : Below w.heap.size w w') : RBk w' B L C A c A2 c2 :=
  ⟨(hb.block B (Array.getElem?_eq_some_iff.1 h.b).1).trans h.b, h.l.below hb, h.n.below hb⟩

set_option maxHeartbeats 8000000 in
set_option maxRecDepth 100000 in
theorem prefix_calls {B : Nat} {L : List Rc} {C : List Bool} {A A2 : Option Addr} {c c2 : Nat} (t : Nat) (ti : Int) (hti : ti = (t : Int) + 1) (w : World) (h : RBk w B L C A c A2 c2) (hC : C.length = L.length) (hv : ∀ r ∈ L, rcB r = true) (hL : L.length ≤ 1000000) :
    Calls Tryz.prog 116 #[.pointer (some ⟨B, 0, none⟩), .int .i64 ti] w fun e w' => e = .returned (.int .i64 (pfx L C t L.length)) ∧ w = w' := by
  have HK := hid h
  have HV := hid hv
  have HLL := hid hL
  have HT := hid hti
  clear h hv hL hti
  go_enter Tryz.func116, Tryz.ntmps116
  have k0 := (unhid HK).cell0
  have k1 := (unhid HK).cell1
  go_upto_region 3 with (fail)
  go_loopw [6, 5] (fun iv nv wr => ∃ k : Nat, k ≤ L.length ∧ iv = .int .i64 k ∧ nv = .int .i64 (pfx L C t k) ∧ 0 ≤ pfx L C t k ∧ pfx L C t k ≤ k ∧ w = wr) (fun iv _ _ => L.length - (intOf iv).toNat)
  case atStart => exact ⟨0, Nat.zero_le _, rfl, rfl, by simp [pfx], by simp [pfx], rfl⟩
  case round =>
    obtain ⟨k, hk, rfl, rfl, hp0, hp1, rfl⟩ := hrel
    by_cases hlt : k < L.length
    · have hki : (k : Int) < (L.length : Int) := by omega
      have hkc : (k : Int) < (C.length : Int) := by omega
      have hlc : k < C.length := by omega
      obtain ⟨b, off, hAe, hbl, hc⟩ := (unhid HK).l (recs_ne hlt)
      subst hAe
      obtain ⟨x, hx⟩ : ∃ x, L[k] = x := ⟨_, rfl⟩
      obtain ⟨m0, m1, -⟩ := recs_cells hc hlt hx
      obtain ⟨b', off', hAe, hbl', hc'⟩ := (unhid HK).n (by
        intro e
        have : (boolsV C).length = C.length := by simp [boolsV]
        rw [e] at this
        simp at this; omega)
      subst hAe
      have n0 := hc' k (.bool C[k]) (by simp [boolsV, hlc])
      have HP := hid (pfx_succ (L := L) (C := C) (t := t) hlt hlc)
      have HXT := hid (show x.tb = t ↔ x.tab = ti from by
        have o := (rc_ok ((unhid HV) x (hx ▸ List.getElem_mem hlt))).tb
        have := unhid HT
        omega)
      obtain ⟨cb, hcb⟩ : ∃ cb, C[k] = cb := ⟨_, rfl⟩
      rw [hx, hcb] at HP
      rw [hcb] at n0
      obtain ⟨p, hp⟩ : ∃ p, pfx L C t k = p := ⟨_, rfl⟩
      rw [hp] at HP hp0 hp1 ⊢
      clear hc hc' hx hcb hp hbl hbl'
      have HN := hid (show pfx L C t (k + 1) = if x.tab = ti ∧ x.num = p + 1 ∧ cb = true then p + 1 else p from by
        rw [unhid HP]
        unfold pfxS
        simp only [(unhid HXT)])
      have hw1 : wrap64 (p + 1) = p + 1 := by have := unhid HLL; unfold wrap64; omega
      have HB1 := hid (show wrap64 ((k : Int) + 1) = ((k + 1 : Nat) : Int) from by have := unhid HLL; unfold wrap64; omega)
      by_cases e1 : x.tab = ti
      · have q1 : (x.tab == ti) = true := by simp [e1]
        by_cases e2 : x.num = p + 1
        · have q2 : (x.num == p + 1) = true := by simp [e2]
          cases cb with
          | true =>
            have HN2 := hid (show pfx L C t (k + 1) = p + 1 from by rw [unhid HN]; simp [e1, e2])
            go_wp2_with fail
            go_roundw
            case rel => exact ⟨k + 1, by omega, by rw [unhid HB1], by rw [unhid HN2, hw1], by rw [unhid HN2]; omega, by rw [unhid HN2]; omega, trivial⟩
            case measure => rw [unhid HB1]; simp [intOf]; omega
          | false =>
            have HN2 := hid (show pfx L C t (k + 1) = p from by rw [unhid HN]; simp)
            go_wp2_with fail
            go_roundw
            case rel => exact ⟨k + 1, by omega, by rw [unhid HB1], by rw [unhid HN2], by rw [unhid HN2]; omega, by rw [unhid HN2]; omega, trivial⟩
            case measure => rw [unhid HB1]; simp [intOf]; omega
        · have q2 : (x.num == p + 1) = false := by simp [e2]
          have HN2 := hid (show pfx L C t (k + 1) = p from by rw [unhid HN]; simp [e2])
          go_wp2_with fail
          go_roundw
          case rel => exact ⟨k + 1, by omega, by rw [unhid HB1], by rw [unhid HN2], by rw [unhid HN2]; omega, by rw [unhid HN2]; omega, trivial⟩
          case measure => rw [unhid HB1]; simp [intOf]; omega
      · have q1 : (x.tab == ti) = false := by simp [e1]
        have HN2 := hid (show pfx L C t (k + 1) = p from by rw [unhid HN]; simp [e1])
        go_wp2_with fail
        go_roundw
        case rel => exact ⟨k + 1, by omega, by rw [unhid HB1], by rw [unhid HN2], by rw [unhid HN2]; omega, by rw [unhid HN2]; omega, trivial⟩
        case measure => rw [unhid HB1]; simp [intOf]; omega
    · obtain rfl : k = L.length := by omega
      go_wp2_with fail
      go_ret
      exact ⟨rfl, rfl⟩

end Go.Proofs.YtegghimjmbgghaaGreat
