/-
  Slices of bytes cut.
-/
import Derived.Test.YtegghimjmbgghaaGreatBkBc
set_option linter.unusedSimpArgs false
set_option linter.unusedVariables false
namespace Go.Proofs.YtegghimjmbgghaaGreat
open Go.RowKit Go.Shelf

def cutA (A : Option Addr) (c a : Nat) : Option Addr := if c = a then A else A.map (·.add a)
theorem cutA_zero (A : Option Addr) (c : Nat) : cutA A c 0 = A := by
  unfold cutA
  split
  · rfl
  · cases A <;> rfl
theorem rd_cut {w : World} {A : Option Addr} {l : List UInt8} {c a : Nat} (h : Rd w A (bys l)) (hc : l.length ≤ c) : Rd w (cutA A c a) (bys (l.drop a)) := by
  have h2 := h.cut a 1 c (fun hk e => by simp [bys] at hk; omega)
  rw [Nat.mul_one] at h2
  have e : (bys l).drop a = bys (l.drop a) := by simp [bys, List.map_drop]
  rw [e] at h2
  exact h2
theorem rd_takeB {w : World} {A : Option Addr} {l : List UInt8} (h : Rd w A (bys l)) (k : Nat) : Rd w A (bys (l.take k)) := by
  have h2 := h.take k
  have e : (bys l).take k = bys (l.take k) := by simp [bys, List.map_take]
  rwa [e] at h2
set_option maxRecDepth 100000 in
theorem slice_lh (A : Option Addr) (n c a b : Nat) (hab : a ≤ b) (hb : b ≤ c) (ai bi : Int) (h1 : ai = (a : Int)) (h2 : bi = (b : Int)) (w : World) :
    (Instr.slice 52 (.slice A n c) (some (.int .i64 ai)) (some (.int .i64 bi)) none).run Tryz.prog w = .ok (.slice (cutA A c a) (b - a) (c - a)) w := by
  subst h1 h2
  rw [run_slice_lh (P := Tryz.prog) w 52 A n c (by kernel_rfl) .i64 .i64 (a : Int) (b : Int) (by omega) (by omega) (by omega)]
  have e1 : (a : Int).toNat = a := by omega
  have e2 : (b : Int).toNat = b := by omega
  rw [e1, e2]
  show Result.ok (sliced _ _ _ _ 1) w = _
  simp only [sliced, Nat.mul_one, cutA]
set_option maxRecDepth 100000 in
theorem slice_h (A : Option Addr) (n c b : Nat) (hb : b ≤ c) (bi : Int) (h2 : bi = (b : Int)) (w : World) :
    (Instr.slice 52 (.slice A n c) none (some (.int .i64 bi)) none).run Tryz.prog w = .ok (.slice A b c) w := by
  subst h2
  rw [run_slice_h (P := Tryz.prog) w 52 A n c (by kernel_rfl) .i64 (b : Int) (by omega) (by omega)]
  have e2 : (b : Int).toNat = b := by omega
  rw [e2]
  show Result.ok (sliced _ _ _ _ 1) w = _
  have e := cutA_zero A c
  simp only [cutA] at e
  simp only [sliced, Nat.mul_one, Nat.sub_zero, e]
set_option maxRecDepth 100000 in
theorem slice_l (A : Option Addr) (n c a : Nat) (ha : a ≤ n) (hn : n ≤ c) (ai : Int) (h1 : ai = (a : Int)) (w : World) :
    (Instr.slice 52 (.slice A n c) (some (.int .i64 ai)) none none).run Tryz.prog w = .ok (.slice (cutA A c a) (n - a) (c - a)) w := by
  subst h1
  rw [run_slice_l (P := Tryz.prog) w 52 A n c (by kernel_rfl) .i64 (a : Int) (by omega) (by omega)]
  have e1 : (a : Int).toNat = a := by omega
  rw [e1]
  show Result.ok (sliced _ _ _ _ 1) w = _
  simp only [sliced, Nat.mul_one, cutA]

end Go.Proofs.YtegghimjmbgghaaGreat
