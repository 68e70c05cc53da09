/-
  Numbers out of bytes: read of the program, whole of the reference.
-/
import Derived.Test.YtegghimjmbgghaaGreatBkX
import Derived.Test.YtegghimjmbgghaaGreatBkY
set_option linter.unusedSimpArgs false
set_option linter.unusedVariables false
namespace Go.Proofs.YtegghimjmbgghaaGreat
open Go.RowKit Go.Shelf

/-! ### Plain -/
def bys (l : List UInt8) : List Value := l.map fun x => .int .u8 (x.toNat : Int)
@[simp] theorem bys_len (l : List UInt8) : (bys l).length = l.length := by simp [bys]
theorem bys_at {l : List UInt8} {k : Nat} (h : k < l.length) : (bys l)[k]? = some (.int .u8 (l[k].toNat : Int)) := by simp [bys, h]
theorem bys_ne {l : List UInt8} {k : Nat} (h : k < l.length) : bys l ≠ [] := fun e => by
  have := bys_len l
  rw [e] at this
  simp at this; omega
def numV (l : List UInt8) : Nat := l.foldl (fun n x => n * 256 + x.toNat) 0
theorem numV_snoc (l : List UInt8) (x : UInt8) : numV (l ++ [x]) = numV l * 256 + x.toNat := by simp [numV]
theorem numV_take {l : List UInt8} {k : Nat} (h : k < l.length) : numV (l.take (k + 1)) = numV (l.take k) * 256 + l[k].toNat := by
  rw [List.take_succ_eq_append_getElem h, numV_snoc]
theorem numV_foldl : ∀ (l : List UInt8) (a : Nat), l.foldl (fun n x => n * 256 + x.toNat) a = a * 256 ^ l.length + numV l
  | [], a => by simp [numV]
  | x :: l, a => by
    have h1 := numV_foldl l (a * 256 + x.toNat)
    have h2 := numV_foldl l (0 * 256 + x.toNat)
    unfold numV at *
    simp only [List.foldl_cons, List.length_cons, Nat.pow_succ] at *
    rw [h1, h2]
    rw [Nat.add_mul, Nat.zero_mul, Nat.zero_add, Nat.mul_assoc, Nat.mul_comm 256]
    omega
theorem numV_cons (x : UInt8) (l : List UInt8) : numV (x :: l) = x.toNat * 256 ^ l.length + numV l := by
  have := numV_foldl l x.toNat
  unfold numV at *
  simpa using this
theorem numV_lt : ∀ l : List UInt8, numV l < 256 ^ l.length
  | [] => by simp [numV]
  | x :: l => by
    rw [numV_cons, List.length_cons, Nat.pow_succ]
    have h1 := numV_lt l
    have h2 : x.toNat < 256 := x.toNat_lt
    have h3 : x.toNat * 256 ^ l.length + 256 ^ l.length ≤ 256 * 256 ^ l.length := by
      rw [← Nat.succ_mul]; exact Nat.mul_le_mul_right _ h2
    rw [Nat.mul_comm (256 ^ l.length)]
    omega
theorem numV_append (l m : List UInt8) : numV (l ++ m) = numV l * 256 ^ m.length + numV m := by
  unfold numV
  rw [List.foldl_append]
  exact numV_foldl m _
theorem numV_take_le (l : List UInt8) (k : Nat) : numV (l.take k) * 256 ^ (l.length - k) ≤ numV l := by
  have h := numV_append (l.take k) (l.drop k)
  rw [List.take_append_drop, List.length_drop] at h
  omega
theorem numV_take_lt {l : List UInt8} {k : Nat} (h : k < l.length) {M : Nat} (hM : numV l < M) : numV (l.take k) * 256 < M := by
  have h1 := numV_take_le l k
  have h2 : 256 ^ 1 ≤ 256 ^ (l.length - k) := Nat.pow_le_pow_right (by omega) (by omega)
  have h3 := Nat.mul_le_mul_left (numV (l.take k)) h2
  omega
theorem wrap_u64 {x : Int} (h0 : 0 ≤ x) (h1 : x < 2 ^ 64) : IntKind.u64.wrap x = x := by simp [IntKind.wrap, IntKind.signed, IntKind.bits]; omega
theorem wrap_i64 {x : Int} (h0 : 0 ≤ x) (h1 : x < 2 ^ 63) : wrap64 x = x := by unfold wrap64; omega
theorem wrap_k64 {x : Int} (h0 : 0 ≤ x) (h1 : x < 2 ^ 63) : IntKind.i64.wrap x = x := by
  have e : x % 18446744073709551616 = x := by omega
  simp [IntKind.wrap, IntKind.signed, IntKind.bits, e]; omega
theorem or_byte (n : Nat) (x : Nat) (hx : x < 256) (hn : n * 256 + x < 2 ^ 64) : (BitVec.ofInt 64 ((n : Int) * 256) ||| BitVec.ofInt 64 (x : Int)).toNat = n * 256 + x := by
  rw [BitVec.toNat_or]
  have e1 : (BitVec.ofInt 64 ((n : Int) * 256)).toNat = n * 256 := by
    rw [show ((n : Int) * 256) = ((n * 256 : Nat) : Int) by omega, BitVec.toNat_ofInt]
    omega
  have e2 : (BitVec.ofInt 64 (x : Int)).toNat = x := by
    rw [BitVec.toNat_ofInt]
    omega
  rw [e1, e2]
  have := Nat.shiftLeft_add_eq_or_of_lt (b := x) (i := 8) hx n
  rw [Nat.shiftLeft_eq] at this
  exact this.symm
theorem or_u64 (n x : Nat) (hx : x < 256) (hn : n * 256 + x < 2 ^ 64) : bits BinOp.or IntKind.u64 ((n : Int) * 256) (x : Int) = ((n * 256 + x : Nat) : Int) := by
  have h := or_byte n x hx hn
  change IntKind.u64.wrap (((BitVec.ofInt 64 ((n : Int) * 256) ||| BitVec.ofInt 64 (x : Int)).toNat : Nat) : Int) = _
  rw [h, wrap_u64 (by omega) (by omega)]
theorem or_i64 (n x : Nat) (hx : x < 256) (hn : n * 256 + x < 2 ^ 63) : bits BinOp.or IntKind.i64 ((n : Int) * 256) (x : Int) = ((n * 256 + x : Nat) : Int) := by
  have h := or_byte n x hx (by omega)
  change IntKind.i64.wrap (((BitVec.ofInt 64 ((n : Int) * 256) ||| BitVec.ofInt 64 (x : Int)).toNat : Nat) : Int) = _
  rw [h, wrap_k64 (by omega) (by omega)]

set_option maxHeartbeats 4000000 in
set_option maxRecDepth 100000 in
theorem read_calls (l : List UInt8) (A : Option Addr) (c : Nat) (w : World) (hrd : Rd w A (bys l)) (hl : l.length ≤ 8) :
    Calls Tryz.prog 104 #[.slice A l.length c] w fun e w' => e = .returned (.int .u64 (numV l : Int)) ∧ w = w' := by
  have HR := hid hrd
  have HL := hid hl
  have HM := hid (show numV l < 2 ^ 64 from by
    have h1 := numV_lt l
    have h2 : 256 ^ l.length ≤ 256 ^ 8 := Nat.pow_le_pow_right (by omega) hl
    omega)
  clear hrd hl
  go_enter Tryz.func104, Tryz.ntmps104
  go_upto_region 2 with (fail)
  go_loopw [7, 2] (fun iv nv wr => ∃ k : Nat, k ≤ l.length ∧ iv = .int .i64 k ∧ nv = .int .u64 (numV (l.take k) : Int) ∧ w = wr) (fun iv _ _ => l.length - (intOf iv).toNat)
  case atStart => exact ⟨0, Nat.zero_le _, rfl, by simp [numV], rfl⟩
  case round =>
    obtain ⟨k, hk, rfl, rfl, rfl⟩ := hrel
    by_cases hlt : k < l.length
    · have hki : (k : Int) < (l.length : Int) := by omega
      obtain ⟨b, off, hAe, hbl, hc⟩ := (unhid HR) (bys_ne hlt)
      subst hAe
      have hck := hc k _ (bys_at hlt)
      clear hc
      have hx := l[k].toNat_lt
      have hn := numV_take_lt hlt (unhid HM)
      have hor := or_u64 (numV (l.take k)) l[k].toNat hx (by omega)
      have hnt := numV_take hlt
      have hl8 := unhid HL
      go_wp2_with fail
      go_roundw
      case rel => exact ⟨k + 1, by omega, by go_num, by rw [hnt]; simp, trivial⟩
      case measure => simp [intOf]; omega
    · obtain rfl : k = l.length := by omega
      go_wp2_with fail
      go_ret
      exact ⟨by simp, rfl⟩

set_option maxHeartbeats 4000000 in
set_option maxRecDepth 100000 in
theorem whole_calls (l : List UInt8) (A : Option Addr) (c : Nat) (w : World) (hrd : Rd w A (bys l)) (hl : numV l < 2 ^ 63) (hl2 : l.length ≤ 200) :
    Calls Tryz.prog 106 #[.slice A l.length c] w fun e w' => e = .returned (.int .i64 (numV l : Int)) ∧ w = w' := by
  have HR := hid hrd
  have HM := hid hl
  have HL := hid hl2
  clear hrd hl hl2
  go_enter Tryz.func106, Tryz.ntmps106
  go_upto_region 3 with (fail)
  go_loopw [4, 3] (fun iv nv wr => ∃ k : Nat, k ≤ l.length ∧ iv = .int .i64 k ∧ nv = .int .i64 (numV (l.take k) : Int) ∧ w = wr) (fun iv _ _ => l.length - (intOf iv).toNat)
  case atStart => exact ⟨0, Nat.zero_le _, rfl, by simp [numV], rfl⟩
  case round =>
    obtain ⟨k, hk, rfl, rfl, rfl⟩ := hrel
    by_cases hlt : k < l.length
    · have hki : (k : Int) < (l.length : Int) := by omega
      obtain ⟨b, off, hAe, hbl, hc⟩ := (unhid HR) (bys_ne hlt)
      subst hAe
      have hck := hc k _ (bys_at hlt)
      clear hc
      have hx := l[k].toNat_lt
      have hn := numV_take_lt hlt (unhid HM)
      have hor := or_i64 (numV (l.take k)) l[k].toNat hx (by omega)
      have hnt := numV_take hlt
      have hl8 := unhid HL
      go_wp2_with fail
      go_roundw
      case rel => exact ⟨k + 1, by omega, by go_num, by rw [hnt]; simp, trivial⟩
      case measure => simp [intOf]; omega
    · obtain rfl : k = l.length := by omega
      go_wp2_with fail
      go_ret
      exact ⟨by simp, rfl⟩

end Go.Proofs.YtegghimjmbgghaaGreat
