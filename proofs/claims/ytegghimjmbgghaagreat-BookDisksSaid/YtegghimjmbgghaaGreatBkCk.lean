/-
  Checksums, of both packages.
-/
import Derived.Test.YtegghimjmbgghaaGreatBkLp
set_option linter.unusedSimpArgs false
set_option linter.unusedVariables false
namespace Go.Proofs.YtegghimjmbgghaaGreat
open Go.RowKit Go.Shelf

theorem wrap_u32 {x : Int} (h0 : 0 ≤ x) (h1 : x < 4294967296) : IntKind.u32.wrap x = x := by simp [IntKind.wrap, IntKind.signed, IntKind.bits]; omega
theorem bv_u32 {a : Nat} (ha : a < 4294967296) : (BitVec.ofInt 32 (a : Int)).toNat = a := by
  rw [BitVec.toNat_ofInt]
  omega
theorem xor_u32 {a b : Nat} (ha : a < 4294967296) (hb : b < 4294967296) : bits BinOp.xor IntKind.u32 (a : Int) (b : Int) = ((a ^^^ b : Nat) : Int) := by
  change IntKind.u32.wrap (((BitVec.ofInt 32 (a : Int) ^^^ BitVec.ofInt 32 (b : Int)).toNat : Nat) : Int) = _
  have hx := xor_lt ha hb
  rw [BitVec.toNat_xor, bv_u32 ha, bv_u32 hb, wrap_u32 (by omega) (by omega)]
theorem and1_u32 {a : Nat} (ha : a < 4294967296) : bits BinOp.and IntKind.u32 (a : Int) 1 = ((a % 2 : Nat) : Int) := by
  change IntKind.u32.wrap (((BitVec.ofInt 32 (a : Int) &&& BitVec.ofInt 32 ((1 : Nat) : Int)).toNat : Nat) : Int) = _
  rw [BitVec.toNat_and, bv_u32 ha, bv_u32 (by omega), Nat.and_one_is_mod, wrap_u32 (by omega) (by omega)]

set_option maxHeartbeats 4000000 in
set_option maxRecDepth 100000 in
theorem checksum_calls (l : List UInt8) (A : Option Addr) (c : Nat) (w : World) (hrd : Rd w A (bys l)) (hl : l.length ≤ 1000000) :
    Calls Tryz.prog 105 #[.slice A l.length c] w fun e w' => e = .returned (.int .u32 (crcL l : Nat)) ∧ w = w' := by
  have HR := hid hrd
  have HL := hid hl
  clear hrd hl
  go_enter Tryz.func105, Tryz.ntmps105
  go_upto_region 3 with (fail)
  go_loopw [9, 3] (fun iv cv wr => ∃ k : Nat, k ≤ l.length ∧ iv = .int .i64 k ∧ cv = .int .u32 (crcG (l.take k) : Nat) ∧ w = wr) (fun iv _ _ => l.length - (intOf iv).toNat)
  case atStart => exact ⟨0, Nat.zero_le _, rfl, rfl, rfl⟩
  case round =>
    obtain ⟨k, hk, rfl, rfl, rfl⟩ := hrel
    have hl8 : (l.length : Int) ≤ 1000000 := by have := unhid HL; omega
    by_cases hlt : k < l.length
    · have hki : (k : Int) < (l.length : Int) := by omega
      obtain ⟨b, off, hAe, hbl, hc⟩ := (unhid HR) (bys_ne hlt)
      subst hAe
      obtain ⟨x, hx⟩ : ∃ x, l[k] = x := ⟨_, rfl⟩
      have hck := hc k _ (bys_at hlt)
      rw [hx] at hck
      have HN := hid (show crcG (l.take (k + 1)) = crcK 8 (crcG (l.take k) ^^^ x.toNat) from by rw [crcG_take hlt, hx]; rfl)
      have hxl : x.toNat < 256 := x.toNat_lt
      have HG := hid (crcG_lt (l.take k))
      have hxor := xor_u32 (unhid HG) (show x.toNat < 4294967296 by omega)
      have hwx : IntKind.u32.wrap (x.toNat : Int) = (x.toNat : Int) := wrap_u32 (by omega) (by omega)
      obtain ⟨z, hz⟩ : ∃ z, z = crcG (l.take k) ^^^ x.toNat := ⟨_, rfl⟩
      have HZ := hid (show z < 4294967296 from by rw [hz]; exact xor_lt (unhid HG) (by omega))
      rw [← hz] at hxor HN
      clear hc hx hz
      go_upto_region 7 with (fail)
      clear hxor hwx hck hxl hbl
      go_loopw [17, 3] (fun iv cv wr => ∃ i : Nat, i ≤ 8 ∧ iv = .int .i64 i ∧ cv = .int .u32 (crcK i z : Nat) ∧ w = wr) (fun iv _ _ => 8 - (intOf iv).toNat)
      case atStart => exact ⟨0, Nat.zero_le _, rfl, rfl, rfl⟩
      case round =>
        obtain ⟨i, hi, rfl, rfl, rfl⟩ := hrel
        by_cases hi8 : i < 8
        · have hii : (i : Int) < 8 := by omega
          obtain ⟨q, hq⟩ : ∃ q, q = crcK i z := ⟨_, rfl⟩
          have HQ := hid (show q < 4294967296 from by rw [hq]; exact crcK_lt (unhid HZ) i)
          have HS := hid (show crcK (i + 1) z = crc1 q from by rw [hq]; rfl)
          rw [← hq]
          clear hq
          have hand := and1_u32 (unhid HQ)
          have hql : (q : Int) < 4294967296 := by have := unhid HQ; omega
          rcases Nat.mod_two_eq_zero_or_one q with hm | hm
          · rw [hm] at hand
            have HC := hid (show ((q : Int) / 2) = ((crc1 q : Nat) : Int) from by unfold crc1; rw [if_neg (by omega)]; omega)
            clear hm
            go_wp2_with fail
            go_roundw
            case rel => exact ⟨i + 1, by omega, by go_num, by rw [unhid HS, ← unhid HC], by first | rfl | trivial⟩
            case measure => simp [intOf]; omega
          · rw [hm] at hand
            have hx2 : bits BinOp.xor IntKind.u32 ((q : Int) / 2) 3988292384 = ((crc1 q : Nat) : Int) := by
              have h1 := xor_u32 (a := q / 2) (b := 3988292384) (by have := unhid HQ; omega) (by omega)
              unfold crc1
              rw [if_pos hm, ← h1]
              congr 1
            clear hm
            go_wp2_with fail
            go_roundw
            case rel => exact ⟨i + 1, by omega, by go_num, by rw [unhid HS], by first | rfl | trivial⟩
            case measure => simp [intOf]; omega
        · obtain rfl : i = 8 := by omega
          rw [← unhid HN]
          go_wp2_with fail
          go_roundw
          case rel => exact ⟨k + 1, by omega, by go_num, rfl, by first | rfl | trivial⟩
          case measure => simp [intOf]; omega
    · obtain rfl : k = l.length := by omega
      have HG := hid (crcG_lt l)
      rw [List.take_length]
      have hend : bits BinOp.xor IntKind.u32 IntKind.u32.max ((crcG l : Nat) : Int) = ((crcL l : Nat) : Int) := by
        have h1 := xor_u32 (a := 4294967295) (b := crcG l) (by omega) (unhid HG)
        rw [Nat.xor_comm] at h1
        exact h1
      go_wp2_with fail
      go_ret
      exact ⟨rfl, rfl⟩

set_option maxHeartbeats 4000000 in
set_option maxRecDepth 100000 in
theorem rchecksum_calls (l : List UInt8) (A : Option Addr) (c : Nat) (w : World) (hrd : Rd w A (bys l)) (hl : l.length ≤ 1000000) :
    Calls Tryz.prog 109 #[.slice A l.length c] w fun e w' => e = .returned (.int .u32 (crcL l : Nat)) ∧ w = w' := by
  have HR := hid hrd
  have HL := hid hl
  clear hrd hl
  go_enter Tryz.func109, Tryz.ntmps109
  go_upto_region 3 with (fail)
  go_loopw [4, 3] (fun iv cv wr => ∃ k : Nat, k ≤ l.length ∧ iv = .int .i64 k ∧ cv = .int .u32 (crcG (l.take k) : Nat) ∧ w = wr) (fun iv _ _ => l.length - (intOf iv).toNat)
  case atStart => exact ⟨0, Nat.zero_le _, rfl, rfl, rfl⟩
  case round =>
    obtain ⟨k, hk, rfl, rfl, rfl⟩ := hrel
    have hl8 : (l.length : Int) ≤ 1000000 := by have := unhid HL; omega
    by_cases hlt : k < l.length
    · have hki : (k : Int) < (l.length : Int) := by omega
      obtain ⟨b, off, hAe, hbl, hc⟩ := (unhid HR) (bys_ne hlt)
      subst hAe
      obtain ⟨x, hx⟩ : ∃ x, l[k] = x := ⟨_, rfl⟩
      have hck := hc k _ (bys_at hlt)
      rw [hx] at hck
      have HN := hid (show crcG (l.take (k + 1)) = crcK 8 (crcG (l.take k) ^^^ x.toNat) from by rw [crcG_take hlt, hx]; rfl)
      have hxl : x.toNat < 256 := x.toNat_lt
      have HG := hid (crcG_lt (l.take k))
      have hxor := xor_u32 (unhid HG) (show x.toNat < 4294967296 by omega)
      have hwx : IntKind.u32.wrap (x.toNat : Int) = (x.toNat : Int) := wrap_u32 (by omega) (by omega)
      obtain ⟨z, hz⟩ : ∃ z, z = crcG (l.take k) ^^^ x.toNat := ⟨_, rfl⟩
      have HZ := hid (show z < 4294967296 from by rw [hz]; exact xor_lt (unhid HG) (by omega))
      rw [← hz] at hxor HN
      clear hc hx hz
      go_upto_region 7 with (fail)
      clear hxor hwx hck hxl hbl
      go_loopw [5, 3] (fun iv cv wr => ∃ i : Nat, i ≤ 8 ∧ iv = .int .i64 i ∧ cv = .int .u32 (crcK i z : Nat) ∧ w = wr) (fun iv _ _ => 8 - (intOf iv).toNat)
      case atStart => exact ⟨0, Nat.zero_le _, rfl, rfl, rfl⟩
      case round =>
        obtain ⟨i, hi, rfl, rfl, rfl⟩ := hrel
        by_cases hi8 : i < 8
        · have hii : (i : Int) < 8 := by omega
          obtain ⟨q, hq⟩ : ∃ q, q = crcK i z := ⟨_, rfl⟩
          have HQ := hid (show q < 4294967296 from by rw [hq]; exact crcK_lt (unhid HZ) i)
          have HS := hid (show crcK (i + 1) z = crc1 q from by rw [hq]; rfl)
          rw [← hq]
          clear hq
          have hand := and1_u32 (unhid HQ)
          have hql : (q : Int) < 4294967296 := by have := unhid HQ; omega
          rcases Nat.mod_two_eq_zero_or_one q with hm | hm
          · rw [hm] at hand
            have HC := hid (show ((q : Int) / 2) = ((crc1 q : Nat) : Int) from by unfold crc1; rw [if_neg (by omega)]; omega)
            clear hm
            go_wp2_with fail
            go_roundw
            case rel => exact ⟨i + 1, by omega, by go_num, by rw [unhid HS, ← unhid HC], by first | rfl | trivial⟩
            case measure => simp [intOf]; omega
          · rw [hm] at hand
            have hx2 : bits BinOp.xor IntKind.u32 ((q : Int) / 2) 3988292384 = ((crc1 q : Nat) : Int) := by
              have h1 := xor_u32 (a := q / 2) (b := 3988292384) (by have := unhid HQ; omega) (by omega)
              unfold crc1
              rw [if_pos hm, ← h1]
              congr 1
            clear hm
            go_wp2_with fail
            go_roundw
            case rel => exact ⟨i + 1, by omega, by go_num, by rw [unhid HS], by first | rfl | trivial⟩
            case measure => simp [intOf]; omega
        · obtain rfl : i = 8 := by omega
          rw [← unhid HN]
          go_wp2_with fail
          go_roundw
          case rel => exact ⟨k + 1, by omega, by go_num, rfl, by first | rfl | trivial⟩
          case measure => simp [intOf]; omega
    · obtain rfl : k = l.length := by omega
      have HG := hid (crcG_lt l)
      rw [List.take_length]
      have hend : bits BinOp.xor IntKind.u32 IntKind.u32.max ((crcG l : Nat) : Int) = ((crcL l : Nat) : Int) := by
        have h1 := xor_u32 (a := 4294967295) (b := crcG l) (by omega) (unhid HG)
        rw [Nat.xor_comm] at h1
        exact h1
      go_wp2_with fail
      go_ret
      exact ⟨rfl, rfl⟩

end Go.Proofs.YtegghimjmbgghaaGreat
