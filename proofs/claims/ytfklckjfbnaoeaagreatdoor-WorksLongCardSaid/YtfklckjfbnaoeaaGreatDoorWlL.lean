/-
  The law WorksLong.
-/
import Derived.Test.YtfklckjfbnaoeaaGreatDoorWoX
import Derived.Test.YtfklckjfbnaoeaaGreatDoorWpE
import Derived.Test.YtfklckjfbnaoeaaGreatDoorFcPf
set_option linter.unusedSimpArgs false
set_option linter.unusedVariables false
namespace Go.Proofs.YtfklckjfbnaoeaaGreatDoor
open Go.RowKit

set_option maxHeartbeats 4000000 in
set_option maxRecDepth 100000 in
theorem llong_calls (a b l0 l1 l2 s k0 k1 k2 k3 : Int) (txt : List UInt8) (n : Int) (w : World) (hg : Gl w) (hn : 0 ≤ n ∧ n ≤ 255) :
    Calls Tryz.prog 3 #[.agg #[.int .i64 a, .int .i64 b, .int .i64 l0, .int .i64 l1, .int .i64 l2, .int .i64 s, .int .i64 k0, .int .i64 k1, .int .i64 k2, .int .i64 k3], .string (SB txt), .int .u8 n] w fun e w' => e = .returned (.bool true) ∧ Below w.heap.size w w' := by
  have zsb := SB_size txt
  obtain ⟨i0, hi, hz0, hz1, hz2⟩ := info_parts info_str
  have HO := hid ((On.start hg).lay (.cells #[.int .i64 a, .int .i64 b, .int .i64 l0, .int .i64 l1, .int .i64 l2, .int .i64 s, .int .i64 k0, .int .i64 k1, .int .i64 k2, .int .i64 k3] 29))
  have HH := hid (heap_alloc_new w (.cells #[.int .i64 a, .int .i64 b, .int .i64 l0, .int .i64 l1, .int .i64 l2, .int .i64 s, .int .i64 k0, .int .i64 k1, .int .i64 k2, .int .i64 k3] 29))
  clear hg
  go_enter Tryz.func3, Tryz.ntmps3
  go_upto_region 1 with (fail)
  change Code.wp _ _ _ _ (w.alloc (.cells #[.int .i64 a, .int .i64 b, .int .i64 l0, .int .i64 l1, .int .i64 l2, .int .i64 s, .int .i64 k0, .int .i64 k1, .int .i64 k2, .int .i64 k3] 29))
  generalize w.alloc (.cells #[.int .i64 a, .int .i64 b, .int .i64 l0, .int .i64 l1, .int .i64 l2, .int .i64 s, .int .i64 k0, .int .i64 k1, .int .i64 k2, .int .i64 k3] 29) = W at *
  by_cases l1 : 40 < txt.length
  · have d1 : (40 : Int) < (txt.length : Int) := by omega
    go_wp2_with fail
    refine (unhid HO).awake.mono ?_
    rintro e w9 ⟨rfl, hb2⟩
    have HB2 := hid hb2
    clear hb2
    go_wp2_with fail
    go_ret
    exact ⟨rfl, unhid HB2⟩
  have d1 : ¬ (40 : Int) < (txt.length : Int) := by omega
  obtain ⟨nn, rfl⟩ : ∃ k : Nat, n = (k : Int) := ⟨n.toNat, by omega⟩
  obtain ⟨mx, hmx⟩ : ∃ k, k = 101 + nn % 4 := ⟨_, rfl⟩
  have hm1 : 101 ≤ mx ∧ mx ≤ 104 := by omega
  have HMX := hid hmx
  have HM1 := hid hm1
  clear hmx hm1 l1
  go_wp2_with fail
  clear d1
  go_loopw [8, 7] (fun iv tv wr => ∃ k : Nat, k ≤ mx ∧ iv = .int .i64 k ∧ wr.ownsRow W.heap.size 9 1 tv k (List.replicate k (.string (SB txt))) ∧ Below W.heap.size W wr) (fun iv _ _ => mx - (intOf iv).toNat)
  case atStart => exact ⟨0, Nat.zero_le _, rfl, World.ownsRow_nil _ _ _ _, Below.refl _ _⟩
  case round =>
    obtain ⟨k, hk, rfl, hown1, hbel⟩ := hrel
    have HR1 := hid hown1
    have HBEL := hid hbel
    clear hown1 hbel
    by_cases hlt : k < mx
    · have hkl : (k : Int) < 101 + ((nn % 4 : Nat) : Int) := by have := unhid HMX; omega
      obtain ⟨A4, c4, rfl, -, -⟩ := own_slice (unhid HR1)
      have hk104 : k ≤ 104 := by have := unhid HM1; omega
      go_wp2_with (at_builtin; refine wpList_append_own _ rfl _ _ 31 rfl W.heap.size 9 i0 (.string ByteArray.empty) 1 16 Tryz.underlying31 hi hz0 hz1 hz2 rfl (by decide) _ _ _ rfl ((unhid HR1).alloc _) ⟨wr.heap.size, 0, none⟩ 1 1 [.string (SB txt)] rfl rfl (by exact World.news_of_block (cs := #[.string (SB txt)]) (t := 9) (fr := (0, 0)) (by simpa using heap_alloc_new wr (.cells #[.string (SB txt)] 9))) ?a2 ?a3 ?a4 ?a5 ?_)
      case a2 => first | rfl | (intro u hu; simp at hu; subst hu; rfl)
      case a3 => unfold maxLen; omega
      case a4 => omega
      case a5 => have := (unhid HBEL).size; simp; omega
      intro v5 w5 hown5 hg5 _
      have hb5 := Below.grown ((unhid HBEL).alloc (unhid HBEL).size (.cells #[.string (SB txt)] 9)) hg5 (by have := (unhid HBEL).size; simp; omega) (fun q hq => by
        rcases Nat.lt_or_ge q W.heap.size with h | h
        · exact absurd hq (own_ne (unhid HR1) (Or.inl h))
        · exact h)
      have HBL5 := hid hb5
      have HR15 := hid hown5
      clear hb5 hown5 hg5
      go_wp2_with fail
      go_roundw
      case rel => exact ⟨k + 1, by omega, by go_num, by rw [List.replicate_succ']; exact unhid HR15, unhid HBL5⟩
      case measure => simp [intOf]; omega
    · obtain rfl : k = mx := by omega
      have hkl : ¬ (k : Int) < 101 + ((nn % 4 : Nat) : Int) := by have := unhid HMX; omega
      have hk101 := unhid HM1
      have HO := hid ((unhid HO).next (unhid HBEL))
      have hh := ((unhid HBEL).block _ (Array.getElem?_eq_some_iff.1 (unhid HH)).1).trans (unhid HH)
      obtain ⟨A4, c4, rfl, -, -⟩ := own_slice (unhid HR1)
      have HPL := hid (fun w => play_long a b l0 l1 l2 s k0 k1 k2 k3 A4 k c4 w (by omega))
      clear HR1 HBEL HH
      have s0 := cell_of_row _ w.heap.size 0 _ _ _ hh
      have s1 := cell_of_row _ w.heap.size 1 _ _ _ hh
      have s2 := cell_of_row _ w.heap.size 2 _ _ _ hh
      have s3 := cell_of_row _ w.heap.size 3 _ _ _ hh
      have s4 := cell_of_row _ w.heap.size 4 _ _ _ hh
      have s5 := cell_of_row _ w.heap.size 5 _ _ _ hh
      have s6 := cell_of_row _ w.heap.size 6 _ _ _ hh
      have s7 := cell_of_row _ w.heap.size 7 _ _ _ hh
      have s8 := cell_of_row _ w.heap.size 8 _ _ _ hh
      have s9 := cell_of_row _ w.heap.size 9 _ _ _ hh
      simp at s0 s1 s2 s3 s4 s5 s6 s7 s8 s9
      clear hh hk101
      go_wp2_with fail
      refine ((unhid HPL) _).mono ?_
      rintro e w1 ⟨rfl, hb⟩
      have HO := hid ((unhid HO).next hb)
      clear hb HPL s0 s1 s2 s3 s4 s5 s6 s7 s8 s9
      go_wp2_with (go_at_call 5; refine (unhid HO).awake.mono ?_; rintro e w9 ⟨rfl, hb2⟩)
      have HB2 := hid hb2
      clear hb2
      go_wp2_with fail
      go_ret
      exact ⟨rfl, unhid HB2⟩
end Go.Proofs.YtfklckjfbnaoeaaGreatDoor
