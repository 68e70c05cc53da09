/-
  The law WorksNils.
-/
import Derived.Test.YtfklckjfbnaoeaaGreatDoorWoX
import Derived.Test.YtfklckjfbnaoeaaGreatDoorWpC
set_option linter.unusedSimpArgs false
set_option linter.unusedVariables false
namespace Go.Proofs.YtfklckjfbnaoeaaGreatDoor
open Go.RowKit

set_option maxHeartbeats 4000000 in
set_option maxRecDepth 100000 in
theorem lnils_calls (a b l0 l1 l2 s k0 k1 k2 k3 : Int) (txt : List UInt8) (y0 y1 y2 y3 y4 : Int) (w : World) (hg : Gl w) :
    Calls Tryz.prog 4 #[.agg #[.int .i64 a, .int .i64 b, .int .i64 l0, .int .i64 l1, .int .i64 l2, .int .i64 s, .int .i64 k0, .int .i64 k1, .int .i64 k2, .int .i64 k3], .string (SB txt), .agg #[.int .i64 y0, .int .i64 y1, .int .i64 y2, .int .i64 y3, .int .i64 y4]] w fun e w' => e = .returned (.bool true) ∧ Below w.heap.size w w' := by
  have HO := hid (((On.start hg).lay (.cells #[.int .i64 a, .int .i64 b, .int .i64 l0, .int .i64 l1, .int .i64 l2, .int .i64 s, .int .i64 k0, .int .i64 k1, .int .i64 k2, .int .i64 k3] 29)).lay (.cells #[.int .i64 y0, .int .i64 y1, .int .i64 y2, .int .i64 y3, .int .i64 y4] 37))
  have h1 := (heap_alloc_new w (.cells #[.int .i64 a, .int .i64 b, .int .i64 l0, .int .i64 l1, .int .i64 l2, .int .i64 s, .int .i64 k0, .int .i64 k1, .int .i64 k2, .int .i64 k3] 29))
  have HS := hid (((below_alloc (w.alloc (.cells #[.int .i64 a, .int .i64 b, .int .i64 l0, .int .i64 l1, .int .i64 l2, .int .i64 s, .int .i64 k0, .int .i64 k1, .int .i64 k2, .int .i64 k3] 29)) (.cells #[.int .i64 y0, .int .i64 y1, .int .i64 y2, .int .i64 y3, .int .i64 y4] 37)).block _ (Array.getElem?_eq_some_iff.1 h1).1).trans h1)
  have hy := heap_alloc_new (w.alloc (.cells #[.int .i64 a, .int .i64 b, .int .i64 l0, .int .i64 l1, .int .i64 l2, .int .i64 s, .int .i64 k0, .int .i64 k1, .int .i64 k2, .int .i64 k3] 29)) (.cells #[.int .i64 y0, .int .i64 y1, .int .i64 y2, .int .i64 y3, .int .i64 y4] 37)
  rw [World.size_alloc] at hy
  have HY := hid hy
  clear hg h1 hy
  obtain ⟨vb, hvb⟩ : ∃ x, x = setupB a b [l0, l1, l2] s [k0, k1, k2, k3] := ⟨_, rfl⟩
  obtain ⟨er, her⟩ : ∃ x : Int, x = if setupB a b [l0, l1, l2] s [k0, k1, k2, k3] = true then 92 else 2 := ⟨_, rfl⟩
  have HV1 := hid (fun w => wopen_none a b l0 l1 l2 s k0 k1 k2 k3 er w her)
  have HV2 := hid (fun w => rvalidSetup_calls a b l0 l1 l2 s k0 k1 k2 k3 w)
  rw [← hvb] at HV2 her
  have HER := hid her
  clear hvb her
  go_enter Tryz.func4, Tryz.ntmps4
  go_upto_region 1 with (fail)
  change Code.wp _ _ _ _ ((w.alloc (.cells #[.int .i64 a, .int .i64 b, .int .i64 l0, .int .i64 l1, .int .i64 l2, .int .i64 s, .int .i64 k0, .int .i64 k1, .int .i64 k2, .int .i64 k3] 29)).alloc (.cells #[.int .i64 y0, .int .i64 y1, .int .i64 y2, .int .i64 y3, .int .i64 y4] 37))
  generalize ((w.alloc (.cells #[.int .i64 a, .int .i64 b, .int .i64 l0, .int .i64 l1, .int .i64 l2, .int .i64 s, .int .i64 k0, .int .i64 k1, .int .i64 k2, .int .i64 k3] 29)).alloc (.cells #[.int .i64 y0, .int .i64 y1, .int .i64 y2, .int .i64 y3, .int .i64 y4] 37)) = W at *
  have hs := unhid HS
  have s0 := cell_of_row _ w.heap.size 0 _ _ _ hs
  have s1 := cell_of_row _ w.heap.size 1 _ _ _ hs
  have s2 := cell_of_row _ w.heap.size 2 _ _ _ hs
  have s3 := cell_of_row _ w.heap.size 3 _ _ _ hs
  have s4 := cell_of_row _ w.heap.size 4 _ _ _ hs
  have s5 := cell_of_row _ w.heap.size 5 _ _ _ hs
  have s6 := cell_of_row _ w.heap.size 6 _ _ _ hs
  have s7 := cell_of_row _ w.heap.size 7 _ _ _ hs
  have s8 := cell_of_row _ w.heap.size 8 _ _ _ hs
  have s9 := cell_of_row _ w.heap.size 9 _ _ _ hs
  simp at s0 s1 s2 s3 s4 s5 s6 s7 s8 s9
  clear hs
  go_wp2_with fail
  refine ((unhid HV1) _).mono ?_
  rintro e w1 ⟨rfl, hb⟩
  have HO := hid ((unhid HO).next hb)
  have hs := (hb.block _ (Array.getElem?_eq_some_iff.1 (unhid HS)).1).trans (unhid HS)
  have HY := hid ((hb.block _ (Array.getElem?_eq_some_iff.1 (unhid HY)).1).trans (unhid HY))
  clear hb s0 s1 s2 s3 s4 s5 s6 s7 s8 s9 HS HV1
  have s0 := cell_of_row _ w.heap.size 0 _ _ _ hs
  have s1 := cell_of_row _ w.heap.size 1 _ _ _ hs
  have s2 := cell_of_row _ w.heap.size 2 _ _ _ hs
  have s3 := cell_of_row _ w.heap.size 3 _ _ _ hs
  have s4 := cell_of_row _ w.heap.size 4 _ _ _ hs
  have s5 := cell_of_row _ w.heap.size 5 _ _ _ hs
  have s6 := cell_of_row _ w.heap.size 6 _ _ _ hs
  have s7 := cell_of_row _ w.heap.size 7 _ _ _ hs
  have s8 := cell_of_row _ w.heap.size 8 _ _ _ hs
  have s9 := cell_of_row _ w.heap.size 9 _ _ _ hs
  simp at s0 s1 s2 s3 s4 s5 s6 s7 s8 s9
  clear hs
  go_wp2_with fail
  refine ((unhid HV2) _).mono ?_
  rintro e w2 ⟨rfl, hb⟩
  have HO := hid ((unhid HO).next hb)
  have HY := hid ((hb.block _ (Array.getElem?_eq_some_iff.1 (unhid HY)).1).trans (unhid HY))
  clear hb s0 s1 s2 s3 s4 s5 s6 s7 s8 s9 HV2
  cases vb
  all_goals
    have her := unhid HER
    clear HER
    (first | (obtain rfl : er = 92 := her) | (obtain rfl : er = 2 := her))
    go_upto_region 8 with (fail)
    have HO := hid (((unhid HO).lay (.cells #[.pointer none, .pointer none, .slice none 0 0] 45)).lay (.cells #[.pointer none, .pointer (some ⟨w2.heap.size, 0, none⟩)] 38))
    have hb := (below_alloc w2 (.cells #[.pointer none, .pointer none, .slice none 0 0] 45)).trans ((below_alloc (w2.alloc (.cells #[.pointer none, .pointer none, .slice none 0 0] 45)) (.cells #[.pointer none, .pointer (some ⟨w2.heap.size, 0, none⟩)] 38)).mono (below_alloc w2 (.cells #[.pointer none, .pointer none, .slice none 0 0] 45)).size)
    have HY := hid ((hb.block _ (Array.getElem?_eq_some_iff.1 (unhid HY)).1).trans (unhid HY))
    have hz := heap_alloc_new w2 (.cells #[.pointer none, .pointer none, .slice none 0 0] 45)
    have hz := ((below_alloc (w2.alloc (.cells #[.pointer none, .pointer none, .slice none 0 0] 45)) (.cells #[.pointer none, .pointer (some ⟨w2.heap.size, 0, none⟩)] 38)).block _ (Array.getElem?_eq_some_iff.1 hz).1).trans hz
    have hl := heap_alloc_new (w2.alloc (.cells #[.pointer none, .pointer none, .slice none 0 0] 45)) (.cells #[.pointer none, .pointer (some ⟨w2.heap.size, 0, none⟩)] 38)
    rw [World.size_alloc] at hl
    have HZ := hid hz
    have HL := hid hl
    clear hb hz hl
    change Code.wp _ _ _ _ ((w2.alloc (.cells #[.pointer none, .pointer none, .slice none 0 0] 45)).alloc (.cells #[.pointer none, .pointer (some ⟨w2.heap.size, 0, none⟩)] 38))
    generalize (w2.alloc (.cells #[.pointer none, .pointer none, .slice none 0 0] 45)).alloc (.cells #[.pointer none, .pointer (some ⟨w2.heap.size, 0, none⟩)] 38) = w3 at *
    generalize w2.heap.size = Z at *
    have hy := unhid HY
    have y0' := cell_of_row _ (w.heap.size + 1) 0 _ _ _ hy
    have y1' := cell_of_row _ (w.heap.size + 1) 1 _ _ _ hy
    have y2' := cell_of_row _ (w.heap.size + 1) 2 _ _ _ hy
    have y3' := cell_of_row _ (w.heap.size + 1) 3 _ _ _ hy
    have y4' := cell_of_row _ (w.heap.size + 1) 4 _ _ _ hy
    simp at y0' y1' y2' y3' y4'
    clear hy HY
    have l0' := cell_of_row _ (Z + 1) 0 _ _ _ (unhid HL)
    have l1' := cell_of_row _ (Z + 1) 1 _ _ _ (unhid HL)
    simp at l0' l1'
    have HV := hid (fun (k : Nat) (hk : k < 2) => (show ∃ v, NoW w3 v ∧ w3.cell? ⟨Z + 1, k, none⟩ = some v by
      obtain rfl | rfl : k = 0 ∨ k = 1 := by omega
      · exact ⟨_, .inl rfl, l0'⟩
      · exact ⟨_, .inr ⟨Z, rfl, unhid HZ⟩, l1'⟩))
    clear l0' l1' HL HZ
    go_upto_region 9 with (fail)
    go_loopw [11] (fun iv wr => ∃ k : Nat, k ≤ 2 ∧ iv = .int .i64 k ∧ wr = w3) (fun iv _ => 2 - (intOf iv).toNat)
    case atStart => exact ⟨0, Nat.zero_le _, rfl, (by first | rfl | trivial)⟩
    case round =>
      obtain ⟨k, hk, rfl, rfl⟩ := hrel
      by_cases hlt : k < 2
      · have hki : (k : Int) < 2 := by omega
        obtain ⟨v, hnv, hcv⟩ := (unhid HV) k hlt
        have HNV := hid hnv
        clear hnv HV
        go_wp2_with first | (go_at_call 9; refine (wdo_none _ _ _ (unhid HNV)).mono ?_; rintro e w' ⟨rfl, rfl⟩) | (go_at_call 10; refine (wrecall_none _ _ _ (unhid HNV)).mono ?_; rintro e w' ⟨rfl, rfl⟩) | (go_at_call 11; refine (wdue_none _ _ _ _ _ _ (unhid HNV)).mono ?_; rintro e w' ⟨rfl, rfl⟩) | (go_at_call 12; refine (wtypes_none _ _ _ (unhid HNV)).mono ?_; rintro e w' ⟨rfl, rfl⟩) | (go_at_call 13; refine (wlines_none _ _ (unhid HNV)).mono ?_; rintro e w' ⟨rfl, rfl⟩) | (go_at_call 14; refine (wsigns_none _ _ (unhid HNV)).mono ?_; rintro e w' ⟨rfl, rfl⟩) | (go_at_call 15; refine (wshelf_none _ _ (unhid HNV)).mono ?_; rintro e w' ⟨rfl, rfl⟩) | (go_at_call 16; refine (wbook_none _ _ (unhid HNV)).mono ?_; rintro e w' ⟨rfl, rfl⟩)
        go_roundw
        case rel => exact ⟨k + 1, by omega, by go_num, (by first | rfl | trivial)⟩
        case measure => simp [intOf]; omega
      · obtain rfl : k = 2 := by omega
        go_wp2_with fail
        refine (unhid HO).awake.mono ?_
        rintro e w9 ⟨rfl, hb2⟩
        have HB2 := hid hb2
        clear hb2
        go_wp2_with fail
        go_ret
        exact ⟨rfl, unhid HB2⟩
end Go.Proofs.YtfklckjfbnaoeaaGreatDoor
