/-
  The reference's Dec: a number in decimal digits; its names of shapes and colours.
-/
import Derived.Test.YtmagidoodlkeoaaGreatDoorFcK
set_option linter.unusedSimpArgs false
set_option linter.unusedVariables false
namespace Go.Proofs.YtmagidoodlkeoaaGreatDoor
open Go.RowKit

theorem rune_dig : ∀ u : Fin 10, Utf8.encode (48 + (u.val : Int)) = SB [UInt8.ofNat (48 + u.val)] := by decide +kernel
theorem rune_dig' {u : Nat} (h : u < 10) : Utf8.encode (48 + (u : Int)) = SB [UInt8.ofNat (48 + u)] := rune_dig ⟨u, h⟩

theorem dg2 {u : Nat} (h0 : 10 ≤ u) (hu : u < 100) : dg u = dg (u / 10) ++ [UInt8.ofNat (48 + u % 10)] := by
  unfold dg
  rw [if_neg (by omega), if_pos hu, if_pos (by omega)]
  rfl
theorem dg3 {u : Nat} (h0 : 100 ≤ u) (hu : u < 1000) : dg u = dg (u / 10) ++ [UInt8.ofNat (48 + u % 10)] := by
  unfold dg
  rw [if_neg (by omega), if_neg (by omega), if_neg (by omega), if_pos (by omega)]
  rfl
theorem dg_two {u : Nat} (h : u < 100) : (dg u).length ≤ 2 := by
  unfold dg
  split
  · simp
  · simp

set_option maxHeartbeats 1000000 in
set_option maxRecDepth 100000 in
theorem dec1 (u : Nat) (hu : u < 10) (w : World) : Calls Tryz.prog 80 #[.int .i64 u] w fun e w' => e = .returned (.string (SB (dg u))) ∧ w' = w := by
  have d1 : (u : Int) < 10 := by omega
  have e1 : wrap64 (48 + (u : Int)) = 48 + u := IntWalk.wrap64_in _ ⟨by omega, by omega⟩
  have HFIN := hid (show SB (dg u) = Utf8.encode (48 + (u : Int)) by rw [rune_dig' hu, dg, if_pos hu])
  go_enter Tryz.func80, Tryz.ntmps80
  go_wp2_with fail
  go_ret
  exact ⟨by rw [unhid HFIN]; rfl, rfl⟩
set_option maxHeartbeats 1000000 in
set_option maxRecDepth 100000 in
theorem dec2 (u : Nat) (h0 : 10 ≤ u) (hu : u < 100) (w : World) : Calls Tryz.prog 80 #[.int .i64 u] w fun e w' => e = .returned (.string (SB (dg u))) ∧ w' = w := by
  have zsb : ∀ l : List UInt8, (SB l).size = l.length := fun _ => rfl
  have d1 : ¬ (u : Int) < 10 := by omega
  have e2 : (u : Int).tdiv 10 = ((u / 10 : Nat) : Int) := by rw [Int.tdiv_eq_ediv_of_nonneg (by omega)]; rfl
  have e3 : (u : Int).tmod 10 = ((u % 10 : Nat) : Int) := by rw [Int.tmod_eq_emod_of_nonneg (by omega)]; rfl
  have hm : u % 10 < 10 := Nat.mod_lt _ (by omega)
  have hq0 : u / 10 ≤ 100 := by omega
  have HD := hid (dec1 (u / 10) (by omega) w)
  have hl : (dg (u / 10)).length ≤ 2 := dg_two (by omega)
  have HFIN := hid (show SB (dg u) = SB (dg (u / 10) ++ [UInt8.ofNat (48 + u % 10)]) by
    rw [dg2 h0 hu])
  generalize dg u = D at *
  generalize u / 10 = q at *
  generalize u % 10 = r at *
  generalize dg q = L at *
  have e5 : wrap64 (q : Int) = q := IntWalk.wrap64_in _ ⟨by omega, by omega⟩
  have e1 : wrap64 (48 + (r : Int)) = 48 + r := IntWalk.wrap64_in _ ⟨by omega, by omega⟩
  have e4 := rune_dig' hm
  have hz : (SB [UInt8.ofNat (48 + r)]).size = 1 := rfl
  have HAD := hid (SB_app L [UInt8.ofNat (48 + r)])
  obtain ⟨R, hR⟩ : ∃ R, R = SB [UInt8.ofNat (48 + r)] := ⟨_, rfl⟩
  rw [← hR] at e4 hz HAD
  clear hR
  go_enter Tryz.func80, Tryz.ntmps80
  go_wp2_with fail
  refine (unhid HD).mono ?_
  rintro e w' ⟨rfl, rfl⟩
  go_wp2_with fail
  go_ret
  exact ⟨by rw [unhid HFIN, ← unhid HAD]; rfl, rfl⟩
set_option maxHeartbeats 1000000 in
set_option maxRecDepth 100000 in
theorem dec3 (u : Nat) (h0 : 100 ≤ u) (hu : u < 1000) (w : World) : Calls Tryz.prog 80 #[.int .i64 u] w fun e w' => e = .returned (.string (SB (dg u))) ∧ w' = w := by
  have zsb : ∀ l : List UInt8, (SB l).size = l.length := fun _ => rfl
  have d1 : ¬ (u : Int) < 10 := by omega
  have e2 : (u : Int).tdiv 10 = ((u / 10 : Nat) : Int) := by rw [Int.tdiv_eq_ediv_of_nonneg (by omega)]; rfl
  have e3 : (u : Int).tmod 10 = ((u % 10 : Nat) : Int) := by rw [Int.tmod_eq_emod_of_nonneg (by omega)]; rfl
  have hm : u % 10 < 10 := Nat.mod_lt _ (by omega)
  have hq0 : u / 10 ≤ 100 := by omega
  have HD := hid (dec2 (u / 10) (by omega) (by omega) w)
  have hl : (dg (u / 10)).length ≤ 2 := dg_two (by omega)
  have HFIN := hid (show SB (dg u) = SB (dg (u / 10) ++ [UInt8.ofNat (48 + u % 10)]) by
    rw [dg3 h0 hu])
  generalize dg u = D at *
  generalize u / 10 = q at *
  generalize u % 10 = r at *
  generalize dg q = L at *
  have e5 : wrap64 (q : Int) = q := IntWalk.wrap64_in _ ⟨by omega, by omega⟩
  have e1 : wrap64 (48 + (r : Int)) = 48 + r := IntWalk.wrap64_in _ ⟨by omega, by omega⟩
  have e4 := rune_dig' hm
  have hz : (SB [UInt8.ofNat (48 + r)]).size = 1 := rfl
  have HAD := hid (SB_app L [UInt8.ofNat (48 + r)])
  obtain ⟨R, hR⟩ : ∃ R, R = SB [UInt8.ofNat (48 + r)] := ⟨_, rfl⟩
  rw [← hR] at e4 hz HAD
  clear hR
  go_enter Tryz.func80, Tryz.ntmps80
  go_wp2_with fail
  refine (unhid HD).mono ?_
  rintro e w' ⟨rfl, rfl⟩
  go_wp2_with fail
  go_ret
  exact ⟨by rw [unhid HFIN, ← unhid HAD]; rfl, rfl⟩
theorem dec_calls (n : Int) (w : World) (h0 : 0 ≤ n) (h1 : n ≤ 200) : Calls Tryz.prog 80 #[.int .i64 n] w fun e w' => e = .returned (.string (SB (Lib.itoa n))) ∧ w' = w := by
  rw [itoa_dg h0 h1]
  obtain ⟨u, rfl⟩ := Int.eq_ofNat_of_zero_le h0
  rw [Int.toNat_natCast]
  rcases Nat.lt_or_ge u 10 with h | h
  · exact dec1 u h w
  · rcases Nat.lt_or_ge u 100 with h2 | h2
    · exact dec2 u h h2 w
    · exact dec3 u h2 (by omega) w

end Go.Proofs.YtmagidoodlkeoaaGreatDoor
