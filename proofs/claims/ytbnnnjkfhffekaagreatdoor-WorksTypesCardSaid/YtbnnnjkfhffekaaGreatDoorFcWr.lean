/-
  The reference's text of a face.
-/
import Derived.Test.YtbnnnjkfhffekaaGreatDoorWaK
import Derived.Test.YtbnnnjkfhffekaaGreatDoorFcPf
set_option linter.unusedSimpArgs false
set_option linter.unusedVariables false
namespace Go.Proofs.YtbnnnjkfhffekaaGreatDoor
open Go.RowKit

theorem dec_same (n : Int) (w : World) (h0 : 0 ≤ n) (h1 : n ≤ 200) : Calls Tryz.prog 74 #[.int .i64 n] w fun e w' => e = .returned (.string (SB (Lib.itoa n))) ∧ w = w' :=
  (dec_calls n w h0 h1).mono fun _ _ ⟨he, hw⟩ => ⟨he, hw.symm⟩
set_option maxHeartbeats 2000000 in
theorem rcolour_calls (n : Nat) (h : n < 9) (w : World) : Calls Tryz.prog 70 #[.int .i64 n] w fun e w' => e = .returned (.string (SB (colourW.getD n []))) ∧ Below w.heap.size w w' := by
  rcases (show n = 0 ∨ n = 1 ∨ n = 2 ∨ n = 3 ∨ n = 4 ∨ n = 5 ∨ n = 6 ∨ n = 7 ∨ n = 8 by omega) with rfl | rfl | rfl | rfl | rfl | rfl | rfl | rfl | rfl
  all_goals
    go_enter Tryz.func70, Tryz.ntmps70
    go_wp2_with fail
    go_ret
    exact ⟨rfl, below_alloc _ _⟩
set_option maxHeartbeats 2000000 in
theorem rshape_calls (n : Nat) (h : n < 7) (w : World) : Calls Tryz.prog 50 #[.int .i64 n] w fun e w' => e = .returned (.string (SB (shapeW.getD n []))) ∧ Below w.heap.size w w' := by
  rcases (show n = 0 ∨ n = 1 ∨ n = 2 ∨ n = 3 ∨ n = 4 ∨ n = 5 ∨ n = 6 by omega) with rfl | rfl | rfl | rfl | rfl | rfl | rfl
  all_goals
    go_enter Tryz.func50, Tryz.ntmps50
    go_wp2_with fail
    go_ret
    exact ⟨rfl, below_alloc _ _⟩

set_option maxHeartbeats 4000000 in
set_option maxRecDepth 100000 in
theorem written_calls (x : It) (w : World) (hx : itB x = true) :
    Calls Tryz.prog 75 #[.agg #[.int .i64 x.kind, .int .i64 x.colour, .int .i64 x.left, .int .i64 x.low, .int .i64 x.a, .int .i64 x.b, .string (SB x.text)]] w fun e w' => e = .returned (.string (SB (fmtIt x))) ∧ Below w.heap.size w w' := by
  have HFIN := hid (itTxt_eq hx)
  obtain ⟨k1, k2, c1, c2, l0, l1, o0, o1, n0, n1, -, m0, m1, ht⟩ := it_bounds hx
  have HIA := hid (fun W => dec_same x.a W n0 (by omega))
  have HIB := hid (fun W => dec_same x.b W m0 (by omega))
  have HIL := hid (fun W => dec_same x.left W l0 (by omega))
  have HIO := hid (fun W => dec_same x.low W o0 (by omega))
  have za := itoa_len n0 n1
  have zb := itoa_len m0 m1
  have zl := itoa_len l0 l1
  have zo := itoa_len o0 o1
  have zc := colourW_len x.colour.toNat
  generalize Lib.itoa x.a = aw at *
  generalize Lib.itoa x.b = bw at *
  generalize Lib.itoa x.left = lw at *
  generalize Lib.itoa x.low = ow at *
  obtain ⟨cn, hcn⟩ := Int.eq_ofNat_of_zero_le (show 0 ≤ x.colour by omega)
  have hcn8 : cn < 9 := by omega
  rw [show x.colour.toNat = cn by omega] at HFIN zc
  have HCC := hid (fun W => rcolour_calls cn hcn8 W)
  generalize colourW.getD cn [] = cw at *
  clear hx
  rw [hcn]
  clear hcn
  go_enter Tryz.func75, Tryz.ntmps75
  go_wp2_with fail
  obtain ⟨W, hW⟩ : ∃ W, W = w.alloc (.cells #[.int .i64 x.kind, .int .i64 (cn : Int), .int .i64 x.left, .int .i64 x.low, .int .i64 x.a, .int .i64 x.b, .string (SB x.text)] 96) := ⟨_, rfl⟩
  have hcell : ∀ i, W.cell? ⟨w.heap.size, i, none⟩ = #[Value.int .i64 x.kind, .int .i64 (cn : Int), .int .i64 x.left, .int .i64 x.low, .int .i64 x.a, .int .i64 x.b, .string (SB x.text)][i]? := fun i => by rw [hW, World.cell?_alloc_new]
  have a0 := hcell 0
  have a1 := hcell 1
  have a2 := hcell 2
  have a3 := hcell 3
  have a4 := hcell 4
  have a5 := hcell 5
  have a6 := hcell 6
  simp at a0 a1 a2 a3 a4 a5 a6
  have hbw : Below w.heap.size w W := by rw [hW]; exact below_alloc _ _
  have hB : w.heap.size < W.heap.size := by rw [hW]; simp
  rw [← hW]
  clear hW hcell
  obtain ⟨B, hBB⟩ : ∃ B, B = w.heap.size := ⟨_, rfl⟩
  rw [← hBB] at a0 a1 a2 a3 a4 a5 a6 ⊢
  have hBW : B < W.heap.size := by omega
  have HBW := hid hbw
  clear hbw hB hBB
  have q2 := fun p : After W => After.cell (a := ⟨B, 2, none⟩) hBW a2 p
  have q3 := fun p : After W => After.cell (a := ⟨B, 3, none⟩) hBW a3 p
  have zs : ∀ l : List UInt8, (SB l).size = l.length := fun _ => rfl
  go_wp2_with fail
  refine wp_region_below (by kernel_rfl) (by kernel_rfl) ?_
  (repeat (go_big_quiet_step (first | (go_at_call_of 74 (x.left); exact Calls.after_same ((unhid HIL) _)) | (go_at_call_of 74 (x.low); exact Calls.after_same ((unhid HIO) _)))))
  refine wpQuiet_nil ?_
  intro wq hw'
  obtain ⟨⟨wq2, hbq⟩, hw''⟩ := hw'
  dsimp only at hw''
  subst hw''
  have HBQ := hid hbq
  have b1 := (hbq.cell (p := ⟨B, 1, none⟩) hBW).trans a1
  clear hbq q2 q3
  go_wp2_with fail
  refine ((unhid HCC) _).mono ?_
  rintro e w6 ⟨rfl, hb⟩
  have hb6 : Below W.heap.size W w6 := (unhid HBQ).trans (hb.mono (unhid HBQ).size)
  have b0 := (hb6.cell (p := ⟨B, 0, none⟩) hBW).trans a0
  have b4 := (hb6.cell (p := ⟨B, 4, none⟩) hBW).trans a4
  have b5 := (hb6.cell (p := ⟨B, 5, none⟩) hBW).trans a5
  have b6 := (hb6.cell (p := ⟨B, 6, none⟩) hBW).trans a6
  have hB6 : B < w6.heap.size := Nat.lt_of_lt_of_le hBW hb6.size
  have HB6 := hid ((unhid HBW).trans (hb6.mono (unhid HBW).size))
  clear hb hb6 a0 a1 a2 a3 a4 a5 a6 b1 HBQ
  have q4 := fun p : After w6 => After.cell (a := ⟨B, 4, none⟩) hB6 b4 p
  have q5 := fun p : After w6 => After.cell (a := ⟨B, 5, none⟩) hB6 b5 p
  have q6 := fun p : After w6 => After.cell (a := ⟨B, 6, none⟩) hB6 b6 p
  generalize x.text = tx at *
  rcases (show x.kind = 1 ∨ x.kind = 2 ∨ x.kind = 3 ∨ x.kind = 4 ∨ x.kind = 5 ∨ x.kind = 6 by omega) with hk | hk | hk | hk | hk | hk
  · rw [hk] at b0 HFIN
    clear hk k1 k2
    go_wp2_with (go_at_call 74; refine ((unhid HIA) _).mono ?_; rintro e w' ⟨rfl, rfl⟩)
    go_ret
    refine ⟨retS ?_, unhid HB6⟩
    rw [unhid HFIN]
    go_light
    simp [SB, itTxt, ByteArray.data_append]
  · rw [hk] at b0 HFIN
    clear hk k1 k2
    go_wp2_with (go_at_call 74; refine ((unhid HIA) _).mono ?_; rintro e w' ⟨rfl, rfl⟩)
    go_ret
    refine ⟨retS ?_, unhid HB6⟩
    rw [unhid HFIN]
    go_light
    simp [SB, itTxt, ByteArray.data_append]
  · rw [hk] at b0 HFIN
    clear hk k1 k2
    go_wp2_with fail
    refine wp_region_below (by kernel_rfl) (by kernel_rfl) ?_
    (repeat (go_big_quiet_step (first | (go_at_call_of 74 (x.a); exact Calls.after_same ((unhid HIA) _)) | (go_at_call_of 74 (x.b); exact Calls.after_same ((unhid HIB) _)))))
    refine wpQuiet_nil ?_
    intro wq hw'
    obtain ⟨⟨wq2, hbq⟩, hw''⟩ := hw'
    dsimp only at hw''
    subst hw''
    have HBQ := hid ((unhid HB6).trans (hbq.mono (unhid HB6).size))
    clear hbq
    go_wp2_with fail
    go_ret
    refine ⟨retS ?_, unhid HBQ⟩
    rw [unhid HFIN]
    go_light
    simp [SB, itTxt, ByteArray.data_append]
  · rw [hk] at b0 HFIN
    clear hk k1 k2
    go_wp2_with (go_at_call 74; refine ((unhid HIA) _).mono ?_; rintro e w' ⟨rfl, rfl⟩)
    go_ret
    refine ⟨retS ?_, unhid HB6⟩
    rw [unhid HFIN]
    go_light
    simp [SB, itTxt, ByteArray.data_append]
  · rw [hk] at b0 HFIN
    clear hk k1 k2
    go_wp2_with (go_at_call 74; refine ((unhid HIA) _).mono ?_; rintro e w' ⟨rfl, rfl⟩)
    go_ret
    refine ⟨retS ?_, unhid HB6⟩
    rw [unhid HFIN]
    go_light
    simp [SB, itTxt, ByteArray.data_append]
  · rw [hk] at b0 HFIN
    clear hk k1 k2
    go_wp2_with fail
    refine wp_region_below (by kernel_rfl) (by kernel_rfl) ?_
    (repeat (go_big_quiet_step (first | (go_at_call_of 74 (x.a); exact Calls.after_same ((unhid HIA) _)) | (go_at_call_of 74 (x.b); exact Calls.after_same ((unhid HIB) _)))))
    refine wpQuiet_nil ?_
    intro wq hw'
    obtain ⟨⟨wq2, hbq⟩, hw''⟩ := hw'
    dsimp only at hw''
    subst hw''
    have HBQ := hid ((unhid HB6).trans (hbq.mono (unhid HB6).size))
    clear hbq
    go_wp2_with fail
    go_ret
    refine ⟨retS ?_, unhid HBQ⟩
    rw [unhid HFIN]
    go_light
    simp [SB, itTxt, ByteArray.data_append]

end Go.Proofs.YtbnnnjkfhffekaaGreatDoor
