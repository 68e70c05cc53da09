/-
  The text of an item: package face.
-/
import Derived.Test.YtfklckjfbnaoeaaGreatDoorFcPn
import Derived.Test.YtfklckjfbnaoeaaGreatDoorWaK
import Derived.Test.YtfklckjfbnaoeaaGreatDoorFcVk
import Derived.Test.YtfklckjfbnaoeaaGreatDoorWaP
set_option linter.unusedSimpArgs false
set_option linter.unusedVariables false
namespace Go.Proofs.YtfklckjfbnaoeaaGreatDoor
open Go.RowKit

theorem retS {a b : ByteArray} (h : a.data.toList = b.data.toList) : Ending.returned (.string a) = .returned (.string b) := by rw [show a = b from ByteArray.ext (Array.toList_inj.1 h)]
theorem itoa_len {n : Int} (h0 : 0 ≤ n) (h1 : n ≤ 200) : (Lib.itoa n).length ≤ 3 := by
  have : ∀ u : Fin 201, (dg u.val).length ≤ 3 := by decide +kernel
  rw [itoa_dg h0 h1]
  exact this ⟨n.toNat, by omega⟩
theorem colourW_len (c : Nat) : (colourW.getD c []).length ≤ 10 := by
  by_cases h : c < 9
  · have : ∀ u : Fin 9, (colourW.getD u.val []).length ≤ 10 := by decide
    exact this ⟨c, h⟩
  · have e : colourW.length = 9 := rfl
    rw [List.getD_eq_getElem?_getD, List.getElem?_eq_none (by omega)]; simp

/-- The text of an item ahead of its place is begun by these words. -/
def itTxt (k : Int) (cw aw bw lw ow t : List UInt8) : List UInt8 :=
  if k = 1 then [102, 105, 101, 108, 100, 32] ++ cw
  else if k = 2 then [114, 105, 109, 32] ++ cw ++ [32] ++ aw
  else if k = 3 then [98, 111, 120, 32] ++ cw ++ [32] ++ aw ++ [32] ++ bw ++ ([32, 97, 116, 32] ++ lw ++ [32] ++ ow)
  else if k = 4 then [100, 105, 115, 99, 32] ++ cw ++ [32] ++ aw ++ ([32, 97, 116, 32] ++ lw ++ [32] ++ ow)
  else if k = 5 then [115, 108, 97, 115, 104, 32] ++ cw ++ [32] ++ aw
  else [116, 101, 120, 116, 32] ++ cw ++ [32] ++ aw ++ [32, 34] ++ t ++ [34] ++ ([32, 97, 116, 32] ++ lw ++ [32] ++ ow)
set_option maxRecDepth 100000 in
theorem itTxt_eq {x : It} (h : itB x = true) : fmtIt x = itTxt x.kind (colourW.getD x.colour.toNat []) (Lib.itoa x.a) (Lib.itoa x.b) (Lib.itoa x.left) (Lib.itoa x.low) x.text := by
  obtain ⟨k1, k2, -⟩ := it_bounds h
  obtain ⟨k, c, l, o, a, b, t⟩ := x
  dsimp only at k1 k2 ⊢
  rcases (show k = 1 ∨ k = 2 ∨ k = 3 ∨ k = 4 ∨ k = 5 ∨ k = 6 by omega) with rfl | rfl | rfl | rfl | rfl | rfl
  all_goals simp [fmtIt, wordsW, headW, atW, itTxt, kindW, Lib.join_cons, Lib.joinTail]

set_option maxHeartbeats 4000000 in
set_option maxRecDepth 100000 in
theorem itemText_calls (x : It) (w : World) (hg : Gl w) (hx : itB x = true) :
    Calls Tryz.prog 263 #[.agg #[.int .i64 x.kind, .int .i64 x.colour, .int .i64 x.left, .int .i64 x.low, .int .i64 x.a, .int .i64 x.b, .string (SB x.text)]] w fun e w' => e = .returned (.string (SB (fmtIt x))) ∧ Below w.heap.size w w' := by
  have HFIN := hid (itTxt_eq hx)
  obtain ⟨k1, k2, c1, c2, l0, l1, o0, o1, n0, n1, -, m0, m1, ht⟩ := it_bounds hx
  have HIA := hid (fun W (h : Gl W) => itoa_lib x.a W h n0 (by omega))
  have HIB := hid (fun W (h : Gl W) => itoa_lib x.b W h m0 (by omega))
  have HIL := hid (fun W (h : Gl W) => itoa_lib x.left W h l0 (by omega))
  have HIO := hid (fun W (h : Gl W) => itoa_lib x.low W h o0 (by omega))
  have za := itoa_len n0 n1
  have zb := itoa_len m0 m1
  have zl := itoa_len l0 l1
  have zo := itoa_len o0 o1
  have zc := colourW_len x.colour.toNat
  generalize Lib.itoa x.a = aw at *
  generalize Lib.itoa x.b = bw at *
  generalize Lib.itoa x.left = lw at *
  generalize Lib.itoa x.low = ow at *
  obtain ⟨cn, hcn⟩ := Int.eq_ofNat_of_zero_le (show 0 ≤ x.colour by omega)
  have hcn8 : cn < 9 := by omega
  rw [show x.colour.toNat = cn by omega] at HFIN zc
  obtain ⟨cw, hcw⟩ : ∃ cw, cw = colourW.getD cn [] := ⟨_, rfl⟩
  have hcat : (strC colourW)[cn]? = some (.string (SB cw)) := by
    rw [hcw, strC_at hcn8, List.getD_eq_getElem?_getD, List.getElem?_eq_getElem (show cn < colourW.length from hcn8)]
    rfl
  rw [← hcw] at HFIN zc
  have HCAT := hid hcat
  have HG := hid hg
  clear hg hx hcw hcat
  rw [hcn]
  have HCN := hid hcn
  clear hcn
  go_enter Tryz.func263, Tryz.ntmps263
  go_wp2_with fail
  obtain ⟨W, hW⟩ : ∃ W, W = w.alloc (.cells #[.int .i64 x.kind, .int .i64 (cn : Int), .int .i64 x.left, .int .i64 x.low, .int .i64 x.a, .int .i64 x.b, .string (SB x.text)] 320) := ⟨_, rfl⟩
  have hcell : ∀ i, W.cell? ⟨w.heap.size, i, none⟩ = #[Value.int .i64 x.kind, .int .i64 (cn : Int), .int .i64 x.left, .int .i64 x.low, .int .i64 x.a, .int .i64 x.b, .string (SB x.text)][i]? := fun i => by rw [hW, World.cell?_alloc_new]
  have a0 := hcell 0
  have a1 := hcell 1
  have a2 := hcell 2
  have a3 := hcell 3
  have a4 := hcell 4
  have a5 := hcell 5
  have a6 := hcell 6
  simp at a0 a1 a2 a3 a4 a5 a6
  have hbw : Below w.heap.size w W := by rw [hW]; exact below_alloc _ _
  have hB : w.heap.size < W.heap.size := by rw [hW]; simp
  rw [← hW]
  clear hW hcell
  obtain ⟨B, hBB⟩ : ∃ B, B = w.heap.size := ⟨_, rfl⟩
  rw [← hBB] at a0 a1 a2 a3 a4 a5 a6 ⊢
  have hBW : B < W.heap.size := by omega
  have HBW := hid hbw
  have HGW := hid ((unhid HG).below hbw)
  clear hbw hB hBB
  go_cut [3, 4, 5] (fun s3 s4 s5 wz => s3 = .string (SB cw) ∧ s4 = .string (SB aw) ∧ s5 = .string (SB bw) ∧ Below W.heap.size W wz)
  case first =>
    refine wp_region_noPanic ?_
    refine wp_region_E (S := fun w' => w'.cell? ⟨B, 1, none⟩ = some (.int .i64 (cn : Int)) ∧ w'.cell? ⟨B, 4, none⟩ = some (.int .i64 x.a) ∧ w'.cell? ⟨B, 5, none⟩ = some (.int .i64 x.b)) 13 14 rfl (by kernel_rfl) (by kernel_rfl) ⟨a1, a4, a5⟩ ?_
    intro hSE
    (refine WE_take (i := 1) (v := ?_) rfl (by kernel_rfl) (by decide) (by kernel_rfl) (by kernel_rfl) (fun _ _ _ h => h) (by rfl) hSE ?_ ?_; rotate_left; (focus (intro w hSw; (try dsimp only at hSw); go_simp; (try with_reducible rfl))); simp only [Act.put, List.setIfInBounds_toArray, List.set_cons_zero, List.set_cons_succ])
    (refine WE_take (i := 2) (v := ?_) rfl (by kernel_rfl) (by decide) (by kernel_rfl) (by kernel_rfl) (fun _ _ _ h => h) (by rfl) hSE ?_ ?_; rotate_left; (focus (intro w hSw; (try dsimp only at hSw); go_simp; (try with_reducible rfl))); simp only [Act.put, List.setIfInBounds_toArray, List.set_cons_zero, List.set_cons_succ])
    (refine WE_take (i := 5) (v := ?_) rfl (by kernel_rfl) (by decide) (by kernel_rfl) (by kernel_rfl) (fun _ _ _ h => h) (by rfl) hSE ?_ ?_; rotate_left; (focus (intro w hSw; (try dsimp only at hSw); go_simp; (try with_reducible rfl))); simp only [Act.put, List.setIfInBounds_toArray, List.set_cons_zero, List.set_cons_succ])
    (refine WE_take (i := 6) (v := ?_) rfl (by kernel_rfl) (by decide) (by kernel_rfl) (by kernel_rfl) (fun _ _ _ h => h) (by rfl) hSE ?_ ?_; rotate_left; (focus (intro w hSw; (try dsimp only at hSw); go_simp; (try with_reducible rfl))); simp only [Act.put, List.setIfInBounds_toArray, List.set_cons_zero, List.set_cons_succ])
    (refine WE_take (i := 8) (v := ?_) rfl (by kernel_rfl) (by decide) (by kernel_rfl) (by kernel_rfl) (fun _ _ _ h => h) (by rfl) hSE ?_ ?_; rotate_left; (focus (intro w hSw; (try dsimp only at hSw); go_simp; (try with_reducible rfl))); simp only [Act.put, List.setIfInBounds_toArray, List.set_cons_zero, List.set_cons_succ])
    (refine WE_take (i := 9) (v := ?_) rfl (by kernel_rfl) (by decide) (by kernel_rfl) (by kernel_rfl) (fun _ _ _ h => h) (by rfl) hSE ?_ ?_; rotate_left; (focus (intro w hSw; (try dsimp only at hSw); go_simp; (try with_reducible rfl))); simp only [Act.put, List.setIfInBounds_toArray, List.set_cons_zero, List.set_cons_succ])
    (refine WE_one (i := 0) rfl (by decide) (by kernel_rfl) ?_; intro K hK)
    go_simp
    go_at_call 262
    refine (colourNames_calls _).mono ?_
    rintro e w5 ⟨rfl, hw5⟩
    have hBw5 : Below W.heap.size W w5 := by rw [hw5]; exact below_alloc' (Below.drew (Below.refl _ _)) _
    have hr5 : w5.heap[W.heap.size]? = some (.cells (strC colourW).toArray 9 (0, 0)) := by rw [hw5]; exact heap_alloc_new W.drew _
    have HR5 := hid hr5
    clear hw5
    refine hK.out _ _ ⟨(hBw5.cell (p := ⟨B, 1, none⟩) hBW).trans a1, (hBw5.cell (p := ⟨B, 4, none⟩) hBW).trans a4, (hBw5.cell (p := ⟨B, 5, none⟩) hBW).trans a5⟩ ?_
    clear hSE hK K hr5
    intro hSE
    (try simp only [Act.put, List.setIfInBounds_toArray, List.set_cons_zero, List.set_cons_succ])
    have hnc : w5.cell? ⟨W.heap.size, cn, none⟩ = some (.string (SB cw)) := by
      rw [cell_of_row _ _ _ _ _ _ (unhid HR5)]
      simpa using unhid HCAT
    have hWs5 : W.heap.size < w5.heap.size := (Array.getElem?_eq_some_iff.1 (unhid HR5)).1
    have HG5 := hid ((unhid HGW).below hBw5)
    have hc9 : (cn : Int) < 9 := by omega
    (refine WE_take (i := 3) (v := ?_) rfl (by kernel_rfl) (by decide) (by kernel_rfl) (by kernel_rfl) (fun _ _ _ h => h) (by rfl) hSE ?_ ?_; rotate_left; (focus (intro w hSw; (try dsimp only at hSw); go_simp; (try with_reducible rfl))); simp only [Act.put, List.setIfInBounds_toArray, List.set_cons_zero, List.set_cons_succ])
    refine WE_two (i := 4) (j := 7) rfl rfl (by decide) (by decide) (by kernel_rfl) ?_ ?_
    · intro K hK
      go_simp
      refine hK.out _ _ ⟨(hBw5.cell (p := ⟨B, 1, none⟩) hBW).trans a1, (hBw5.cell (p := ⟨B, 4, none⟩) hBW).trans a4, (hBw5.cell (p := ⟨B, 5, none⟩) hBW).trans a5⟩ ?_
      clear hSE hK K
      intro hSE
      (try simp only [Act.put, List.setIfInBounds_toArray, List.set_cons_zero, List.set_cons_succ])
      (refine WE_one (i := 7) rfl (by decide) (by kernel_rfl) ?_; intro K hK)
      go_simp
      go_at_call 21
      refine ((unhid HIA) _ ((unhid HGW).below hBw5)).mono ?_
      rintro e w6 ⟨rfl, hb⟩
      have hBw6 : Below W.heap.size W w6 := hBw5.trans (hb.mono hBw5.size)
      refine hK.out _ _ ⟨(hBw6.cell (p := ⟨B, 1, none⟩) hBW).trans a1, (hBw6.cell (p := ⟨B, 4, none⟩) hBW).trans a4, (hBw6.cell (p := ⟨B, 5, none⟩) hBW).trans a5⟩ ?_
      clear hSE hK K
      intro hSE
      (try simp only [Act.put, List.setIfInBounds_toArray, List.set_cons_zero, List.set_cons_succ])
      (refine WE_one (i := 10) rfl (by decide) (by kernel_rfl) ?_; intro K hK)
      go_simp
      go_at_call 21
      refine ((unhid HIB) _ ((unhid HGW).below hBw6)).mono ?_
      rintro e w7 ⟨rfl, hb⟩
      have hBw7 : Below W.heap.size W w7 := hBw6.trans (hb.mono hBw6.size)
      refine hK.out _ _ ⟨(hBw7.cell (p := ⟨B, 1, none⟩) hBW).trans a1, (hBw7.cell (p := ⟨B, 4, none⟩) hBW).trans a4, (hBw7.cell (p := ⟨B, 5, none⟩) hBW).trans a5⟩ ?_
      clear hSE hK K
      intro hSE
      (try simp only [Act.put, List.setIfInBounds_toArray, List.set_cons_zero, List.set_cons_succ])
      (refine WE_take (i := 11) (v := ?_) rfl (by kernel_rfl) (by decide) (by kernel_rfl) (by kernel_rfl) (fun _ _ _ h => h) (by rfl) hSE ?_ ?_; rotate_left; (focus (intro w hSw; (try dsimp only at hSw); go_simp; (try with_reducible rfl))); simp only [Act.put, List.setIfInBounds_toArray, List.set_cons_zero, List.set_cons_succ])
      (refine WE_take (i := 12) (v := ?_) rfl (by kernel_rfl) (by decide) (by kernel_rfl) (by kernel_rfl) (fun _ _ _ h => h) (by rfl) hSE ?_ ?_; rotate_left; (focus (intro w hSw; (try dsimp only at hSw); go_simp; (try with_reducible rfl))); simp only [Act.put, List.setIfInBounds_toArray, List.set_cons_zero, List.set_cons_succ])
      (refine WE_last rfl (by kernel_rfl) (by kernel_rfl) (by kernel_rfl) ?_; intro K hK; go_simp; refine hK.out _ _ (NoPanic.normal ?_); clear hK K)
      go_wp2_with fail
      go_meet
      case rel => exact ⟨rfl, rfl, rfl, hBw7⟩
    · intro K hK
      go_simp
      go_at_call 21
      refine ((unhid HIA) _ ((unhid HGW).below hBw5)).mono ?_
      rintro e w6 ⟨rfl, hb⟩
      have hBw6 : Below W.heap.size W w6 := hBw5.trans (hb.mono hBw5.size)
      have hnc6 : w6.cell? ⟨W.heap.size, cn, none⟩ = some (.string (SB cw)) := (hb.cell (p := ⟨W.heap.size, cn, none⟩) hWs5).trans hnc
      have hWs6 : W.heap.size < w6.heap.size := Nat.lt_of_lt_of_le hWs5 hb.size
      refine hK.out _ _ ⟨(hBw6.cell (p := ⟨B, 1, none⟩) hBW).trans a1, (hBw6.cell (p := ⟨B, 4, none⟩) hBW).trans a4, (hBw6.cell (p := ⟨B, 5, none⟩) hBW).trans a5⟩ ?_
      clear hSE hK K
      intro hSE
      (try simp only [Act.put, List.setIfInBounds_toArray, List.set_cons_zero, List.set_cons_succ])
      refine WE_two (i := 4) (j := 10) rfl rfl (by decide) (by decide) (by kernel_rfl) ?_ ?_
      · intro K hK
        go_simp
        refine hK.out _ _ ⟨(hBw6.cell (p := ⟨B, 1, none⟩) hBW).trans a1, (hBw6.cell (p := ⟨B, 4, none⟩) hBW).trans a4, (hBw6.cell (p := ⟨B, 5, none⟩) hBW).trans a5⟩ ?_
        clear hSE hK K
        intro hSE
        (try simp only [Act.put, List.setIfInBounds_toArray, List.set_cons_zero, List.set_cons_succ])
        (refine WE_one (i := 10) rfl (by decide) (by kernel_rfl) ?_; intro K hK)
        go_simp
        go_at_call 21
        refine ((unhid HIB) _ ((unhid HGW).below hBw6)).mono ?_
        rintro e w7 ⟨rfl, hb⟩
        have hBw7 : Below W.heap.size W w7 := hBw6.trans (hb.mono hBw6.size)
        refine hK.out _ _ ⟨(hBw7.cell (p := ⟨B, 1, none⟩) hBW).trans a1, (hBw7.cell (p := ⟨B, 4, none⟩) hBW).trans a4, (hBw7.cell (p := ⟨B, 5, none⟩) hBW).trans a5⟩ ?_
        clear hSE hK K
        intro hSE
        (try simp only [Act.put, List.setIfInBounds_toArray, List.set_cons_zero, List.set_cons_succ])
        (refine WE_take (i := 11) (v := ?_) rfl (by kernel_rfl) (by decide) (by kernel_rfl) (by kernel_rfl) (fun _ _ _ h => h) (by rfl) hSE ?_ ?_; rotate_left; (focus (intro w hSw; (try dsimp only at hSw); go_simp; (try with_reducible rfl))); simp only [Act.put, List.setIfInBounds_toArray, List.set_cons_zero, List.set_cons_succ])
        (refine WE_take (i := 12) (v := ?_) rfl (by kernel_rfl) (by decide) (by kernel_rfl) (by kernel_rfl) (fun _ _ _ h => h) (by rfl) hSE ?_ ?_; rotate_left; (focus (intro w hSw; (try dsimp only at hSw); go_simp; (try with_reducible rfl))); simp only [Act.put, List.setIfInBounds_toArray, List.set_cons_zero, List.set_cons_succ])
        (refine WE_last rfl (by kernel_rfl) (by kernel_rfl) (by kernel_rfl) ?_; intro K hK; go_simp; refine hK.out _ _ (NoPanic.normal ?_); clear hK K)
        go_wp2_with fail
        go_meet
        case rel => exact ⟨rfl, rfl, rfl, hBw7⟩
      · intro K hK
        go_simp
        go_at_call 21
        refine ((unhid HIB) _ ((unhid HGW).below hBw6)).mono ?_
        rintro e w7 ⟨rfl, hb⟩
        have hBw7 : Below W.heap.size W w7 := hBw6.trans (hb.mono hBw6.size)
        have hnc7 : w7.cell? ⟨W.heap.size, cn, none⟩ = some (.string (SB cw)) := (hb.cell (p := ⟨W.heap.size, cn, none⟩) hWs6).trans hnc6
        refine hK.out _ _ ⟨(hBw7.cell (p := ⟨B, 1, none⟩) hBW).trans a1, (hBw7.cell (p := ⟨B, 4, none⟩) hBW).trans a4, (hBw7.cell (p := ⟨B, 5, none⟩) hBW).trans a5⟩ ?_
        clear hSE hK K
        intro hSE
        (try simp only [Act.put, List.setIfInBounds_toArray, List.set_cons_zero, List.set_cons_succ])
        (refine WE_one (i := 4) rfl (by decide) (by kernel_rfl) ?_; intro K hK)
        go_simp
        refine hK.out _ _ ⟨(hBw7.cell (p := ⟨B, 1, none⟩) hBW).trans a1, (hBw7.cell (p := ⟨B, 4, none⟩) hBW).trans a4, (hBw7.cell (p := ⟨B, 5, none⟩) hBW).trans a5⟩ ?_
        clear hSE hK K
        intro hSE
        (try simp only [Act.put, List.setIfInBounds_toArray, List.set_cons_zero, List.set_cons_succ])
        (refine WE_take (i := 11) (v := ?_) rfl (by kernel_rfl) (by decide) (by kernel_rfl) (by kernel_rfl) (fun _ _ _ h => h) (by rfl) hSE ?_ ?_; rotate_left; (focus (intro w hSw; (try dsimp only at hSw); go_simp; (try with_reducible rfl))); simp only [Act.put, List.setIfInBounds_toArray, List.set_cons_zero, List.set_cons_succ])
        (refine WE_take (i := 12) (v := ?_) rfl (by kernel_rfl) (by decide) (by kernel_rfl) (by kernel_rfl) (fun _ _ _ h => h) (by rfl) hSE ?_ ?_; rotate_left; (focus (intro w hSw; (try dsimp only at hSw); go_simp; (try with_reducible rfl))); simp only [Act.put, List.setIfInBounds_toArray, List.set_cons_zero, List.set_cons_succ])
        (refine WE_last rfl (by kernel_rfl) (by kernel_rfl) (by kernel_rfl) ?_; intro K hK; go_simp; refine hK.out _ _ (NoPanic.normal ?_); clear hK K)
        go_wp2_with fail
        go_meet
        case rel => exact ⟨rfl, rfl, rfl, hBw7⟩
  case rest =>
    obtain ⟨rfl, rfl, rfl, hbz⟩ := hcut
    have d0 := (hbz.cell (p := ⟨B, 0, none⟩) hBW).trans a0
    have d2 := (hbz.cell (p := ⟨B, 2, none⟩) hBW).trans a2
    have d3 := (hbz.cell (p := ⟨B, 3, none⟩) hBW).trans a3
    have d6 := (hbz.cell (p := ⟨B, 6, none⟩) hBW).trans a6
    have hBz : B < wc.heap.size := Nat.lt_of_lt_of_le hBW hbz.size
    have HGZ := hid ((unhid HGW).below hbz)
    have HBZ := hid ((unhid HBW).trans (hbz.mono (unhid HBW).size))
    clear hbz a0 a1 a2 a3 a4 a5 a6
    have q2 := fun p : After wc => After.cell (a := ⟨B, 2, none⟩) hBz d2 p
    have q3 := fun p : After wc => After.cell (a := ⟨B, 3, none⟩) hBz d3 p
    have zs : ∀ l : List UInt8, (SB l).size = l.length := fun _ => rfl
    go_wp2_with fail
    refine wp_region_below (by kernel_rfl) (by kernel_rfl) ?_
    (repeat (go_big_quiet_step (first | (go_at_call_of 21 (x.left); exact Calls.after_of ((unhid HIL) _ ((unhid HGZ).below (After.below _)))) | (go_at_call_of 21 (x.low); exact Calls.after_of ((unhid HIO) _ ((unhid HGZ).below (After.below _)))))))
    refine wpQuiet_nil ?_
    intro wq hw'
    obtain ⟨⟨wq2, hbq⟩, hw''⟩ := hw'
    dsimp only at hw''
    subst hw''
    have b0 := (hbq.cell (p := ⟨B, 0, none⟩) hBz).trans d0
    have b6 := (hbq.cell (p := ⟨B, 6, none⟩) hBz).trans d6
    have HBQ := hid ((unhid HBZ).trans (hbq.mono (unhid HBZ).size))
    clear hbq d0 d2 d3 d6 q2 q3
    generalize x.text = tx at *
    rcases (show x.kind = 1 ∨ x.kind = 2 ∨ x.kind = 3 ∨ x.kind = 4 ∨ x.kind = 5 ∨ x.kind = 6 by omega) with hk | hk | hk | hk | hk | hk
    all_goals
      rw [hk] at b0 HFIN
      clear hk k1 k2
      go_wp2_with fail
      go_ret
      refine ⟨retS ?_, unhid HBQ⟩
      rw [unhid HFIN]
      go_light
      simp [SB, itTxt, ByteArray.data_append]

end Go.Proofs.YtfklckjfbnaoeaaGreatDoor
