/-
  The text of a face: package face.
-/
import Derived.Test.YtfklckjfbnaoeaaGreatDoorFcPt
import Derived.Test.YtfklckjfbnaoeaaGreatDoorFcVal
import Derived.Test.YtfklckjfbnaoeaaGreatDoorWaK
set_option linter.unusedSimpArgs false
set_option linter.unusedVariables false
namespace Go.Proofs.YtfklckjfbnaoeaaGreatDoor
open Go.RowKit

theorem joinTail_len {sep : List UInt8} {M : Nat} : ∀ ws : List (List UInt8), (∀ w ∈ ws, w.length ≤ M) → (Lib.joinTail sep ws).length ≤ ws.length * (M + sep.length)
  | [], _ => by simp [Lib.joinTail]
  | w :: ws, h => by
    have ih := joinTail_len (sep := sep) ws (fun v hv => h v (List.mem_cons_of_mem _ hv))
    have h1 := h w (List.mem_cons_self)
    simp only [Lib.joinTail, List.map_cons, List.flatten_cons, List.length_append, List.length_cons, Nat.succ_mul] at ih ⊢
    omega
theorem join_len {sep : List UInt8} {M : Nat} (ws : List (List UInt8)) (h : ∀ w ∈ ws, w.length ≤ M) : (Lib.join ws sep).length ≤ ws.length * (M + sep.length) := by
  cases ws with
  | nil => simp [Lib.join]
  | cons x ws =>
    rw [Lib.join_cons]
    have := joinTail_len (sep := sep) ws (fun v hv => h v (List.mem_cons_of_mem _ hv))
    have h1 := h x (List.mem_cons_self)
    simp only [List.length_append, List.length_cons, Nat.succ_mul]
    omega
theorem fmtIt_len {x : It} (h : itB x = true) : (fmtIt x).length ≤ 100 := by
  rw [itTxt_eq h]
  obtain ⟨-, -, -, -, l0, l1, o0, o1, n0, n1, -, m0, m1, ht⟩ := it_bounds h
  have za := itoa_len n0 n1
  have zb := itoa_len m0 m1
  have zl := itoa_len l0 l1
  have zo := itoa_len o0 o1
  have zc := colourW_len x.colour.toNat
  unfold itTxt
  split
  · simp only [List.length_append, List.length_cons, List.length_nil]; omega
  · split
    · simp only [List.length_append, List.length_cons, List.length_nil]; omega
    · split
      · simp only [List.length_append, List.length_cons, List.length_nil]; omega
      · split
        · simp only [List.length_append, List.length_cons, List.length_nil]; omega
        · split <;> (simp only [List.length_append, List.length_cons, List.length_nil]; omega)
theorem shapeW_len (c : Nat) : (shapeW.getD c []).length ≤ 10 := by
  by_cases h : c < 7
  · have : ∀ u : Fin 7, (shapeW.getD u.val []).length ≤ 10 := by decide
    exact this ⟨c, h⟩
  · have e : shapeW.length = 7 := rfl
    rw [List.getD_eq_getElem?_getD, List.getElem?_eq_none (by omega)]; simp
theorem info_str : (Tryz.prog.info? 9).map (fun i => (i.zero, i.size, i.bytes)) = some (some (.string ByteArray.empty), 1, 16) := by kernel_rfl
theorem strC_app (a b : List (List UInt8)) : strC (a ++ b) = strC a ++ strC b := by simp [strC]
theorem strC_len (a : List (List UInt8)) : (strC a).length = a.length := by simp [strC]

theorem SB_add (a b : List UInt8) : SB a ++ SB b = SB (a ++ b) := ByteArray.ext (Array.toList_inj.1 (by simp [SB, ByteArray.data_append]))
theorem own_below {w w' : World} {base e size n : Nat} {v : Value} {xs : List Value} (h : w.ownsRow base e size v n xs) (hb : Below w.heap.size w w') : w'.ownsRow base e size v n xs := by
  have hg : w.grownBy w' none := ⟨hb.os, hb.tape, hb.output, hb.size, fun k hk _ => hb.block k hk⟩
  refine h.kept hg ?_
  cases v.ownBlock with
  | none => exact Or.inl rfl
  | some g => exact Or.inr (by simp)
/-- The texts of the first k items. -/
def itTs (f : Fc) (k : Nat) : List (List UInt8) := (f.items.take k).map fmtIt
theorem itTs_len (f : Fc) {k : Nat} (h : k ≤ f.items.length) : (itTs f k).length = k := by simp [itTs]; omega
theorem itTs_succ (f : Fc) {k : Nat} (h : k < f.items.length) : itTs f (k + 1) = itTs f k ++ [fmtIt f.items[k]] := by
  unfold itTs
  rw [List.take_succ_eq_append_getElem h, List.map_append]
  rfl
theorem itTs_all (f : Fc) : itTs f f.items.length = f.items.map fmtIt := by simp [itTs]
/-- What stands ahead of the items. -/
def hdTxt (sw zw gw : List UInt8) (two : Prop) [Decidable two] : List UInt8 := if two then sw ++ [32] ++ zw ++ ([32] ++ gw) else sw ++ [32] ++ zw
theorem hdTxt_len {sw zw gw : List UInt8} {two : Prop} [Decidable two] (hs : sw.length ≤ 10) (hz : zw.length ≤ 3) (hg : gw.length ≤ 3) : (hdTxt sw zw gw two).length ≤ 18 := by
  unfold hdTxt
  split <;> (simp only [List.length_append, List.length_cons, List.length_nil]; omega)

theorem hdTxt_eq (f : Fc) : Lib.join (headF f) [32] = hdTxt (shapeW.getD f.shape.toNat []) (Lib.itoa f.size) (Lib.itoa f.height) (f.shape = 2) := by
  unfold headF hdTxt
  by_cases h : f.shape = 2
  · rw [if_pos h, if_pos h]; simp [Lib.join_cons, Lib.joinTail]
  · rw [if_neg h, if_neg h]; simp [Lib.join_cons, Lib.joinTail]

set_option maxHeartbeats 4000000 in
set_option maxRecDepth 100000 in
theorem format_calls (f : Fc) (A : Option Addr) (c : Nat) (w : World) (hg : Gl w) (hit : ItsOk w A f.items) (hf : fcB f = true) :
    Calls Tryz.prog 226 #[.agg #[.int .i64 f.shape, .int .i64 f.size, .int .i64 f.height, .slice A f.items.length c]] w fun e w' => e = .returned (.string (SB (fmtF f))) ∧ Below w.heap.size w w' := by
  obtain ⟨s0, s1⟩ := size_bounds hf
  have hs : 1 ≤ f.shape ∧ f.shape ≤ 6 := by simp only [fcB, Bool.and_eq_true, decide_eq_true_eq] at hf; exact hf.1.1.1.1
  have hl16 : f.items.length ≤ 16 := by simp only [fcB, Bool.and_eq_true, decide_eq_true_eq] at hf; exact hf.1.1.2
  have hgt : 0 ≤ f.height ∧ f.height ≤ 200 := by
    simp only [fcB, Bool.and_eq_true, decide_eq_true_eq] at hf
    have := hf.1.2
    split at this <;> simp at this <;> omega
  have HVAL := hid (items_valid hf)
  have HHD := hid (hdTxt_eq f)
  have HFT := hid (show fmtF f = if f.items = [] then Lib.join (headF f) [32] else Lib.join (headF f) [32] ++ ([58, 32] ++ Lib.join (f.items.map fmtIt) [59, 32]) from rfl)
  have HIZ := hid (fun W (h : Gl W) => itoa_lib f.size W h (by omega) (by omega))
  have HIG := hid (fun W (h : Gl W) => itoa_lib f.height W h hgt.1 (by omega))
  have zz := itoa_len (n := f.size) (by omega) s1
  have zg := itoa_len hgt.1 hgt.2
  have zs := shapeW_len f.shape.toNat
  generalize Lib.itoa f.size = zw at *
  generalize Lib.itoa f.height = gw at *
  obtain ⟨sn, hsn⟩ := Int.eq_ofNat_of_zero_le (show 0 ≤ f.shape by omega)
  have hsn7 : sn < 7 := by omega
  rw [show f.shape.toNat = sn by omega] at HHD zs
  obtain ⟨sw, hsw⟩ : ∃ sw, sw = shapeW.getD sn [] := ⟨_, rfl⟩
  have hcat : (strC shapeW)[sn]? = some (.string (SB sw)) := by
    rw [hsw, strC_at hsn7, List.getD_eq_getElem?_getD, List.getElem?_eq_getElem (show sn < shapeW.length from hsn7)]
    rfl
  rw [← hsw] at HHD zs
  have HCAT := hid hcat
  have HG := hid hg
  have HIT := hid hit
  clear hg hf hsw hcat hit
  rw [hsn] at HHD ⊢
  have HSN := hid hsn
  clear hsn hgt hs
  go_enter Tryz.func226, Tryz.ntmps226
  go_wp2_with fail
  obtain ⟨W, hW⟩ : ∃ W, W = w.alloc (.cells #[.int .i64 (sn : Int), .int .i64 f.size, .int .i64 f.height, .slice A f.items.length c] 214) := ⟨_, rfl⟩
  have hcell : ∀ i, W.cell? ⟨w.heap.size, i, none⟩ = #[Value.int .i64 (sn : Int), .int .i64 f.size, .int .i64 f.height, .slice A f.items.length c][i]? := fun i => by rw [hW, World.cell?_alloc_new]
  have a0 := hcell 0
  have a1 := hcell 1
  have a2 := hcell 2
  have a3 := hcell 3
  simp at a0 a1 a2 a3
  have hbw : Below w.heap.size w W := by rw [hW]; exact below_alloc _ _
  have hB : w.heap.size < W.heap.size := by rw [hW]; simp
  rw [← hW]
  clear hW hcell
  obtain ⟨B, hBB⟩ : ∃ B, B = w.heap.size := ⟨_, rfl⟩
  rw [← hBB] at a0 a1 a2 a3 ⊢
  have hBW : B < W.heap.size := by omega
  have HBW := hid hbw
  have HGW := hid ((unhid HG).below hbw)
  have HITW := hid ((unhid HIT).below hbw)
  have HBB := hid hBB
  clear hbw hB hBB
  have zsb : ∀ l : List UInt8, (SB l).size = l.length := fun _ => rfl
  have hd5 : ¬ 9223372036854775807 < sw.length + 1 := by omega
  have hd9 : ¬ 9223372036854775807 < sw.length + 1 + zw.length := by omega
  go_cut [3] (fun s3 wz => s3 = .string (SB (sw ++ [32] ++ zw)) ∧ Below W.heap.size W wz)
  case first =>
    refine wp_region_noPanic ?_
    refine wp_region_E (S := fun w' => w'.cell? ⟨B, 0, none⟩ = some (.int .i64 (sn : Int)) ∧ w'.cell? ⟨B, 1, none⟩ = some (.int .i64 f.size)) 10 11 rfl (by kernel_rfl) (by kernel_rfl) ⟨a0, a1⟩ ?_
    intro hSE
    (refine WE_take (i := 1) (v := ?_) rfl (by kernel_rfl) (by decide) (by kernel_rfl) (by kernel_rfl) (fun _ _ _ h => h) (by rfl) hSE ?_ ?_; rotate_left; (focus (intro w hSw; (try dsimp only at hSw); go_simp; (try with_reducible rfl))); simp only [Act.put, List.setIfInBounds_toArray, List.set_cons_zero, List.set_cons_succ])
    (refine WE_take (i := 2) (v := ?_) rfl (by kernel_rfl) (by decide) (by kernel_rfl) (by kernel_rfl) (fun _ _ _ h => h) (by rfl) hSE ?_ ?_; rotate_left; (focus (intro w hSw; (try dsimp only at hSw); go_simp; (try with_reducible rfl))); simp only [Act.put, List.setIfInBounds_toArray, List.set_cons_zero, List.set_cons_succ])
    (refine WE_take (i := 6) (v := ?_) rfl (by kernel_rfl) (by decide) (by kernel_rfl) (by kernel_rfl) (fun _ _ _ h => h) (by rfl) hSE ?_ ?_; rotate_left; (focus (intro w hSw; (try dsimp only at hSw); go_simp; (try with_reducible rfl))); simp only [Act.put, List.setIfInBounds_toArray, List.set_cons_zero, List.set_cons_succ])
    (refine WE_take (i := 7) (v := ?_) rfl (by kernel_rfl) (by decide) (by kernel_rfl) (by kernel_rfl) (fun _ _ _ h => h) (by rfl) hSE ?_ ?_; rotate_left; (focus (intro w hSw; (try dsimp only at hSw); go_simp; (try with_reducible rfl))); simp only [Act.put, List.setIfInBounds_toArray, List.set_cons_zero, List.set_cons_succ])
    (refine WE_one (i := 0) rfl (by decide) (by kernel_rfl) ?_; intro K hK)
    go_simp
    go_at_call 223
    refine (shapeNames_calls _).mono ?_
    rintro e w5 ⟨rfl, hw5⟩
    have hBw5 : Below W.heap.size W w5 := by rw [hw5]; exact below_alloc' (Below.drew (Below.refl _ _)) _
    have hr5 : w5.heap[W.heap.size]? = some (.cells (strC shapeW).toArray 9 (0, 0)) := by rw [hw5]; exact heap_alloc_new W.drew _
    have HR5 := hid hr5
    clear hw5
    refine hK.out _ _ ⟨(hBw5.cell (p := ⟨B, 0, none⟩) hBW).trans a0, (hBw5.cell (p := ⟨B, 1, none⟩) hBW).trans a1⟩ ?_
    clear hSE hK K
    intro hSE
    (try simp only [Act.put, List.setIfInBounds_toArray, List.set_cons_zero, List.set_cons_succ])
    have hnc : w5.cell? ⟨W.heap.size, sn, none⟩ = some (.string (SB sw)) := by
      rw [cell_of_row _ _ _ _ _ _ (unhid HR5)]
      simpa using unhid HCAT
    have hWs5 : W.heap.size < w5.heap.size := (Array.getElem?_eq_some_iff.1 (unhid HR5)).1
    have hc9 : (sn : Int) < 7 := by omega
    (refine WE_take (i := 3) (v := ?_) rfl (by kernel_rfl) (by decide) (by kernel_rfl) (by kernel_rfl) (fun _ _ _ h => h) (by rfl) hSE ?_ ?_; rotate_left; (focus (intro w hSw; (try dsimp only at hSw); go_simp; (try with_reducible rfl))); simp only [Act.put, List.setIfInBounds_toArray, List.set_cons_zero, List.set_cons_succ])
    refine WE_two (i := 4) (j := 8) rfl rfl (by decide) (by decide) (by kernel_rfl) ?_ ?_
    · intro K hK
      go_simp
      refine hK.out _ _ ⟨(hBw5.cell (p := ⟨B, 0, none⟩) hBW).trans a0, (hBw5.cell (p := ⟨B, 1, none⟩) hBW).trans a1⟩ ?_
      clear hSE hK K
      intro hSE
      (try simp only [Act.put, List.setIfInBounds_toArray, List.set_cons_zero, List.set_cons_succ])
      (refine WE_take (i := 5) (v := ?_) rfl (by kernel_rfl) (by decide) (by kernel_rfl) (by kernel_rfl) (fun _ _ _ h => h) (by rfl) hSE ?_ ?_; rotate_left; (focus (intro w hSw; (try dsimp only at hSw); go_simp; (try with_reducible rfl))); simp only [Act.put, List.setIfInBounds_toArray, List.set_cons_zero, List.set_cons_succ])
      (refine WE_one (i := 8) rfl (by decide) (by kernel_rfl) ?_; intro K hK)
      go_simp
      go_at_call 21
      refine ((unhid HIZ) _ ((unhid HGW).below hBw5)).mono ?_
      rintro e w6 ⟨rfl, hb⟩
      have hBw6 : Below W.heap.size W w6 := hBw5.trans (hb.mono hBw5.size)
      refine hK.out _ _ ⟨(hBw6.cell (p := ⟨B, 0, none⟩) hBW).trans a0, (hBw6.cell (p := ⟨B, 1, none⟩) hBW).trans a1⟩ ?_
      clear hSE hK K
      intro hSE
      (try simp only [Act.put, List.setIfInBounds_toArray, List.set_cons_zero, List.set_cons_succ])
      (refine WE_take (i := 9) (v := ?_) rfl (by kernel_rfl) (by decide) (by kernel_rfl) (by kernel_rfl) (fun _ _ _ h => h) (by rfl) hSE ?_ ?_; rotate_left; (focus (intro w hSw; (try dsimp only at hSw); go_simp; (try with_reducible rfl))); simp only [Act.put, List.setIfInBounds_toArray, List.set_cons_zero, List.set_cons_succ])
      (refine WE_last rfl (by kernel_rfl) (by kernel_rfl) (by kernel_rfl) ?_; intro K hK; go_simp; refine hK.out _ _ (NoPanic.normal ?_); clear hK K)
      go_wp2_with fail
      go_meet
      case rel => exact ⟨rfl, hBw6⟩
    · intro K hK
      go_simp
      go_at_call 21
      refine ((unhid HIZ) _ ((unhid HGW).below hBw5)).mono ?_
      rintro e w6 ⟨rfl, hb⟩
      have hBw6 : Below W.heap.size W w6 := hBw5.trans (hb.mono hBw5.size)
      have hnc6 : w6.cell? ⟨W.heap.size, sn, none⟩ = some (.string (SB sw)) := (hb.cell (p := ⟨W.heap.size, sn, none⟩) hWs5).trans hnc
      refine hK.out _ _ ⟨(hBw6.cell (p := ⟨B, 0, none⟩) hBW).trans a0, (hBw6.cell (p := ⟨B, 1, none⟩) hBW).trans a1⟩ ?_
      clear hSE hK K
      intro hSE
      (try simp only [Act.put, List.setIfInBounds_toArray, List.set_cons_zero, List.set_cons_succ])
      (refine WE_one (i := 4) rfl (by decide) (by kernel_rfl) ?_; intro K hK)
      go_simp
      refine hK.out _ _ ⟨(hBw6.cell (p := ⟨B, 0, none⟩) hBW).trans a0, (hBw6.cell (p := ⟨B, 1, none⟩) hBW).trans a1⟩ ?_
      clear hSE hK K
      intro hSE
      (try simp only [Act.put, List.setIfInBounds_toArray, List.set_cons_zero, List.set_cons_succ])
      (refine WE_take (i := 5) (v := ?_) rfl (by kernel_rfl) (by decide) (by kernel_rfl) (by kernel_rfl) (fun _ _ _ h => h) (by rfl) hSE ?_ ?_; rotate_left; (focus (intro w hSw; (try dsimp only at hSw); go_simp; (try with_reducible rfl))); simp only [Act.put, List.setIfInBounds_toArray, List.set_cons_zero, List.set_cons_succ])
      (refine WE_take (i := 9) (v := ?_) rfl (by kernel_rfl) (by decide) (by kernel_rfl) (by kernel_rfl) (fun _ _ _ h => h) (by rfl) hSE ?_ ?_; rotate_left; (focus (intro w hSw; (try dsimp only at hSw); go_simp; (try with_reducible rfl))); simp only [Act.put, List.setIfInBounds_toArray, List.set_cons_zero, List.set_cons_succ])
      (refine WE_last rfl (by kernel_rfl) (by kernel_rfl) (by kernel_rfl) ?_; intro K hK; go_simp; refine hK.out _ _ (NoPanic.normal ?_); clear hK K)
      go_wp2_with fail
      go_meet
      case rel => exact ⟨rfl, hBw6⟩
  case rest =>
    obtain ⟨rfl, hbz⟩ := hcut
    have hBz : B < wc.heap.size := Nat.lt_of_lt_of_le hBW hbz.size
    have HGZ := hid ((unhid HGW).below hbz)
    have c0 := (hbz.cell (p := ⟨B, 0, none⟩) hBW).trans a0
    go_upto_if 19 with (fail)
    go_cut [3] from 17 to 25 (fun s3 wz => s3 = .string (SB (hdTxt sw zw gw ((sn : Int) = 2))) ∧ Below W.heap.size W wz)
    case first =>
      have c2 := (hbz.cell (p := ⟨B, 2, none⟩) hBW).trans a2
      have HBZ := hid hbz
      clear hbz a0 a1 a2 a3
      by_cases h2 : (sn : Int) = 2
      · have HX := hid (show SB (sw ++ [32] ++ zw ++ ([32] ++ gw)) = SB (hdTxt sw zw gw ((sn : Int) = 2)) by rw [hdTxt, if_pos h2])
        have b2 : ((sn : Int) == 2) = true := by simpa using h2
        clear h2
        have hd1 : ¬ 9223372036854775807 < 1 + gw.length := by omega
        have hd2 : ¬ 9223372036854775807 < sw.length + 1 + zw.length + (1 + gw.length) := by omega
        go_wp2_with fail
        refine ((unhid HIG) _ (unhid HGZ)).mono ?_
        rintro e w6 ⟨rfl, hbq⟩
        go_wp2_with fail
        go_meet
        case rel => exact ⟨congrArg Value.string ((show SB (sw ++ 32 :: zw) ++ (SB [32] ++ SB gw) = SB (sw ++ [32] ++ zw ++ ([32] ++ gw)) by rw [SB_add, SB_add]; simp).trans (unhid HX)), (unhid HBZ).trans (hbq.mono (unhid HBZ).size)⟩
      · have HX := hid (show SB (sw ++ [32] ++ zw) = SB (hdTxt sw zw gw ((sn : Int) = 2)) by rw [hdTxt, if_neg h2])
        have b2 : ((sn : Int) == 2) = false := by simpa using h2
        clear h2
        go_wp2_with fail
        go_meet
        case rel => exact ⟨congrArg Value.string (unhid HX), unhid HBZ⟩
    case rest =>
      obtain ⟨rfl, hby⟩ := hcut
      have zhd : (hdTxt sw zw gw ((sn : Int) = 2)).length ≤ 18 := hdTxt_len zs zz zg
      generalize hdTxt sw zw gw ((sn : Int) = 2) = hd at *
      have c3 := (hby.cell (p := ⟨B, 3, none⟩) hBW).trans a3
      have hBy : B < wc.heap.size := Nat.lt_of_lt_of_le hBW hby.size
      have HGY := hid ((unhid HGW).below hby)
      have HITY := hid ((unhid HITW).below hby)
      have HBY := hid ((unhid HBW).trans (hby.mono (unhid HBW).size))
      clear hby hbz HGZ hBz c0 a0 a1 a2 a3
      obtain ⟨i0, hi, hz0, hz1, hz2⟩ := info_parts info_str
      go_wp2_with fail
      go_loopw [29, 4] (fun i v wr => ∃ k : Nat, k ≤ f.items.length ∧ i = .int .i64 k ∧ wr.ownsRow wc.heap.size 9 1 v k (strC (itTs f k)) ∧ Below wc.heap.size wc wr) (fun i _ _ => f.items.length - (intOf i).toNat)
      case atStart => exact ⟨0, Nat.zero_le _, rfl, World.ownsRow_nil _ _ _ _, Below.refl _ _⟩
      case round =>
        obtain ⟨k, hk, rfl, hown, hbel⟩ := hrel
        by_cases hlt : k < f.items.length
        · have HFI := hid ((unhid HITY).below hbel)
          have HGR := hid ((unhid HGY).below hbel)
          obtain ⟨b, off, rfl, hb, hc⟩ := (unhid HFI).rd (its_ne hlt)
          obtain ⟨d0, d1, d2, d3, d4, d5, d6⟩ := its_cells hc hlt
          have HSC := hid (itTs_succ f hlt)
          have hxv := (unhid HVAL) f.items[k] (List.getElem_mem hlt)
          clear hc
          generalize f.items[k] = x at *
          obtain ⟨A0, c1, rfl, -⟩ := own_slice hown
          have HOWN := hid hown
          have HBEL := hid hbel
          have HXV := hid hxv
          clear hown hbel hxv
          go_wp2_with fail
          refine (itemText_calls x _ ((unhid HGR).below (below_alloc _ _)) (unhid HXV)).mono ?_
          rintro e w6 ⟨rfl, hb6⟩
          have hb6' : Below wr.heap.size wr w6 := (below_alloc _ _).trans (hb6.mono (by simp))
          have HO6 := hid (own_below (unhid HOWN) hb6')
          have HB6 := hid ((unhid HBEL).trans (hb6'.mono (unhid HBEL).size))
          clear hb6 hb6'
          go_wp2_with (at_builtin; refine wpList_append_own _ rfl _ _ 31 rfl wc.heap.size 9 i0 (.string ByteArray.empty) 1 16 Tryz.underlying31 hi hz0 hz1 hz2 rfl (by decide) _ _ _ rfl ((unhid HO6).alloc _) ⟨w6.heap.size, 0, none⟩ 1 1 [.string (SB (fmtIt x))] rfl rfl ?c1 ?c2 ?c3 ?c4 ?c5 ?_)
          case c1 =>
            intro j u hj
            match j, hj with
            | 0, hj => simp at hj; subst hj; simp [Addr.add, go_sem]
          case c2 => intro u hu; simp at hu; subst hu; rfl
          case c3 => unfold maxLen; omega
          case c4 => omega
          case c5 => have := (unhid HB6).size; simp; omega
          intro v' w3 hown3 hg3 _
          have hb3 : Below wc.heap.size wc w3 := by
            refine Below.grown ((unhid HB6).alloc (unhid HB6).size _) hg3 (by have := (unhid HB6).size; simp; omega) (fun i hi => ?_)
            rcases Nat.lt_or_ge i wc.heap.size with h | h
            · exact absurd hi (own_ne (unhid HO6) (Or.inl h))
            · exact h
          have HO3 := hid hown3
          clear hown3 hg3
          go_wp2_with fail
          go_roundw
          case rel => exact ⟨k + 1, by omega, by go_num, by rw [unhid HSC, strC_app]; exact unhid HO3, hb3⟩
          case measure => simp [intOf]; omega
        · obtain rfl : k = f.items.length := by omega
          obtain ⟨A0, c1, rfl, hrd, hcap, -⟩ := own_slice2 hown
          rw [itTs_all] at hrd
          have HRD := hid hrd
          have HBEL := hid hbel
          clear hown hrd hbel hlt
          by_cases h0 : f.items = []
          · have HF := hid ((unhid HFT).trans (if_pos h0))
            have hl0 : f.items.length = 0 := by rw [h0]; rfl
            have hlb : ((f.items.length : Int) == 0) = true := by rw [hl0]; rfl
            clear h0 hl0
            go_wp2_with fail
            go_ret
            exact ⟨retS (by rw [unhid HF, unhid HHD]), (unhid HBY).trans ((unhid HBEL).mono (unhid HBY).size)⟩
          · have HF := hid ((unhid HFT).trans (if_neg h0))
            have hl0 : f.items.length ≠ 0 := fun e => h0 (List.eq_nil_of_length_eq_zero e)
            have hlb : ((f.items.length : Int) == 0) = false := by simpa using hl0
            have hjl : (Lib.join (f.items.map fmtIt) [59, 32]).length ≤ 1632 := by
              have := join_len (sep := [59, 32]) (M := 100) (f.items.map fmtIt) (by
                intro w hw
                obtain ⟨x, hx, rfl⟩ := List.mem_map.1 hw
                exact fmtIt_len ((unhid HVAL) x hx))
              simp only [List.length_map, List.length_cons, List.length_nil] at this
              omega
            have HJN := hid (join_lib (f.items.map fmtIt) [59, 32] A0 c1 wr (unhid HRD) (by simp; omega) (by simpa using hcap) (by omega))
            rw [List.length_map] at HJN
            generalize Lib.join (f.items.map fmtIt) [59, 32] = jn at *
            clear h0 hl0
            have hd6 : ¬ 9223372036854775807 < hd.length + 2 := by omega
            have hd7 : ¬ 9223372036854775807 < hd.length + 2 + jn.length := by omega
            go_wp2_with fail
            refine (unhid HJN).mono ?_
            rintro e w7 ⟨rfl, hb7⟩
            go_wp2_with fail
            go_ret
            refine ⟨retS ?_, (unhid HBY).trans (((unhid HBEL).trans (hb7.mono (unhid HBEL).size)).mono (unhid HBY).size)⟩
            rw [unhid HF, unhid HHD]
            go_light
            simp [SB, ByteArray.data_append]

end Go.Proofs.YtfklckjfbnaoeaaGreatDoor
