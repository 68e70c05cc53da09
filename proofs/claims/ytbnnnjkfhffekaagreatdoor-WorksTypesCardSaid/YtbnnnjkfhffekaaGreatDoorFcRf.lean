/-
  The reference's Format, and the law FaceFormats.
-/
import Derived.Test.YtbnnnjkfhffekaaGreatDoorFcWr
import Derived.Test.YtbnnnjkfhffekaaGreatDoorWaP
import Derived.Test.YtbnnnjkfhffekaaGreatDoorFcFo
set_option linter.unusedSimpArgs false
set_option linter.unusedVariables false
namespace Go.Proofs.YtbnnnjkfhffekaaGreatDoor
open Go.RowKit

/-- The text of a face with its first k items. -/
def txtK (f : Fc) (k : Nat) : List UInt8 := Lib.join (headF f) [32] ++ tailF 0 (f.items.take k)
theorem tailF_snoc (x : It) : ∀ (l : List It) (i : Nat), tailF i (l ++ [x]) = tailF i l ++ (sepR (i + l.length) ++ fmtIt x)
  | [], i => by simp [tailF]
  | y :: l, i => by
    rw [List.cons_append, tailF, tailF, tailF_snoc x l (i + 1)]
    simp [show i + 1 + l.length = i + (l.length + 1) by omega]
theorem txtK_succ {f : Fc} {k : Nat} (h : k < f.items.length) : txtK f (k + 1) = txtK f k ++ (sepR k ++ fmtIt f.items[k]) := by
  unfold txtK
  rw [List.take_succ_eq_append_getElem h, tailF_snoc]
  simp [List.length_take, Nat.min_eq_left (Nat.le_of_lt h)]
theorem txtK_all (f : Fc) {k : Nat} (h : f.items.length ≤ k) : txtK f k = fmtF f := by
  unfold txtK
  rw [List.take_of_length_le h, fmtF_tail]
theorem txtK_zero (f : Fc) : txtK f 0 = Lib.join (headF f) [32] := by simp [txtK, tailF]
theorem txtK_len {f : Fc} (hf : fcB f = true) (h0 : (Lib.join (headF f) [32]).length ≤ 18) : ∀ k, k ≤ f.items.length → (txtK f k).length ≤ 18 + k * 102
  | 0, _ => by rw [txtK_zero]; omega
  | k + 1, h => by
    have ih := txtK_len hf h0 k (by omega)
    have hi := fmtIt_len (items_valid hf _ (List.getElem_mem (show k < f.items.length by omega)))
    rw [txtK_succ (by omega)]
    have hs : (sepR k).length = 2 := by unfold sepR; split <;> rfl
    simp only [List.length_append, hs]
    omega

theorem SB_three (a b d : List UInt8) : (SB a ++ SB b) ++ SB d = SB (a ++ (b ++ d)) := by
  rw [SB_add, SB_add, List.append_assoc]

set_option maxHeartbeats 4000000 in
set_option maxRecDepth 100000 in
theorem rformat_calls (f : Fc) (A : Option Addr) (c : Nat) (w : World) (hit : ItsOk w A f.items) (hf : fcB f = true) :
    Calls Tryz.prog 55 #[.agg #[.int .i64 f.shape, .int .i64 f.size, .int .i64 f.height, .slice A f.items.length c]] w fun e w' => e = .returned (.string (SB (fmtF f))) ∧ Below w.heap.size w w' := by
  obtain ⟨s0, s1⟩ := size_bounds hf
  have hs : 1 ≤ f.shape ∧ f.shape ≤ 6 := by simp only [fcB, Bool.and_eq_true, decide_eq_true_eq] at hf; exact hf.1.1.1.1
  have hl16 : f.items.length ≤ 16 := by simp only [fcB, Bool.and_eq_true, decide_eq_true_eq] at hf; exact hf.1.1.2
  have hh : 0 ≤ f.height ∧ f.height ≤ 200 := by
    simp only [fcB, Bool.and_eq_true, decide_eq_true_eq] at hf
    have := hf.1.2
    split at this
    · simp at this; omega
    · simp at this; omega
  have HVAL := hid (items_valid hf)
  have zs := shapeW_len f.shape.toNat
  have zz := itoa_len (n := f.size) (by omega) s1
  have zg := itoa_len hh.1 hh.2
  have HDE := hid (hdTxt_eq f)
  have htl := hdTxt_len (two := f.shape = 2) zs zz zg
  rw [← hdTxt_eq f] at htl
  have HLEN := hid (txtK_len hf htl)
  have HZ := hid (txtK_zero f)
  have HALL := hid (fun k (h : f.items.length ≤ k) => txtK_all f h)
  have HIZ := hid (fun W => dec_same f.size W (by omega) s1)
  have HIG := hid (fun W => dec_same f.height W hh.1 hh.2)
  have HF0 := hid (FaceAt.new w c hit)
  have HB0 := hid (below_alloc w (.cells #[.int .i64 f.shape, .int .i64 f.size, .int .i64 f.height, .slice A f.items.length c] 60))
  obtain ⟨sn, hsn⟩ := Int.eq_ofNat_of_zero_le (show 0 ≤ f.shape by omega)
  rw [show f.shape.toNat = sn by omega] at HDE zs
  have HSH := hid (show ∀ W : World, Calls Tryz.prog 50 #[.int .i64 f.shape] W fun e w' => e = .returned (.string (SB (shapeW.getD sn []))) ∧ Below W.heap.size W w' from fun W => by rw [hsn]; exact rshape_calls sn (by omega) W)
  clear hsn
  generalize shapeW.getD sn [] = sw at *
  generalize Lib.itoa f.size = zw at *
  generalize Lib.itoa f.height = gw at *
  clear hit hf htl
  go_enter Tryz.func55, Tryz.ntmps55
  go_wp2_with fail
  generalize w.alloc (.cells #[.int .i64 f.shape, .int .i64 f.size, .int .i64 f.height, .slice A f.items.length c] 60) = W at *
  obtain ⟨a0, a1, a2, a3⟩ := (unhid HF0).cells
  have hBW := (unhid HF0).lt
  obtain ⟨B, hBB⟩ : ∃ B, B = w.heap.size := ⟨_, rfl⟩
  rw [← hBB] at a0 a1 a2 a3 hBW HF0 ⊢
  clear hBB
  have q0 := fun p : After W => After.cell (a := ⟨B, 0, none⟩) hBW a0 p
  have q1 := fun p : After W => After.cell (a := ⟨B, 1, none⟩) hBW a1 p
  have zsb : ∀ l : List UInt8, (SB l).size = l.length := fun _ => rfl
  refine wp_region_below (by kernel_rfl) (by kernel_rfl) ?_
  (repeat (go_big_quiet_step (first | (go_at_call 50; exact Calls.after_of ((unhid HSH) _)) | (go_at_call 74; exact Calls.after_same ((unhid HIZ) _)))))
  refine wpQuiet_nil ?_
  intro wq hw'
  obtain ⟨⟨wq2, hbq⟩, hw''⟩ := hw'
  dsimp only at hw''
  subst hw''
  have HF := hid ((unhid HF0).below hbq)
  have HBW := hid ((unhid HB0).trans (hbq.mono (unhid HB0).size))
  clear hbq q0 q1 a0 a1 a2 a3 hBW HF0 HB0
  obtain ⟨a0, a1, a2, a3⟩ := (unhid HF).cells
  by_cases h2 : f.shape = 2
  · have HX := hid (show SB sw ++ SB [32] ++ SB zw ++ (SB [32] ++ SB gw) = SB (txtK f 0) by
      rw [unhid HZ, unhid HDE, hdTxt, if_pos h2, SB_add, SB_add, SB_add, SB_add])
    have b2 : (f.shape == 2) = true := by simpa using h2
    clear h2
    go_wp2_with (go_at_call 74; refine ((unhid HIG) _).mono ?_; rintro e w' ⟨rfl, rfl⟩)
    go_loopw [4, 3] (fun i s wr => ∃ k : Nat, k ≤ f.items.length ∧ i = .int .i64 k ∧ s = .string (SB (txtK f k)) ∧ Below wq.heap.size wq wr) (fun i _ _ => f.items.length - (intOf i).toNat)
    case atStart => exact ⟨0, Nat.zero_le _, rfl, congrArg Value.string (unhid HX), Below.refl _ _⟩
    case round =>
      obtain ⟨k, hk, rfl, rfl, hbel⟩ := hrel
      have HBEL := hid hbel
      have HF1 := hid ((unhid HF).below hbel)
      have hlk := (unhid HLEN) k hk
      clear hbel a0 a1 a2 a3
      obtain ⟨a0, a1, a2, a3⟩ := (unhid HF1).cells
      by_cases hlt : k < f.items.length
      · obtain ⟨b, off, rfl, hb, hc⟩ := (unhid HF1).ok.rd (its_ne hlt)
        obtain ⟨d0, d1, d2, d3, d4, d5, d6⟩ := its_cells hc hlt
        have HSC := hid (txtK_succ hlt)
        have hxv := (unhid HVAL) f.items[k] (List.getElem_mem hlt)
        have hil := fmtIt_len hxv
        have HXV := hid hxv
        clear hc hxv
        generalize f.items[k] = x at *
        generalize hT : txtK f k = T at *
        have HT := hid hT
        clear hT
        by_cases hk0 : k = 0
        · have hkb : ((k : Int) == 0) = true := by simp; omega
          have HSEP := hid (show sepR k = [58, 32] by unfold sepR; rw [if_pos hk0])
          clear hk0
          go_wp2_with fail
          refine (written_calls x _ (unhid HXV)).mono ?_
          rintro e w6 ⟨rfl, hb6⟩
          have HB6 := hid ((unhid HBEL).trans (hb6.mono (unhid HBEL).size))
          clear hb6
          go_wp2_with fail
          go_roundw
          case rel => exact ⟨k + 1, by omega, by go_num, congrArg Value.string (by rw [unhid HSC, unhid HSEP]; exact SB_three _ _ _), unhid HB6⟩
          case measure => simp [intOf]; omega
        · have hkb : ((k : Int) == 0) = false := by simp; omega
          have HSEP := hid (show sepR k = [59, 32] by unfold sepR; rw [if_neg hk0])
          clear hk0
          go_wp2_with fail
          refine (written_calls x _ (unhid HXV)).mono ?_
          rintro e w6 ⟨rfl, hb6⟩
          have HB6 := hid ((unhid HBEL).trans (hb6.mono (unhid HBEL).size))
          clear hb6
          go_wp2_with fail
          go_roundw
          case rel => exact ⟨k + 1, by omega, by go_num, congrArg Value.string (by rw [unhid HSC, unhid HSEP]; exact SB_three _ _ _), unhid HB6⟩
          case measure => simp [intOf]; omega
      · have HE := hid ((unhid HALL) k (by omega))
        go_wp2_with fail
        go_ret
        exact ⟨retS (by rw [unhid HE]), (unhid HBW).trans ((unhid HBEL).mono (unhid HBW).size)⟩
  · have HX := hid (show SB sw ++ SB [32] ++ SB zw = SB (txtK f 0) by
      rw [unhid HZ, unhid HDE, hdTxt, if_neg h2, SB_add, SB_add])
    have b2 : (f.shape == 2) = false := by simpa using h2
    clear h2
    go_wp2_with fail
    go_loopw [4, 3] (fun i s wr => ∃ k : Nat, k ≤ f.items.length ∧ i = .int .i64 k ∧ s = .string (SB (txtK f k)) ∧ Below wq.heap.size wq wr) (fun i _ _ => f.items.length - (intOf i).toNat)
    case atStart => exact ⟨0, Nat.zero_le _, rfl, congrArg Value.string (unhid HX), Below.refl _ _⟩
    case round =>
      obtain ⟨k, hk, rfl, rfl, hbel⟩ := hrel
      have HBEL := hid hbel
      have HF1 := hid ((unhid HF).below hbel)
      have hlk := (unhid HLEN) k hk
      clear hbel a0 a1 a2 a3
      obtain ⟨a0, a1, a2, a3⟩ := (unhid HF1).cells
      by_cases hlt : k < f.items.length
      · obtain ⟨b, off, rfl, hb, hc⟩ := (unhid HF1).ok.rd (its_ne hlt)
        obtain ⟨d0, d1, d2, d3, d4, d5, d6⟩ := its_cells hc hlt
        have HSC := hid (txtK_succ hlt)
        have hxv := (unhid HVAL) f.items[k] (List.getElem_mem hlt)
        have hil := fmtIt_len hxv
        have HXV := hid hxv
        clear hc hxv
        generalize f.items[k] = x at *
        generalize hT : txtK f k = T at *
        have HT := hid hT
        clear hT
        by_cases hk0 : k = 0
        · have hkb : ((k : Int) == 0) = true := by simp; omega
          have HSEP := hid (show sepR k = [58, 32] by unfold sepR; rw [if_pos hk0])
          clear hk0
          go_wp2_with fail
          refine (written_calls x _ (unhid HXV)).mono ?_
          rintro e w6 ⟨rfl, hb6⟩
          have HB6 := hid ((unhid HBEL).trans (hb6.mono (unhid HBEL).size))
          clear hb6
          go_wp2_with fail
          go_roundw
          case rel => exact ⟨k + 1, by omega, by go_num, congrArg Value.string (by rw [unhid HSC, unhid HSEP]; exact SB_three _ _ _), unhid HB6⟩
          case measure => simp [intOf]; omega
        · have hkb : ((k : Int) == 0) = false := by simp; omega
          have HSEP := hid (show sepR k = [59, 32] by unfold sepR; rw [if_neg hk0])
          clear hk0
          go_wp2_with fail
          refine (written_calls x _ (unhid HXV)).mono ?_
          rintro e w6 ⟨rfl, hb6⟩
          have HB6 := hid ((unhid HBEL).trans (hb6.mono (unhid HBEL).size))
          clear hb6
          go_wp2_with fail
          go_roundw
          case rel => exact ⟨k + 1, by omega, by go_num, congrArg Value.string (by rw [unhid HSC, unhid HSEP]; exact SB_three _ _ _), unhid HB6⟩
          case measure => simp [intOf]; omega
      · have HE := hid ((unhid HALL) k (by omega))
        go_wp2_with fail
        go_ret
        exact ⟨retS (by rw [unhid HE]), (unhid HBW).trans ((unhid HBEL).mono (unhid HBW).size)⟩

end Go.Proofs.YtbnnnjkfhffekaaGreatDoor
