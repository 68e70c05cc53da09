/-
  Which faces are valid: package face and its reference.
-/
import Derived.Test.YtfklckjfbnaoeaaGreatDoorFcVj
import Derived.Test.YtfklckjfbnaoeaaGreatDoorFcVk
set_option linter.unusedSimpArgs false
set_option linter.unusedVariables false
namespace Go.Proofs.YtfklckjfbnaoeaaGreatDoor
open Go.RowKit

theorem fcB_items {f : Fc} (h : (decide (1 ≤ f.shape ∧ f.shape ≤ 6) && decide (4 ≤ f.size ∧ f.size ≤ 200) && decide (f.items.length ≤ 16) && (if f.shape = 2 then decide (4 ≤ f.height ∧ f.height ≤ 200) else decide (f.height = 0))) = true) : fcB f = f.items.all itB := by
  unfold fcB
  rw [h, Bool.true_and]
theorem fcB_no {f : Fc} (h : (decide (1 ≤ f.shape ∧ f.shape ≤ 6) && decide (4 ≤ f.size ∧ f.size ≤ 200) && decide (f.items.length ≤ 16) && (if f.shape = 2 then decide (4 ≤ f.height ∧ f.height ≤ 200) else decide (f.height = 0))) = false) : fcB f = false := by
  unfold fcB
  rw [h, Bool.false_and]
theorem all_upto {l : List It} {k : Nat} (h : ∀ j (hj : j < l.length), j < k → itB l[j] = true) (hk : l.length ≤ k) : l.all itB = true := by
  rw [List.all_eq_true]
  intro x hx
  obtain ⟨j, hj, rfl⟩ := List.mem_iff_getElem.1 hx
  exact h j hj (by omega)
theorem all_not {l : List It} {k : Nat} (hk : k < l.length) (h : itB l[k] = false) : l.all itB = false := by
  rw [List.all_eq_false]
  exact ⟨l[k], List.getElem_mem hk, by rw [h]; simp⟩

set_option maxHeartbeats 2000000 in
set_option maxRecDepth 100000 in
theorem valid_calls (f : Fc) (A : Option Addr) (c : Nat) (w : World) (hf : ItsOk w A f.items) :
    Calls Tryz.prog 173 #[.agg #[.int .i64 f.shape, .int .i64 f.size, .int .i64 f.height, .slice A f.items.length c]] w fun e w' => e = .returned (.bool (fcB f)) ∧ Below w.heap.size w w' := by
  have hn := hf.n
  have HF := hid hf
  clear hf
  cases hh : (decide (1 ≤ f.shape ∧ f.shape ≤ 6) && decide (4 ≤ f.size ∧ f.size ≤ 200) && decide (f.items.length ≤ 16) && (if f.shape = 2 then decide (4 ≤ f.height ∧ f.height ≤ 200) else decide (f.height = 0))) with
  | false =>
    have HFIN := hid (fcB_no hh)
    have HH := hid hh
    clear hh
    go_enter Tryz.func173, Tryz.ntmps173
    go_wp2_with (go_at_call 227; refine (within_b _ _ _ _).mono ?_; rintro e w' ⟨rfl, rfl⟩)
    all_goals first
      | (go_ret; exact ⟨retE (unhid HFIN), below_alloc _ _⟩)
      | (exfalso
         have hh := unhid HH
         go_light
         unfold wiB at *
         simp_all
         done)
      | (exfalso
         have hh := unhid HH
         go_light
         unfold wiB at *
         simp_all
         omega)
  | true =>
    have HFIN := hid (fcB_items hh)
    simp only [Bool.and_eq_true, decide_eq_true_eq] at hh
    obtain ⟨⟨⟨h1, h2⟩, h3⟩, h4⟩ := hh
    have d1 : wiB 1 f.shape 6 = true := decide_eq_true h1
    have d2 : wiB 4 f.size 200 = true := decide_eq_true h2
    have d3 := decide_eq_false (show ¬ (16 : Int) < f.items.length by omega)
    clear h1 h2
    by_cases hs : f.shape = 2
    · rw [if_pos hs] at h4
      have d4 : wiB 4 f.height 200 = true := h4
      have b1 : (f.shape == 2) = true := by simpa using hs
      have b2 : (f.shape != 2) = false := by simpa using hs
      clear h4 hs
      go_enter Tryz.func173, Tryz.ntmps173
      go_wp2_with (go_at_call 227; refine (within_b _ _ _ _).mono ?_; rintro e w' ⟨rfl, rfl⟩)
      obtain ⟨W, hW⟩ : ∃ W, W = w.alloc (.cells #[.int .i64 f.shape, .int .i64 f.size, .int .i64 f.height, .slice A f.items.length c] 214) := ⟨_, rfl⟩
      have a3 : W.cell? ⟨w.heap.size, 3, none⟩ = some (.slice A f.items.length c) := by rw [hW, World.cell?_alloc_new]; rfl
      have hbw : Below w.heap.size w W := by rw [hW]; exact below_alloc _ _
      have hB : w.heap.size < W.heap.size := by rw [hW]; simp
      rw [← hW]
      clear hW
      have HF := hid ((unhid HF).below hbw)
      have HBW := hid hbw
      clear hbw
      generalize hBB : w.heap.size = B at *
      go_loopw [44] (fun i wr => ∃ k : Nat, k ≤ f.items.length ∧ i = .int .i64 k ∧ (∀ j (hj : j < f.items.length), j < k → itB f.items[j] = true) ∧ Below W.heap.size W wr) (fun i _ => f.items.length - (intOf i).toNat)
      case atStart => exact ⟨0, Nat.zero_le _, rfl, fun j _ h => absurd h (by omega), Below.refl _ _⟩
      case round =>
        obtain ⟨k, hk, rfl, hall, hbel⟩ := hrel
        have HALL := hid hall
        have e3 := (hbel.cell (p := ⟨B, 3, none⟩) hB).trans a3
        have HBL := hid hbel
        clear hall a3
        have HFI := hid ((unhid HF).below hbel)
        clear hbel
        by_cases hlt : k < f.items.length
        · obtain ⟨b, off, rfl, hb, hc⟩ := (unhid HFI).rd (its_ne hlt)
          obtain ⟨c0, c1, c2, c3, c4, c5, c6⟩ := its_cells hc hlt
          have htx := (unhid HFI).txt f.items[k] (List.getElem_mem hlt)
          clear hc
          generalize hx : f.items[k] = x at *
          have HX := hid hx
          clear hx
          go_wp2_with fail
          refine (validItem_calls x _ htx).mono ?_
          rintro e w2 ⟨rfl, hb2⟩
          have HB2 := hid hb2
          clear hb2
          cases hi : itB x with
          | true =>
            go_wp2_with fail
            go_roundw
            case rel =>
              refine ⟨k + 1, by omega, by go_num, fun j hj hjk => ?_, (unhid HBL).trans (((below_alloc _ _).trans ((unhid HB2).mono (by simp))).mono (unhid HBL).size)⟩
              by_cases e : j = k
              · subst e; rw [unhid HX]; exact hi
              · exact (unhid HALL) j hj (by omega)
            case measure => simp [intOf]; omega
          | false =>
            go_wp2_with fail
            go_ret
            have hbel := (unhid HBL).trans (((below_alloc _ _).trans ((unhid HB2).mono (by simp))).mono (unhid HBL).size)
            have hbw := unhid HBW
            exact ⟨retE ((unhid HFIN).trans (all_not hlt (by rw [unhid HX]; exact hi))), by first | exact hbw.trans (hbel.mono (by have := hbw.size; omega)) | (rw [hBB]; exact hbw.trans (hbel.mono (by have := hbw.size; omega)))⟩
        · go_wp2_with fail
          go_ret
          have hbw := unhid HBW
          exact ⟨retE ((unhid HFIN).trans (all_upto (unhid HALL) (by omega))), by first | exact hbw.trans ((unhid HBL).mono (by have := hbw.size; omega)) | (rw [hBB]; exact hbw.trans ((unhid HBL).mono (by have := hbw.size; omega)))⟩

    · rw [if_neg hs] at h4
      have d4 : f.height = 0 := by simpa using h4
      have b1 : (f.shape == 2) = false := by simpa using hs
      have b2 : (f.shape != 2) = true := by simpa using hs
      have b3 : (f.height != 0) = false := by simpa using d4
      clear h4 hs d4
      go_enter Tryz.func173, Tryz.ntmps173
      go_wp2_with (go_at_call 227; refine (within_b _ _ _ _).mono ?_; rintro e w' ⟨rfl, rfl⟩)
      obtain ⟨W, hW⟩ : ∃ W, W = w.alloc (.cells #[.int .i64 f.shape, .int .i64 f.size, .int .i64 f.height, .slice A f.items.length c] 214) := ⟨_, rfl⟩
      have a3 : W.cell? ⟨w.heap.size, 3, none⟩ = some (.slice A f.items.length c) := by rw [hW, World.cell?_alloc_new]; rfl
      have hbw : Below w.heap.size w W := by rw [hW]; exact below_alloc _ _
      have hB : w.heap.size < W.heap.size := by rw [hW]; simp
      rw [← hW]
      clear hW
      have HF := hid ((unhid HF).below hbw)
      have HBW := hid hbw
      clear hbw
      generalize hBB : w.heap.size = B at *
      go_loopw [44] (fun i wr => ∃ k : Nat, k ≤ f.items.length ∧ i = .int .i64 k ∧ (∀ j (hj : j < f.items.length), j < k → itB f.items[j] = true) ∧ Below W.heap.size W wr) (fun i _ => f.items.length - (intOf i).toNat)
      case atStart => exact ⟨0, Nat.zero_le _, rfl, fun j _ h => absurd h (by omega), Below.refl _ _⟩
      case round =>
        obtain ⟨k, hk, rfl, hall, hbel⟩ := hrel
        have HALL := hid hall
        have e3 := (hbel.cell (p := ⟨B, 3, none⟩) hB).trans a3
        have HBL := hid hbel
        clear hall a3
        have HFI := hid ((unhid HF).below hbel)
        clear hbel
        by_cases hlt : k < f.items.length
        · obtain ⟨b, off, rfl, hb, hc⟩ := (unhid HFI).rd (its_ne hlt)
          obtain ⟨c0, c1, c2, c3, c4, c5, c6⟩ := its_cells hc hlt
          have htx := (unhid HFI).txt f.items[k] (List.getElem_mem hlt)
          clear hc
          generalize hx : f.items[k] = x at *
          have HX := hid hx
          clear hx
          go_wp2_with fail
          refine (validItem_calls x _ htx).mono ?_
          rintro e w2 ⟨rfl, hb2⟩
          have HB2 := hid hb2
          clear hb2
          cases hi : itB x with
          | true =>
            go_wp2_with fail
            go_roundw
            case rel =>
              refine ⟨k + 1, by omega, by go_num, fun j hj hjk => ?_, (unhid HBL).trans (((below_alloc _ _).trans ((unhid HB2).mono (by simp))).mono (unhid HBL).size)⟩
              by_cases e : j = k
              · subst e; rw [unhid HX]; exact hi
              · exact (unhid HALL) j hj (by omega)
            case measure => simp [intOf]; omega
          | false =>
            go_wp2_with fail
            go_ret
            have hbel := (unhid HBL).trans (((below_alloc _ _).trans ((unhid HB2).mono (by simp))).mono (unhid HBL).size)
            have hbw := unhid HBW
            exact ⟨retE ((unhid HFIN).trans (all_not hlt (by rw [unhid HX]; exact hi))), by first | exact hbw.trans (hbel.mono (by have := hbw.size; omega)) | (rw [hBB]; exact hbw.trans (hbel.mono (by have := hbw.size; omega)))⟩
        · go_wp2_with fail
          go_ret
          have hbw := unhid HBW
          exact ⟨retE ((unhid HFIN).trans (all_upto (unhid HALL) (by omega))), by first | exact hbw.trans ((unhid HBL).mono (by have := hbw.size; omega)) | (rw [hBB]; exact hbw.trans ((unhid HBL).mono (by have := hbw.size; omega)))⟩

end Go.Proofs.YtfklckjfbnaoeaaGreatDoor
