/-
  Whether a seam cuts a letter: package face and the reference.
-/
import Derived.Test.YtbnnnjkfhffekaaGreatDoorWaP
import Derived.Test.YtbnnnjkfhffekaaGreatDoorFcG
import Derived.Test.YtbnnnjkfhffekaaGreatDoorFcVal
set_option linter.unusedSimpArgs false
set_option linter.unusedVariables false
namespace Go.Proofs.YtbnnnjkfhffekaaGreatDoor
open Go.RowKit

set_option maxHeartbeats 4000000 in
set_option maxRecDepth 100000 in
theorem cuts_calls (f : Fc) (A : Option Addr) (c : Nat) (n : Int) (w : World) (hit : ItsOk w A f.items) (hf : fcB f = true) :
    Calls Tryz.prog 60 #[.agg #[.int .i64 f.shape, .int .i64 f.size, .int .i64 f.height, .slice A f.items.length c], .int .i64 n] w fun e w' => e = .returned (.bool (cutF f n)) ∧ Below w.heap.size w w' := by
  have HV := hid (items_valid hf)
  have hn := hit.n
  have HF := hid (hit.below (below_alloc w (.cells #[.int .i64 f.shape, .int .i64 f.size, .int .i64 f.height, .slice A f.items.length c] 60)))
  clear hit hf
  go_enter Tryz.func60, Tryz.ntmps60
  go_wp2_with fail
  have a3 : (w.alloc (.cells #[.int .i64 f.shape, .int .i64 f.size, .int .i64 f.height, .slice A f.items.length c] 60)).cell? ⟨w.heap.size, 3, none⟩ = some (.slice A f.items.length c) := by rw [World.cell?_alloc_new]; rfl
  have hbw : Below w.heap.size w (w.alloc (.cells #[.int .i64 f.shape, .int .i64 f.size, .int .i64 f.height, .slice A f.items.length c] 60)) := below_alloc _ _
  have hB : w.heap.size < (w.alloc (.cells #[.int .i64 f.shape, .int .i64 f.size, .int .i64 f.height, .slice A f.items.length c] 60)).heap.size := by simp
  generalize w.alloc (.cells #[.int .i64 f.shape, .int .i64 f.size, .int .i64 f.height, .slice A f.items.length c] 60) = W at *
  have HBW := hid hbw
  clear hbw
  obtain ⟨B, hBB⟩ : ∃ B, B = w.heap.size := ⟨_, rfl⟩
  rw [← hBB] at a3 hB ⊢
  have HBB := hid hBB
  clear hBB
  go_loopw [12] (fun i wr => ∃ k : Nat, k ≤ f.items.length ∧ i = .int .i64 k ∧ (∀ j (hj : j < f.items.length), j < k → cutIt f.items[j] n = false) ∧ Below W.heap.size W wr) (fun i _ => f.items.length - (intOf i).toNat)
  case atStart => exact ⟨0, Nat.zero_le _, rfl, fun j _ h => absurd h (by omega), Below.refl _ _⟩
  case round =>
    obtain ⟨k, hk, rfl, hall, hbel⟩ := hrel
    have HALL := hid hall
    have e3 := (hbel.cell (p := ⟨B, 3, none⟩) hB).trans a3
    have HBL := hid hbel
    clear hall a3
    have HFI := hid ((unhid HF).below hbel)
    clear hbel
    by_cases hlt : k < f.items.length
    · obtain ⟨b, off, rfl, hb, hc⟩ := (unhid HFI).rd (its_ne hlt)
      obtain ⟨c0, c1, c2, c3, c4, c5, c6⟩ := its_cells hc hlt
      have HV1 := hid ((unhid HV) _ (List.getElem_mem hlt))
      clear hc
      generalize hx : f.items[k] = x at *
      have HX := hid hx
      clear hx
      go_upto_region 4 with (fail)
      obtain ⟨W4, hW4⟩ : ∃ W4, W4 = wr.alloc (.cells #[Value.int .i64 x.kind, .int .i64 x.colour, .int .i64 x.left, .int .i64 x.low, .int .i64 x.a, .int .i64 x.b, .string (SB x.text)] 96) := ⟨_, rfl⟩
      have hcell : ∀ i, W4.cell? ⟨wr.heap.size, i, none⟩ = #[Value.int .i64 x.kind, .int .i64 x.colour, .int .i64 x.left, .int .i64 x.low, .int .i64 x.a, .int .i64 x.b, .string (SB x.text)][i]? := fun i => by rw [hW4, World.cell?_alloc_new]
      have hbn : Below W.heap.size W W4 := by rw [hW4]; exact (unhid HBL).alloc (unhid HBL).size _
      have a0 := hcell 0
      have a2 := hcell 2
      have a4 := hcell 4
      have a6 := hcell 6
      simp at a0 a2 a4 a6
      rw [← hW4]
      clear hW4
      have HBN := hid hbn
      clear hbn hcell c0 c1 c2 c3 c4 c5 c6 hb e3
      generalize wr.heap.size = B4 at *
      obtain ⟨-, -, -, -, l0, l1, -, -, q0, q1, -, -, -, ht⟩ := it_bounds (unhid HV1)
      by_cases h6 : x.kind = 6
      · have d6 : (x.kind != 6) = false := by simp [h6]
        have H6 := hid h6
        clear h6
        obtain ⟨S, hS⟩ : ∃ S : ByteArray, S = SB x.text := ⟨_, rfl⟩
        have HSZ := hid (show S.size = x.text.length by rw [hS]; rfl)
        have hs24 : S.size ≤ 24 := by rw [hS]; exact ht
        have HG := hid (show ∀ (i : Nat) (h : i < S.size) (h' : i < x.text.length), (S[i]'h).toNat = x.text[i].toNat from by subst hS; exact fun _ _ _ => rfl)
        rw [← hS] at a6
        clear hS ht
        obtain ⟨u0, u0'⟩ := w64 (n := 6 * x.a) (by omega) (by omega)
        obtain ⟨u3, u3'⟩ := w64 (n := 5 * x.a) (by omega) (by omega)
        go_wp2_with fail
        go_loopw [22] (fun i wz => ∃ m : Nat, m ≤ S.size ∧ i = .int .i64 m ∧ (∀ j, j < m → x.text.getD j 0 = 32 ∨ ¬ x.left + 6 * x.a * j < n ∨ ¬ n < x.left + 6 * x.a * j + 5 * x.a) ∧ wz = W4) (fun i _ => S.size - (intOf i).toNat)
        case atStart => exact ⟨0, Nat.zero_le _, rfl, fun j h => absurd h (by omega), rfl⟩
        case round =>
          obtain ⟨m, hm, rfl, hfree, rfl⟩ := hrel
          have HFR := hid hfree
          clear hfree
          by_cases hml : m < S.size
          · have hml' : m < x.text.length := by have := unhid HSZ; omega
            have hx0 := (unhid HG) m hml hml'
            have HGD := hid (show x.text.getD m 0 = x.text[m] by simp [List.getD_eq_getElem?_getD, hml'])
            have HCH := hid (show x.text[m] = 32 ↔ x.text[m].toNat = 32 from ⟨fun h => by rw [h]; rfl, fun h => UInt8.toNat_inj.1 (by rw [h]; rfl)⟩)
            obtain ⟨ch, hch⟩ : ∃ ch : Nat, ch = (x.text[m]).toNat := ⟨_, rfl⟩
            rw [← hch] at hx0 HCH
            clear hch
            have hp0 : 0 ≤ 6 * x.a * (m : Int) := Int.mul_nonneg (by omega) (by omega)
            have hp1 : 6 * x.a * (m : Int) ≤ 1200 * 24 := Int.mul_le_mul (by omega) (by omega) (by omega) (by omega)
            obtain ⟨u1, u1'⟩ := w64 (n := 6 * x.a * (m : Int)) (by omega) (by omega)
            obtain ⟨u2, u2'⟩ := w64 (n := x.left + 6 * x.a * (m : Int)) (by omega) (by omega)
            obtain ⟨u4, u4'⟩ := w64 (n := x.left + 6 * x.a * (m : Int) + 5 * x.a) (by omega) (by omega)
            by_cases h1 : ch = 32
            · have d1 : ((ch : Int) != 32) = false := by simp; omega
              have HN := hid (show x.text.getD m 0 = 32 ∨ ¬ x.left + 6 * x.a * m < n ∨ ¬ n < x.left + 6 * x.a * m + 5 * x.a from .inl ((unhid HGD).trans ((unhid HCH).2 h1)))
              go_wp2_with fail
              go_roundw
              case rel => exact ⟨m + 1, by omega, by go_num, fun j hj => by
                by_cases e : j = m
                · subst e; exact unhid HN
                · exact (unhid HFR) j (by omega), by first | rfl | trivial⟩
              case measure => simp [intOf]; omega
            · have d1 : ((ch : Int) != 32) = true := by simp; omega
              by_cases h2 : x.left + 6 * x.a * (m : Int) < n
              · by_cases h3 : n < x.left + 6 * x.a * (m : Int) + 5 * x.a
                · have HCUT := hid (cut_letter (unhid H6) hml' (fun h => h1 ((unhid HCH).1 ((unhid HGD).symm.trans h))) h2 h3)
                  go_wp2_with fail
                  go_ret
                  exact ⟨retE (cutF_hit hlt (by rw [unhid HX]; exact unhid HCUT)), by have hbw := unhid HBW; have hn := unhid HBN; rw [unhid HBB] at *; exact hbw.trans (hn.mono (by have := hbw.size; omega))⟩
                · have HN := hid (show x.text.getD m 0 = 32 ∨ ¬ x.left + 6 * x.a * m < n ∨ ¬ n < x.left + 6 * x.a * m + 5 * x.a from .inr (.inr h3))
                  go_wp2_with fail
                  go_roundw
                  case rel => exact ⟨m + 1, by omega, by go_num, fun j hj => by
                    by_cases e : j = m
                    · subst e; exact unhid HN
                    · exact (unhid HFR) j (by omega), by first | rfl | trivial⟩
                  case measure => simp [intOf]; omega
              · have HN := hid (show x.text.getD m 0 = 32 ∨ ¬ x.left + 6 * x.a * m < n ∨ ¬ n < x.left + 6 * x.a * m + 5 * x.a from .inr (.inl h2))
                go_wp2_with fail
                go_roundw
                case rel => exact ⟨m + 1, by omega, by go_num, fun j hj => by
                  by_cases e : j = m
                  · subst e; exact unhid HN
                  · exact (unhid HFR) j (by omega), by first | rfl | trivial⟩
                case measure => simp [intOf]; omega
          · have HN := hid (cut_none (show x.text.length ≤ m by have := unhid HSZ; omega) (unhid HFR))
            go_wp2_with fail
            go_roundw
            case rel => exact ⟨k + 1, by omega, by go_num, fun j hj hjk => by
              by_cases e : j = k
              · subst e; rw [unhid HX]; exact unhid HN
              · exact (unhid HALL) j hj (by omega), unhid HBN⟩
            case measure => simp [intOf]; omega
      · have d6 : (x.kind != 6) = true := by simp [h6]
        have HN := hid (cut_other (c := n) h6)
        go_wp2_with fail
        go_roundw
        case rel => exact ⟨k + 1, by omega, by go_num, fun j hj hjk => by
          by_cases e : j = k
          · subst e; rw [unhid HX]; exact unhid HN
          · exact (unhid HALL) j hj (by omega), unhid HBN⟩
        case measure => simp [intOf]; omega
    · have HN := hid (cutF_no (by omega) (unhid HALL))
      go_wp2_with fail
      go_ret
      exact ⟨retE (unhid HN), by have hbw := unhid HBW; have hn := unhid HBL; rw [unhid HBB] at *; exact hbw.trans (hn.mono (by have := hbw.size; omega))⟩

set_option maxHeartbeats 4000000 in
set_option maxRecDepth 100000 in
theorem rforb_calls (f : Fc) (A : Option Addr) (c : Nat) (n : Int) (w : World) (hit : ItsOk w A f.items) (hf : fcB f = true) :
    Calls Tryz.prog 45 #[.agg #[.int .i64 f.shape, .int .i64 f.size, .int .i64 f.height, .slice A f.items.length c], .int .i64 n] w fun e w' => e = .returned (.bool (cutF f n)) ∧ Below w.heap.size w w' := by
  have HV := hid (items_valid hf)
  have hn := hit.n
  have HF := hid (hit.below (below_alloc w (.cells #[.int .i64 f.shape, .int .i64 f.size, .int .i64 f.height, .slice A f.items.length c] 60)))
  clear hit hf
  go_enter Tryz.func45, Tryz.ntmps45
  go_wp2_with fail
  have a3 : (w.alloc (.cells #[.int .i64 f.shape, .int .i64 f.size, .int .i64 f.height, .slice A f.items.length c] 60)).cell? ⟨w.heap.size, 3, none⟩ = some (.slice A f.items.length c) := by rw [World.cell?_alloc_new]; rfl
  have hbw : Below w.heap.size w (w.alloc (.cells #[.int .i64 f.shape, .int .i64 f.size, .int .i64 f.height, .slice A f.items.length c] 60)) := below_alloc _ _
  have hB : w.heap.size < (w.alloc (.cells #[.int .i64 f.shape, .int .i64 f.size, .int .i64 f.height, .slice A f.items.length c] 60)).heap.size := by simp
  generalize w.alloc (.cells #[.int .i64 f.shape, .int .i64 f.size, .int .i64 f.height, .slice A f.items.length c] 60) = W at *
  have HBW := hid hbw
  clear hbw
  obtain ⟨B, hBB⟩ : ∃ B, B = w.heap.size := ⟨_, rfl⟩
  rw [← hBB] at a3 hB ⊢
  have HBB := hid hBB
  clear hBB
  go_loopw [5] (fun i wr => ∃ k : Nat, k ≤ f.items.length ∧ i = .int .i64 k ∧ (∀ j (hj : j < f.items.length), j < k → cutIt f.items[j] n = false) ∧ Below W.heap.size W wr) (fun i _ => f.items.length - (intOf i).toNat)
  case atStart => exact ⟨0, Nat.zero_le _, rfl, fun j _ h => absurd h (by omega), Below.refl _ _⟩
  case round =>
    obtain ⟨k, hk, rfl, hall, hbel⟩ := hrel
    have HALL := hid hall
    have e3 := (hbel.cell (p := ⟨B, 3, none⟩) hB).trans a3
    have HBL := hid hbel
    clear hall a3
    have HFI := hid ((unhid HF).below hbel)
    clear hbel
    by_cases hlt : k < f.items.length
    · obtain ⟨b, off, rfl, hb, hc⟩ := (unhid HFI).rd (its_ne hlt)
      obtain ⟨c0, c1, c2, c3, c4, c5, c6⟩ := its_cells hc hlt
      have HV1 := hid ((unhid HV) _ (List.getElem_mem hlt))
      clear hc
      generalize hx : f.items[k] = x at *
      have HX := hid hx
      clear hx
      go_upto_region 5 with (fail)
      obtain ⟨W4, hW4⟩ : ∃ W4, W4 = wr.alloc (.cells #[Value.int .i64 x.kind, .int .i64 x.colour, .int .i64 x.left, .int .i64 x.low, .int .i64 x.a, .int .i64 x.b, .string (SB x.text)] 96) := ⟨_, rfl⟩
      have hcell : ∀ i, W4.cell? ⟨wr.heap.size, i, none⟩ = #[Value.int .i64 x.kind, .int .i64 x.colour, .int .i64 x.left, .int .i64 x.low, .int .i64 x.a, .int .i64 x.b, .string (SB x.text)][i]? := fun i => by rw [hW4, World.cell?_alloc_new]
      have hbn : Below W.heap.size W W4 := by rw [hW4]; exact (unhid HBL).alloc (unhid HBL).size _
      have a0 := hcell 0
      have a2 := hcell 2
      have a4 := hcell 4
      have a6 := hcell 6
      simp at a0 a2 a4 a6
      rw [← hW4]
      clear hW4
      have HBN := hid hbn
      clear hbn hcell c0 c1 c2 c3 c4 c5 c6 hb e3
      generalize wr.heap.size = B4 at *
      obtain ⟨-, -, -, -, l0, l1, -, -, q0, q1, -, -, -, ht⟩ := it_bounds (unhid HV1)
      by_cases h6 : x.kind = 6
      · have d6 : (x.kind != 6) = false := by simp [h6]
        have H6 := hid h6
        clear h6
        obtain ⟨S, hS⟩ : ∃ S : ByteArray, S = SB x.text := ⟨_, rfl⟩
        have HSZ := hid (show S.size = x.text.length by rw [hS]; rfl)
        have hs24 : S.size ≤ 24 := by rw [hS]; exact ht
        have HG := hid (show ∀ (i : Nat) (h : i < S.size) (h' : i < x.text.length), (S[i]'h).toNat = x.text[i].toNat from by subst hS; exact fun _ _ _ => rfl)
        rw [← hS] at a6
        clear hS ht
        obtain ⟨u0, u0'⟩ := w64 (n := 6 * x.a) (by omega) (by omega)
        obtain ⟨u3, u3'⟩ := w64 (n := 5 * x.a) (by omega) (by omega)
        go_wp2_with fail
        go_loopw [7] (fun i wz => ∃ m : Nat, m ≤ S.size ∧ i = .int .i64 m ∧ (∀ j, j < m → x.text.getD j 0 = 32 ∨ ¬ x.left + 6 * x.a * j < n ∨ ¬ n < x.left + 6 * x.a * j + 5 * x.a) ∧ wz = W4) (fun i _ => S.size - (intOf i).toNat)
        case atStart => exact ⟨0, Nat.zero_le _, rfl, fun j h => absurd h (by omega), rfl⟩
        case round =>
          obtain ⟨m, hm, rfl, hfree, rfl⟩ := hrel
          have HFR := hid hfree
          clear hfree
          by_cases hml : m < S.size
          · have hml' : m < x.text.length := by have := unhid HSZ; omega
            have hx0 := (unhid HG) m hml hml'
            have HGD := hid (show x.text.getD m 0 = x.text[m] by simp [List.getD_eq_getElem?_getD, hml'])
            have HCH := hid (show x.text[m] = 32 ↔ x.text[m].toNat = 32 from ⟨fun h => by rw [h]; rfl, fun h => UInt8.toNat_inj.1 (by rw [h]; rfl)⟩)
            obtain ⟨ch, hch⟩ : ∃ ch : Nat, ch = (x.text[m]).toNat := ⟨_, rfl⟩
            rw [← hch] at hx0 HCH
            clear hch
            have hp0 : 0 ≤ 6 * x.a * (m : Int) := Int.mul_nonneg (by omega) (by omega)
            have hp1 : 6 * x.a * (m : Int) ≤ 1200 * 24 := Int.mul_le_mul (by omega) (by omega) (by omega) (by omega)
            obtain ⟨u1, u1'⟩ := w64 (n := 6 * x.a * (m : Int)) (by omega) (by omega)
            obtain ⟨u2, u2'⟩ := w64 (n := x.left + 6 * x.a * (m : Int)) (by omega) (by omega)
            obtain ⟨u4, u4'⟩ := w64 (n := x.left + 6 * x.a * (m : Int) + 5 * x.a) (by omega) (by omega)
            by_cases h1 : ch = 32
            · have d1 : ((ch : Int) != 32) = false := by simp; omega
              have HN := hid (show x.text.getD m 0 = 32 ∨ ¬ x.left + 6 * x.a * m < n ∨ ¬ n < x.left + 6 * x.a * m + 5 * x.a from .inl ((unhid HGD).trans ((unhid HCH).2 h1)))
              go_wp2_with fail
              go_roundw
              case rel => exact ⟨m + 1, by omega, by go_num, fun j hj => by
                by_cases e : j = m
                · subst e; exact unhid HN
                · exact (unhid HFR) j (by omega), by first | rfl | trivial⟩
              case measure => simp [intOf]; omega
            · have d1 : ((ch : Int) != 32) = true := by simp; omega
              by_cases h2 : x.left + 6 * x.a * (m : Int) < n
              · by_cases h3 : n < x.left + 6 * x.a * (m : Int) + 5 * x.a
                · have HCUT := hid (cut_letter (unhid H6) hml' (fun h => h1 ((unhid HCH).1 ((unhid HGD).symm.trans h))) h2 h3)
                  go_wp2_with fail
                  go_ret
                  exact ⟨retE (cutF_hit hlt (by rw [unhid HX]; exact unhid HCUT)), by have hbw := unhid HBW; have hn := unhid HBN; rw [unhid HBB] at *; exact hbw.trans (hn.mono (by have := hbw.size; omega))⟩
                · have HN := hid (show x.text.getD m 0 = 32 ∨ ¬ x.left + 6 * x.a * m < n ∨ ¬ n < x.left + 6 * x.a * m + 5 * x.a from .inr (.inr h3))
                  go_wp2_with fail
                  go_roundw
                  case rel => exact ⟨m + 1, by omega, by go_num, fun j hj => by
                    by_cases e : j = m
                    · subst e; exact unhid HN
                    · exact (unhid HFR) j (by omega), by first | rfl | trivial⟩
                  case measure => simp [intOf]; omega
              · have HN := hid (show x.text.getD m 0 = 32 ∨ ¬ x.left + 6 * x.a * m < n ∨ ¬ n < x.left + 6 * x.a * m + 5 * x.a from .inr (.inl h2))
                go_wp2_with fail
                go_roundw
                case rel => exact ⟨m + 1, by omega, by go_num, fun j hj => by
                  by_cases e : j = m
                  · subst e; exact unhid HN
                  · exact (unhid HFR) j (by omega), by first | rfl | trivial⟩
                case measure => simp [intOf]; omega
          · have HN := hid (cut_none (show x.text.length ≤ m by have := unhid HSZ; omega) (unhid HFR))
            go_wp2_with fail
            go_roundw
            case rel => exact ⟨k + 1, by omega, by go_num, fun j hj hjk => by
              by_cases e : j = k
              · subst e; rw [unhid HX]; exact unhid HN
              · exact (unhid HALL) j hj (by omega), unhid HBN⟩
            case measure => simp [intOf]; omega
      · have d6 : (x.kind != 6) = true := by simp [h6]
        have HN := hid (cut_other (c := n) h6)
        go_wp2_with fail
        go_roundw
        case rel => exact ⟨k + 1, by omega, by go_num, fun j hj hjk => by
          by_cases e : j = k
          · subst e; rw [unhid HX]; exact unhid HN
          · exact (unhid HALL) j hj (by omega), unhid HBN⟩
        case measure => simp [intOf]; omega
    · have HN := hid (cutF_no (by omega) (unhid HALL))
      go_wp2_with fail
      go_ret
      exact ⟨retE (unhid HN), by have hbw := unhid HBW; have hn := unhid HBL; rw [unhid HBB] at *; exact hbw.trans (hn.mono (by have := hbw.size; omega))⟩

end Go.Proofs.YtbnnnjkfhffekaaGreatDoor
