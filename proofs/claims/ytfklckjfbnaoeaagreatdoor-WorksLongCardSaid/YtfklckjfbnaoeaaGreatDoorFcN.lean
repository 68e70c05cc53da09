/-
  Spelled texts and lengths, of package face and of its reference.
-/
import Derived.Test.YtfklckjfbnaoeaaGreatDoorFcM
import Derived.Lib.OthersKept
import Derived.Laws.RangeAny
set_option linter.unusedSimpArgs false
set_option linter.unusedVariables false
namespace Go.Proofs.YtfklckjfbnaoeaaGreatDoor
open Go.RowKit

theorem upto_all {l : List UInt8} {p : UInt8 → Bool} {k : Nat} (h : ∀ j (hj : j < l.length), j < k → p l[j] = true) (hk : l.length ≤ k) : l.all p = true := by
  rw [List.all_eq_true]
  intro x hx
  obtain ⟨j, hj, rfl⟩ := List.mem_iff_getElem.1 hx
  exact h j hj (by omega)
theorem spell_no {l : List UInt8} {k : Nat} (hk : k < l.length) (h : isL ((l[k]).toNat : Int) = false) : spellB l = false := by
  unfold spellB
  rw [Bool.and_eq_false_iff]
  right
  rw [List.all_eq_false]
  exact ⟨l[k], List.getElem_mem hk, by rw [h]; simp⟩
theorem spell_yes {l : List UInt8} {k : Nat} (h : ∀ j (hj : j < l.length), j < k → isL ((l[j]).toNat : Int) = true) (hk : l.length ≤ k) : spellB l = decide (1 ≤ l.length ∧ l.length ≤ 24) := by
  unfold spellB
  rw [upto_all h hk, Bool.and_true]
theorem rowsL_len (c : Int) : (rowsL c).length = 7 := by
  have : ∀ n : Nat, (tabL.getD n [0, 0, 0, 0, 0, 0, 0]).length = 7 := by
    intro n
    by_cases h : n < 36
    · have : ∀ n : Fin 36, (tabL.getD n.val [0, 0, 0, 0, 0, 0, 0]).length = 7 := by decide
      exact this ⟨n, h⟩
    · have e : tabL.length = 36 := rfl
      rw [List.getD_eq_getElem?_getD, List.getElem?_eq_none (by omega)]; rfl
  unfold rowsL
  split
  · exact this _
  · split
    · exact this _
    · rfl
theorem letV_form (c : Int) : ∃ a0 a1 a2 a3 a4 a5 a6 : Int, rowsL c = [a0, a1, a2, a3, a4, a5, a6] ∧ letV c = .agg #[.int .i64 a0, .int .i64 a1, .int .i64 a2, .int .i64 a3, .int .i64 a4, .int .i64 a5, .int .i64 a6] := by
  have h := rowsL_len c
  have e : letV c = .agg ((rowsL c).map (Value.int .i64)).toArray := rfl
  rw [e]
  generalize rowsL c = L at *
  match L, h with
  | [a0, a1, a2, a3, a4, a5, a6], _ => exact ⟨a0, a1, a2, a3, a4, a5, a6, rfl, rfl⟩

set_option maxHeartbeats 1000000 in
theorem spelled_calls (l : List UInt8) (w : World) (hl : l.length ≤ 140737488355328) :
    Calls Tryz.prog 266 #[.string (SB l)] w fun e w' => e = .returned (.bool (spellB l)) ∧ Below w.heap.size w w' := by
  have hsz : (SB l).size = l.length := rfl
  by_cases hn : 1 ≤ l.length ∧ l.length ≤ 24
  · obtain ⟨n1, n2⟩ := hn
    go_enter Tryz.func266, Tryz.ntmps266
    go_wp2_with fail
    obtain ⟨B, hB⟩ : ∃ B, B = w.heap.size := ⟨_, rfl⟩
    have HB := hid hB
    rw [← hB]
    clear hB
    go_loopw [] (fun wr => ∃ pos : Nat, pos ≤ l.length ∧ wr.heap[B]? = some (.stringIter (SB l) pos) ∧ (∀ j (hj : j < l.length), j < pos → isL ((l[j]).toNat : Int) = true) ∧ Below B w wr) (fun wr => l.length - wr.iterPos B)
    case atStart => exact ⟨0, Nat.zero_le _, by rw [unhid HB]; exact World.iter_heap w (SB l) 0, fun j _ h => absurd h (by omega), by rw [unhid HB]; exact below_alloc _ _⟩
    case round =>
      obtain ⟨pos, hp, hit, hall, hbel⟩ := hrel
      have HALL := hid hall
      have HBL := hid hbel
      clear hall hbel
      have hsz2 : B < wr.heap.size := (Array.getElem?_eq_some_iff.1 hit).1
      by_cases hlt : pos < l.length
      · have hx0 : (((SB l)[pos]'hlt).toNat : Int) = ((l[pos]).toNat : Int) := rfl
        have hx255 : l[pos].toNat < 256 := l[pos].toNat_lt
        by_cases ha : l[pos].toNat < 128
        · have hnx : ∀ ty, (Instr.next (.pointer (some ⟨B, 0, none⟩)) true ty).run Tryz.prog wr = _ := fun ty => Lib.run_next_ascii_at wr B (SB l) pos ty hit hlt ha
          have hit2 := Lib.iterAt_heap wr B (SB l) pos (pos + 1) hit
          have hb2 := Lib.below_iterAt (unhid HBL) (k := B) (Nat.le_refl _) (SB l) (pos + 1)
          have hs2 : (wr.iterAt B (SB l) (pos + 1)).heap.size = wr.heap.size := Lib.iterAt_size _ _ _ _
          have HIT := hid hit
          have HIT2 := hid hit2
          have HB2 := hid hb2
          have HS2 := hid hs2
          clear hit hit2 hb2 hs2
          rw [hx0] at hnx
          clear hx0
          obtain ⟨x, hx⟩ : ∃ x : Int, x = ((l[pos]).toNat : Int) := ⟨_, rfl⟩
          have x0 : 0 ≤ x := by omega
          have x1 : x < 128 := by omega
          have HX := hid hx
          rw [← hx] at hnx
          by_cases h90 : x ≤ 90
          · clear hx ha hx255
            have ew : IntKind.u8.wrap x = x := by simp [IntKind.wrap, IntKind.signed, IntKind.bits]; omega
            generalize wr.iterAt B (SB l) (pos + 1) = w2 at *
            go_wp2_with fail
            refine (letter_calls x _ (by omega) (by omega)).mono ?_
            rintro e w3 ⟨rfl, hb3⟩
            have HB3 := hid hb3
            clear hb3
            obtain ⟨a0, a1, a2, a3, a4, a5, a6, -, hv⟩ := letV_form x
            rw [hv]
            clear hv
            cases hi : isL x with
            | true =>
              go_wp2_with fail
              have hs3 := (unhid HB3).size
              have hit3 : (w3.alloc (.cells #[.int .i64 a0, .int .i64 a1, .int .i64 a2, .int .i64 a3, .int .i64 a4, .int .i64 a5, .int .i64 a6] 402)).heap[B]? = some (.stringIter (SB l) (pos + 1)) := by
                rw [Below.heap_alloc _ _ _ (by have := unhid HS2; omega), (unhid HB3).block B (by have := unhid HS2; omega)]
                exact unhid HIT2
              go_roundw
              case rel =>
                refine ⟨pos + 1, by omega, hit3, fun j hj hjp => ?_, (unhid HB2).trans ((below_alloc' (unhid HB3) _).mono (by have := unhid HS2; omega))⟩
                by_cases e : j = pos
                · subst e; rw [← unhid HX]; exact hi
                · exact (unhid HALL) j hj (by omega)
              case measure => simp only [World.iterPos, hit3, unhid HIT]; omega
            | false =>
              go_wp2_with fail
              go_ret
              exact ⟨retE (spell_no hlt (by rw [← unhid HX]; exact hi)), (unhid HB2).trans ((below_alloc' (unhid HB3) _).mono (by have := unhid HS2; omega)) |> fun h => by rw [← unhid HB]; exact h⟩
          · have hno : isL x = false := by unfold isL; rw [decide_eq_false_iff_not]; omega
            have HNO := hid hno
            have d90 := decide_eq_true (show (90 : Int) < x by omega)
            clear hx ha hx255 hno
            generalize wr.iterAt B (SB l) (pos + 1) = w2 at *
            go_wp2_with fail
            go_ret
            exact ⟨retE (spell_no hlt (by rw [← unhid HX]; exact unhid HNO)), by rw [← unhid HB]; exact unhid HB2⟩
        · have hnx : ∀ ty, (Instr.next (.pointer (some ⟨B, 0, none⟩)) true ty).run Tryz.prog wr = _ := fun ty => Lib.run_next_any_at wr B (SB l) pos ty hit hlt
          obtain ⟨hd1, hd2⟩ := decode_high (SB l) pos hlt (by have : ((SB l)[pos]'hlt).toNat = l[pos].toNat := rfl; omega)
          have hb2 := Lib.below_iterAt (unhid HBL) (k := B) (Nat.le_refl _) (SB l) (pos + (Utf8.decode (SB l) pos).2)
          have hno : isL ((l[pos]).toNat : Int) = false := by unfold isL; rw [decide_eq_false_iff_not]; omega
          have HNO := hid hno
          have HB2 := hid hb2
          clear hx0 hx255 ha hno hit hb2
          generalize wr.iterAt B (SB l) (pos + (Utf8.decode (SB l) pos).2) = w2 at *
          generalize (Utf8.decode (SB l) pos).1 = r at *
          have d90 := decide_eq_true (show (90 : Int) < (r : Int) by omega)
          go_wp2_with fail
          go_ret
          exact ⟨retE (spell_no hlt (unhid HNO)), by rw [← unhid HB]; exact unhid HB2⟩
      · have hnx : ∀ ty, (Instr.next (.pointer (some ⟨B, 0, none⟩)) true ty).run Tryz.prog wr = _ := fun ty => Lib.run_next_end_at wr B (SB l) pos ty hit hlt
        go_wp2_with fail
        go_ret
        exact ⟨retE ((spell_yes (unhid HALL) (by omega)).trans (decide_eq_true ⟨n1, n2⟩)), by rw [← unhid HB]; exact unhid HBL⟩
  · have hs : spellB l = false := by unfold spellB; rw [decide_eq_false hn]; rfl
    have HS := hid hs
    clear hs
    by_cases h1 : l.length < 1
    · have d1 := decide_eq_true (show (l.length : Int) < 1 by omega)
      go_enter Tryz.func266, Tryz.ntmps266
      go_wp2_with fail
      go_ret
      exact ⟨retE (unhid HS), Below.refl _ _⟩
    · have d2 := decide_eq_true (show (24 : Int) < l.length by omega)
      have d1 := decide_eq_false (show ¬ (l.length : Int) < 1 by omega)
      go_enter Tryz.func266, Tryz.ntmps266
      go_wp2_with fail
      go_ret
      exact ⟨retE (unhid HS), Below.refl _ _⟩

/-- What Length returns. -/
def lenR (l : List UInt8) (unit : Int) : Value := .tuple #[.int .i64 (if lenB l unit then lenS l unit else 0), .int .i64 (if lenB l unit then 0 else 2)]
theorem lenR_yes {l : List UInt8} {unit : Int} (h : lenB l unit = true) : lenR l unit = .tuple #[.int .i64 (lenS l unit), .int .i64 0] := by unfold lenR; rw [if_pos h, if_pos h]
theorem lenR_no {l : List UInt8} {unit : Int} (h : lenB l unit = false) : lenR l unit = .tuple #[.int .i64 0, .int .i64 2] := by unfold lenR; rw [if_neg (by simp [h]), if_neg (by simp [h])]

end Go.Proofs.YtfklckjfbnaoeaaGreatDoor
