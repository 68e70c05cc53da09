/-
  The law's Heavy and why.
-/
import Derived.Test.YtmpngoejnmlmbaaGreatFirst
import Derived.Test.YtmpngoejnmlmbaaGreatEdictr
set_option linter.unusedSimpArgs false
set_option linter.unusedVariables false
namespace Go.Proofs.YtmpngoejnmlmbaaGreat
open Go.RowKit

noncomputable def heavyB (len : Int) (js : List Int) (l : List Sg) (n : Nat) : Bool :=
  decide (60 < js.length ∨ 120 < l.length ∨ 60 < n ∨ (lineB len js = true ∧ 500 < len)) || l.any fun s => decide (20 < s.cov.length)

set_option maxHeartbeats 2000000 in
set_option maxRecDepth 100000 in
theorem heavy_calls (len : Int) (A : Option Addr) (js : List Int) (c : Nat) (A2 : Option Addr) (l : List Sg) (c2 : Nat) (A3 : Option Addr) (n3 c3 : Nat) (h1 h2 h3 h4 : Int) (w : World) (hl : LnOk w A js) (hs : SgsOk w A2 l) (hn3 : n3 ≤ 20000000000000) :
    Calls Tryz.prog 9 #[.agg #[.int .i64 len, .slice A js.length c, .slice A2 l.length c2, .slice A3 n3 c3, .int .i64 h1, .int .i64 h2, .int .i64 h3, .int .i64 h4]] w fun e w' =>
      e = .returned (.bool (heavyB len js l n3)) ∧ Below w.heap.size w w' := by
  have HL := hid hl
  have HS := hid hs
  have hln := hl.n
  have hsn := hs.n
  clear hl hs
  by_cases g1 : 60 < js.length
  · have := decide_eq_true (show (60 : Int) < (js.length : Int) by omega)
    go_enter Tryz.func9, Tryz.ntmps9
    go_wp2_with fail
    go_ret
    exact ⟨by simp [heavyB, g1], below_alloc _ _⟩
  by_cases g2 : 120 < l.length
  · have := decide_eq_false (show ¬ ((60 : Int) < (js.length : Int)) by omega)
    have := decide_eq_true (show (120 : Int) < (l.length : Int) by omega)
    go_enter Tryz.func9, Tryz.ntmps9
    go_wp2_with fail
    go_ret
    exact ⟨by simp [heavyB, g2], below_alloc _ _⟩
  by_cases g3 : 60 < n3
  · have := decide_eq_false (show ¬ ((60 : Int) < (js.length : Int)) by omega)
    have := decide_eq_false (show ¬ ((120 : Int) < (l.length : Int)) by omega)
    have := decide_eq_true (show (60 : Int) < (n3 : Int) by omega)
    go_enter Tryz.func9, Tryz.ntmps9
    go_wp2_with fail
    go_ret
    exact ⟨by simp [heavyB, g3], below_alloc _ _⟩
  have := decide_eq_false (show ¬ ((60 : Int) < (js.length : Int)) by omega)
  have := decide_eq_false (show ¬ ((120 : Int) < (l.length : Int)) by omega)
  have := decide_eq_false (show ¬ ((60 : Int) < (n3 : Int)) by omega)
  go_enter Tryz.func9, Tryz.ntmps9
  go_wp2_with fail
  refine (rvalidLine_calls len A js c _ hln ((unhid HL).below (below_alloc _ _)).rd).mono ?_
  rintro e w1 ⟨rfl, hb1⟩
  have a0 := hb1.cell (p := ⟨w.heap.size, 0, none⟩) (by simp)
  have a2 := hb1.cell (p := ⟨w.heap.size, 2, none⟩) (by simp)
  simp [go_sem] at a0 a2
  have hbw1 : Below w.heap.size w w1 := (below_alloc w _).trans (hb1.mono (by simp))
  have hsz1 := hb1.size
  clear hb1
  cases hlb : lineB len js with
  | true =>
    by_cases g4 : 500 < len
    · have := decide_eq_true (show (500 : Int) < len by omega)
      go_wp2_with fail
      go_ret
      exact ⟨by simp [heavyB, hlb, g4], hbw1⟩
    · have := decide_eq_false (show ¬ ((500 : Int) < len) by omega)
      have HB := hid (show ¬ (60 < js.length ∨ 120 < l.length ∨ 60 < n3 ∨ (lineB len js = true ∧ 500 < len)) from (by rw [hlb]; omega))
      go_wp2_with fail
      go_loopw [3] (fun i wr => ∃ k : Nat, k ≤ l.length ∧ i = .int .i64 k ∧ Upto l k (fun s => s.cov.length ≤ 20) ∧ Below w1.heap.size w1 wr) (fun i _ => l.length - (intOf i).toNat)
      case atStart => exact ⟨0, Nat.zero_le _, rfl, Upto.zero, Below.refl _ _⟩
      case round =>
        obtain ⟨k, hk, rfl, hup, hbel⟩ := hrel
        have d1 : wr.cell? ⟨w.heap.size, 2, none⟩ = some (.slice A2 l.length c2) := (hbel.cell (p := ⟨w.heap.size, 2, none⟩) (Nat.lt_of_lt_of_le (by simp) hsz1)).trans a2
        have hbw : Below w.heap.size w wr := hbw1.trans (hbel.mono hbw1.size)
        have HU := hid hup
        clear hup
        by_cases hlt : k < l.length
        · obtain ⟨b, off, hA2, hb, hc⟩ := (unhid HS).rd (signs_ne hlt)
          rw [hA2] at d1 ⊢
          have c8 : wr.cell? ⟨b, off + k * 9 + 8, none⟩ = some (.slice l[k].cA l[k].cov.length l[k].cc) := (hbw.cell (p := ⟨b, off + k * 9 + 8, none⟩) hb).trans (hc _ _ (signs_at hlt 8 (by omega)))
          clear hc
          generalize hx : l[k] = x at *
          have HX := hid hx
          clear hx
          by_cases hcv : 20 < x.cov.length
          · have := decide_eq_true (show (20 : Int) < (x.cov.length : Int) by omega)
            go_wp2_with fail
            go_ret
            refine ⟨?_, hbw⟩
            have : (l.any fun s => decide (20 < s.cov.length)) = true := List.any_eq_true.2 ⟨x, by rw [← unhid HX]; exact List.getElem_mem hlt, by simpa using hcv⟩
            simp [heavyB, this]
          · have := decide_eq_false (show ¬ ((20 : Int) < (x.cov.length : Int)) by omega)
            go_wp2_with fail
            go_roundw
            case rel => exact ⟨k + 1, by omega, by go_num, (unhid HU).next hlt (by rw [unhid HX]; omega), hbel⟩
            case measure => simp [intOf]; omega
        · go_wp2_with fail
          go_ret
          refine ⟨?_, hbw⟩
          have h1 := (unhid HU).all (by omega)
          have : (l.any fun s => decide (20 < s.cov.length)) = false := List.any_eq_false.2 fun s hs => by have := h1 s hs; simp; omega
          rw [heavyB, this, decide_eq_false (unhid HB)]; rfl
  | false =>
    have HB := hid (show ¬ (60 < js.length ∨ 120 < l.length ∨ 60 < n3 ∨ (lineB len js = true ∧ 500 < len)) from (by rw [hlb]; simp; omega))
    go_wp2_with fail
    go_loopw [3] (fun i wr => ∃ k : Nat, k ≤ l.length ∧ i = .int .i64 k ∧ Upto l k (fun s => s.cov.length ≤ 20) ∧ Below w1.heap.size w1 wr) (fun i _ => l.length - (intOf i).toNat)
    case atStart => exact ⟨0, Nat.zero_le _, rfl, Upto.zero, Below.refl _ _⟩
    case round =>
      obtain ⟨k, hk, rfl, hup, hbel⟩ := hrel
      have d1 : wr.cell? ⟨w.heap.size, 2, none⟩ = some (.slice A2 l.length c2) := (hbel.cell (p := ⟨w.heap.size, 2, none⟩) (Nat.lt_of_lt_of_le (by simp) hsz1)).trans a2
      have hbw : Below w.heap.size w wr := hbw1.trans (hbel.mono hbw1.size)
      have HU := hid hup
      clear hup
      by_cases hlt : k < l.length
      · obtain ⟨b, off, hA2, hb, hc⟩ := (unhid HS).rd (signs_ne hlt)
        rw [hA2] at d1 ⊢
        have c8 : wr.cell? ⟨b, off + k * 9 + 8, none⟩ = some (.slice l[k].cA l[k].cov.length l[k].cc) := (hbw.cell (p := ⟨b, off + k * 9 + 8, none⟩) hb).trans (hc _ _ (signs_at hlt 8 (by omega)))
        clear hc
        generalize hx : l[k] = x at *
        have HX := hid hx
        clear hx
        by_cases hcv : 20 < x.cov.length
        · have := decide_eq_true (show (20 : Int) < (x.cov.length : Int) by omega)
          go_wp2_with fail
          go_ret
          refine ⟨?_, hbw⟩
          have : (l.any fun s => decide (20 < s.cov.length)) = true := List.any_eq_true.2 ⟨x, by rw [← unhid HX]; exact List.getElem_mem hlt, by simpa using hcv⟩
          simp [heavyB, this]
        · have := decide_eq_false (show ¬ ((20 : Int) < (x.cov.length : Int)) by omega)
          go_wp2_with fail
          go_roundw
          case rel => exact ⟨k + 1, by omega, by go_num, (unhid HU).next hlt (by rw [unhid HX]; omega), hbel⟩
          case measure => simp [intOf]; omega
      · go_wp2_with fail
        go_ret
        refine ⟨?_, hbw⟩
        have h1 := (unhid HU).all (by omega)
        have : (l.any fun s => decide (20 < s.cov.length)) = false := List.any_eq_false.2 fun s hs => by have := h1 s hs; simp; omega
        rw [heavyB, this, decide_eq_false (unhid HB)]; rfl

end Go.Proofs.YtmpngoejnmlmbaaGreat
