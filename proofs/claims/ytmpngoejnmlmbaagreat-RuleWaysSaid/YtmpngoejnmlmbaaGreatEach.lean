/-
  Package rule's each: a function called for each topic and direction, in order; all.
-/
import Derived.Test.YtmpngoejnmlmbaaGreatWhy
set_option linter.unusedSimpArgs false
set_option linter.unusedVariables false
namespace Go.Proofs.YtmpngoejnmlmbaaGreat
open Go.RowKit

def topI : Nat → Int | 0 => 1 | 1 => 1 | _ => 2
def dirI : Nat → Int | 0 => 1 | 1 => -1 | 2 => 1 | _ => -1

set_option maxHeartbeats 1000000 in
set_option maxRecDepth 100000 in
theorem each_calls (g : Nat) (cb : Array Value) (I : Nat → World → Prop) (eg : ∀ args w, (callFunc g args).run Tryz.prog w = .ok (.enter g args) w)
    (hI : ∀ i w, i < 4 → I i w → Calls Tryz.prog g (#[.int .i64 (topI i), .int .i64 (dirI i)] ++ cb) w fun e w' => e = .returned (.tuple #[]) ∧ I (i + 1) w') (w : World) (h0 : I 0 w) :
    Calls Tryz.prog 59 #[.func (.func g) #[] cb] w fun e w' => e = .returned (.tuple #[]) ∧ I 4 w' := by
  have HI := hid hI
  have H0 := hid h0
  clear hI h0
  have x0 : ∀ (w : World) (a b : Value), (Instr.index 104 (.agg #[a, b]) (.int .i64 0)).run Tryz.prog w = .ok a w := fun w a b => by kernel_rfl
  have x1 : ∀ (w : World) (a b : Value), (Instr.index 104 (.agg #[a, b]) (.int .i64 1)).run Tryz.prog w = .ok b w := fun w a b => by kernel_rfl
  go_enter Tryz.func59, Tryz.ntmps59
  go_wp2_with fail
  go_loopw [7] (fun a wr => ∃ k : Nat, k ≤ 2 ∧ a = .int .i64 k ∧ I (2 * k) wr) (fun a _ => 2 - (intOf a).toNat)
  case atStart => exact ⟨0, by omega, rfl, unhid H0⟩
  case round =>
    obtain ⟨k, hk, rfl, hi⟩ := hrel
    have HK := hid hi
    clear hi
    rcases (show k = 0 ∨ k = 1 ∨ k = 2 by omega) with rfl | rfl | rfl
    · rw [show (((0 : Nat)) : Int) = 0 from rfl]
      go_wp2_with fail
      go_loopw [11] (fun a wr => ∃ j : Nat, j ≤ 2 ∧ a = .int .i64 j ∧ I j wr) (fun a _ => 2 - (intOf a).toNat)
      case atStart => exact ⟨0, by omega, rfl, unhid HK⟩
      case round =>
        obtain ⟨j, hj, rfl, hi⟩ := hrel
        rcases (show j = 0 ∨ j = 1 ∨ j = 2 by omega) with rfl | rfl | rfl
        · have HC := hid (unhid HI 0 wr (by omega) hi)
          clear hi
          go_wp2_with fail
          refine (unhid HC).mono ?_
          rintro e w2 ⟨rfl, h2⟩
          have H2 := hid h2
          clear h2
          go_wp2_with fail
          go_roundw
          case rel => exact ⟨1, by omega, rfl, unhid H2⟩
          case measure => simp [intOf]
        · have HC := hid (unhid HI 1 wr (by omega) hi)
          clear hi
          go_wp2_with fail
          refine (unhid HC).mono ?_
          rintro e w2 ⟨rfl, h2⟩
          have H2 := hid h2
          clear h2
          go_wp2_with fail
          go_roundw
          case rel => exact ⟨2, by omega, rfl, unhid H2⟩
          case measure => simp [intOf]
        · have H2 := hid hi
          clear hi
          go_wp2_with fail
          first
            | exact ⟨⟨1, by omega, rfl, unhid H2⟩, by simp [intOf]⟩
            | (go_roundw
               case rel => exact ⟨1, by omega, rfl, unhid H2⟩
               case measure => simp [intOf])
    · rw [show (((1 : Nat)) : Int) = 1 from rfl]
      go_wp2_with fail
      go_loopw [11] (fun a wr => ∃ j : Nat, j ≤ 2 ∧ a = .int .i64 j ∧ I (2 + j) wr) (fun a _ => 2 - (intOf a).toNat)
      case atStart => exact ⟨0, by omega, rfl, unhid HK⟩
      case round =>
        obtain ⟨j, hj, rfl, hi⟩ := hrel
        rcases (show j = 0 ∨ j = 1 ∨ j = 2 by omega) with rfl | rfl | rfl
        · have HC := hid (unhid HI 2 wr (by omega) hi)
          clear hi
          go_wp2_with fail
          refine (unhid HC).mono ?_
          rintro e w2 ⟨rfl, h2⟩
          have H2 := hid h2
          clear h2
          go_wp2_with fail
          go_roundw
          case rel => exact ⟨1, by omega, rfl, unhid H2⟩
          case measure => simp [intOf]
        · have HC := hid (unhid HI 3 wr (by omega) hi)
          clear hi
          go_wp2_with fail
          refine (unhid HC).mono ?_
          rintro e w2 ⟨rfl, h2⟩
          have H2 := hid h2
          clear h2
          go_wp2_with fail
          go_roundw
          case rel => exact ⟨2, by omega, rfl, unhid H2⟩
          case measure => simp [intOf]
        · have H2 := hid hi
          clear hi
          go_wp2_with fail
          first
            | exact ⟨⟨2, by omega, rfl, unhid H2⟩, by simp [intOf]⟩
            | (go_roundw
               case rel => exact ⟨2, by omega, rfl, unhid H2⟩
               case measure => simp [intOf])
    · go_wp2_with fail
      go_end0
      exact ⟨rfl, unhid HK⟩

/-- The error of a line, signs, edicts and an hour. -/
noncomputable def allE (len : Int) (js : List Int) (l : List Sg) (ed : List Ed) (hour : Int) : Int :=
  if lineB len js = false then 70 else if sgsB len js l = false then 71 else if edsB len js ed = false then 72 else if 0 ≤ hour ∧ hour ≤ 10000000 then 0 else 2

set_option maxHeartbeats 1000000 in
set_option maxRecDepth 100000 in
theorem all_calls (len : Int) (A : Option Addr) (js : List Int) (c : Nat) (A2 : Option Addr) (l : List Sg) (c2 : Nat) (A3 : Option Addr) (ed : List Ed) (c3 : Nat) (hour : Int) (w : World) (hl : LnOk w A js) (hs : SgsOk w A2 l) (he : EdsOk w A3 ed) :
    Calls Tryz.prog 54 #[.agg #[.int .i64 len, .slice A js.length c], .slice A2 l.length c2, .slice A3 ed.length c3, .int .i64 hour] w fun e w' =>
      e = .returned (.int .i64 (allE len js l ed hour)) ∧ Below w.heap.size w w' := by
  have HL := hid hl
  have HS := hid hs
  have HE := hid he
  have hln := hl.n
  clear hl hs he
  go_enter Tryz.func54, Tryz.ntmps54
  go_wp2_with fail
  refine (validLine_calls len A js c _ hln ((unhid HL).rd.below (below_alloc _ _))).mono ?_
  rintro e w1 ⟨rfl, hb1⟩
  have d0 := hb1.cell (p := ⟨w.heap.size, 0, none⟩) (by simp)
  have d1 := hb1.cell (p := ⟨w.heap.size, 1, none⟩) (by simp)
  simp [go_sem] at d0 d1
  have hbw1 : Below w.heap.size w w1 := (below_alloc w _).trans (hb1.mono (by simp))
  have hB1 : w.heap.size < w1.heap.size := Nat.lt_of_lt_of_le (by simp) hb1.size
  clear hb1
  cases h1 : lineB len js with
  | false =>
    have H1 := hid h1
    clear h1
    go_wp2_with fail
    go_ret
    exact ⟨reti (by rw [allE, if_pos (unhid H1)]), hbw1⟩
  | true =>
    have H1 := hid h1
    clear h1
    go_wp2_with fail
    refine (validSigns_calls len A js c A2 l c2 _ ((unhid HL).below hbw1) ((unhid HS).below hbw1)).mono ?_
    rintro e w2 ⟨rfl, hb2⟩
    have f0 := (hb2.cell (p := ⟨w.heap.size, 0, none⟩) hB1).trans d0
    have f1 := (hb2.cell (p := ⟨w.heap.size, 1, none⟩) hB1).trans d1
    have hbw2 : Below w.heap.size w w2 := hbw1.trans (hb2.mono hbw1.size)
    clear hb2 d0 d1
    cases h2 : sgsB len js l with
    | false =>
      have H2 := hid h2
      clear h2
      go_wp2_with fail
      go_ret
      exact ⟨reti (by rw [allE, if_neg (by rw [unhid H1]; simp), if_pos (unhid H2)]), hbw2⟩
    | true =>
      have H2 := hid h2
      clear h2
      go_wp2_with fail
      refine (validEdicts_calls len A js c A3 ed c3 _ ((unhid HL).below hbw2) ((unhid HE).below hbw2)).mono ?_
      rintro e w3 ⟨rfl, hb3⟩
      have hbw3 : Below w.heap.size w w3 := hbw2.trans (hb3.mono hbw2.size)
      clear hb3
      cases h3 : edsB len js ed with
      | false =>
        have H3 := hid h3
        clear h3
        go_wp2_with fail
        go_ret
        exact ⟨reti (by rw [allE, if_neg (by rw [unhid H1]; simp), if_neg (by rw [unhid H2]; simp), if_pos (unhid H3)]), hbw3⟩
      | true =>
        have H3 := hid h3
        clear h3
        have KW := hid (within_calls 0 hour 10000000)
        by_cases hh : 0 ≤ hour ∧ hour ≤ 10000000
        · have HH := hid hh
          have hdm := hid (decide_eq_true hh)
          clear hh
          go_wp2_with (go_at_call 50; refine (((unhid KW) _).mono fun _ _ h => (⟨h.1.trans (by rw [unhid hdm]), h.2⟩ : _ ∧ _)).mono ?_; rintro e w' ⟨rfl, rfl⟩)
          go_ret
          exact ⟨reti (by rw [allE, if_neg (by rw [unhid H1]; simp), if_neg (by rw [unhid H2]; simp), if_neg (by rw [unhid H3]; simp), if_pos (unhid HH)]), hbw3⟩
        · have HH := hid hh
          have hdm := hid (decide_eq_false hh)
          clear hh
          go_wp2_with (go_at_call 50; refine (((unhid KW) _).mono fun _ _ h => (⟨h.1.trans (by rw [unhid hdm]), h.2⟩ : _ ∧ _)).mono ?_; rintro e w' ⟨rfl, rfl⟩)
          go_ret
          exact ⟨reti (by rw [allE, if_neg (by rw [unhid H1]; simp), if_neg (by rw [unhid H2]; simp), if_neg (by rw [unhid H3]; simp), if_neg (unhid HH)]), hbw3⟩

end Go.Proofs.YtmpngoejnmlmbaaGreat
