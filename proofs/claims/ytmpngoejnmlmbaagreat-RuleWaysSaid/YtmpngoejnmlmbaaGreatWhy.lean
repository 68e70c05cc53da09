/-
  The law's topic and why.
-/
import Derived.Test.YtmpngoejnmlmbaaGreatHeavy
set_option linter.unusedSimpArgs false
set_option linter.unusedVariables false
namespace Go.Proofs.YtmpngoejnmlmbaaGreat
open Go.RowKit

theorem topic_calls (t : Int) (w : World) :
    Calls Tryz.prog 15 #[.int .i64 t] w fun e w' => e = .returned (.bool (decide (t = 1 ∨ t = 2))) ∧ w = w' := by
  go_enter Tryz.func15, Tryz.ntmps15
  go_wp2
  all_goals (go_ret; refine ⟨retb ?_, rfl⟩; simp; try omega)

noncomputable def whyE (len : Int) (js : List Int) (l : List Sg) (ed : List Ed) (p q right : Bool) : Int :=
  if lineB len js = false then 70 else if p = true ∧ sgsB len js l = false then 71 else if q = true ∧ edsB len js ed = false then 72 else if right = false then 2 else 0

set_option maxHeartbeats 2000000 in
set_option maxRecDepth 100000 in
theorem why_false_false (len : Int) (A : Option Addr) (js : List Int) (c : Nat) (A2 : Option Addr) (l : List Sg) (c2 : Nat) (A3 : Option Addr) (ed : List Ed) (c3 : Nat) (h1 h2 h3 h4 : Int) (right : Bool) (w : World) (hl : LnOk w A js) (hs : SgsOk w A2 l) (he : EdsOk w A3 ed) :
    Calls Tryz.prog 16 #[.agg #[.int .i64 len, .slice A js.length c, .slice A2 l.length c2, .slice A3 ed.length c3, .int .i64 h1, .int .i64 h2, .int .i64 h3, .int .i64 h4], .bool false, .bool false, .bool right] w fun e w' =>
      e = .returned (.int .i64 (whyE len js l ed false false right)) ∧ Below w.heap.size w w' := by
  have HL := hid hl
  have HS := hid hs
  have HE := hid he
  have hln := hl.n
  clear hl hs he
  go_enter Tryz.func16, Tryz.ntmps16
  go_wp2_with fail
  refine (rvalidLine_calls len A js c _ hln ((unhid HL).below (below_alloc _ _)).rd).mono ?_
  rintro e w1 ⟨rfl, hb1⟩
  have a0 := hb1.cell (p := ⟨w.heap.size, 0, none⟩) (by simp)
  have a1 := hb1.cell (p := ⟨w.heap.size, 1, none⟩) (by simp)
  have a2 := hb1.cell (p := ⟨w.heap.size, 2, none⟩) (by simp)
  have a3 := hb1.cell (p := ⟨w.heap.size, 3, none⟩) (by simp)
  simp [go_sem] at a0 a1 a2 a3
  have hbw1 : Below w.heap.size w w1 := (below_alloc w _).trans (hb1.mono (by simp))
  have hB1 : w.heap.size < w1.heap.size := Nat.lt_of_lt_of_le (by simp) hb1.size
  clear hb1
  cases h1 : lineB len js with
  | false =>
    have H1 := hid h1
    clear h1
    go_wp2_with fail
    go_ret
    exact ⟨reti (by simp [whyE, unhid H1]), hbw1⟩
  | true =>
    have H1 := hid h1
    clear h1
    go_wp2_with fail
    all_goals
      go_ret
      refine ⟨reti ?_, hbw1⟩
      have K : ∀ b c : Bool, (!b) = c → b = !c := by decide
      have K2 := K right _ (by assumption)
      simp [whyE, K2, unhid H1]

set_option maxHeartbeats 2000000 in
set_option maxRecDepth 100000 in
theorem why_false_true (len : Int) (A : Option Addr) (js : List Int) (c : Nat) (A2 : Option Addr) (l : List Sg) (c2 : Nat) (A3 : Option Addr) (ed : List Ed) (c3 : Nat) (h1 h2 h3 h4 : Int) (right : Bool) (w : World) (hl : LnOk w A js) (hs : SgsOk w A2 l) (he : EdsOk w A3 ed) :
    Calls Tryz.prog 16 #[.agg #[.int .i64 len, .slice A js.length c, .slice A2 l.length c2, .slice A3 ed.length c3, .int .i64 h1, .int .i64 h2, .int .i64 h3, .int .i64 h4], .bool false, .bool true, .bool right] w fun e w' =>
      e = .returned (.int .i64 (whyE len js l ed false true right)) ∧ Below w.heap.size w w' := by
  have HL := hid hl
  have HS := hid hs
  have HE := hid he
  have hln := hl.n
  clear hl hs he
  go_enter Tryz.func16, Tryz.ntmps16
  go_wp2_with fail
  refine (rvalidLine_calls len A js c _ hln ((unhid HL).below (below_alloc _ _)).rd).mono ?_
  rintro e w1 ⟨rfl, hb1⟩
  have a0 := hb1.cell (p := ⟨w.heap.size, 0, none⟩) (by simp)
  have a1 := hb1.cell (p := ⟨w.heap.size, 1, none⟩) (by simp)
  have a2 := hb1.cell (p := ⟨w.heap.size, 2, none⟩) (by simp)
  have a3 := hb1.cell (p := ⟨w.heap.size, 3, none⟩) (by simp)
  simp [go_sem] at a0 a1 a2 a3
  have hbw1 : Below w.heap.size w w1 := (below_alloc w _).trans (hb1.mono (by simp))
  have hB1 : w.heap.size < w1.heap.size := Nat.lt_of_lt_of_le (by simp) hb1.size
  clear hb1
  cases h1 : lineB len js with
  | false =>
    have H1 := hid h1
    clear h1
    go_wp2_with fail
    go_ret
    exact ⟨reti (by simp [whyE, unhid H1]), hbw1⟩
  | true =>
    have H1 := hid h1
    clear h1
    go_wp2_with fail
    refine (rvalidEdicts_calls len A js c A3 ed c3 _ ((unhid HL).below hbw1) ((unhid HE).below hbw1)).mono ?_
    rintro e w3 ⟨rfl, hb3⟩
    have hbw3 : Below w.heap.size w w3 := hbw1.trans (hb3.mono hbw1.size)
    clear hb3 a0 a1 a2 a3
    cases h3 : edsB len js ed with
    | false =>
      have H3 := hid h3
      clear h3
      go_wp2_with fail
      go_ret
      exact ⟨reti (by simp [whyE, unhid H1, unhid H3]), hbw3⟩
    | true =>
      have H3 := hid h3
      clear h3
      go_wp2_with fail
      all_goals
        go_ret
        refine ⟨reti ?_, hbw3⟩
        have K : ∀ b c : Bool, (!b) = c → b = !c := by decide
        have K2 := K right _ (by assumption)
        simp [whyE, K2, unhid H1, unhid H3]

set_option maxHeartbeats 2000000 in
set_option maxRecDepth 100000 in
theorem why_true_false (len : Int) (A : Option Addr) (js : List Int) (c : Nat) (A2 : Option Addr) (l : List Sg) (c2 : Nat) (A3 : Option Addr) (ed : List Ed) (c3 : Nat) (h1 h2 h3 h4 : Int) (right : Bool) (w : World) (hl : LnOk w A js) (hs : SgsOk w A2 l) (he : EdsOk w A3 ed) :
    Calls Tryz.prog 16 #[.agg #[.int .i64 len, .slice A js.length c, .slice A2 l.length c2, .slice A3 ed.length c3, .int .i64 h1, .int .i64 h2, .int .i64 h3, .int .i64 h4], .bool true, .bool false, .bool right] w fun e w' =>
      e = .returned (.int .i64 (whyE len js l ed true false right)) ∧ Below w.heap.size w w' := by
  have HL := hid hl
  have HS := hid hs
  have HE := hid he
  have hln := hl.n
  clear hl hs he
  go_enter Tryz.func16, Tryz.ntmps16
  go_wp2_with fail
  refine (rvalidLine_calls len A js c _ hln ((unhid HL).below (below_alloc _ _)).rd).mono ?_
  rintro e w1 ⟨rfl, hb1⟩
  have a0 := hb1.cell (p := ⟨w.heap.size, 0, none⟩) (by simp)
  have a1 := hb1.cell (p := ⟨w.heap.size, 1, none⟩) (by simp)
  have a2 := hb1.cell (p := ⟨w.heap.size, 2, none⟩) (by simp)
  have a3 := hb1.cell (p := ⟨w.heap.size, 3, none⟩) (by simp)
  simp [go_sem] at a0 a1 a2 a3
  have hbw1 : Below w.heap.size w w1 := (below_alloc w _).trans (hb1.mono (by simp))
  have hB1 : w.heap.size < w1.heap.size := Nat.lt_of_lt_of_le (by simp) hb1.size
  clear hb1
  cases h1 : lineB len js with
  | false =>
    have H1 := hid h1
    clear h1
    go_wp2_with fail
    go_ret
    exact ⟨reti (by simp [whyE, unhid H1]), hbw1⟩
  | true =>
    have H1 := hid h1
    clear h1
    go_wp2_with fail
    refine (rvalidSigns_calls len A js c A2 l c2 _ ((unhid HL).below hbw1) ((unhid HS).below hbw1)).mono ?_
    rintro e w2 ⟨rfl, hb2⟩
    have b0 := (hb2.cell (p := ⟨w.heap.size, 0, none⟩) hB1).trans a0
    have b1 := (hb2.cell (p := ⟨w.heap.size, 1, none⟩) hB1).trans a1
    have b2 := (hb2.cell (p := ⟨w.heap.size, 2, none⟩) hB1).trans a2
    have b3 := (hb2.cell (p := ⟨w.heap.size, 3, none⟩) hB1).trans a3
    have hbw2 : Below w.heap.size w w2 := hbw1.trans (hb2.mono hbw1.size)
    have hB2 : w.heap.size < w2.heap.size := Nat.lt_of_lt_of_le hB1 hb2.size
    clear hb2 a0 a1 a2 a3
    cases h2 : sgsB len js l with
    | false =>
      have H2 := hid h2
      clear h2
      go_wp2_with fail
      go_ret
      exact ⟨reti (by simp [whyE, unhid H1, unhid H2]), hbw2⟩
    | true =>
      have H2 := hid h2
      clear h2
      go_wp2_with fail
      all_goals
        go_ret
        refine ⟨reti ?_, hbw2⟩
        have K : ∀ b c : Bool, (!b) = c → b = !c := by decide
        have K2 := K right _ (by assumption)
        simp [whyE, K2, unhid H1, unhid H2]

set_option maxHeartbeats 2000000 in
set_option maxRecDepth 100000 in
theorem why_true_true (len : Int) (A : Option Addr) (js : List Int) (c : Nat) (A2 : Option Addr) (l : List Sg) (c2 : Nat) (A3 : Option Addr) (ed : List Ed) (c3 : Nat) (h1 h2 h3 h4 : Int) (right : Bool) (w : World) (hl : LnOk w A js) (hs : SgsOk w A2 l) (he : EdsOk w A3 ed) :
    Calls Tryz.prog 16 #[.agg #[.int .i64 len, .slice A js.length c, .slice A2 l.length c2, .slice A3 ed.length c3, .int .i64 h1, .int .i64 h2, .int .i64 h3, .int .i64 h4], .bool true, .bool true, .bool right] w fun e w' =>
      e = .returned (.int .i64 (whyE len js l ed true true right)) ∧ Below w.heap.size w w' := by
  have HL := hid hl
  have HS := hid hs
  have HE := hid he
  have hln := hl.n
  clear hl hs he
  go_enter Tryz.func16, Tryz.ntmps16
  go_wp2_with fail
  refine (rvalidLine_calls len A js c _ hln ((unhid HL).below (below_alloc _ _)).rd).mono ?_
  rintro e w1 ⟨rfl, hb1⟩
  have a0 := hb1.cell (p := ⟨w.heap.size, 0, none⟩) (by simp)
  have a1 := hb1.cell (p := ⟨w.heap.size, 1, none⟩) (by simp)
  have a2 := hb1.cell (p := ⟨w.heap.size, 2, none⟩) (by simp)
  have a3 := hb1.cell (p := ⟨w.heap.size, 3, none⟩) (by simp)
  simp [go_sem] at a0 a1 a2 a3
  have hbw1 : Below w.heap.size w w1 := (below_alloc w _).trans (hb1.mono (by simp))
  have hB1 : w.heap.size < w1.heap.size := Nat.lt_of_lt_of_le (by simp) hb1.size
  clear hb1
  cases h1 : lineB len js with
  | false =>
    have H1 := hid h1
    clear h1
    go_wp2_with fail
    go_ret
    exact ⟨reti (by simp [whyE, unhid H1]), hbw1⟩
  | true =>
    have H1 := hid h1
    clear h1
    go_wp2_with fail
    refine (rvalidSigns_calls len A js c A2 l c2 _ ((unhid HL).below hbw1) ((unhid HS).below hbw1)).mono ?_
    rintro e w2 ⟨rfl, hb2⟩
    have b0 := (hb2.cell (p := ⟨w.heap.size, 0, none⟩) hB1).trans a0
    have b1 := (hb2.cell (p := ⟨w.heap.size, 1, none⟩) hB1).trans a1
    have b2 := (hb2.cell (p := ⟨w.heap.size, 2, none⟩) hB1).trans a2
    have b3 := (hb2.cell (p := ⟨w.heap.size, 3, none⟩) hB1).trans a3
    have hbw2 : Below w.heap.size w w2 := hbw1.trans (hb2.mono hbw1.size)
    have hB2 : w.heap.size < w2.heap.size := Nat.lt_of_lt_of_le hB1 hb2.size
    clear hb2 a0 a1 a2 a3
    cases h2 : sgsB len js l with
    | false =>
      have H2 := hid h2
      clear h2
      go_wp2_with fail
      go_ret
      exact ⟨reti (by simp [whyE, unhid H1, unhid H2]), hbw2⟩
    | true =>
      have H2 := hid h2
      clear h2
      go_wp2_with fail
      refine (rvalidEdicts_calls len A js c A3 ed c3 _ ((unhid HL).below hbw2) ((unhid HE).below hbw2)).mono ?_
      rintro e w3 ⟨rfl, hb3⟩
      have hbw3 : Below w.heap.size w w3 := hbw2.trans (hb3.mono hbw2.size)
      clear hb3 b0 b1 b2 b3
      cases h3 : edsB len js ed with
      | false =>
        have H3 := hid h3
        clear h3
        go_wp2_with fail
        go_ret
        exact ⟨reti (by simp [whyE, unhid H1, unhid H2, unhid H3]), hbw3⟩
      | true =>
        have H3 := hid h3
        clear h3
        go_wp2_with fail
        all_goals
          go_ret
          refine ⟨reti ?_, hbw3⟩
          have K : ∀ b c : Bool, (!b) = c → b = !c := by decide
          have K2 := K right _ (by assumption)
          simp [whyE, K2, unhid H1, unhid H2, unhid H3]

theorem why_calls (len : Int) (A : Option Addr) (js : List Int) (c : Nat) (A2 : Option Addr) (l : List Sg) (c2 : Nat) (A3 : Option Addr) (ed : List Ed) (c3 : Nat) (h1 h2 h3 h4 : Int) (p q right : Bool) (w : World) (hl : LnOk w A js) (hs : SgsOk w A2 l) (he : EdsOk w A3 ed) :
    Calls Tryz.prog 16 #[.agg #[.int .i64 len, .slice A js.length c, .slice A2 l.length c2, .slice A3 ed.length c3, .int .i64 h1, .int .i64 h2, .int .i64 h3, .int .i64 h4], .bool p, .bool q, .bool right] w fun e w' =>
      e = .returned (.int .i64 (whyE len js l ed p q right)) ∧ Below w.heap.size w w' := by
  cases p <;> cases q
  · exact why_false_false len A js c A2 l c2 A3 ed c3 h1 h2 h3 h4 right w hl hs he
  · exact why_false_true len A js c A2 l c2 A3 ed c3 h1 h2 h3 h4 right w hl hs he
  · exact why_true_false len A js c A2 l c2 A3 ed c3 h1 h2 h3 h4 right w hl hs he
  · exact why_true_true len A js c A2 l c2 A3 ed c3 h1 h2 h3 h4 right w hl hs he

end Go.Proofs.YtmpngoejnmlmbaaGreat
