/-
  The law RuleLines.
-/
import Derived.Test.YtmpngoejnmlmbaaHeavy
namespace Go.Proofs.Ytmpngoejnmlmbaa
open Go.RowKit

set_option maxHeartbeats 4000000 in
set_option maxRecDepth 100000 in
theorem lines_calls (len : Int) (A : Option Addr) (js : List Int) (c : Nat) (A2 : Option Addr) (l : List Sg) (c2 : Nat) (A3 : Option Addr) (ed : List Ed) (c3 : Nat) (hour dir topic metre : Int) (w : World) (hl : LnOk w A js) (hs : SgsOk w A2 l) (he : EdsOk w A3 ed) (_ : I64 len) (_ : I64 hour) (_ : I64 dir) (_ : I64 topic) (_ : I64 metre) :
    Calls Try.prog 4 #[.agg #[.int .i64 len, .slice A js.length c, .slice A2 l.length c2, .slice A3 ed.length c3, .int .i64 hour, .int .i64 dir, .int .i64 topic, .int .i64 metre]] w fun e w' => e = .returned (.bool true) ∧ Below w.heap.size w w' := by
  have HL := hid hl
  have HS := hid hs
  have HE := hid he
  have hln := hl.n
  have hsn := hs.n
  have hen := he.n
  clear hl hs he
  go_enter Try.func4, Try.ntmps4
  go_wp2_with fail
  refine (heavy_calls len A js c A2 l c2 A3 ed.length c3 hour dir topic metre _ ((unhid HL).below (below_alloc _ _)) ((unhid HS).below (below_alloc _ _)) (by omega)).mono ?_
  rintro e W ⟨rfl, hb1⟩
  have a0 := hb1.cell (p := ⟨w.heap.size, 0, none⟩) (by simp)
  have a1 := hb1.cell (p := ⟨w.heap.size, 1, none⟩) (by simp)
  have a2 := hb1.cell (p := ⟨w.heap.size, 2, none⟩) (by simp)
  have a3 := hb1.cell (p := ⟨w.heap.size, 3, none⟩) (by simp)
  simp [go_sem] at a0 a1 a2 a3
  have hbw1 : Below w.heap.size w W := (below_alloc w _).trans (hb1.mono (by simp))
  have hB : w.heap.size < W.heap.size := Nat.lt_of_lt_of_le (by simp) hb1.size
  have HL := hid ((unhid HL).below hbw1)
  have HS := hid ((unhid HS).below hbw1)
  have HE := hid ((unhid HE).below hbw1)
  clear hb1
  have HBW := hid hbw1
  cases hh : heavyB len js l ed.length with
  | true =>
    go_wp2_with fail
    refine (first_calls _).mono ?_
    rintro e w2 ⟨rfl, hb2⟩
    go_wp2_with fail
    go_ret
    exact ⟨rfl, hbw1.trans (hb2.mono hbw1.size)⟩
  | false =>
    clear hbw1
    go_wp2_with fail
    generalize hBB : w.heap.size = B at *
    have t1 : (lineB len js == lineB len js) = true := by simp
    have t2 : (sgsB len js l == sgsB len js l) = true := by simp
    have t3 : (edsB len js ed == edsB len js ed) = true := by simp
    have hBel := Below.refl W.heap.size W
    go_region_held3 (fun w' => w'.cell? ⟨B, 0, none⟩ = some (.int .i64 len) ∧ w'.cell? ⟨B, 1, none⟩ = some (.slice A js.length c) ∧ w'.cell? ⟨B, 2, none⟩ = some (.slice A2 l.length c2) ∧ w'.cell? ⟨B, 3, none⟩ = some (.slice A3 ed.length c3) ∧ Below W.heap.size W w') (first | (refine ⟨?_, ?_, ?_, ?_, ?_⟩ <;> assumption) | (exact ⟨by assumption, by assumption, by assumption, by assumption, Below.drew (Below.refl _ _)⟩) | go_keep)
      (first
        | (go_at_call 20; have hh := ‹_ ∧ _ ∧ _ ∧ _ ∧ Below W.heap.size W _›; refine (validLine_calls len A js c _ hln ((unhid HL).below hh.2.2.2.2).rd).mono ?_; rintro e w2 ⟨rfl, hb2⟩; have hB2 := hh.2.2.2.2.trans (hb2.mono hh.2.2.2.2.size); have e0 := (hB2.cell (p := ⟨B, 0, none⟩) hB).trans a0; have e1 := (hB2.cell (p := ⟨B, 1, none⟩) hB).trans a1; have e2 := (hB2.cell (p := ⟨B, 2, none⟩) hB).trans a2; have e3 := (hB2.cell (p := ⟨B, 3, none⟩) hB).trans a3; clear hh hb2)
        | (go_at_call 21; have hh := ‹_ ∧ _ ∧ _ ∧ _ ∧ Below W.heap.size W _›; refine (rvalidLine_calls len A js c _ hln ((unhid HL).below hh.2.2.2.2).rd).mono ?_; rintro e w2 ⟨rfl, hb2⟩; have hB2 := hh.2.2.2.2.trans (hb2.mono hh.2.2.2.2.size); have e0 := (hB2.cell (p := ⟨B, 0, none⟩) hB).trans a0; have e1 := (hB2.cell (p := ⟨B, 1, none⟩) hB).trans a1; have e2 := (hB2.cell (p := ⟨B, 2, none⟩) hB).trans a2; have e3 := (hB2.cell (p := ⟨B, 3, none⟩) hB).trans a3; clear hh hb2)
        | (go_at_call 22; have hh := ‹_ ∧ _ ∧ _ ∧ _ ∧ Below W.heap.size W _›; refine (validSigns_calls len A js c A2 l c2 _ ((unhid HL).below hh.2.2.2.2) ((unhid HS).below hh.2.2.2.2)).mono ?_; rintro e w2 ⟨rfl, hb2⟩; have hB2 := hh.2.2.2.2.trans (hb2.mono hh.2.2.2.2.size); have e0 := (hB2.cell (p := ⟨B, 0, none⟩) hB).trans a0; have e1 := (hB2.cell (p := ⟨B, 1, none⟩) hB).trans a1; have e2 := (hB2.cell (p := ⟨B, 2, none⟩) hB).trans a2; have e3 := (hB2.cell (p := ⟨B, 3, none⟩) hB).trans a3; clear hh hb2)
        | (go_at_call 23; have hh := ‹_ ∧ _ ∧ _ ∧ _ ∧ Below W.heap.size W _›; refine (rvalidSigns_calls len A js c A2 l c2 _ ((unhid HL).below hh.2.2.2.2) ((unhid HS).below hh.2.2.2.2)).mono ?_; rintro e w2 ⟨rfl, hb2⟩; have hB2 := hh.2.2.2.2.trans (hb2.mono hh.2.2.2.2.size); have e0 := (hB2.cell (p := ⟨B, 0, none⟩) hB).trans a0; have e1 := (hB2.cell (p := ⟨B, 1, none⟩) hB).trans a1; have e2 := (hB2.cell (p := ⟨B, 2, none⟩) hB).trans a2; have e3 := (hB2.cell (p := ⟨B, 3, none⟩) hB).trans a3; clear hh hb2)
        | (go_at_call 24; have hh := ‹_ ∧ _ ∧ _ ∧ _ ∧ Below W.heap.size W _›; refine (validEdicts_calls len A js c A3 ed c3 _ ((unhid HL).below hh.2.2.2.2) ((unhid HE).below hh.2.2.2.2)).mono ?_; rintro e w2 ⟨rfl, hb2⟩; have hB2 := hh.2.2.2.2.trans (hb2.mono hh.2.2.2.2.size); have e0 := (hB2.cell (p := ⟨B, 0, none⟩) hB).trans a0; have e1 := (hB2.cell (p := ⟨B, 1, none⟩) hB).trans a1; have e2 := (hB2.cell (p := ⟨B, 2, none⟩) hB).trans a2; have e3 := (hB2.cell (p := ⟨B, 3, none⟩) hB).trans a3; clear hh hb2)
        | (go_at_call 25; have hh := ‹_ ∧ _ ∧ _ ∧ _ ∧ Below W.heap.size W _›; refine (rvalidEdicts_calls len A js c A3 ed c3 _ ((unhid HL).below hh.2.2.2.2) ((unhid HE).below hh.2.2.2.2)).mono ?_; rintro e w2 ⟨rfl, hb2⟩; have hB2 := hh.2.2.2.2.trans (hb2.mono hh.2.2.2.2.size); have e0 := (hB2.cell (p := ⟨B, 0, none⟩) hB).trans a0; have e1 := (hB2.cell (p := ⟨B, 1, none⟩) hB).trans a1; have e2 := (hB2.cell (p := ⟨B, 2, none⟩) hB).trans a2; have e3 := (hB2.cell (p := ⟨B, 3, none⟩) hB).trans a3; clear hh hb2)
        | (go_at_call 11; have hh := ‹_ ∧ _ ∧ _ ∧ _ ∧ Below W.heap.size W _›; refine (first_calls _).mono ?_; rintro e w2 ⟨rfl, hb2⟩; have hB2 := hh.2.2.2.2.trans (hb2.mono hh.2.2.2.2.size); have e0 := (hB2.cell (p := ⟨B, 0, none⟩) hB).trans a0; have e1 := (hB2.cell (p := ⟨B, 1, none⟩) hB).trans a1; have e2 := (hB2.cell (p := ⟨B, 2, none⟩) hB).trans a2; have e3 := (hB2.cell (p := ⟨B, 3, none⟩) hB).trans a3; clear hh hb2))
    have hh := ‹_ ∧ _ ∧ _ ∧ _ ∧ Below W.heap.size W _›
    have hfin := hh.2.2.2.2
    have hsz := (unhid HBW).size
    rw [hBB] at hsz
    have hfin2 := (unhid HBW).trans (hfin.mono hsz)
    go_wp2_with fail
    go_ret
    exact ⟨rfl, by rw [hBB]; exact hfin2⟩

end Go.Proofs.Ytmpngoejnmlmbaa
