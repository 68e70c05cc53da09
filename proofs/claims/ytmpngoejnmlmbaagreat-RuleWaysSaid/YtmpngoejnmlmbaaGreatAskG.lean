/-
  A block that holds an ask, kept while the world grows; what the laws of this chapter share. The law's right.
-/
import Derived.Test.YtmpngoejnmlmbaaGreatWhy
import Derived.Test.YtmpngoejnmlmbaaGreatRowsP
import Derived.Test.YtmpngoejnmlmbaaGreatKitB
set_option linter.unusedSimpArgs false
set_option linter.unusedVariables false
namespace Go.Proofs.YtmpngoejnmlmbaaGreat
open Go.RowKit

section
/-- Block B holds these eight cells. -/
structure Ask8 (w : World) (B : Nat) (v0 v1 v2 v3 v4 v5 v6 v7 : Value) : Prop where
  lt : B < w.heap.size
  c0 : w.cell? ⟨B, 0, none⟩ = some v0
  c1 : w.cell? ⟨B, 1, none⟩ = some v1
  c2 : w.cell? ⟨B, 2, none⟩ = some v2
  c3 : w.cell? ⟨B, 3, none⟩ = some v3
  c4 : w.cell? ⟨B, 4, none⟩ = some v4
  c5 : w.cell? ⟨B, 5, none⟩ = some v5
  c6 : w.cell? ⟨B, 6, none⟩ = some v6
  c7 : w.cell? ⟨B, 7, none⟩ = some v7
theorem Ask8.below {w w' : World} {B : Nat} {v0 v1 v2 v3 v4 v5 v6 v7 : Value} (h : Ask8 w B v0 v1 v2 v3 v4 v5 v6 v7) (hb : Below w.heap.size w w') : Ask8 w' B v0 v1 v2 v3 v4 v5 v6 v7 :=
  have k : ∀ i, w'.cell? ⟨B, i, none⟩ = w.cell? ⟨B, i, none⟩ := fun i => hb.cell (p := ⟨B, i, none⟩) h.lt
  ⟨Nat.lt_of_lt_of_le h.lt hb.size, (k _).trans h.c0, (k _).trans h.c1, (k _).trans h.c2, (k _).trans h.c3, (k _).trans h.c4, (k _).trans h.c5, (k _).trans h.c6, (k _).trans h.c7⟩
theorem Ask8.new (w : World) (v0 v1 v2 v3 v4 v5 v6 v7 : Value) (t : TypeId) : Ask8 (w.alloc (.cells #[v0, v1, v2, v3, v4, v5, v6, v7] t)) w.heap.size v0 v1 v2 v3 v4 v5 v6 v7 := by
  have k : ∀ i, (w.alloc (.cells #[v0, v1, v2, v3, v4, v5, v6, v7] t)).cell? ⟨w.heap.size, i, none⟩ = #[v0, v1, v2, v3, v4, v5, v6, v7][i]? := fun i => by rw [World.cell?_alloc_new]
  exact ⟨by simp, by rw [k]; rfl, by rw [k]; rfl, by rw [k]; rfl, by rw [k]; rfl, by rw [k]; rfl, by rw [k]; rfl, by rw [k]; rfl, by rw [k]; rfl⟩
theorem Ask8.cells {w : World} {B : Nat} {v0 v1 v2 v3 v4 v5 v6 v7 : Value} (h : Ask8 w B v0 v1 v2 v3 v4 v5 v6 v7) :
    w.cell? ⟨B, 0, none⟩ = some v0 ∧ w.cell? ⟨B, 1, none⟩ = some v1 ∧ w.cell? ⟨B, 2, none⟩ = some v2 ∧ w.cell? ⟨B, 3, none⟩ = some v3 ∧ w.cell? ⟨B, 4, none⟩ = some v4 ∧ w.cell? ⟨B, 5, none⟩ = some v5 ∧ w.cell? ⟨B, 6, none⟩ = some v6 ∧ w.cell? ⟨B, 7, none⟩ = some v7 :=
  ⟨h.c0, h.c1, h.c2, h.c3, h.c4, h.c5, h.c6, h.c7⟩

theorem Ask8.after {w : World} {B : Nat} {v0 v1 v2 v3 v4 v5 v6 v7 : Value} (h : Ask8 w B v0 v1 v2 v3 v4 v5 v6 v7) :
    (∀ p : After w, p.w.cell? ⟨B, 0, none⟩ = some v0) ∧ (∀ p : After w, p.w.cell? ⟨B, 1, none⟩ = some v1) ∧ (∀ p : After w, p.w.cell? ⟨B, 2, none⟩ = some v2) ∧ (∀ p : After w, p.w.cell? ⟨B, 3, none⟩ = some v3) ∧
    (∀ p : After w, p.w.cell? ⟨B, 4, none⟩ = some v4) ∧ (∀ p : After w, p.w.cell? ⟨B, 5, none⟩ = some v5) ∧ (∀ p : After w, p.w.cell? ⟨B, 6, none⟩ = some v6) ∧ (∀ p : After w, p.w.cell? ⟨B, 7, none⟩ = some v7) :=
  ⟨fun p => (h.below p.below).c0, fun p => (h.below p.below).c1, fun p => (h.below p.below).c2, fun p => (h.below p.below).c3, fun p => (h.below p.below).c4, fun p => (h.below p.below).c5, fun p => (h.below p.below).c6, fun p => (h.below p.below).c7⟩
theorem signs_after {w : World} {b off : Nat} {l : List Sg} (hb : b < w.heap.size) (h : ∀ j u, (signs l)[j]? = some u → w.cell? ⟨b, off + j, none⟩ = some u) {k : Nat} (hk : k < l.length) :
    (∀ p : After w, p.w.cell? ⟨b, off + k * 9, none⟩ = some (.int .i64 l[k].num)) ∧ (∀ p : After w, p.w.cell? ⟨b, off + k * 9 + 1, none⟩ = some (.int .i64 l[k].kind)) ∧ (∀ p : After w, p.w.cell? ⟨b, off + k * 9 + 2, none⟩ = some (.int .i64 l[k].val)) ∧
    (∀ p : After w, p.w.cell? ⟨b, off + k * 9 + 3, none⟩ = some (.int .i64 l[k].chain)) ∧ (∀ p : After w, p.w.cell? ⟨b, off + k * 9 + 4, none⟩ = some (.int .i64 l[k].dir)) ∧ (∀ p : After w, p.w.cell? ⟨b, off + k * 9 + 5, none⟩ = some (.int .i64 l[k].rank)) ∧
    (∀ p : After w, p.w.cell? ⟨b, off + k * 9 + 6, none⟩ = some (.int .i64 l[k].up)) ∧ (∀ p : After w, p.w.cell? ⟨b, off + k * 9 + 7, none⟩ = some (.int .i64 l[k].down)) ∧ (∀ p : After w, p.w.cell? ⟨b, off + k * 9 + 8, none⟩ = some (.slice l[k].cA l[k].cov.length l[k].cc)) := by
  obtain ⟨m0, m1, m2, m3, m4, m5, m6, m7, m8⟩ := signs_cells h hk
  exact ⟨After.cell hb m0, After.cell hb m1, After.cell hb m2, After.cell hb m3, After.cell hb m4, After.cell hb m5, After.cell hb m6, After.cell hb m7, After.cell hb m8⟩

/-- The error that a row's ask has by package rule is the law's. -/
theorem why_asked (len : Int) (js : List Int) (l : List Sg) (ed : List Ed) (hour dir topic : Int) :
    whyE len js l ed true false (decide (0 ≤ hour ∧ hour ≤ 10000000) && dirB dir && decide (1 ≤ topic ∧ topic ≤ 2)) = askedE len js l hour dir topic := by
  simp [whyE, askedE]
theorem why_asked1 (len : Int) (js : List Int) (l : List Sg) (ed : List Ed) (hour dir : Int) :
    whyE len js l ed true false (decide (0 ≤ hour ∧ hour ≤ 10000000) && dirB dir) = askedE len js l hour dir 1 := by
  rw [← why_asked len js l ed hour dir 1]; simp
end

section
noncomputable def rightA (len : Int) (js : List Int) (l : List Sg) (ed : List Ed) (hour dir topic : Int) : Bool :=
  !heavyB len js l ed.length && sgsB len js l && edsB len js ed && decide (len ≤ 200) && decide (0 ≤ hour ∧ hour ≤ 10000000) && dirB dir && decide (topic = 1 ∨ topic = 2)

set_option maxHeartbeats 2000000 in
set_option maxRecDepth 100000 in
theorem right_calls (len : Int) (A : Option Addr) (js : List Int) (c : Nat) (A2 : Option Addr) (l : List Sg) (c2 : Nat) (A3 : Option Addr) (ed : List Ed) (c3 : Nat) (hour dir topic metre : Int) (w : World) (hl : LnOk w A js) (hs : SgsOk w A2 l) (he : EdsOk w A3 ed) :
    Calls Tryz.prog 20 #[.agg #[.int .i64 len, .slice A js.length c, .slice A2 l.length c2, .slice A3 ed.length c3, .int .i64 hour, .int .i64 dir, .int .i64 topic, .int .i64 metre]] w fun e w' =>
      e = .returned (.bool (rightA len js l ed hour dir topic)) ∧ Below w.heap.size w w' := by
  have HL := hid hl
  have HS := hid hs
  have HE := hid he
  have hen := he.n
  clear hl hs he
  have HRT := hid (show rightA len js l ed hour dir topic = (!heavyB len js l ed.length && sgsB len js l && edsB len js ed && decide (len ≤ 200) && decide (0 ≤ hour ∧ hour ≤ 10000000) && dirB dir && decide (topic = 1 ∨ topic = 2)) from rfl)
  have KH := hid (hour_calls hour)
  have KW := hid (way_calls dir)
  have KT := hid (topic_calls topic)
  generalize decide (0 ≤ hour ∧ hour ≤ 10000000) = g1 at *
  generalize dirB dir = g2 at *
  generalize decide (topic = 1 ∨ topic = 2) = g3 at *
  generalize rightA len js l ed hour dir topic = rt at *
  go_enter Tryz.func20, Tryz.ntmps20
  go_wp2_with fail
  refine (heavy_calls len A js c A2 l c2 A3 ed.length c3 hour dir topic metre _ ((unhid HL).below (below_alloc _ _)) ((unhid HS).below (below_alloc _ _)) (by omega)).mono ?_
  rintro e W ⟨rfl, hb1⟩
  have HA := (Ask8.new w (.int .i64 len) (.slice A js.length c) (.slice A2 l.length c2) (.slice A3 ed.length c3) (.int .i64 hour) (.int .i64 dir) (.int .i64 topic) (.int .i64 metre) 28).below hb1
  have hbw1 : Below w.heap.size w W := (below_alloc w _).trans (hb1.mono (by simp))
  clear hb1
  generalize hBB : w.heap.size = B at *
  obtain ⟨e0, e1, e2, e3, e4, e5, e6, e7⟩ := HA.cells
  generalize hh : heavyB len js l ed.length = hv at *
  clear hh
  cases hv with
  | true =>
    go_wp2_with fail
    go_ret
    exact ⟨by rw [unhid HRT]; rfl, by rw [hBB]; exact hbw1⟩
  | false =>
    go_wp2_with fail
    refine (rvalidSigns_calls len A js c A2 l c2 _ ((unhid HL).below (by rw [hBB]; exact hbw1)) ((unhid HS).below (by rw [hBB]; exact hbw1))).mono ?_
    rintro e w2 ⟨rfl, hb2⟩
    have hbw2 : Below B w w2 := hbw1.trans (hb2.mono (by have := hbw1.size; have := HA.lt; omega))
    have HA2 := HA.below hb2
    clear e0 e1 e2 e3 e4 e5 e6 e7 hb2
    obtain ⟨e0, e1, e2, e3, e4, e5, e6, e7⟩ := HA2.cells
    generalize hh : sgsB len js l = s1 at *
    clear hh
    cases s1 with
    | false =>
      go_wp2_with fail
      go_ret
      exact ⟨by rw [unhid HRT]; rfl, by rw [hBB]; exact hbw2⟩
    | true =>
      go_wp2_with fail
      refine (rvalidEdicts_calls len A js c A3 ed c3 _ ((unhid HL).below (by rw [hBB]; exact hbw2)) ((unhid HE).below (by rw [hBB]; exact hbw2))).mono ?_
      rintro e w3 ⟨rfl, hb3⟩
      have hbw3 : Below B w w3 := hbw2.trans (hb3.mono (by have := hbw2.size; have := HA2.lt; omega))
      have HA3 := HA2.below hb3
      clear e0 e1 e2 e3 e4 e5 e6 e7 hb3
      obtain ⟨e0, e1, e2, e3, e4, e5, e6, e7⟩ := HA3.cells
      generalize hh : edsB len js ed = s2 at *
      clear hh
      cases s2 with
      | false =>
        go_wp2_with fail
        go_ret
        exact ⟨by rw [unhid HRT]; rfl, by rw [hBB]; exact hbw3⟩
      | true =>
        by_cases h2 : len ≤ 200
        · have := decide_eq_true (show len ≤ 200 by omega)
          have H2 := hid (decide_eq_true h2)
          go_wp2_with (first | (go_at_call 13; refine ((unhid KH) _).mono ?_; rintro e w' ⟨rfl, rfl⟩) | (go_at_call 14; refine ((unhid KW) _).mono ?_; rintro e w' ⟨rfl, rfl⟩) | (go_at_call 15; refine ((unhid KT) _).mono ?_; rintro e w' ⟨rfl, rfl⟩))
          all_goals
            go_ret
            refine ⟨?_, by rw [hBB]; exact hbw3⟩
            rw [unhid HRT, unhid H2]
            go_light
            simp_all
        · have := decide_eq_false (show ¬ (len ≤ 200) by omega)
          have H2 := hid (decide_eq_false h2)
          go_wp2_with fail
          go_ret
          exact ⟨by rw [unhid HRT, unhid H2]; simp, by rw [hBB]; exact hbw3⟩

structure RightOk (len : Int) (js : List Int) (l : List Sg) (ed : List Ed) (hour dir topic : Int) : Prop where
  light : heavyB len js l ed.length = false
  line : lineB len js = true
  signs : sgsB len js l = true
  eds : edsB len js ed = true
  small : len ≤ 200
  hour : 0 ≤ hour ∧ hour ≤ 10000000
  dir : dirB dir = true
  topic : topic = 1 ∨ topic = 2
theorem rightA_ok {len : Int} {js : List Int} {l : List Sg} {ed : List Ed} {hour dir topic : Int} (h : rightA len js l ed hour dir topic = true) : RightOk len js l ed hour dir topic := by
  simp only [rightA, Bool.and_eq_true, Bool.not_eq_true', decide_eq_true_eq] at h
  obtain ⟨⟨⟨⟨⟨⟨h1, h2⟩, h3⟩, h4⟩, h5⟩, h6⟩, h7⟩ := h
  refine ⟨h1, ?_, h2, h3, h4, h5, h6, h7⟩
  simp only [sgsB, Bool.and_eq_true] at h2
  exact h2.1.1.1
end

end Go.Proofs.YtmpngoejnmlmbaaGreat
