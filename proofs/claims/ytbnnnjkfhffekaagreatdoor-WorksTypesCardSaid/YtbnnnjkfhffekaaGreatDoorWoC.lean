/-
  Which types are valid, both sides; the reference's picture of a type and its ground.
-/
import Derived.Test.YtbnnnjkfhffekaaGreatDoorWoA
import Derived.Test.YtbnnnjkfhffekaaGreatDoorFcPz
import Derived.Test.YtbnnnjkfhffekaaGreatDoorWaS
set_option linter.unusedSimpArgs false
set_option linter.unusedVariables false
namespace Go.Proofs.YtbnnnjkfhffekaaGreatDoor
open Go.RowKit Go.Deep

theorem tyR_iff (t : Ty) : tyR t = true ↔ ((1 ≤ t.code ∧ t.code ≤ 1000000) ∧ (1 ≤ t.grade ∧ t.grade ≤ 3) ∧ (0 ≤ t.frm ∧ t.frm ≤ 100000) ∧ (t.frm + 1 ≤ t.to ∧ t.to ≤ 100001)) := by
  simp only [tyR, Bool.and_eq_true, decide_eq_true_eq]
  constructor
  · rintro ⟨⟨⟨h1, h2⟩, h3⟩, h4⟩; exact ⟨h1, h2, h3, h4⟩
  · rintro ⟨h1, h2, h3, h4⟩; exact ⟨⟨⟨h1, h2⟩, h3⟩, h4⟩
theorem tyB_no {t : Ty} (h : ¬ ((1 ≤ t.code ∧ t.code ≤ 1000000) ∧ (1 ≤ t.grade ∧ t.grade ≤ 3) ∧ (0 ≤ t.frm ∧ t.frm ≤ 100000) ∧ (t.frm + 1 ≤ t.to ∧ t.to ≤ 100001))) : tyB t = false := by
  have : tyR t = false := by rw [Bool.eq_false_iff]; exact fun e => h ((tyR_iff t).1 e)
  unfold tyB
  rw [this]
  rfl
theorem tyB_yes {t : Ty} (h : (1 ≤ t.code ∧ t.code ≤ 1000000) ∧ (1 ≤ t.grade ∧ t.grade ≤ 3) ∧ (0 ≤ t.frm ∧ t.frm ≤ 100000) ∧ (t.frm + 1 ≤ t.to ∧ t.to ≤ 100001)) : tyB t = (faceE t).2 := by
  unfold tyB
  rw [(tyR_iff t).2 h]
  rfl

set_option maxHeartbeats 2000000 in
set_option maxRecDepth 100000 in
theorem validType_calls (t : Ty) (w : World) (hg : Gl w) :
    Calls Tryz.prog 24 #[.agg #[.int .i64 t.code, .int .i64 t.grade, .int .i64 t.frm, .int .i64 t.to, .string (SB t.text)]] w fun e w' => e = .returned (.bool (tyB t)) ∧ Below w.heap.size w w' := by
  have hb0 := below_alloc w (.cells #[.int .i64 t.code, .int .i64 t.grade, .int .i64 t.frm, .int .i64 t.to, .string (SB t.text)] 26)
  have HT := hid (TyAt.new w t)
  have HB := hid hb0
  have HG := hid (hg.below hb0)
  clear hg hb0
  go_enter Tryz.func24, Tryz.ntmps24
  go_upto_region 1 with (fail)
  change Code.wp _ _ _ _ (w.alloc (.cells #[.int .i64 t.code, .int .i64 t.grade, .int .i64 t.frm, .int .i64 t.to, .string (SB t.text)] 26))
  generalize w.alloc (.cells #[.int .i64 t.code, .int .i64 t.grade, .int .i64 t.frm, .int .i64 t.to, .string (SB t.text)] 26) = W at *
  obtain ⟨s0, s1, s2, s3, s4⟩ := (unhid HT).cells
  by_cases c1 : 1 ≤ t.code ∧ t.code ≤ 1000000
  rotate_left
  · have HN := hid (tyB_no (t := t) (fun h => c1 h.1))
    have d1 : decide (1 ≤ t.code ∧ t.code ≤ 1000000) = false := decide_eq_false c1
    clear c1
    go_wp2_with (go_at_call 30; refine (wwithin_calls _ _ _ _).mono ?_; rintro e w' ⟨rfl, rfl⟩)
    go_ret
    exact ⟨retb (by rw [unhid HN]), unhid HB⟩
  have d1 : decide (1 ≤ t.code ∧ t.code ≤ 1000000) = true := decide_eq_true c1
  by_cases c2 : 1 ≤ t.grade ∧ t.grade ≤ 3
  rotate_left
  · have HN := hid (tyB_no (t := t) (fun h => c2 h.2.1))
    have d2 : decide (1 ≤ t.grade ∧ t.grade ≤ 3) = false := decide_eq_false c2
    clear c2
    go_wp2_with (go_at_call 30; refine (wwithin_calls _ _ _ _).mono ?_; rintro e w' ⟨rfl, rfl⟩)
    go_ret
    exact ⟨retb (by rw [unhid HN]), unhid HB⟩
  have d2 : decide (1 ≤ t.grade ∧ t.grade ≤ 3) = true := decide_eq_true c2
  by_cases c3 : 0 ≤ t.frm ∧ t.frm ≤ 100000
  rotate_left
  · have HN := hid (tyB_no (t := t) (fun h => c3 h.2.2.1))
    have d3 : decide (0 ≤ t.frm ∧ t.frm ≤ 100000) = false := decide_eq_false c3
    clear c3
    go_wp2_with (go_at_call 30; refine (wwithin_calls _ _ _ _).mono ?_; rintro e w' ⟨rfl, rfl⟩)
    go_ret
    exact ⟨retb (by rw [unhid HN]), unhid HB⟩
  have d3 : decide (0 ≤ t.frm ∧ t.frm ≤ 100000) = true := decide_eq_true c3
  have f0 := c3.1
  have f1 := c3.2
  by_cases c4 : t.frm + 1 ≤ t.to ∧ t.to ≤ 100001
  rotate_left
  · have HN := hid (tyB_no (t := t) (fun h => c4 h.2.2.2))
    have d4 : decide (t.frm + 1 ≤ t.to ∧ t.to ≤ 100001) = false := decide_eq_false c4
    go_wp2_with (go_at_call 30; refine (wwithin_calls _ _ _ _).mono ?_; rintro e w' ⟨rfl, rfl⟩)
    go_ret
    exact ⟨retb (by rw [unhid HN]), unhid HB⟩
  have d4 : decide (t.frm + 1 ≤ t.to ∧ t.to ≤ 100001) = true := decide_eq_true c4
  have HY := hid (tyB_yes ⟨c1, c2, c3, c4⟩)
  clear c1 c2 c3 c4
  go_wp2_with (go_at_call 30; refine (wwithin_calls _ _ _ _).mono ?_; rintro e w' ⟨rfl, rfl⟩)
  refine (faceOf_calls t W (unhid HG)).mono ?_
  rintro e w1 ⟨hb, A, c, rfl, -⟩
  have HB1 := hid ((unhid HB).trans (hb.mono (unhid HB).size))
  clear hb s0 s1 s2 s3 s4 HT HG
  go_wp2_with fail
  go_ret
  exact ⟨retb (by rw [unhid HY]), below_alloc' (unhid HB1) _⟩

/-- A picture in a block. -/
structure PicAt (w : World) (B : Nat) (f : Fc) (A1 A2 : Option Addr) (c1 c2 : Nat) : Prop where
  heap : w.heap[B]? = some (.cells #[.int .i64 f.size, .int .i64 (heiF f), .slice A1 (numD f) c1, .slice A2 (numD f) c2] 62 (0, 0))
  rd : Rd w A1 (ints (dotL f f.items.length))
theorem PicAt.lt {w : World} {B : Nat} {f : Fc} {A1 A2 : Option Addr} {c1 c2 : Nat} (h : PicAt w B f A1 A2 c1 c2) : B < w.heap.size := (Array.getElem?_eq_some_iff.1 h.heap).1
theorem PicAt.below {w w' : World} {B : Nat} {f : Fc} {A1 A2 : Option Addr} {c1 c2 : Nat} (h : PicAt w B f A1 A2 c1 c2) (hb : Below w.heap.size w w') : PicAt w' B f A1 A2 c1 c2 := ⟨(hb.block B h.lt).trans h.heap, h.rd.below hb⟩
theorem PicAt.new (w : World) {f : Fc} {A1 : Option Addr} (A2 : Option Addr) (c1 c2 : Nat) (h : Rd w A1 (ints (dotL f f.items.length))) : PicAt (w.alloc (.cells #[.int .i64 f.size, .int .i64 (heiF f), .slice A1 (numD f) c1, .slice A2 (numD f) c2] 62)) w.heap.size f A1 A2 c1 c2 := ⟨heap_alloc_new _ _, h.below (below_alloc _ _)⟩
theorem PicAt.cells {w : World} {B : Nat} {f : Fc} {A1 A2 : Option Addr} {c1 c2 : Nat} (h : PicAt w B f A1 A2 c1 c2) :
    w.cell? ⟨B, 0, none⟩ = some (.int .i64 f.size) ∧ w.cell? ⟨B, 1, none⟩ = some (.int .i64 (heiF f)) ∧ w.cell? ⟨B, 2, none⟩ = some (.slice A1 (numD f) c1) ∧ w.cell? ⟨B, 3, none⟩ = some (.slice A2 (numD f) c2) :=
  ⟨cell_of_row _ B 0 _ _ _ h.heap, cell_of_row _ B 1 _ _ _ h.heap, cell_of_row _ B 2 _ _ _ h.heap, cell_of_row _ B 3 _ _ _ h.heap⟩

set_option maxHeartbeats 1000000 in
set_option maxRecDepth 100000 in
theorem rground_calls (f : Fc) (A1 A2 : Option Addr) (c1 c2 : Nat) (w : World) (hf : fcB f = true) (hr : Rd w A1 (ints (dotL f f.items.length))) :
    Calls Tryz.prog 38 #[.agg #[.int .i64 f.size, .int .i64 (heiF f), .slice A1 (numD f) c1, .slice A2 (numD f) c2]] w fun e w' => e = .returned (.int .i64 (gndF f)) ∧ Below w.heap.size w w' := by
  have HF := hid (PicAt.new w A2 c1 c2 hr)
  have HB := hid (below_alloc w (.cells #[.int .i64 f.size, .int .i64 (heiF f), .slice A1 (numD f) c1, .slice A2 (numD f) c2] 62))
  have HSC := hid (fun W h => rscreens_calls f A1 A2 c1 c2 W hf h)
  clear hr
  go_enter Tryz.func38, Tryz.ntmps38
  go_wp2_with fail
  generalize w.alloc (.cells #[.int .i64 f.size, .int .i64 (heiF f), .slice A1 (numD f) c1, .slice A2 (numD f) c2] 62) = W at *
  refine ((unhid HSC) W (unhid HF).rd).mono ?_
  rintro e w1 ⟨hb, A3, c3, rfl, hrd⟩
  have HB1 := hid ((unhid HB).trans (hb.mono (unhid HB).size))
  have HGL := hid (show gndF f = gndL (screensK f 8) from rfl)
  obtain ⟨l, hl⟩ : ∃ l, l = screensK f 8 := ⟨_, rfl⟩
  rw [← hl] at hrd HGL ⊢
  clear hl HSC HB hb
  cases l with
  | nil =>
    simp only [List.length_nil]
    go_wp2_with fail
    go_ret
    exact ⟨reti (by rw [unhid HGL]; simp [gndL]), unhid HB1⟩
  | cons x l =>
    obtain ⟨b, off, rfl, hbl, hc⟩ := hrd (by simp [ints])
    have c0 : w1.cell? ⟨b, off, none⟩ = some (.int .i64 x) := hc 0 _ rfl
    obtain ⟨n, hn⟩ : ∃ n, n = (x :: l).length := ⟨_, rfl⟩
    rw [← hn]
    have hn0 : 0 < n := by rw [hn]; simp
    have hn1 : (0 : Int) < (n : Int) := by omega
    have hn2 : ((n : Int) == 0) = false := by simp; omega
    clear hn hc
    by_cases hx : x = 8
    · have hx2 : (x == 8) = true := by simp [hx]
      have HX := hid hx
      clear hx
      go_wp2_with fail
      go_ret
      exact ⟨reti (by rw [unhid HGL]; simp [gndL, unhid HX]), unhid HB1⟩
    · have hx2 : (x == 8) = false := by simp [hx]
      have HX := hid hx
      clear hx
      go_wp2_with fail
      go_ret
      exact ⟨reti (by rw [unhid HGL]; simp [gndL, unhid HX]), unhid HB1⟩

end Go.Proofs.YtbnnnjkfhffekaaGreatDoor
