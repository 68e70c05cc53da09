/-
  Valid records and Before, of both packages.
-/
import Derived.Test.YtegghimjmbgghaaGreatBkK
import Derived.Test.YtegghimjmbgghaaGreatKitB
import Derived.Test.YtegghimjmbgghaaGreatAnyE
import Derived.Lib.Hide
set_option linter.unusedSimpArgs false
set_option linter.unusedVariables false
namespace Go.Proofs.YtegghimjmbgghaaGreat
open Go.RowKit

theorem below_same {w w' : World} (h : w = w') : Below w.heap.size w w' := by subst h; exact Below.refl _ _
theorem within_calls (lo n hi : Int) (w : World) :
    Calls Tryz.prog 57 #[.int .i64 lo, .int .i64 n, .int .i64 hi] w fun e w' => e = .returned (.bool (btw lo n hi)) ∧ w = w' := by
  go_enter Tryz.func57, Tryz.ntmps57
  go_wp2
  all_goals (go_ret; exact ⟨retb (by simp [btw]; try omega), rfl⟩)
theorem rwithin_calls (n lo hi : Int) (w : World) :
    Calls Tryz.prog 112 #[.int .i64 n, .int .i64 lo, .int .i64 hi] w fun e w' => e = .returned (.bool (btw lo n hi)) ∧ w = w' := by
  go_enter Tryz.func112, Tryz.ntmps112
  go_wp2
  all_goals (go_ret; exact ⟨retb (by simp [btw]; try omega), rfl⟩)

/-- A record in a block. -/
def RcAt (w : World) (B : Nat) (r : Rc) : Prop := w.heap[B]? = some (.cells (rcA r) 82 (0, 0))
theorem RcAt.lt {w : World} {B : Nat} {r : Rc} (h : RcAt w B r) : B < w.heap.size := (Array.getElem?_eq_some_iff.1 h).1
theorem RcAt.below {w w' : World} {B N : Nat} {r : Rc} (h : RcAt w B r) (hb : Below N w w') (hN : B < N) : RcAt w' B r := (hb.block B hN).trans h
theorem RcAt.cells {w : World} {B : Nat} {r : Rc} (h : RcAt w B r) :
    w.cell? ⟨B, 0, none⟩ = some (.int .i64 r.tab) ∧ w.cell? ⟨B, 1, none⟩ = some (.int .i64 r.num) ∧ w.cell? ⟨B, 2, none⟩ = some (.int .i64 r.hour) ∧ w.cell? ⟨B, 3, none⟩ = some (.int .i64 r.sign) ∧ w.cell? ⟨B, 4, none⟩ = some (.int .i64 r.fld) ∧ w.cell? ⟨B, 5, none⟩ = some (.int .i64 r.val) :=
  ⟨cell_of_row _ B 0 _ _ _ h, cell_of_row _ B 1 _ _ _ h, cell_of_row _ B 2 _ _ _ h, cell_of_row _ B 3 _ _ _ h, cell_of_row _ B 4 _ _ _ h, cell_of_row _ B 5 _ _ _ h⟩
theorem RcAt.seen8 {w : World} {B : Nat} {r : Rc} (h : RcAt w B r) :
    w.cell? ⟨B, 6, none⟩ = some (.int .i64 r.s0) ∧ w.cell? ⟨B, 7, none⟩ = some (.int .i64 r.s1) ∧ w.cell? ⟨B, 8, none⟩ = some (.int .i64 r.s2) ∧ w.cell? ⟨B, 9, none⟩ = some (.int .i64 r.s3) ∧ w.cell? ⟨B, 10, none⟩ = some (.int .i64 r.s4) ∧ w.cell? ⟨B, 11, none⟩ = some (.int .i64 r.s5) ∧ w.cell? ⟨B, 12, none⟩ = some (.int .i64 r.s6) ∧ w.cell? ⟨B, 13, none⟩ = some (.int .i64 r.s7) :=
  ⟨cell_of_row _ B 6 _ _ _ h, cell_of_row _ B 7 _ _ _ h, cell_of_row _ B 8 _ _ _ h, cell_of_row _ B 9 _ _ _ h, cell_of_row _ B 10 _ _ _ h, cell_of_row _ B 11 _ _ _ h, cell_of_row _ B 12 _ _ _ h, cell_of_row _ B 13 _ _ _ h⟩
theorem lt8 {t : Nat} (h : t < 8) : t = 0 ∨ t = 1 ∨ t = 2 ∨ t = 3 ∨ t = 4 ∨ t = 5 ∨ t = 6 ∨ t = 7 := by omega
theorem RcAt.seen {w : World} {B : Nat} {r : Rc} (h : RcAt w B r) {t : Nat} (ht : t < 8) : w.cell? ⟨B, 6 + t, none⟩ = some (.int .i64 (r.sn t)) := by
  obtain ⟨h0, h1, h2, h3, h4, h5, h6, h7⟩ := h.seen8
  rcases lt8 ht with rfl | rfl | rfl | rfl | rfl | rfl | rfl | rfl <;> assumption
theorem RcAt.new (w : World) (r : Rc) : RcAt (w.alloc (.cells (rcA r) 82)) w.heap.size r := heap_alloc_new w _
/-- What was seen, as the value of an array. -/
def seenA (r : Rc) : Array Value := #[.int .i64 r.s0, .int .i64 r.s1, .int .i64 r.s2, .int .i64 r.s3, .int .i64 r.s4, .int .i64 r.s5, .int .i64 r.s6, .int .i64 r.s7]
theorem seen_index (r : Rc) {t : Nat} (ht : t < 8) (w : World) : (Instr.index 80 (.agg #[.int .i64 r.s0, .int .i64 r.s1, .int .i64 r.s2, .int .i64 r.s3, .int .i64 r.s4, .int .i64 r.s5, .int .i64 r.s6, .int .i64 r.s7]) (.int .i64 (t : Int))).run Tryz.prog w = .ok (.int .i64 (r.sn t)) w := by
  rcases lt8 ht with rfl | rfl | rfl | rfl | rfl | rfl | rfl | rfl <;> kernel_rfl
theorem seen_no {r : Rc} {t : Nat} (ht : t < 8) (h : btw 0 (r.sn t) 1000000 = false) : rcB r = false := by
  have : seenB r = false := by
    unfold seenB
    rw [List.all_eq_false]
    exact ⟨t, List.mem_range.2 ht, by rw [h]; simp⟩
  simp [rcB, this]
theorem seen_yes {r : Rc} (h : ∀ t, t < 8 → btw 0 (r.sn t) 1000000 = true) : seenB r = true := by
  unfold seenB
  rw [List.all_eq_true]
  exact fun t ht => h t (List.mem_range.1 ht)

set_option maxHeartbeats 4000000 in
set_option maxRecDepth 100000 in
theorem valid_calls (r : Rc) (w : World) : Calls Tryz.prog 88 #[rcV r] w fun e w' => e = .returned (.bool (rcB r)) ∧ Below w.heap.size w w' := by
  have HB := hid (below_alloc w (.cells (rcA r) 82))
  have HH := hid (RcAt.new w r)
  show Calls Tryz.prog 88 #[.agg #[.int .i64 r.tab, .int .i64 r.num, .int .i64 r.hour, .int .i64 r.sign, .int .i64 r.fld, .int .i64 r.val, .int .i64 r.s0, .int .i64 r.s1, .int .i64 r.s2, .int .i64 r.s3, .int .i64 r.s4, .int .i64 r.s5, .int .i64 r.s6, .int .i64 r.s7]] w _
  go_enter Tryz.func88, Tryz.ntmps88
  go_upto_region 1 with (fail)
  change Code.wp _ _ _ _ (w.alloc (.cells (rcA r) 82))
  generalize w.alloc (.cells (rcA r) 82) = W at *
  obtain ⟨c0, c1, c2, c3, c4, c5⟩ := (unhid HH).cells
  cases d0 : btw 1 r.tab 8 with
  | false =>
    have HR := hid (show rcB r = false by simp [rcB, d0])
    go_wp2_with (go_at_call 57; refine (within_calls _ _ _ _).mono ?_; rintro e w' ⟨rfl, rfl⟩)
    go_ret
    exact ⟨retb (by rw [unhid HR]), unhid HB⟩
  | true =>
  cases d1 : btw 1 r.num 1000000 with
  | false =>
    have HR := hid (show rcB r = false by simp [rcB, d1])
    go_wp2_with (go_at_call 57; refine (within_calls _ _ _ _).mono ?_; rintro e w' ⟨rfl, rfl⟩)
    go_ret
    exact ⟨retb (by rw [unhid HR]), unhid HB⟩
  | true =>
  cases d2 : btw 0 r.hour 10000000 with
  | false =>
    have HR := hid (show rcB r = false by simp [rcB, d2])
    go_wp2_with (go_at_call 57; refine (within_calls _ _ _ _).mono ?_; rintro e w' ⟨rfl, rfl⟩)
    go_ret
    exact ⟨retb (by rw [unhid HR]), unhid HB⟩
  | true =>
  cases d3 : btw 1 r.sign 1000000000 with
  | false =>
    have HR := hid (show rcB r = false by simp [rcB, d3])
    go_wp2_with (go_at_call 57; refine (within_calls _ _ _ _).mono ?_; rintro e w' ⟨rfl, rfl⟩)
    go_ret
    exact ⟨retb (by rw [unhid HR]), unhid HB⟩
  | true =>
  cases d4 : btw 1 r.fld 6 with
  | false =>
    have HR := hid (show rcB r = false by simp [rcB, d4])
    go_wp2_with (go_at_call 57; refine (within_calls _ _ _ _).mono ?_; rintro e w' ⟨rfl, rfl⟩)
    go_ret
    exact ⟨retb (by rw [unhid HR]), unhid HB⟩
  | true =>
  cases d5 : btw (-1099511627776) r.val 1099511627776 with
  | false =>
    have HR := hid (show rcB r = false by simp [rcB, d5])
    go_wp2_with (go_at_call 57; refine (within_calls _ _ _ _).mono ?_; rintro e w' ⟨rfl, rfl⟩)
    go_ret
    exact ⟨retb (by rw [unhid HR]), unhid HB⟩
  | true =>
  have HD := hid (⟨d0, d1, d2, d3, d4, d5⟩ : _ ∧ _ ∧ _ ∧ _ ∧ _ ∧ _)
  obtain ⟨e0, e1, e2, e3, e4, e5, e6, e7⟩ := (unhid HH).seen8
  go_upto_region 4 with (go_at_call 57; refine (within_calls _ _ _ _).mono ?_; rintro e w' ⟨rfl, rfl⟩)
  clear d0 d1 d2 d3 d4 d5
  go_loopw [41] (fun iv wr => ∃ k : Nat, k ≤ 8 ∧ iv = .int .i64 k ∧ (∀ t, t < k → btw 0 (r.sn t) 1000000 = true) ∧ wr = W) (fun iv _ => 8 - (intOf iv).toNat)
  case atStart => exact ⟨0, Nat.zero_le _, rfl, fun j h => absurd h (by omega), rfl⟩
  case round =>
    obtain ⟨k, hk, rfl, hall, rfl⟩ := hrel
    have HALL := hid hall
    clear hall
    by_cases hlt : k < 8
    · have hki : (k : Int) < 8 := by omega
      have ix := seen_index r hlt
      have cx := (unhid HH).seen hlt
      have HNO := hid (seen_no (r := r) hlt)
      cases dk : btw 0 (r.sn k) 1000000 with
      | false =>
        have HR := hid ((unhid HNO) dk)
        go_wp2_with (go_at_call 57; refine (within_calls _ _ _ _).mono ?_; rintro e w' ⟨rfl, rfl⟩)
        go_ret
        exact ⟨retb (by rw [unhid HR]), unhid HB⟩
      | true =>
        have HK := hid dk
        go_wp2_with (go_at_call 57; refine (within_calls _ _ _ _).mono ?_; rintro e w' ⟨rfl, rfl⟩)
        go_roundw
        case rel => exact ⟨k + 1, by omega, by go_num, fun i hi => by
          rcases Nat.lt_succ_iff_lt_or_eq.1 hi with h | rfl
          · exact (unhid HALL) i h
          · exact unhid HK, (by first | rfl | trivial)⟩
        case measure => simp [intOf]; omega
    · obtain rfl : k = 8 := by omega
      have HS := hid (seen_yes (unhid HALL))
      have HT := hid ((unhid HH).seen (t := r.tb))
      have ht : 1 ≤ r.tab ∧ r.tab ≤ 8 := by have := (unhid HD).1; simpa [btw] using this
      have hn : 1 ≤ r.num ∧ r.num ≤ 1000000 := by have := (unhid HD).2.1; simpa [btw] using this
      obtain ⟨T0, hT⟩ : ∃ T0 : Nat, (T0 : Int) = r.tab - 1 := ⟨(r.tab - 1).toNat, by omega⟩
      have hT0 : r.tb = T0 := by unfold Rc.tb; omega
      have hT8 : T0 < 8 := by omega
      have cx := (unhid HH).seen hT8
      have HR := hid (show rcB r = decide (r.sn T0 = r.num - 1) by obtain ⟨d0, d1, d2, d3, d4, d5⟩ := unhid HD; simp only [rcB, d0, d1, d2, d3, d4, d5, unhid HS, hT0, Bool.true_and])
      have HTI := hid hT
      have w0 : IntKind.i64.wrap (r.tab - 1) = (T0 : Int) := by rw [hT]; exact IntWalk.i64_in _ (by omega)
      have w1 : IntKind.i64.wrap (r.num - 1) = r.num - 1 := IntWalk.i64_in _ (by omega)
      clear hT hT0
      go_wp2_with fail
      go_quiet (fail)
      go_wp2_with fail
      go_ret
      exact ⟨retb (by rw [unhid HR]; simp), (by first | exact unhid HB | exact below_drewN' (unhid HB) _ | exact Below.drew (unhid HB))⟩

set_option maxHeartbeats 4000000 in
set_option maxRecDepth 100000 in
theorem rvalid_calls (r : Rc) (w : World) : Calls Tryz.prog 92 #[rcV r] w fun e w' => e = .returned (.bool (rcB r)) ∧ Below w.heap.size w w' := by
  have HB := hid (below_alloc w (.cells (rcA r) 82))
  have HH := hid (RcAt.new w r)
  show Calls Tryz.prog 92 #[.agg #[.int .i64 r.tab, .int .i64 r.num, .int .i64 r.hour, .int .i64 r.sign, .int .i64 r.fld, .int .i64 r.val, .int .i64 r.s0, .int .i64 r.s1, .int .i64 r.s2, .int .i64 r.s3, .int .i64 r.s4, .int .i64 r.s5, .int .i64 r.s6, .int .i64 r.s7]] w _
  go_enter Tryz.func92, Tryz.ntmps92
  go_upto_region 1 with (fail)
  change Code.wp _ _ _ _ (w.alloc (.cells (rcA r) 82))
  generalize w.alloc (.cells (rcA r) 82) = W at *
  obtain ⟨c0, c1, c2, c3, c4, c5⟩ := (unhid HH).cells
  cases d0 : btw 1 r.tab 8 with
  | false =>
    have HR := hid (show rcB r = false by simp [rcB, d0])
    go_wp2_with (go_at_call 112; refine (rwithin_calls _ _ _ _).mono ?_; rintro e w' ⟨rfl, rfl⟩)
    go_ret
    exact ⟨retb (by rw [unhid HR]), unhid HB⟩
  | true =>
  cases d1 : btw 1 r.num 1000000 with
  | false =>
    have HR := hid (show rcB r = false by simp [rcB, d1])
    go_wp2_with (go_at_call 112; refine (rwithin_calls _ _ _ _).mono ?_; rintro e w' ⟨rfl, rfl⟩)
    go_ret
    exact ⟨retb (by rw [unhid HR]), unhid HB⟩
  | true =>
  cases d2 : btw 0 r.hour 10000000 with
  | false =>
    have HR := hid (show rcB r = false by simp [rcB, d2])
    go_wp2_with (go_at_call 112; refine (rwithin_calls _ _ _ _).mono ?_; rintro e w' ⟨rfl, rfl⟩)
    go_ret
    exact ⟨retb (by rw [unhid HR]), unhid HB⟩
  | true =>
  cases d3 : btw 1 r.sign 1000000000 with
  | false =>
    have HR := hid (show rcB r = false by simp [rcB, d3])
    go_wp2_with (go_at_call 112; refine (rwithin_calls _ _ _ _).mono ?_; rintro e w' ⟨rfl, rfl⟩)
    go_ret
    exact ⟨retb (by rw [unhid HR]), unhid HB⟩
  | true =>
  cases d4 : btw 1 r.fld 6 with
  | false =>
    have HR := hid (show rcB r = false by simp [rcB, d4])
    go_wp2_with (go_at_call 112; refine (rwithin_calls _ _ _ _).mono ?_; rintro e w' ⟨rfl, rfl⟩)
    go_ret
    exact ⟨retb (by rw [unhid HR]), unhid HB⟩
  | true =>
  cases d5 : btw (-1099511627776) r.val 1099511627776 with
  | false =>
    have HR := hid (show rcB r = false by simp [rcB, d5])
    go_wp2_with (go_at_call 112; refine (rwithin_calls _ _ _ _).mono ?_; rintro e w' ⟨rfl, rfl⟩)
    go_ret
    exact ⟨retb (by rw [unhid HR]), unhid HB⟩
  | true =>
  have HD := hid (⟨d0, d1, d2, d3, d4, d5⟩ : _ ∧ _ ∧ _ ∧ _ ∧ _ ∧ _)
  obtain ⟨e0, e1, e2, e3, e4, e5, e6, e7⟩ := (unhid HH).seen8
  go_upto_region 4 with (go_at_call 112; refine (rwithin_calls _ _ _ _).mono ?_; rintro e w' ⟨rfl, rfl⟩)
  clear d0 d1 d2 d3 d4 d5
  go_loopw [3] (fun iv wr => ∃ k : Nat, k ≤ 8 ∧ iv = .int .i64 k ∧ (∀ t, t < k → btw 0 (r.sn t) 1000000 = true) ∧ wr = W) (fun iv _ => 8 - (intOf iv).toNat)
  case atStart => exact ⟨0, Nat.zero_le _, rfl, fun j h => absurd h (by omega), rfl⟩
  case round =>
    obtain ⟨k, hk, rfl, hall, rfl⟩ := hrel
    have HALL := hid hall
    clear hall
    by_cases hlt : k < 8
    · have hki : (k : Int) < 8 := by omega
      have ix := seen_index r hlt
      have cx := (unhid HH).seen hlt
      have HNO := hid (seen_no (r := r) hlt)
      cases dk : btw 0 (r.sn k) 1000000 with
      | false =>
        have HR := hid ((unhid HNO) dk)
        go_wp2_with (go_at_call 112; refine (rwithin_calls _ _ _ _).mono ?_; rintro e w' ⟨rfl, rfl⟩)
        go_ret
        exact ⟨retb (by rw [unhid HR]), unhid HB⟩
      | true =>
        have HK := hid dk
        go_wp2_with (go_at_call 112; refine (rwithin_calls _ _ _ _).mono ?_; rintro e w' ⟨rfl, rfl⟩)
        go_roundw
        case rel => exact ⟨k + 1, by omega, by go_num, fun i hi => by
          rcases Nat.lt_succ_iff_lt_or_eq.1 hi with h | rfl
          · exact (unhid HALL) i h
          · exact unhid HK, (by first | rfl | trivial)⟩
        case measure => simp [intOf]; omega
    · obtain rfl : k = 8 := by omega
      have HS := hid (seen_yes (unhid HALL))
      have HT := hid ((unhid HH).seen (t := r.tb))
      have ht : 1 ≤ r.tab ∧ r.tab ≤ 8 := by have := (unhid HD).1; simpa [btw] using this
      have hn : 1 ≤ r.num ∧ r.num ≤ 1000000 := by have := (unhid HD).2.1; simpa [btw] using this
      obtain ⟨T0, hT⟩ : ∃ T0 : Nat, (T0 : Int) = r.tab - 1 := ⟨(r.tab - 1).toNat, by omega⟩
      have hT0 : r.tb = T0 := by unfold Rc.tb; omega
      have hT8 : T0 < 8 := by omega
      have cx := (unhid HH).seen hT8
      have HR := hid (show rcB r = decide (r.sn T0 = r.num - 1) by obtain ⟨d0, d1, d2, d3, d4, d5⟩ := unhid HD; simp only [rcB, d0, d1, d2, d3, d4, d5, unhid HS, hT0, Bool.true_and])
      have HTI := hid hT
      have w0 : IntKind.i64.wrap (r.tab - 1) = (T0 : Int) := by rw [hT]; exact IntWalk.i64_in _ (by omega)
      have w1 : IntKind.i64.wrap (r.num - 1) = r.num - 1 := IntWalk.i64_in _ (by omega)
      clear hT hT0
      go_wp2_with fail
      go_quiet (fail)
      go_wp2_with fail
      go_ret
      exact ⟨retb (by rw [unhid HR]; simp), (by first | exact unhid HB | exact below_drewN' (unhid HB) _ | exact Below.drew (unhid HB))⟩

end Go.Proofs.YtegghimjmbgghaaGreat
