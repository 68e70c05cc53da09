/-
  Panel of the program.
-/
import Derived.Test.YtmagidoodlkeoaaGreatDoorFcN
import Derived.Test.YtmagidoodlkeoaaGreatDoorFcB
import Derived.Test.YtmagidoodlkeoaaGreatDoorFcPx
set_option linter.unusedSimpArgs false
set_option linter.unusedVariables false
namespace Go.Proofs.YtmagidoodlkeoaaGreatDoor
open Go.RowKit

def strs (ls : List (List UInt8)) : List Value := ls.map fun l => .string (SB l)
/-- A slice of texts. -/
structure StrsOk (w : World) (A : Option Addr) (ls : List (List UInt8)) : Prop where
  n : ls.length ≤ 140737488355328
  rd : Rd w A (strs ls)
  txt : ∀ l ∈ ls, l.length ≤ 140737488355328
theorem StrsOk.below {w w' : World} {A : Option Addr} {ls : List (List UInt8)} (h : StrsOk w A ls) (hb : Below w.heap.size w w') : StrsOk w' A ls := ⟨h.n, h.rd.below hb, h.txt⟩
theorem strs_at {ls : List (List UInt8)} {k : Nat} (hk : k < ls.length) : (strs ls)[k]? = some (.string (SB (ls.getD k []))) := by
  simp [strs, List.getD_eq_getElem?_getD, List.getElem?_eq_getElem hk]
theorem strs_ne {ls : List (List UInt8)} {k : Nat} (hk : k < ls.length) : strs ls ≠ [] := by
  intro h
  have := congrArg List.length h
  simp [strs] at this
  subst this
  simp at hk
theorem StrsOk.len {w : World} {A : Option Addr} {ls : List (List UInt8)} (h : StrsOk w A ls) {k : Nat} (hk : k < ls.length) : (ls.getD k []).length ≤ 140737488355328 := by
  rw [List.getD_eq_getElem?_getD, List.getElem?_eq_getElem hk]
  exact h.txt _ (List.getElem_mem hk)

theorem itC_one (x : It) : ∀ u ∈ itC x, u.oneCell' = true := by
  intro u hu
  simp [itC] at hu
  rcases hu with rfl | rfl | rfl | rfl | rfl | rfl | rfl <;> rfl
/-- The number of the mistake. -/
def panN (ls : List (List UInt8)) (unit ground ink : Int) : Int :=
  if argsP ls unit ground ink && ls.all (fun l => lenB l unit) then if 200 < sizeP ls unit ∨ 200 < heightP ls.length unit then 11 else 0 else 2
def panI (ls : List (List UInt8)) (unit ground ink : Int) (k : Nat) : List It := [⟨1, ground, 0, 0, 0, 0, []⟩, ⟨2, ink, 0, 0, unit, 0, []⟩] ++ linesP ls unit ink k
def panR (ls : List (List UInt8)) (unit ground ink : Int) (w : World) (e : Ending) (w' : World) : Prop :=
  Below w.heap.size w w' ∧ (panN ls unit ground ink ≠ 0 → e = .returned (.tuple #[.agg (fi 0 0 0 (.slice none 0 0)), .int .i64 (panN ls unit ground ink)])) ∧
    (panN ls unit ground ink = 0 → ∃ (A : Option Addr) (c : Nat), e = .returned (.tuple #[.agg (fi 2 (sizeP ls unit) (heightP ls.length unit) (.slice A (panI ls unit ground ink ls.length).length c)), .int .i64 0]) ∧ ItsOk w' A (panI ls unit ground ink ls.length))
theorem panR_no {ls : List (List UInt8)} {unit ground ink n : Int} {w w' : World} (h : panN ls unit ground ink = n) (hn : n ≠ 0) (hb : Below w.heap.size w w') : panR ls unit ground ink w (.returned (.tuple #[.agg (fi 0 0 0 (.slice none 0 0)), .int .i64 n])) w' :=
  ⟨hb, fun _ => by rw [h], fun e => absurd (h.symm.trans e) hn⟩
theorem panR_yes {ls : List (List UInt8)} {unit ground ink sz he : Int} {w w' : World} {A : Option Addr} {c : Nat} (h : panN ls unit ground ink = 0) (h1 : sz = sizeP ls unit) (h2 : he = heightP ls.length unit) (hb : Below w.heap.size w w') (hi : ItsOk w' A (panI ls unit ground ink ls.length)) : panR ls unit ground ink w (.returned (.tuple #[.agg (fi 2 sz he (.slice A (panI ls unit ground ink ls.length).length c)), .int .i64 0])) w' :=
  ⟨hb, fun e => absurd h e, fun _ => ⟨A, c, by rw [h1, h2], hi⟩⟩
theorem linesP_txt {ls : List (List UInt8)} {N : Nat} (h : ∀ l ∈ ls, l.length ≤ N) (unit ink : Int) : ∀ k, ∀ x ∈ linesP ls unit ink k, x.text.length ≤ N
  | 0, x, hx => by simp [linesP] at hx
  | k + 1, x, hx => by
    rcases List.mem_append.1 hx with hx | hx
    · exact linesP_txt h unit ink k x hx
    · rw [List.mem_singleton.1 hx]
      show (ls.getD k []).length ≤ N
      rw [List.getD_eq_getElem?_getD]
      cases hk : ls[k]? with
      | none => simp
      | some l => exact h l (List.mem_of_getElem? hk)
theorem pan_txt {ls : List (List UInt8)} {N : Nat} (h : ∀ l ∈ ls, l.length ≤ N) (unit ground ink : Int) (k : Nat) : ∀ x ∈ panI ls unit ground ink k, x.text.length ≤ N := by
  intro x hx
  rcases List.mem_append.1 hx with hx | hx
  · rcases List.mem_cons.1 hx with rfl | hx
    · exact Nat.zero_le _
    · rw [List.mem_singleton.1 hx]; exact Nat.zero_le _
  · exact linesP_txt h unit ink k x hx
theorem panN_args {ls : List (List UInt8)} {unit ground ink : Int} (h : argsP ls unit ground ink = false) : panN ls unit ground ink = 2 := by simp [panN, h]
theorem panN_line {ls : List (List UInt8)} {unit ground ink : Int} {k : Nat} (hk : k < ls.length) (h : lenB (ls.getD k []) unit = false) : panN ls unit ground ink = 2 := by
  have : ls.all (fun l => lenB l unit) = false := by
    rw [List.all_eq_false]
    refine ⟨ls[k], List.getElem_mem hk, ?_⟩
    rw [List.getD_eq_getElem?_getD, List.getElem?_eq_getElem hk] at h
    simpa using h
  unfold panN
  rw [this]
  simp
theorem all_lines {ls : List (List UInt8)} {unit : Int} (h : ∀ j, j < ls.length → lenB (ls.getD j []) unit = true) : ls.all (fun l => lenB l unit) = true := by
  rw [List.all_eq_true]
  intro l hl
  obtain ⟨j, hj, rfl⟩ := List.mem_iff_getElem.1 hl
  have := h j hj
  rwa [List.getD_eq_getElem?_getD, List.getElem?_eq_getElem hj] at this
theorem panN_ok {ls : List (List UInt8)} {unit ground ink : Int} (h1 : argsP ls unit ground ink = true) (h2 : ∀ j, j < ls.length → lenB (ls.getD j []) unit = true) : panN ls unit ground ink = if 200 < sizeP ls unit ∨ 200 < heightP ls.length unit then 11 else 0 := by
  unfold panN
  rw [h1, all_lines h2]
  rfl
/-- The result's block B. -/
structure PN0 (w : World) (B : Nat) (wr : World) : Prop where
  hB : B = w.heap.size
  res : wr.heap[B]? = some (.cells (fi 0 0 0 (.slice none 0 0)) 25 (0, 0))
  below : Below w.heap.size w wr
theorem PN0.lt {w wr : World} {B : Nat} (h : PN0 w B wr) : B < wr.heap.size := (Array.getElem?_eq_some_iff.1 h.res).1
theorem PN0.after {w wr w' : World} {B : Nat} (h : PN0 w B wr) (hb : Below wr.heap.size wr w') : PN0 w B w' := ⟨h.hB, (hb.block _ h.lt).trans h.res, h.below.trans (hb.mono h.below.size)⟩
theorem pn_start (w : World) : PN0 w w.heap.size (w.alloc (.cells (fi 0 0 0 (.slice none 0 0)) 25)) := ⟨rfl, heap_alloc_new _ _, below_alloc _ _⟩
/-- The face in the making: its block E. -/
structure PNX (w : World) (B E : Nat) (wr : World) (vs : Array Value) : Prop where
  hB : B = w.heap.size
  hE : B < E
  res : wr.heap[B]? = some (.cells (fi 0 0 0 (.slice none 0 0)) 25 (0, 0))
  x : wr.heap[E]? = some (.cells vs 25 (0, 0))
  below : Below w.heap.size w wr
theorem PNX.lt {w wr : World} {B E : Nat} {vs : Array Value} (h : PNX w B E wr vs) : E < wr.heap.size := (Array.getElem?_eq_some_iff.1 h.x).1
theorem PNX.after {w wr w' : World} {B E : Nat} {vs : Array Value} (h : PNX w B E wr vs) (hb : Below wr.heap.size wr w') : PNX w B E w' vs := by
  have h1 := h.lt
  have h2 := h.hE
  exact ⟨h.hB, h.hE, (hb.block _ (by omega)).trans h.res, (hb.block _ h1).trans h.x, h.below.trans (hb.mono h.below.size)⟩
theorem PNX.set {w wr : World} {B E : Nat} {vs : Array Value} (h : PNX w B E wr vs) (i : Nat) (v : Value) : PNX w B E (wr.setCell ⟨E, i, none⟩ v) (vs.setIfInBounds i v) := by
  have hB := h.hB
  have hE := h.hE
  exact ⟨hB, hE, (heap_setCell_other _ _ _ _ (by dsimp only; omega)).trans h.res, heap_setCell_same _ _ _ _ _ _ h.x, Below.setCell h.below (by dsimp only; omega) v⟩
theorem PNX.grown {w wr wr' : World} {B E : Nat} {vs : Array Value} {row : Option Nat} (h : PNX w B E wr vs) (hg : wr.grownBy wr' row) (hr : ∀ k, row = some k → E < k) : PNX w B E wr' vs := by
  have hne : ∀ i, i ≤ E → some i ≠ row := fun i hi e => by have := hr i e.symm; omega
  have hs := h.lt
  have hB := h.hB
  have hE := h.hE
  exact ⟨hB, hE, (hg.block B (by omega) (hne B (by omega))).trans h.res, (hg.block E hs (hne _ (Nat.le_refl _))).trans h.x, Below.grown h.below hg h.below.size (fun k hk => by have := hr k hk; omega)⟩
theorem PNX.cell {w wr : World} {B E : Nat} {vs : Array Value} (h : PNX w B E wr vs) (i : Nat) : wr.cell? ⟨E, i, none⟩ = vs[i]? := cell_of_row _ _ _ _ _ _ h.x
theorem PNX.free {w wr : World} {B E : Nat} {vs : Array Value} (h : PNX w B E wr vs) (i : Nat) : wr.frozen? ⟨E, i, none⟩ = false := frozen_of_row _ _ _ _ _ h.x
theorem pnx_start {w wr : World} {B : Nat} (h : PN0 w B wr) (vs : Array Value) : PNX w B wr.heap.size (wr.alloc (.cells vs 25)) vs := by
  have hb := below_alloc wr (.cells vs 25)
  have h1 := h.after hb
  exact ⟨h.hB, h.lt, h1.res, heap_alloc_new _ _, h1.below⟩
theorem longK_top {ls : List (List UInt8)} {unit : Int} (h : ∀ j, j < ls.length → lenB (ls.getD j []) unit = true) : ∀ k, k ≤ ls.length → longK ls unit k ≤ 28600
  | 0, _ => by unfold longK; omega
  | k + 1, hk => by
    have h1 := longK_top h k (by omega)
    obtain ⟨-, -, -, -, -, h2⟩ := lenS_bounds (h k (by omega))
    unfold longK
    omega

theorem mul_in {a b A B : Int} (h1 : 0 ≤ a) (h2 : a ≤ A) (h3 : 0 ≤ b) (h4 : b ≤ B) : 0 ≤ a * b ∧ a * b ≤ A * B :=
  ⟨Int.mul_nonneg h1 h3, Int.mul_le_mul h2 h4 h3 (by omega)⟩

set_option maxHeartbeats 8000000 in
set_option maxRecDepth 100000 in
theorem ppanel_calls (ls : List (List UInt8)) (A : Option Addr) (c : Nat) (unit ground ink : Int) (w : World) (hls : StrsOk w A ls) :
    Calls Tryz.prog 42 #[.slice A ls.length c, .int .i64 unit, .int .i64 ground, .int .i64 ink] w (panR ls unit ground ink w) := by
  have hn := hls.n
  obtain ⟨i0, hi7, hz0, hz1, hz2⟩ := info_parts info_item
  have HL := hid (fun (W : World) (h : Below w.heap.size w W) => hls.below h)
  clear hls
  have HP := hid (pn_start w)
  cases ha : argsP ls unit ground ink with
  | false =>
    have HPN := hid (panN_args ha)
    simp only [argsP, Bool.and_eq_false_iff, decide_eq_false_iff_not] at ha
    go_enter Tryz.func42, Tryz.ntmps42
    go_upto_region 1 with (fail)
    change Code.wp _ _ _ _ (w.alloc (.cells (fi 0 0 0 (.slice none 0 0)) 25))
    generalize w.alloc (.cells (fi 0 0 0 (.slice none 0 0)) 25) = W at *
    obtain ⟨B, hB⟩ : ∃ B, B = w.heap.size := ⟨_, rfl⟩
    rw [← hB] at HP ⊢
    clear hB
    by_cases q0 : ls.length < 1
    · have d1 : (ls.length : Int) < 1 := by omega
      clear ha
      go_upto_region 2 with (go_at_call 71; refine (within_calls _ _ _ _).mono ?_; rintro e w' ⟨rfl, rfl⟩)
      go_wp2_with (refine wpList_store_row rfl 25 (.tmp 8) (.tmp 51) rfl B (fi 0 0 0 (.slice none 0 0)) rfl rfl 25 _ (unhid HP).res (fi_size _ _ _ _) rfl (fi_one _ _ _ _ _ _) ?_)
      (try simp only [Exit.inBlock, Exit.then])
      refine bodyPost_ret_by (v := .tuple #[.agg (fi 0 0 0 (.slice none 0 0)), .int .i64 2]) (results_cell_row_tmp Tryz.results42 _ _ B 25 (fi 0 0 0 (.slice none 0 0)) (0, 0) _ _ rfl rfl (setRow_heap _ _ _ _ _ _ (unhid HP).res) Tryz.underlying25 rfl (fi_size _ _ _ _)) rfl ?_
      exact panR_no (unhid HPN) (by decide) (below_setRow (unhid HP).below (by have := (unhid HP).hB; omega) _)

    have d1 : ¬ (ls.length : Int) < 1 := by omega
    by_cases q1 : 8 < ls.length
    · have d2 : (8 : Int) < (ls.length : Int) := by omega
      clear ha
      go_upto_region 2 with (go_at_call 71; refine (within_calls _ _ _ _).mono ?_; rintro e w' ⟨rfl, rfl⟩)
      go_wp2_with (refine wpList_store_row rfl 25 (.tmp 8) (.tmp 51) rfl B (fi 0 0 0 (.slice none 0 0)) rfl rfl 25 _ (unhid HP).res (fi_size _ _ _ _) rfl (fi_one _ _ _ _ _ _) ?_)
      (try simp only [Exit.inBlock, Exit.then])
      refine bodyPost_ret_by (v := .tuple #[.agg (fi 0 0 0 (.slice none 0 0)), .int .i64 2]) (results_cell_row_tmp Tryz.results42 _ _ B 25 (fi 0 0 0 (.slice none 0 0)) (0, 0) _ _ rfl rfl (setRow_heap _ _ _ _ _ _ (unhid HP).res) Tryz.underlying25 rfl (fi_size _ _ _ _)) rfl ?_
      exact panR_no (unhid HPN) (by decide) (below_setRow (unhid HP).below (by have := (unhid HP).hB; omega) _)

    have d2 : ¬ (8 : Int) < (ls.length : Int) := by omega
    by_cases q2 : 1 ≤ unit ∧ unit ≤ 200
    rotate_left
    · have d3 : decide (1 ≤ unit ∧ unit ≤ 200) = false := decide_eq_false q2
      clear ha
      go_upto_region 2 with (go_at_call 71; refine (within_calls _ _ _ _).mono ?_; rintro e w' ⟨rfl, rfl⟩)
      go_wp2_with (refine wpList_store_row rfl 25 (.tmp 8) (.tmp 51) rfl B (fi 0 0 0 (.slice none 0 0)) rfl rfl 25 _ (unhid HP).res (fi_size _ _ _ _) rfl (fi_one _ _ _ _ _ _) ?_)
      (try simp only [Exit.inBlock, Exit.then])
      refine bodyPost_ret_by (v := .tuple #[.agg (fi 0 0 0 (.slice none 0 0)), .int .i64 2]) (results_cell_row_tmp Tryz.results42 _ _ B 25 (fi 0 0 0 (.slice none 0 0)) (0, 0) _ _ rfl rfl (setRow_heap _ _ _ _ _ _ (unhid HP).res) Tryz.underlying25 rfl (fi_size _ _ _ _)) rfl ?_
      exact panR_no (unhid HPN) (by decide) (below_setRow (unhid HP).below (by have := (unhid HP).hB; omega) _)

    have d3 : decide (1 ≤ unit ∧ unit ≤ 200) = true := decide_eq_true q2
    by_cases q3 : 1 ≤ ground ∧ ground ≤ 8
    rotate_left
    · have d4 : decide (1 ≤ ground ∧ ground ≤ 8) = false := decide_eq_false q3
      clear ha
      go_upto_region 2 with (go_at_call 71; refine (within_calls _ _ _ _).mono ?_; rintro e w' ⟨rfl, rfl⟩)
      go_wp2_with (refine wpList_store_row rfl 25 (.tmp 8) (.tmp 51) rfl B (fi 0 0 0 (.slice none 0 0)) rfl rfl 25 _ (unhid HP).res (fi_size _ _ _ _) rfl (fi_one _ _ _ _ _ _) ?_)
      (try simp only [Exit.inBlock, Exit.then])
      refine bodyPost_ret_by (v := .tuple #[.agg (fi 0 0 0 (.slice none 0 0)), .int .i64 2]) (results_cell_row_tmp Tryz.results42 _ _ B 25 (fi 0 0 0 (.slice none 0 0)) (0, 0) _ _ rfl rfl (setRow_heap _ _ _ _ _ _ (unhid HP).res) Tryz.underlying25 rfl (fi_size _ _ _ _)) rfl ?_
      exact panR_no (unhid HPN) (by decide) (below_setRow (unhid HP).below (by have := (unhid HP).hB; omega) _)

    have d4 : decide (1 ≤ ground ∧ ground ≤ 8) = true := decide_eq_true q3
    by_cases q4 : 1 ≤ ink ∧ ink ≤ 8
    rotate_left
    · have d5 : decide (1 ≤ ink ∧ ink ≤ 8) = false := decide_eq_false q4
      clear ha
      go_upto_region 2 with (go_at_call 71; refine (within_calls _ _ _ _).mono ?_; rintro e w' ⟨rfl, rfl⟩)
      go_wp2_with (refine wpList_store_row rfl 25 (.tmp 8) (.tmp 51) rfl B (fi 0 0 0 (.slice none 0 0)) rfl rfl 25 _ (unhid HP).res (fi_size _ _ _ _) rfl (fi_one _ _ _ _ _ _) ?_)
      (try simp only [Exit.inBlock, Exit.then])
      refine bodyPost_ret_by (v := .tuple #[.agg (fi 0 0 0 (.slice none 0 0)), .int .i64 2]) (results_cell_row_tmp Tryz.results42 _ _ B 25 (fi 0 0 0 (.slice none 0 0)) (0, 0) _ _ rfl rfl (setRow_heap _ _ _ _ _ _ (unhid HP).res) Tryz.underlying25 rfl (fi_size _ _ _ _)) rfl ?_
      exact panR_no (unhid HPN) (by decide) (below_setRow (unhid HP).below (by have := (unhid HP).hB; omega) _)

    have d5 : decide (1 ≤ ink ∧ ink ≤ 8) = true := decide_eq_true q4
    have hge : ground = ink := by omega
    have d6 : (ground == ink) = true := by simp [hge]
    clear ha hge
    go_upto_region 2 with (go_at_call 71; refine (within_calls _ _ _ _).mono ?_; rintro e w' ⟨rfl, rfl⟩)
    go_wp2_with (refine wpList_store_row rfl 25 (.tmp 8) (.tmp 51) rfl B (fi 0 0 0 (.slice none 0 0)) rfl rfl 25 _ (unhid HP).res (fi_size _ _ _ _) rfl (fi_one _ _ _ _ _ _) ?_)
    (try simp only [Exit.inBlock, Exit.then])
    refine bodyPost_ret_by (v := .tuple #[.agg (fi 0 0 0 (.slice none 0 0)), .int .i64 2]) (results_cell_row_tmp Tryz.results42 _ _ B 25 (fi 0 0 0 (.slice none 0 0)) (0, 0) _ _ rfl rfl (setRow_heap _ _ _ _ _ _ (unhid HP).res) Tryz.underlying25 rfl (fi_size _ _ _ _)) rfl ?_
    exact panR_no (unhid HPN) (by decide) (below_setRow (unhid HP).below (by have := (unhid HP).hB; omega) _)

  | true =>
    have HA := hid ha
    simp only [argsP, Bool.and_eq_true, decide_eq_true_eq] at ha
    obtain ⟨⟨⟨⟨⟨l1, l8⟩, u1, u2⟩, g1, g8⟩, i1, i8⟩, hne⟩ := ha
    have dl1 : ¬ ((ls.length : Int) < 1) := by omega
    have dl8 : ¬ (8 : Int) < (ls.length : Int) := by omega
    have du : decide (1 ≤ unit ∧ unit ≤ 200) = true := decide_eq_true ⟨u1, u2⟩
    have dg : decide (1 ≤ ground ∧ ground ≤ 8) = true := decide_eq_true ⟨g1, g8⟩
    have di : decide (1 ≤ ink ∧ ink ≤ 8) = true := decide_eq_true ⟨i1, i8⟩
    have de : (ground == ink) = false := by simp [hne]
    go_enter Tryz.func42, Tryz.ntmps42
    go_upto_region 1 with (fail)
    change Code.wp _ _ _ _ (w.alloc (.cells (fi 0 0 0 (.slice none 0 0)) 25))
    generalize w.alloc (.cells (fi 0 0 0 (.slice none 0 0)) 25) = W at *
    obtain ⟨B, hB⟩ : ∃ B, B = w.heap.size := ⟨_, rfl⟩
    rw [← hB] at HP ⊢
    clear hB
    go_wp2_with (go_at_call 71; refine (within_calls _ _ _ _).mono ?_; rintro e w' ⟨rfl, rfl⟩)
    go_loopw [54, 10] (fun iv lv wr => ∃ k : Nat, k ≤ ls.length ∧ iv = .int .i64 k ∧ lv = .int .i64 (longK ls unit k) ∧ (∀ j, j < k → lenB (ls.getD j []) unit = true) ∧ PN0 w B wr) (fun iv _ _ => ls.length - (intOf iv).toNat)
    case atStart => exact ⟨0, Nat.zero_le _, rfl, rfl, fun j h => absurd h (by omega), unhid HP⟩
    case round =>
      obtain ⟨k, hk, rfl, rfl, hall, hp⟩ := hrel
      have HP := hid hp
      have HALL := hid hall
      clear hall hp
      by_cases hlt : k < ls.length
      · obtain ⟨b, off, rfl, hb, hc⟩ := ((unhid HL) wr (unhid HP).below).rd (strs_ne hlt)
        have c0 := hc k _ (strs_at hlt)
        clear hc
        have HLEN := hid (length_calls (ls.getD k []) unit wr (((unhid HL) wr (unhid HP).below).len hlt))
        have hki : (k : Int) < (ls.length : Int) := by omega
        have HX := hid (show longK ls unit (k + 1) = max (longK ls unit k) (lenS (ls.getD k []) unit) from rfl)
        have HBAD := hid (fun h => panN_line (ground := ground) (ink := ink) (unit := unit) hlt h)
        obtain ⟨tx, htx⟩ : ∃ tx, tx = ls.getD k [] := ⟨_, rfl⟩
        rw [← htx] at HLEN HX HBAD c0
        have HTX := hid htx
        clear htx
        cases hlb : lenB tx unit with
        | false =>
          have HPN := hid ((unhid HBAD) hlb)
          rw [lenR_no hlb] at HLEN
          go_wp2_with fail
          refine (unhid HLEN).mono ?_
          rintro e w2 ⟨rfl, hb2⟩
          have HP2 := hid ((unhid HP).after hb2)
          clear hb2 c0 hlb
          go_wp2_with (refine wpList_store_row rfl 25 (.tmp 8) (.tmp 66) rfl B (fi 0 0 0 (.slice none 0 0)) rfl rfl 25 _ (unhid HP2).res (fi_size _ _ _ _) rfl (fi_one _ _ _ _ _ _) ?_)
          (try simp only [Exit.inBlock, Exit.then])
          refine bodyPost_ret_by (v := .tuple #[.agg (fi 0 0 0 (.slice none 0 0)), .int .i64 2]) (results_cell_row_tmp Tryz.results42 _ _ B 25 (fi 0 0 0 (.slice none 0 0)) (0, 0) _ _ rfl rfl (setRow_heap _ _ _ _ _ _ (unhid HP2).res) Tryz.underlying25 rfl (fi_size _ _ _ _)) rfl ?_
          exact panR_no (unhid HPN) (by decide) (below_setRow (unhid HP2).below (by have := (unhid HP2).hB; omega) _)
        | true =>
          rw [lenR_yes hlb] at HLEN
          go_wp2_with fail
          refine (unhid HLEN).mono ?_
          rintro e w2 ⟨rfl, hb2⟩
          have HP2 := hid ((unhid HP).after hb2)
          have HLB := hid hlb
          obtain ⟨y, hy⟩ : ∃ y, y = longK ls unit k := ⟨_, rfl⟩
          obtain ⟨z, hz⟩ : ∃ z, z = lenS tx unit := ⟨_, rfl⟩
          rw [← hy, ← hz] at HX
          rw [← hy, ← hz]
          clear hb2 c0 hlb hy hz
          go_wp2_with fail
          go_roundw
          case rel => exact ⟨k + 1, by omega, by go_num, by rw [unhid HX], fun j hj => by
            rcases Nat.lt_succ_iff_lt_or_eq.1 hj with h | rfl
            · exact (unhid HALL) j h
            · rw [← unhid HTX]; exact unhid HLB, unhid HP2⟩
          case measure => simp [intOf]; omega
      · obtain rfl : k = ls.length := by omega
        have hb := longK_top (unhid HALL) ls.length (Nat.le_refl _)
        have hb0 := longK_nonneg ls unit ls.length
        have HPN := hid (panN_ok (unhid HA) (unhid HALL))
        have hsz : sizeP ls unit = fives (longK ls unit ls.length + 6 * unit) := rfl
        have hhe : heightP ls.length unit = fives (highP ls.length unit) := rfl
        have hhi : highP ls.length unit = ls.length * 7 * unit + (ls.length - 1) * 4 * unit + 6 * unit := rfl
        have m1 := mul_in (a := (ls.length : Int) * 7) (b := unit) (A := 56) (B := 200) (by omega) (by omega) (by omega) (by omega)
        have m2 := mul_in (a := ((ls.length : Int) - 1) * 4) (b := unit) (A := 28) (B := 200) (by omega) (by omega) (by omega) (by omega)
        have HM := hid (show 0 ≤ highP ls.length unit ∧ highP ls.length unit ≤ 100000 by omega)
        have HSH := hid hhi
        have HSZ := hid hsz
        have HHE := hid hhe
        clear hsz hhe hhi
        have HMX := hid (fun j (hj : j < ls.length) => longK_le ls unit ls.length j hj)
        obtain ⟨y, hy⟩ : ∃ y, y = longK ls unit ls.length := ⟨_, rfl⟩
        rw [← hy] at hb hb0 HSZ HMX
        rw [← hy]
        clear hy
        go_upto_region 14 with (fail)
        rw [← unhid HSH]
        obtain ⟨hi, hhi⟩ : ∃ x, x = highP ls.length unit := ⟨_, rfl⟩
        rw [← hhi] at HM HHE ⊢
        have HHI := hid hhi
        obtain ⟨hi0, hi1⟩ := unhid HM
        clear hhi m1 m2
        go_upto_region 15 with (go_at_call 84; refine (fives_calls _ _ (by omega) (by omega)).mono ?_; rintro e w' ⟨rfl, rfl⟩)
        rw [← unhid HSZ, ← unhid HHE]
        obtain ⟨sz, hsz⟩ : ∃ x, x = sizeP ls unit := ⟨_, rfl⟩
        obtain ⟨he, hhe⟩ : ∃ x, x = heightP ls.length unit := ⟨_, rfl⟩
        rw [← hsz] at HSZ HPN ⊢
        rw [← hhe] at HHE HPN ⊢
        have hszb := fives_bounds (y + 6 * unit)
        rw [← unhid HSZ] at hszb
        have hheb := fives_bounds hi
        rw [← unhid HHE] at hheb
        have HS1 := hid hsz
        have HS2 := hid hhe
        clear hsz hhe
        have HX := hid (pnx_start (unhid HP) (fi 2 sz he (.slice none 0 0)))
        have hlt := (unhid HX).hE
        change Code.wp _ _ _ _ (wr.alloc (.cells (fi 2 sz he (.slice none 0 0)) 25))
        generalize wr.alloc (.cells (fi 2 sz he (.slice none 0 0)) 25) = w1 at *
        generalize wr.heap.size = E at *
        have c1 := (unhid HX).cell 1
        have c2 := (unhid HX).cell 2
        have c3 := (unhid HX).cell 3
        simp [fi] at c1 c2 c3
        by_cases hbig : 200 < sz ∨ 200 < he
        · rw [if_pos hbig] at HPN
          have hb1 : ¬ (200 < sz) → 200 < he := fun h => hbig.resolve_left h
          by_cases hb2 : 200 < sz
          · clear hbig hb1
            go_wp2_with (refine wpList_store_row rfl 25 (.tmp 8) (.tmp 102) rfl B (fi 0 0 0 (.slice none 0 0)) rfl rfl 25 _ (unhid HX).res (fi_size _ _ _ _) rfl (fi_one _ _ _ _ _ _) ?_)
            (try simp only [Exit.inBlock, Exit.then])
            refine bodyPost_ret_by (v := .tuple #[.agg (fi 0 0 0 (.slice none 0 0)), .int .i64 11]) (results_cell_row_tmp Tryz.results42 _ _ B 25 (fi 0 0 0 (.slice none 0 0)) (0, 0) _ _ rfl rfl (setRow_heap _ _ _ _ _ _ (unhid HX).res) Tryz.underlying25 rfl (fi_size _ _ _ _)) rfl ?_
            exact panR_no (unhid HPN) (by decide) (below_setRow (unhid HX).below (by have := (unhid HX).hB; omega) _)
          · have hb1 := hb1 hb2
            clear hbig
            go_wp2_with (refine wpList_store_row rfl 25 (.tmp 8) (.tmp 102) rfl B (fi 0 0 0 (.slice none 0 0)) rfl rfl 25 _ (unhid HX).res (fi_size _ _ _ _) rfl (fi_one _ _ _ _ _ _) ?_)
            (try simp only [Exit.inBlock, Exit.then])
            refine bodyPost_ret_by (v := .tuple #[.agg (fi 0 0 0 (.slice none 0 0)), .int .i64 11]) (results_cell_row_tmp Tryz.results42 _ _ B 25 (fi 0 0 0 (.slice none 0 0)) (0, 0) _ _ rfl rfl (setRow_heap _ _ _ _ _ _ (unhid HX).res) Tryz.underlying25 rfl (fi_size _ _ _ _)) rfl ?_
            exact panR_no (unhid HPN) (by decide) (below_setRow (unhid HX).below (by have := (unhid HX).hB; omega) _)
        · rw [if_neg hbig] at HPN
          have hb1 : ¬ 200 < sz := fun h => hbig (.inl h)
          have hb2 : ¬ 200 < he := fun h => hbig (.inr h)
          clear hbig
          go_wp2_with (at_builtin; refine wpList_append_own _ rfl _ _ 23 rfl (E + 1) 66 i0 _ 7 64 Tryz.underlying23 hi7 hz0 hz1 hz2 rfl (by decide) _ _ _ rfl (World.ownsRow_nil _ _ _ _) ⟨w1.heap.size, 0, none⟩ 2 2 (itC ⟨1, ground, 0, 0, 0, 0, []⟩ ++ itC ⟨2, ink, 0, 0, unit, 0, []⟩) rfl rfl ?c1 ?c2 ?c3 ?c4 ?c5 ?_)
          case c1 => exact fun j u h => h
          case c2 =>
            intro u hu
            rcases hu with h | h
            · exact itC_one _ u h
            · exact itC_one _ u h
          case c3 => unfold maxLen; omega
          case c5 => first | (have := (unhid HX).lt; simp; omega) | omega
          intro v' w7 hown7 hg7 _
          obtain ⟨A3, c3', rfl, -⟩ := own_slice hown7
          have HX7 := hid (((unhid HX).after (below_alloc w1 (.cells ((itC ⟨1, ground, 0, 0, 0, 0, []⟩ ++ itC ⟨2, ink, 0, 0, unit, 0, []⟩).toArray) 66))).grown hg7 (fun q hq => by simp [Value.ownBlock] at hq))
          have c33 := (unhid HX7).cell 3
          have f33 := (unhid HX7).free 3
          simp [fi] at c33
          have HO7 := hid hown7
          clear hown7 hg7 c1 c2 c3
          go_wp2_with fail
          go_loopw [115] (fun iv wr => ∃ (k : Nat) (v : Value), k ≤ ls.length ∧ iv = .int .i64 k ∧ PNX w B E wr (fi 2 sz he v) ∧ wr.ownsRow (E + 1) 66 7 v (panI ls unit ground ink k).length (its (panI ls unit ground ink k))) (fun iv _ => ls.length - (intOf iv).toNat)
          case atStart => exact ⟨0, _, Nat.zero_le _, rfl, (unhid HX7).set 3 _, by simpa [panI, linesP, its] using own_setCell (unhid HO7) (a := ⟨E, 3, none⟩) (by dsimp only; omega) (.slice A3 2 c3')⟩
          case round =>
            obtain ⟨k, v, hk, rfl, hx, hrow⟩ := hrel
            have HX := hid hx
            have HROW := hid hrow
            clear hx hrow
            have hil : (panI ls unit ground ink k).length = k + 2 := by simp [panI, linesP_len]
            have HIL := hid hil
            obtain ⟨A0, c0', rfl, hrd, hob⟩ := own_slice (unhid HROW)
            have HRD := hid hrd
            have HAB := hid (show ∀ a, A0 = some a → B + 1 < a.block from fun a ha => by subst ha; have := hob a.block rfl; omega)
            clear hil hrd hob
            by_cases hlt : k < ls.length
            · obtain ⟨b, off, rfl, hb, hc⟩ := ((unhid HL) wr (unhid HX).below).rd (strs_ne hlt)
              have c0 := hc k _ (strs_at hlt)
              clear hc
              have hki : (k : Int) < (ls.length : Int) := by omega
              have HLEN := hid (length_calls (ls.getD k []) unit wr (((unhid HL) wr (unhid HX).below).len hlt))
              have hlb := (unhid HALL) k hlt
              rw [lenR_yes hlb] at HLEN
              obtain ⟨-, -, -, -, z0, z1⟩ := lenS_bounds hlb
              clear hlb
              have hzs := (unhid HMX) k hlt
              have HST := hid (show panI ls unit ground ink (k + 1) = panI ls unit ground ink k ++ [⟨6, ink, (sizeP ls unit - lenS (ls.getD k []) unit) / 2, lowP ls.length unit k, unit, 0, ls.getD k []⟩] by simp [panI, linesP])
              have hlow : lowP ls.length unit k = he - 3 * unit - 7 * unit - k * 11 * unit - (he - hi) / 2 := by unfold lowP; rw [← unhid HS2, ← unhid HHI]
              have HLOW := hid hlow
              rw [← unhid HS1] at HST
              clear hlow
              have m3 := mul_in (a := (k : Int) * 11) (b := unit) (A := 77) (B := 200) (by omega) (by omega) (by omega) (by omega)
              obtain ⟨tx, htx⟩ : ∃ tx, tx = ls.getD k [] := ⟨_, rfl⟩
              rw [← htx] at HLEN HST c0 z0 z1 hzs
              clear htx
              obtain ⟨z, hz⟩ : ∃ z, z = lenS tx unit := ⟨_, rfl⟩
              rw [← hz] at HLEN HST z0 z1 hzs
              clear hz
              go_wp2_with fail
              refine (unhid HLEN).mono ?_
              rintro e w2 ⟨rfl, hb2⟩
              have HX2 := hid ((unhid HX).after hb2)
              have HROW2 := hid (own_below (unhid HROW) hb2)
              clear hb2 c0
              have c1 := (unhid HX2).cell 1
              have c2 := (unhid HX2).cell 2
              have c3 := (unhid HX2).cell 3
              simp [fi] at c1 c2 c3
              go_upto_region 23 with (fail)
              rw [← unhid HLOW]
              obtain ⟨lw, hlw⟩ : ∃ x, x = lowP ls.length unit k := ⟨_, rfl⟩
              rw [← hlw] at HST ⊢
              clear hlw m3
              go_wp2_with (at_builtin; refine wpList_append_own _ rfl _ _ 23 rfl (E + 1) 66 i0 _ 7 64 Tryz.underlying23 hi7 hz0 hz1 hz2 rfl (by decide) _ _ _ rfl ((unhid HROW2).alloc _) ⟨w2.heap.size, 0, none⟩ 1 1 (itC ⟨6, ink, (sz - z) / 2, lw, unit, 0, tx⟩) rfl rfl ?d1 ?d2 ?d3 ?d4 ?d5 ?_)
              case d1 => exact World.news_of_block (cs := (itC ⟨6, ink, (sz - z) / 2, lw, unit, 0, tx⟩).toArray) (t := 66) (fr := (0, 0)) (by simpa [itC] using heap_alloc_new w2 (.cells (itC ⟨6, ink, (sz - z) / 2, lw, unit, 0, tx⟩).toArray 66))
              case d2 => exact itC_one _
              case d3 => unfold maxLen; have := unhid HIL; omega
              case d4 => have := unhid HIL; omega
              case d5 => have := (unhid HX2).lt; simp; omega
              intro v' w7 hown7 hg7 _
              obtain ⟨A4, c4', rfl, -⟩ := own_slice hown7
              have hrow7 : ∀ q, (Value.slice A0 (panI ls unit ground ink k).length c0').ownBlock = some q → E < q := fun q hq => by
                rcases Nat.lt_or_ge q (E + 1) with h' | h'
                · exact absurd hq (own_ne (unhid HROW2) (Or.inl h'))
                · omega
              have HX7 := hid (((unhid HX2).after (below_alloc w2 (.cells (itC ⟨6, ink, (sz - z) / 2, lw, unit, 0, tx⟩).toArray 66))).grown hg7 hrow7)
              have c33 := (unhid HX7).cell 3
              have f33 := (unhid HX7).free 3
              simp [fi] at c33
              have HO7 := hid hown7
              clear hown7 hg7 hrow7 c1 c2 c3
              go_wp2_with fail
              go_roundw
              case rel =>
                refine ⟨k + 1, _, by omega, by go_num, (unhid HX7).set 3 _, ?_⟩
                have ho := own_setCell (unhid HO7) (a := ⟨E, 3, none⟩) (by dsimp only; omega) (.slice A4 ((panI ls unit ground ink k).length + 1) c4')
                rw [unhid HST, List.length_append, List.length_singleton, show ∀ (l : List It) (x : It), its (l ++ [x]) = its l ++ itC x from fun l x => by simp [its]]
                exact ho
              case measure => simp [intOf]; omega
            · obtain rfl : k = ls.length := by omega
              have HI := hid (show ItsOk wr A0 (panI ls unit ground ink ls.length) from ⟨by rw [unhid HIL]; omega, unhid HRD, pan_txt ((unhid HL) wr (unhid HX).below).txt unit ground ink ls.length⟩)
              have c0 := (unhid HX).cell 0
              have c1 := (unhid HX).cell 1
              have c2 := (unhid HX).cell 2
              have c3 := (unhid HX).cell 3
              simp [fi] at c0 c1 c2 c3
              go_wp2_with (refine wpList_store_row rfl 25 (.tmp 8) (.tmp 161) rfl B (fi 2 sz he (.slice A0 (panI ls unit ground ink ls.length).length c0')) rfl rfl 25 _ (unhid HX).res (fi_size _ _ _ _) rfl (fi_one _ _ _ _ _ _) ?_)
              (try simp only [Exit.inBlock, Exit.then])
              refine bodyPost_ret_by (v := .tuple #[.agg (fi 2 sz he (.slice A0 (panI ls unit ground ink ls.length).length c0')), .int .i64 0]) (results_cell_row_tmp Tryz.results42 _ _ B 25 (fi 2 sz he (.slice A0 (panI ls unit ground ink ls.length).length c0')) (0, 0) _ _ rfl rfl (setRow_heap _ _ _ _ _ _ (unhid HX).res) Tryz.underlying25 rfl (fi_size _ _ _ _)) rfl ?_
              exact panR_yes (unhid HPN) (unhid HS1) (unhid HS2) (below_setRow (unhid HX).below (by have := (unhid HX).hB; omega) _) (itsOk_setRow (unhid HI) (unhid HAB) _)

end Go.Proofs.YtmagidoodlkeoaaGreatDoor
