/-
  Extents, of package face and of its reference, and the reference's Letter: contracts.
-/
import Derived.Test.YtbnnnjkfhffekaaGreatDoorFcMl
import Derived.Test.YtbnnnjkfhffekaaGreatDoorWaP
import Derived.Laws.NewBlocks
import Derived.StillTailTactics
set_option linter.unusedSimpArgs false
set_option linter.unusedVariables false
namespace Go.Proofs.YtbnnnjkfhffekaaGreatDoor
open Go.RowKit

theorem digit_calls (c : Int) (w : World) (h0 : 48 ≤ c) (h1 : c ≤ 255) (h2 : c ≤ 57 ∨ 65 ≤ c) :
    Calls Tryz.prog 106 #[.int .u8 c] w fun e w' => e = .returned (.int .i64 (digH c)) ∧ w = w' := by
  go_enter Tryz.func106, Tryz.ntmps106
  go_wp2
  all_goals (go_ret; exact ⟨reti (by unfold digH; omega), rfl⟩)

set_option maxHeartbeats 1000000 in
theorem extent_calls (f : Fc) (A : Option Addr) (c : Nat) (w : World) (h0 : 0 ≤ f.size) (h1 : f.size ≤ 1000000000) :
    Calls Tryz.prog 48 #[.agg #[.int .i64 f.shape, .int .i64 f.size, .int .i64 f.height, .slice A f.items.length c]] w fun e w' => e = .returned (.tuple #[.int .i64 f.size, .int .i64 (heiF f)]) ∧ Below w.heap.size w w' := by
  have e1 : IntKind.i64.wrap (13 * f.size) = 13 * f.size := IntWalk.i64_in _ (by omega)
  have e2 : IntKind.i64.wrap (13 * f.size + 14) = 13 * f.size + 14 := IntWalk.i64_in _ (by omega)
  have e3 : (13 * f.size + 14).tdiv 15 = (13 * f.size + 14) / 15 := Int.tdiv_eq_ediv_of_nonneg (by omega)
  have e4 : IntKind.i64.wrap ((13 * f.size + 14) / 15) = (13 * f.size + 14) / 15 := IntWalk.i64_in _ (by omega)
  rcases (show f.shape = 2 ∨ f.shape = 5 ∨ f.shape = 6 ∨ (¬ f.shape = 2 ∧ ¬ f.shape = 5 ∧ ¬ f.shape = 6) by omega) with h | h | h | ⟨h2, h5, h6⟩
  · have hh : heiF f = f.height := by simp [heiF, h]
    rw [hh, h]
    clear hh h e1 e2 e3 e4
    go_enter Tryz.func48, Tryz.ntmps48
    go_wp2_with fail
    go_quiet (fail)
    go_wp2_with fail
    go_ret2
    exact ⟨rfl, below_drewN' (below_alloc _ _) _⟩
  · have hh : heiF f = (13 * f.size + 14) / 15 := by simp [heiF, h]
    rw [hh, h]
    clear hh h
    go_enter Tryz.func48, Tryz.ntmps48
    go_wp2_with fail
    go_quiet (fail)
    go_wp2_with fail
    go_ret2
    exact ⟨rfl, below_drewN' (below_alloc _ _) _⟩
  · have hh : heiF f = (13 * f.size + 14) / 15 := by simp [heiF, h]
    rw [hh, h]
    clear hh h
    go_enter Tryz.func48, Tryz.ntmps48
    go_wp2_with fail
    go_quiet (fail)
    go_wp2_with fail
    go_ret2
    exact ⟨rfl, below_drewN' (below_alloc _ _) _⟩
  · have hh : heiF f = f.size := by simp [heiF, h2, h5, h6]
    have b2 : (f.shape == 2) = false := by simpa using h2
    have b5 : (f.shape == 5) = false := by simpa using h5
    have b6 : (f.shape == 6) = false := by simpa using h6
    rw [hh]
    clear hh e1 e2 e3 e4 h2 h5 h6
    go_enter Tryz.func48, Tryz.ntmps48
    go_wp2_with fail
    go_quiet (fail)
    go_wp2_with fail
    go_ret2
    exact ⟨rfl, below_drewN' (below_alloc _ _) _⟩

set_option maxHeartbeats 1000000 in
theorem rextent_calls (f : Fc) (A : Option Addr) (c : Nat) (w : World) (h0 : 0 ≤ f.size) (h1 : f.size ≤ 1000000000) :
    Calls Tryz.prog 27 #[.agg #[.int .i64 f.shape, .int .i64 f.size, .int .i64 f.height, .slice A f.items.length c]] w fun e w' => e = .returned (.tuple #[.int .i64 f.size, .int .i64 (heiF f)]) ∧ Below w.heap.size w w' := by
  have e1 : IntKind.i64.wrap (13 * f.size) = 13 * f.size := IntWalk.i64_in _ (by omega)
  have e2 : IntKind.i64.wrap (13 * f.size + 14) = 13 * f.size + 14 := IntWalk.i64_in _ (by omega)
  have e3 : (13 * f.size + 14).tdiv 15 = (13 * f.size + 14) / 15 := Int.tdiv_eq_ediv_of_nonneg (by omega)
  have e4 : IntKind.i64.wrap ((13 * f.size + 14) / 15) = (13 * f.size + 14) / 15 := IntWalk.i64_in _ (by omega)
  rcases (show f.shape = 2 ∨ f.shape = 5 ∨ f.shape = 6 ∨ (¬ f.shape = 2 ∧ ¬ f.shape = 5 ∧ ¬ f.shape = 6) by omega) with h | h | h | ⟨h2, h5, h6⟩
  · have hh : heiF f = f.height := by simp [heiF, h]
    rw [hh, h]
    clear hh h e1 e2 e3 e4
    go_enter Tryz.func27, Tryz.ntmps27
    go_wp2_with fail
    go_quiet (fail)
    go_wp2_with fail
    go_ret2
    exact ⟨rfl, below_drewN' (below_alloc _ _) _⟩
  · have hh : heiF f = (13 * f.size + 14) / 15 := by simp [heiF, h]
    rw [hh, h]
    clear hh h
    go_enter Tryz.func27, Tryz.ntmps27
    go_wp2_with fail
    go_quiet (fail)
    go_wp2_with fail
    go_ret2
    exact ⟨rfl, below_drewN' (below_alloc _ _) _⟩
  · have hh : heiF f = (13 * f.size + 14) / 15 := by simp [heiF, h]
    rw [hh, h]
    clear hh h
    go_enter Tryz.func27, Tryz.ntmps27
    go_wp2_with fail
    go_quiet (fail)
    go_wp2_with fail
    go_ret2
    exact ⟨rfl, below_drewN' (below_alloc _ _) _⟩
  · have hh : heiF f = f.size := by simp [heiF, h2, h5, h6]
    have b2 : (f.shape == 2) = false := by simpa using h2
    have b5 : (f.shape == 5) = false := by simpa using h5
    have b6 : (f.shape == 6) = false := by simpa using h6
    rw [hh]
    clear hh e1 e2 e3 e4 h2 h5 h6
    go_enter Tryz.func27, Tryz.ntmps27
    go_wp2_with fail
    go_quiet (fail)
    go_wp2_with fail
    go_ret2
    exact ⟨rfl, below_drewN' (below_alloc _ _) _⟩

/-- The first k rows of a letter, the others 0. -/
def rowsUp (n k : Nat) : List Int := (List.range k).map (rowH n) ++ List.replicate (7 - k) 0
theorem rowsUp_len (n k : Nat) (hk : k ≤ 7) : (rowsUp n k).length = 7 := by simp [rowsUp]; omega
theorem rowsUp_set (n k : Nat) (hk : k < 7) : (rowsUp n k).set k (rowH n k) = rowsUp n (k + 1) := by
  unfold rowsUp
  rw [List.set_append_right _ _ (by simp), List.length_map, List.length_range, Nat.sub_self, List.range_succ, List.map_append, List.append_assoc]
  rw [show 7 - k = (7 - (k + 1)) + 1 by omega, List.replicate_succ]
  rfl
theorem hex_range : ∀ i : Fin 504, 48 ≤ ((hexL.getD i.val 0).toNat : Int) ∧ ((hexL.getD i.val 0).toNat : Int) ≤ 255 ∧ (((hexL.getD i.val 0).toNat : Int) ≤ 57 ∨ 65 ≤ ((hexL.getD i.val 0).toNat : Int)) := by decide +kernel
theorem hex_get (i : Nat) (h : i < (SB hexL).size) : ((SB hexL)[i]'h).toNat = (hexL.getD i 0).toNat := by
  have h' : i < hexL.length := h
  have e : (SB hexL)[i]'h = hexL[i] := rfl
  rw [e, List.getD_eq_getElem?_getD, List.getElem?_eq_getElem h']
  rfl
set_option maxHeartbeats 2000000 in
set_option maxRecDepth 100000 in
theorem rletter_calls (c : Int) (w : World) (h0 : 0 ≤ c) (h1 : c ≤ 255) :
    Calls Tryz.prog 92 #[.int .u8 c] w fun e w' => e = .returned (.tuple #[letV c, .bool (isL c)]) ∧ Below w.heap.size w w' := by
  by_cases hl : isL c = true
  · by_cases h32 : c = 32
    · subst h32
      go_enter Tryz.func92, Tryz.ntmps92
      go_wp2_with fail
      (try simp only [Exit.inBlock, Exit.then])
      refine bodyPost_ret_by (v := .tuple #[letV 32, .bool (isL 32)]) ?_ rfl ⟨rfl, below_alloc' (below_alloc _ _) _⟩
      simp [results, Tryz.results92, go_sem, letV, rowsL, tabL, isL]
    · obtain ⟨hn, hrows⟩ := rowH_rows hl h32
      simp only [isL, decide_eq_true_eq] at hl
      have hn0 : (numH c : Int) = if c ≤ 57 then c - 48 else c - 55 := by unfold numH; split <;> omega
      generalize numH c = n at hn hrows hn0
      have HR := hid hrows
      clear hrows
      have b32 : (c == 32) = false := by simpa using h32
      by_cases h57 : c ≤ 57
      · rw [if_pos h57] at hn0
        have d1 := decide_eq_true (show (48 : Int) ≤ c by omega)
        have d2 := decide_eq_true (show c ≤ 57 by omega)
        obtain rfl : c = (n : Int) + 48 := by omega
        have hn9 : n ≤ 9 := by omega
        clear hn0 h32 hl h0 h1 h57
        obtain ⟨S, hS⟩ : ∃ S : ByteArray, S = SB hexL := ⟨_, rfl⟩
        have hsz : S.size = 504 := by rw [hS]; rfl
        have HG := hid (show ∀ (i : Nat) (h : i < S.size), (S[i]'h).toNat = (hexL.getD i 0).toNat from by subst hS; exact hex_get)
        have hS' := hS
        simp only [SB, hexL] at hS'
        go_enter Tryz.func92, Tryz.ntmps92
        have HS := hid hS'
        clear hS hS'
        go_wp2_with fail
        generalize hB : w.heap.size = B
        have hW0 : ((w.alloc (.cells #[.int .i64 0, .int .i64 0, .int .i64 0, .int .i64 0, .int .i64 0, .int .i64 0, .int .i64 0] 135)).alloc (.cells #[.int .i64 0, .int .i64 0, .int .i64 0, .int .i64 0, .int .i64 0, .int .i64 0, .int .i64 0] 135)).heap[B + 1]? = some (.cells (ints (rowsUp n 0)).toArray 135 (0, 0)) := by
          rw [← hB]
          have := heap_alloc_new (w.alloc (.cells #[.int .i64 0, .int .i64 0, .int .i64 0, .int .i64 0, .int .i64 0, .int .i64 0, .int .i64 0] 135)) (.cells #[.int .i64 0, .int .i64 0, .int .i64 0, .int .i64 0, .int .i64 0, .int .i64 0, .int .i64 0] 135)
          rw [World.size_alloc] at this
          exact this
        have hW1 : ((w.alloc (.cells #[.int .i64 0, .int .i64 0, .int .i64 0, .int .i64 0, .int .i64 0, .int .i64 0, .int .i64 0] 135)).alloc (.cells #[.int .i64 0, .int .i64 0, .int .i64 0, .int .i64 0, .int .i64 0, .int .i64 0, .int .i64 0] 135)).heap[B]? = some (.cells #[.int .i64 0, .int .i64 0, .int .i64 0, .int .i64 0, .int .i64 0, .int .i64 0, .int .i64 0] 135 (0, 0)) := by
          rw [← hB, Below.heap_alloc _ _ _ (by simp)]
          exact heap_alloc_new w _
        have hbw : Below B w ((w.alloc (.cells #[.int .i64 0, .int .i64 0, .int .i64 0, .int .i64 0, .int .i64 0, .int .i64 0, .int .i64 0] 135)).alloc (.cells #[.int .i64 0, .int .i64 0, .int .i64 0, .int .i64 0, .int .i64 0, .int .i64 0, .int .i64 0] 135)) := by rw [← hB]; exact below_alloc' (below_alloc _ _) _
        generalize ((w.alloc (.cells #[.int .i64 0, .int .i64 0, .int .i64 0, .int .i64 0, .int .i64 0, .int .i64 0, .int .i64 0] 135)).alloc (.cells #[.int .i64 0, .int .i64 0, .int .i64 0, .int .i64 0, .int .i64 0, .int .i64 0, .int .i64 0] 135)) = W at hW0 hW1 hbw ⊢
        go_loopw [6] (fun i wr => ∃ k : Nat, k ≤ 7 ∧ i = .int .i64 k ∧ wr.heap[B + 1]? = some (.cells (ints (rowsUp n k)).toArray 135 (0, 0)) ∧ wr.heap[B]? = some (.cells #[.int .i64 0, .int .i64 0, .int .i64 0, .int .i64 0, .int .i64 0, .int .i64 0, .int .i64 0] 135 (0, 0)) ∧ Below B w wr) (fun i _ => 7 - (intOf i).toNat)
        case atStart => exact ⟨0, by omega, rfl, hW0, hW1, hbw⟩
        case round =>
          clear hW0 hW1 hbw
          obtain ⟨k, hk, rfl, hq, hz, hbel⟩ := hrel
          have HQ := hid hq
          have HZ := hid hz
          have HBL := hid hbel
          clear hq hz hbel
          by_cases hlt : k < 7
          · have c1 := hex_range ⟨14 * n + 2 * k, by omega⟩
            have c2 := hex_range ⟨14 * n + 2 * k + 1, by omega⟩
            go_wp2_with fail
            generalize hx1 : ((hexL.getD (14 * n + 2 * k) 0).toNat : Int) = x1 at c1
            generalize hx2 : ((hexL.getD (14 * n + 2 * k + 1) 0).toNat : Int) = x2 at c2
            obtain ⟨c1a, c1b, c1c⟩ := c1
            obtain ⟨c2a, c2b, c2c⟩ := c2
            have g1 : ((S[14 * n + 2 * k]'(by omega)).toNat : Int) = x1 := by rw [← hx1, (unhid HG) _ (by omega)]
            have g2 : ((S[14 * n + 2 * k + 1]'(by omega)).toNat : Int) = x2 := by rw [← hx2, (unhid HG) _ (by omega)]
            have hrow : rowH n k = 16 * digH x1 + digH x2 := by unfold rowH; rw [hx1, hx2]
            have HROW := hid hrow
            clear hrow hx1 hx2
            have hd1 : 0 ≤ digH x1 ∧ digH x1 ≤ 200 := by unfold digH; omega
            have hd2 : 0 ≤ digH x2 ∧ digH x2 ≤ 200 := by unfold digH; omega
            obtain ⟨hd1a, hd1b⟩ := hd1
            obtain ⟨hd2a, hd2b⟩ := hd2
            have e1 : IntKind.i64.wrap (14 * (n : Int)) = 14 * (n : Int) := IntWalk.i64_in _ (by omega)
            have e2 : IntKind.i64.wrap (2 * (k : Int)) = 2 * (k : Int) := IntWalk.i64_in _ (by omega)
            have e3 : IntKind.i64.wrap (14 * (n : Int) + 2 * (k : Int)) = 14 * (n : Int) + 2 * (k : Int) := IntWalk.i64_in _ (by omega)
            have e4 : IntKind.i64.wrap (14 * (n : Int) + 2 * (k : Int) + 1) = 14 * (n : Int) + 2 * (k : Int) + 1 := IntWalk.i64_in _ (by omega)
            have e5 : (14 * (n : Int) + 2 * (k : Int)).toNat = 14 * n + 2 * k := by omega
            have e6 : (14 * (n : Int) + 2 * (k : Int) + 1).toNat = 14 * n + 2 * k + 1 := by omega
            have e7 : IntKind.i64.wrap (16 * digH x1) = 16 * digH x1 := IntWalk.i64_in _ (by omega)
            have e8 : IntKind.i64.wrap (16 * digH x1 + digH x2) = 16 * digH x1 + digH x2 := IntWalk.i64_in _ (by omega)
            have p1 : 0 ≤ 14 * (n : Int) + 2 * (k : Int) := by omega
            have p2 : 14 * (n : Int) + 2 * (k : Int) < 504 := by omega
            have p3 : 0 ≤ 14 * (n : Int) + 2 * (k : Int) + 1 := by omega
            have p4 : 14 * (n : Int) + 2 * (k : Int) + 1 < 504 := by omega
            rw [← unhid HS]
            refine wp_region_still_tail 19 (by kernel_rfl) (by kernel_rfl) ?_
            simp only [List.take_succ_cons, List.take_zero, List.drop_succ_cons, List.drop_zero]
            iterate 7 still_step
            still_call ((digit_calls x1 _ c1a c1b c1c).mono fun _ _ ⟨he, hw⟩ => ⟨he, hw.symm⟩)
            iterate 8 still_step
            still_call ((digit_calls x2 _ c2a c2b c2c).mono fun _ _ ⟨he, hw⟩ => ⟨he, hw.symm⟩)
            iterate 2 still_step
            refine wpStill_nil ?_
            change wpList _ _ _ _ _ wr.drew
            obtain ⟨v, hv⟩ : ∃ v, (rowsUp n k)[k]? = some v := ⟨_, List.getElem?_eq_getElem (by rw [rowsUp_len n k hk]; exact hlt)⟩
            have HV := hid hv
            have q7 : wr.drew.heap[B + 1]? = some (.cells (ints (rowsUp n k)).toArray 135 (0, 0)) := unhid HQ
            have z7 : wr.drew.heap[B]? = some (.cells #[.int .i64 0, .int .i64 0, .int .i64 0, .int .i64 0, .int .i64 0, .int .i64 0, .int .i64 0] 135 (0, 0)) := unhid HZ
            have b7 : Below B w wr.drew := Below.drew (unhid HBL)
            generalize wr.drew = W3 at q7 z7 b7 ⊢
            have c7 : W3.cell? ⟨B + 1, k, none⟩ = some (.int .i64 v) := by rw [cell_of_row _ _ _ _ _ _ q7]; simp [ints, hv]
            have f7 : W3.frozen? ⟨B + 1, k, none⟩ = false := by simp [World.frozen?, q7]
            have HQ := hid q7
            have HZ := hid z7
            have HBL := hid b7
            clear hv q7 z7 b7 e1 e2 e3 e4 e5 e6 e7 e8
            go_wp2_with fail
            go_roundw
            case rel => exact ⟨k + 1, by omega, by go_num, by rw [block_set_same (unhid HQ), ← rowsUp_set n k hlt, unhid HROW]; simp [ints, List.map_set], by rw [block_set_other _ _ (by omega)]; exact unhid HZ, Below.setCell (unhid HBL) (by dsimp only; omega) _⟩
            case measure => simp [intOf]; omega
          · obtain rfl : k = 7 := by omega
            have e : rowsUp n 7 = rowsL ((n : Int) + 48) := by rw [← unhid HR]; simp [rowsUp]
            have h7 := rowsUp_len n 7 (by omega)
            have hq := unhid HQ
            rw [e] at h7 hq
            have hL : isL ((n : Int) + 48) = true := by unfold isL; rw [decide_eq_true_eq]; omega
            have HE := hid (show letV ((n : Int) + 48) = .agg (ints (rowsL ((n : Int) + 48))).toArray from rfl)
            have HL := hid hL
            generalize rowsL ((n : Int) + 48) = L at h7 hq HE
            obtain ⟨a0, a1, a2, a3, a4, a5, a6, rfl⟩ : ∃ a0 a1 a2 a3 a4 a5 a6, L = [a0, a1, a2, a3, a4, a5, a6] := by
              match L, h7 with
              | [a0, a1, a2, a3, a4, a5, a6], _ => exact ⟨a0, a1, a2, a3, a4, a5, a6, rfl⟩
            have hcell : ∀ i, wr.cell? ⟨B + 1, i, none⟩ = (ints [a0, a1, a2, a3, a4, a5, a6]).toArray[i]? := fun i => cell_of_row _ _ _ _ _ _ hq
            have d0 := hcell 0
            have d1' := hcell 1
            have d2' := hcell 2
            have d3 := hcell 3
            have d4 := hcell 4
            have d5 := hcell 5
            have d6 := hcell 6
            simp [ints] at d0 d1' d2' d3 d4 d5 d6
            have hz := unhid HZ
            have hcell2 : ∀ i, wr.cell? ⟨B, i, none⟩ = #[Value.int .i64 0, .int .i64 0, .int .i64 0, .int .i64 0, .int .i64 0, .int .i64 0, .int .i64 0][i]? := fun i => cell_of_row _ _ _ _ _ _ hz
            have z0 := hcell2 0
            have z1 := hcell2 1
            have z2 := hcell2 2
            have z3 := hcell2 3
            have z4 := hcell2 4
            have z5 := hcell2 5
            have z6 := hcell2 6
            simp at z0 z1 z2 z3 z4 z5 z6
            have fz : ∀ i, wr.frozen? ⟨B, i, none⟩ = false := fun i => by simp [World.frozen?, hz]
            clear hq hz hcell hcell2 hL e h7
            go_wp2_with fail
            (try simp only [Exit.inBlock, Exit.then])
            refine bodyPost_ret_by (v := .tuple #[.agg (ints [a0, a1, a2, a3, a4, a5, a6]).toArray, .bool true]) ?_ rfl ⟨by rw [unhid HE, unhid HL], ?_⟩
            · simp [results, Tryz.results92, go_sem, ints, z0, z1, z2, z3, z4, z5, z6]
            · repeat (refine Below.setCell ?_ (by dsimp only; omega) _)
              rw [hB]; exact unhid HBL
      · rw [if_neg h57] at hn0
        have d1 := decide_eq_true (show (48 : Int) ≤ c by omega)
        have d2 := decide_eq_false (show ¬ c ≤ 57 by omega)
        have d3 := decide_eq_true (show (65 : Int) ≤ c by omega)
        have d4 := decide_eq_true (show c ≤ 90 by omega)
        obtain rfl : c = (n : Int) + 55 := by omega
        have hn9 : 10 ≤ n := by omega
        clear hn0 h32 hl h0 h1 h57
        obtain ⟨S, hS⟩ : ∃ S : ByteArray, S = SB hexL := ⟨_, rfl⟩
        have hsz : S.size = 504 := by rw [hS]; rfl
        have HG := hid (show ∀ (i : Nat) (h : i < S.size), (S[i]'h).toNat = (hexL.getD i 0).toNat from by subst hS; exact hex_get)
        have hS' := hS
        simp only [SB, hexL] at hS'
        go_enter Tryz.func92, Tryz.ntmps92
        have HS := hid hS'
        clear hS hS'
        go_wp2_with fail
        rw [show (n : Int) + 55 - 65 + 10 = n by omega]
        generalize hB : w.heap.size = B
        have hW0 : ((w.alloc (.cells #[.int .i64 0, .int .i64 0, .int .i64 0, .int .i64 0, .int .i64 0, .int .i64 0, .int .i64 0] 135)).alloc (.cells #[.int .i64 0, .int .i64 0, .int .i64 0, .int .i64 0, .int .i64 0, .int .i64 0, .int .i64 0] 135)).heap[B + 1]? = some (.cells (ints (rowsUp n 0)).toArray 135 (0, 0)) := by
          rw [← hB]
          have := heap_alloc_new (w.alloc (.cells #[.int .i64 0, .int .i64 0, .int .i64 0, .int .i64 0, .int .i64 0, .int .i64 0, .int .i64 0] 135)) (.cells #[.int .i64 0, .int .i64 0, .int .i64 0, .int .i64 0, .int .i64 0, .int .i64 0, .int .i64 0] 135)
          rw [World.size_alloc] at this
          exact this
        have hW1 : ((w.alloc (.cells #[.int .i64 0, .int .i64 0, .int .i64 0, .int .i64 0, .int .i64 0, .int .i64 0, .int .i64 0] 135)).alloc (.cells #[.int .i64 0, .int .i64 0, .int .i64 0, .int .i64 0, .int .i64 0, .int .i64 0, .int .i64 0] 135)).heap[B]? = some (.cells #[.int .i64 0, .int .i64 0, .int .i64 0, .int .i64 0, .int .i64 0, .int .i64 0, .int .i64 0] 135 (0, 0)) := by
          rw [← hB, Below.heap_alloc _ _ _ (by simp)]
          exact heap_alloc_new w _
        have hbw : Below B w ((w.alloc (.cells #[.int .i64 0, .int .i64 0, .int .i64 0, .int .i64 0, .int .i64 0, .int .i64 0, .int .i64 0] 135)).alloc (.cells #[.int .i64 0, .int .i64 0, .int .i64 0, .int .i64 0, .int .i64 0, .int .i64 0, .int .i64 0] 135)) := by rw [← hB]; exact below_alloc' (below_alloc _ _) _
        generalize ((w.alloc (.cells #[.int .i64 0, .int .i64 0, .int .i64 0, .int .i64 0, .int .i64 0, .int .i64 0, .int .i64 0] 135)).alloc (.cells #[.int .i64 0, .int .i64 0, .int .i64 0, .int .i64 0, .int .i64 0, .int .i64 0, .int .i64 0] 135)) = W at hW0 hW1 hbw ⊢
        go_loopw [6] (fun i wr => ∃ k : Nat, k ≤ 7 ∧ i = .int .i64 k ∧ wr.heap[B + 1]? = some (.cells (ints (rowsUp n k)).toArray 135 (0, 0)) ∧ wr.heap[B]? = some (.cells #[.int .i64 0, .int .i64 0, .int .i64 0, .int .i64 0, .int .i64 0, .int .i64 0, .int .i64 0] 135 (0, 0)) ∧ Below B w wr) (fun i _ => 7 - (intOf i).toNat)
        case atStart => exact ⟨0, by omega, rfl, hW0, hW1, hbw⟩
        case round =>
          clear hW0 hW1 hbw
          obtain ⟨k, hk, rfl, hq, hz, hbel⟩ := hrel
          have HQ := hid hq
          have HZ := hid hz
          have HBL := hid hbel
          clear hq hz hbel
          by_cases hlt : k < 7
          · have c1 := hex_range ⟨14 * n + 2 * k, by omega⟩
            have c2 := hex_range ⟨14 * n + 2 * k + 1, by omega⟩
            go_wp2_with fail
            generalize hx1 : ((hexL.getD (14 * n + 2 * k) 0).toNat : Int) = x1 at c1
            generalize hx2 : ((hexL.getD (14 * n + 2 * k + 1) 0).toNat : Int) = x2 at c2
            obtain ⟨c1a, c1b, c1c⟩ := c1
            obtain ⟨c2a, c2b, c2c⟩ := c2
            have g1 : ((S[14 * n + 2 * k]'(by omega)).toNat : Int) = x1 := by rw [← hx1, (unhid HG) _ (by omega)]
            have g2 : ((S[14 * n + 2 * k + 1]'(by omega)).toNat : Int) = x2 := by rw [← hx2, (unhid HG) _ (by omega)]
            have hrow : rowH n k = 16 * digH x1 + digH x2 := by unfold rowH; rw [hx1, hx2]
            have HROW := hid hrow
            clear hrow hx1 hx2
            have hd1 : 0 ≤ digH x1 ∧ digH x1 ≤ 200 := by unfold digH; omega
            have hd2 : 0 ≤ digH x2 ∧ digH x2 ≤ 200 := by unfold digH; omega
            obtain ⟨hd1a, hd1b⟩ := hd1
            obtain ⟨hd2a, hd2b⟩ := hd2
            have e1 : IntKind.i64.wrap (14 * (n : Int)) = 14 * (n : Int) := IntWalk.i64_in _ (by omega)
            have e2 : IntKind.i64.wrap (2 * (k : Int)) = 2 * (k : Int) := IntWalk.i64_in _ (by omega)
            have e3 : IntKind.i64.wrap (14 * (n : Int) + 2 * (k : Int)) = 14 * (n : Int) + 2 * (k : Int) := IntWalk.i64_in _ (by omega)
            have e4 : IntKind.i64.wrap (14 * (n : Int) + 2 * (k : Int) + 1) = 14 * (n : Int) + 2 * (k : Int) + 1 := IntWalk.i64_in _ (by omega)
            have e5 : (14 * (n : Int) + 2 * (k : Int)).toNat = 14 * n + 2 * k := by omega
            have e6 : (14 * (n : Int) + 2 * (k : Int) + 1).toNat = 14 * n + 2 * k + 1 := by omega
            have e7 : IntKind.i64.wrap (16 * digH x1) = 16 * digH x1 := IntWalk.i64_in _ (by omega)
            have e8 : IntKind.i64.wrap (16 * digH x1 + digH x2) = 16 * digH x1 + digH x2 := IntWalk.i64_in _ (by omega)
            have p1 : 0 ≤ 14 * (n : Int) + 2 * (k : Int) := by omega
            have p2 : 14 * (n : Int) + 2 * (k : Int) < 504 := by omega
            have p3 : 0 ≤ 14 * (n : Int) + 2 * (k : Int) + 1 := by omega
            have p4 : 14 * (n : Int) + 2 * (k : Int) + 1 < 504 := by omega
            rw [← unhid HS]
            refine wp_region_still_tail 19 (by kernel_rfl) (by kernel_rfl) ?_
            simp only [List.take_succ_cons, List.take_zero, List.drop_succ_cons, List.drop_zero]
            iterate 7 still_step
            still_call ((digit_calls x1 _ c1a c1b c1c).mono fun _ _ ⟨he, hw⟩ => ⟨he, hw.symm⟩)
            iterate 8 still_step
            still_call ((digit_calls x2 _ c2a c2b c2c).mono fun _ _ ⟨he, hw⟩ => ⟨he, hw.symm⟩)
            iterate 2 still_step
            refine wpStill_nil ?_
            change wpList _ _ _ _ _ wr.drew
            obtain ⟨v, hv⟩ : ∃ v, (rowsUp n k)[k]? = some v := ⟨_, List.getElem?_eq_getElem (by rw [rowsUp_len n k hk]; exact hlt)⟩
            have HV := hid hv
            have q7 : wr.drew.heap[B + 1]? = some (.cells (ints (rowsUp n k)).toArray 135 (0, 0)) := unhid HQ
            have z7 : wr.drew.heap[B]? = some (.cells #[.int .i64 0, .int .i64 0, .int .i64 0, .int .i64 0, .int .i64 0, .int .i64 0, .int .i64 0] 135 (0, 0)) := unhid HZ
            have b7 : Below B w wr.drew := Below.drew (unhid HBL)
            generalize wr.drew = W3 at q7 z7 b7 ⊢
            have c7 : W3.cell? ⟨B + 1, k, none⟩ = some (.int .i64 v) := by rw [cell_of_row _ _ _ _ _ _ q7]; simp [ints, hv]
            have f7 : W3.frozen? ⟨B + 1, k, none⟩ = false := by simp [World.frozen?, q7]
            have HQ := hid q7
            have HZ := hid z7
            have HBL := hid b7
            clear hv q7 z7 b7 e1 e2 e3 e4 e5 e6 e7 e8
            go_wp2_with fail
            go_roundw
            case rel => exact ⟨k + 1, by omega, by go_num, by rw [block_set_same (unhid HQ), ← rowsUp_set n k hlt, unhid HROW]; simp [ints, List.map_set], by rw [block_set_other _ _ (by omega)]; exact unhid HZ, Below.setCell (unhid HBL) (by dsimp only; omega) _⟩
            case measure => simp [intOf]; omega
          · obtain rfl : k = 7 := by omega
            have e : rowsUp n 7 = rowsL ((n : Int) + 55) := by rw [← unhid HR]; simp [rowsUp]
            have h7 := rowsUp_len n 7 (by omega)
            have hq := unhid HQ
            rw [e] at h7 hq
            have hL : isL ((n : Int) + 55) = true := by unfold isL; rw [decide_eq_true_eq]; omega
            have HE := hid (show letV ((n : Int) + 55) = .agg (ints (rowsL ((n : Int) + 55))).toArray from rfl)
            have HL := hid hL
            generalize rowsL ((n : Int) + 55) = L at h7 hq HE
            obtain ⟨a0, a1, a2, a3, a4, a5, a6, rfl⟩ : ∃ a0 a1 a2 a3 a4 a5 a6, L = [a0, a1, a2, a3, a4, a5, a6] := by
              match L, h7 with
              | [a0, a1, a2, a3, a4, a5, a6], _ => exact ⟨a0, a1, a2, a3, a4, a5, a6, rfl⟩
            have hcell : ∀ i, wr.cell? ⟨B + 1, i, none⟩ = (ints [a0, a1, a2, a3, a4, a5, a6]).toArray[i]? := fun i => cell_of_row _ _ _ _ _ _ hq
            have d0 := hcell 0
            have d1' := hcell 1
            have d2' := hcell 2
            have d3 := hcell 3
            have d4 := hcell 4
            have d5 := hcell 5
            have d6 := hcell 6
            simp [ints] at d0 d1' d2' d3 d4 d5 d6
            have hz := unhid HZ
            have hcell2 : ∀ i, wr.cell? ⟨B, i, none⟩ = #[Value.int .i64 0, .int .i64 0, .int .i64 0, .int .i64 0, .int .i64 0, .int .i64 0, .int .i64 0][i]? := fun i => cell_of_row _ _ _ _ _ _ hz
            have z0 := hcell2 0
            have z1 := hcell2 1
            have z2 := hcell2 2
            have z3 := hcell2 3
            have z4 := hcell2 4
            have z5 := hcell2 5
            have z6 := hcell2 6
            simp at z0 z1 z2 z3 z4 z5 z6
            have fz : ∀ i, wr.frozen? ⟨B, i, none⟩ = false := fun i => by simp [World.frozen?, hz]
            clear hq hz hcell hcell2 hL e h7
            go_wp2_with fail
            (try simp only [Exit.inBlock, Exit.then])
            refine bodyPost_ret_by (v := .tuple #[.agg (ints [a0, a1, a2, a3, a4, a5, a6]).toArray, .bool true]) ?_ rfl ⟨by rw [unhid HE, unhid HL], ?_⟩
            · simp [results, Tryz.results92, go_sem, ints, z0, z1, z2, z3, z4, z5, z6]
            · repeat (refine Below.setCell ?_ (by dsimp only; omega) _)
              rw [hB]; exact unhid HBL
  · have hl2 : isL c = false := by simpa using hl
    simp only [isL, decide_eq_true_eq] at hl
    have e : letV c = .agg #[.int .i64 0, .int .i64 0, .int .i64 0, .int .i64 0, .int .i64 0, .int .i64 0, .int .i64 0] := by
      unfold letV rowsL; rw [if_neg (by omega), if_neg (by omega)]; rfl
    rw [e, hl2]
    have b32 : (c == 32) = false := by simp; omega
    by_cases h48 : 48 ≤ c
    · have d1 := decide_eq_true h48
      have d2 := decide_eq_false (show ¬ c ≤ 57 by omega)
      by_cases h65 : 65 ≤ c
      · have d3 := decide_eq_true h65
        have d4 := decide_eq_false (show ¬ c ≤ 90 by omega)
        clear e hl2 hl
        go_enter Tryz.func92, Tryz.ntmps92
        go_wp2_with fail
        (try simp only [Exit.inBlock, Exit.then])
        refine bodyPost_ret_by (v := .tuple #[.agg #[.int .i64 0, .int .i64 0, .int .i64 0, .int .i64 0, .int .i64 0, .int .i64 0, .int .i64 0], .bool false]) ?_ rfl ⟨rfl, below_alloc' (below_alloc _ _) _⟩
        simp [results, Tryz.results92, go_sem]
      · have d3 := decide_eq_false h65
        clear e hl2 hl
        go_enter Tryz.func92, Tryz.ntmps92
        go_wp2_with fail
        (try simp only [Exit.inBlock, Exit.then])
        refine bodyPost_ret_by (v := .tuple #[.agg #[.int .i64 0, .int .i64 0, .int .i64 0, .int .i64 0, .int .i64 0, .int .i64 0, .int .i64 0], .bool false]) ?_ rfl ⟨rfl, below_alloc' (below_alloc _ _) _⟩
        simp [results, Tryz.results92, go_sem]
    · have d1 := decide_eq_false h48
      have d3 := decide_eq_false (show ¬ 65 ≤ c by omega)
      clear e hl2 hl
      go_enter Tryz.func92, Tryz.ntmps92
      go_wp2_with fail
      (try simp only [Exit.inBlock, Exit.then])
      refine bodyPost_ret_by (v := .tuple #[.agg #[.int .i64 0, .int .i64 0, .int .i64 0, .int .i64 0, .int .i64 0, .int .i64 0, .int .i64 0], .bool false]) ?_ rfl ⟨rfl, below_alloc' (below_alloc _ _) _⟩
      simp [results, Tryz.results92, go_sem]

end Go.Proofs.YtbnnnjkfhffekaaGreatDoor
