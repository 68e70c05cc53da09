/-
  The law FaceLetters.
-/
import Derived.Test.YtmagidoodlkeoaaGreatDoorFcFi
import Derived.Test.YtmagidoodlkeoaaGreatDoorFcM
import Derived.DeepKeys
set_option linter.unusedSimpArgs false
set_option linter.unusedVariables false
namespace Go.Proofs.YtmagidoodlkeoaaGreatDoor
open Go.RowKit

theorem cells_i64 : Tryz.prog.cellsOf 3 = 1 := by kernel_rfl
theorem cells_arr : Tryz.prog.cellsOf 40 = 7 := by kernel_rfl
theorem wf_small {x : Int} (h : 0 ≤ x ∧ x ≤ 31) : (Lit.int .i64 x).wf = true := by
  simp [Lit.wf, IntKind.min, IntKind.max, IntKind.signed, IntKind.bits]
  omega
theorem rowsL_small (c : Int) : ∀ x ∈ rowsL c, 0 ≤ x ∧ x ≤ 31 := by
  have ht : ∀ l ∈ tabL, ∀ x ∈ l, 0 ≤ x ∧ x ≤ 31 := by decide
  have hz : ∀ x ∈ ([0, 0, 0, 0, 0, 0, 0] : List Int), 0 ≤ x ∧ x ≤ 31 := by decide
  have hg : ∀ i, ∀ x ∈ tabL.getD i [0, 0, 0, 0, 0, 0, 0], 0 ≤ x ∧ x ≤ 31 := fun i x hx => by
    rw [List.getD_eq_getElem?_getD] at hx
    cases he : tabL[i]? with
    | none => rw [he] at hx; exact hz x hx
    | some l => rw [he] at hx; exact ht l (List.mem_of_getElem? he) x hx
  intro x hx
  unfold rowsL at hx
  split at hx
  · exact hg _ x hx
  · split at hx
    · exact hg _ x hx
    · exact hz x hx
theorem eq40 (x0 x1 x2 x3 x4 x5 x6 : Int) (h0 : 0 ≤ x0 ∧ x0 ≤ 31) (h1 : 0 ≤ x1 ∧ x1 ≤ 31) (h2 : 0 ≤ x2 ∧ x2 ≤ 31) (h3 : 0 ≤ x3 ∧ x3 ≤ 31) (h4 : 0 ≤ x4 ∧ x4 ≤ 31) (h5 : 0 ≤ x5 ∧ x5 ≤ 31) (h6 : 0 ≤ x6 ∧ x6 ≤ 31) (w : World) : (Op.equalIn 10000 40 (.agg #[.int .i64 x0, .int .i64 x1, .int .i64 x2, .int .i64 x3, .int .i64 x4, .int .i64 x5, .int .i64 x6]) (.agg #[.int .i64 x0, .int .i64 x1, .int .i64 x2, .int .i64 x3, .int .i64 x4, .int .i64 x5, .int .i64 x6])).run Tryz.prog w = .ok true w := by
  have w0 : (Lit.int .i64 x0).wf = true := wf_small h0
  have w1 : (Lit.int .i64 x1).wf = true := wf_small h1
  have w2 : (Lit.int .i64 x2).wf = true := wf_small h2
  have w3 : (Lit.int .i64 x3).wf = true := wf_small h3
  have w4 : (Lit.int .i64 x4).wf = true := wf_small h4
  have w5 : (Lit.int .i64 x5).wf = true := wf_small h5
  have w6 : (Lit.int .i64 x6).wf = true := wf_small h6
  have hl : Tryz.prog.keyLits 3 40 (#[.int .i64 x0, .int .i64 x1, .int .i64 x2, .int .i64 x3, .int .i64 x4, .int .i64 x5, .int .i64 x6] : Array Value).toList = some [.int .i64 x0, .int .i64 x1, .int .i64 x2, .int .i64 x3, .int .i64 x4, .int .i64 x5, .int .i64 x6] := by
    simp [Program.keyLits, Tryz.underlying40, Tryz.underlying3, cells_i64, cells_arr, List.range_succ, w0, w1, w2, w3, w4, w5, w6]
  obtain ⟨r, hr, hi⟩ := run_equalIn_deep (P := Tryz.prog) 9998 2 40 (by kernel_rfl) w 3 3 (.agg #[.int .i64 x0, .int .i64 x1, .int .i64 x2, .int .i64 x3, .int .i64 x4, .int .i64 x5, .int .i64 x6]) (.agg #[.int .i64 x0, .int .i64 x1, .int .i64 x2, .int .i64 x3, .int .i64 x4, .int .i64 x5, .int .i64 x6]) _ _ (by simp [Value.formed, Tryz.underlying40, cells_arr]) (by simp [Value.formed, Tryz.underlying40, cells_arr]) hl hl
  rw [hi.2 rfl] at hr
  exact hr

set_option maxHeartbeats 4000000 in
set_option maxRecDepth 100000 in
theorem letters_calls (c : Int) (s : List UInt8) (unit : Int) (w : World) (hg : Gl w) (h0 : 0 ≤ c) (h1 : c ≤ 255) :
    Calls Tryz.prog 5 #[.int .u8 c, .string (SB s), .int .i64 unit] w fun e w' => e = .returned (.bool true) ∧ Below w.heap.size w w' := by
  have zsb : ∀ l : List UInt8, (SB l).size = l.length := fun _ => rfl
  have HG := hid hg
  clear hg
  by_cases hl : 100 < s.length
  · have hd : (100 : Int) < (s.length : Int) := by omega
    go_enter Tryz.func5, Tryz.ntmps5
    go_wp2_with fail
    refine (first_calls w (unhid HG)).mono ?_
    rintro e w1 ⟨rfl, hb⟩
    have HB := hid hb
    clear hb
    go_wp2_with fail
    go_ret
    exact ⟨rfl, unhid HB⟩
  · have hd : ¬ (100 : Int) < (s.length : Int) := by omega
    have hs : s.length ≤ 140737488355328 := by omega
    have HA := hid (letter_calls c w h0 h1)
    have HR := hid (fun W => rletter_calls c W h0 h1)
    have HL := hid (fun W => length_calls s unit W hs)
    have HM := hid (fun W => rlength_calls s unit W hs)
    obtain ⟨x0, x1, x2, x3, x4, x5, x6, hrl, hx⟩ := letV_form c
    have hsm := rowsL_small c
    rw [hrl] at hsm
    have heq := eq40 x0 x1 x2 x3 x4 x5 x6 (hsm x0 (by simp)) (hsm x1 (by simp)) (hsm x2 (by simp)) (hsm x3 (by simp)) (hsm x4 (by simp)) (hsm x5 (by simp)) (hsm x6 (by simp))
    clear hsm hrl
    rw [hx] at HA HR
    generalize isL c = ok at *
    obtain ⟨n, er, hle⟩ : ∃ n er : Int, lenR s unit = .tuple #[.int .i64 n, .int .i64 er] := ⟨_, _, rfl⟩
    rw [hle] at HL HM
    clear hx hle hl
    go_enter Tryz.func5, Tryz.ntmps5
    go_wp2_with fail
    refine (unhid HA).mono ?_
    rintro e w1 ⟨rfl, hb1⟩
    have HB1 := hid hb1
    clear hb1 HA
    go_wp2_with fail
    refine ((unhid HR) _).mono ?_
    rintro e w2 ⟨rfl, hb2⟩
    obtain ⟨g, hg⟩ : ∃ g, g = w1.heap.size := ⟨_, rfl⟩
    rw [← hg]
    have hgs : g < (w1.alloc (.cells #[.int .i64 x0, .int .i64 x1, .int .i64 x2, .int .i64 x3, .int .i64 x4, .int .i64 x5, .int .i64 x6] 40)).heap.size := by rw [hg]; simp
    have hcg : ∀ i, w2.cell? ⟨g, i, none⟩ = #[Value.int .i64 x0, .int .i64 x1, .int .i64 x2, .int .i64 x3, .int .i64 x4, .int .i64 x5, .int .i64 x6][i]? := fun i => by rw [hb2.cell (p := ⟨g, i, none⟩) hgs, hg, World.cell?_alloc_new]
    have HB2 := hid ((unhid HB1).trans (((below_alloc _ _).trans (hb2.mono (by simp))).mono (unhid HB1).size))
    have hgs2 : g < w2.heap.size := Nat.lt_of_lt_of_le hgs hb2.size
    clear hb2 hgs hg HB1 HR
    go_wp2_with fail
    obtain ⟨k, hk⟩ : ∃ k, k = w2.heap.size := ⟨_, rfl⟩
    obtain ⟨W2, hW2⟩ : ∃ W2, W2 = w2.alloc (.cells #[.int .i64 x0, .int .i64 x1, .int .i64 x2, .int .i64 x3, .int .i64 x4, .int .i64 x5, .int .i64 x6] 40) := ⟨_, rfl⟩
    rw [← hk, ← hW2]
    have hb2' : Below w2.heap.size w2 W2 := by rw [hW2]; exact below_alloc _ _
    have hks : k < W2.heap.size := by rw [hW2, hk]; simp
    have hgs3 : g < W2.heap.size := Nat.lt_of_lt_of_le hgs2 hb2'.size
    have hck : ∀ i, W2.cell? ⟨k, i, none⟩ = #[Value.int .i64 x0, .int .i64 x1, .int .i64 x2, .int .i64 x3, .int .i64 x4, .int .i64 x5, .int .i64 x6][i]? := fun i => by rw [hW2, hk, World.cell?_alloc_new]
    have hcg2 : ∀ i, W2.cell? ⟨g, i, none⟩ = #[Value.int .i64 x0, .int .i64 x1, .int .i64 x2, .int .i64 x3, .int .i64 x4, .int .i64 x5, .int .i64 x6][i]? := fun i => (hb2'.cell (p := ⟨g, i, none⟩) hgs2).trans (hcg i)
    have HB3 := hid ((unhid HB2).trans (hb2'.mono (unhid HB2).size))
    clear hk hW2 hb2' hcg HB2 hgs2
    refine ((unhid HL) W2).mono ?_
    rintro e w3 ⟨rfl, hb3⟩
    go_wp2_with fail
    refine ((unhid HM) w3).mono ?_
    rintro e w4 ⟨rfl, hb4⟩
    have hb24 : Below W2.heap.size W2 w4 := hb3.trans (hb4.mono hb3.size)
    have hck4 : ∀ i, w4.cell? ⟨k, i, none⟩ = #[Value.int .i64 x0, .int .i64 x1, .int .i64 x2, .int .i64 x3, .int .i64 x4, .int .i64 x5, .int .i64 x6][i]? := fun i => (hb24.cell (p := ⟨k, i, none⟩) hks).trans (hck i)
    have hcg4 : ∀ i, w4.cell? ⟨g, i, none⟩ = #[Value.int .i64 x0, .int .i64 x1, .int .i64 x2, .int .i64 x3, .int .i64 x4, .int .i64 x5, .int .i64 x6][i]? := fun i => (hb24.cell (p := ⟨g, i, none⟩) hgs3).trans (hcg2 i)
    have HB4 := hid ((unhid HB3).trans (hb24.mono (unhid HB3).size))
    have a0 : w4.cell? ⟨g, 0, none⟩ = some (.int .i64 x0) := hcg4 0
    have b0 : w4.cell? ⟨k, 0, none⟩ = some (.int .i64 x0) := hck4 0
    have a1 : w4.cell? ⟨g, 1, none⟩ = some (.int .i64 x1) := hcg4 1
    have b1 : w4.cell? ⟨k, 1, none⟩ = some (.int .i64 x1) := hck4 1
    have a2 : w4.cell? ⟨g, 2, none⟩ = some (.int .i64 x2) := hcg4 2
    have b2 : w4.cell? ⟨k, 2, none⟩ = some (.int .i64 x2) := hck4 2
    have a3 : w4.cell? ⟨g, 3, none⟩ = some (.int .i64 x3) := hcg4 3
    have b3 : w4.cell? ⟨k, 3, none⟩ = some (.int .i64 x3) := hck4 3
    have a4 : w4.cell? ⟨g, 4, none⟩ = some (.int .i64 x4) := hcg4 4
    have b4 : w4.cell? ⟨k, 4, none⟩ = some (.int .i64 x4) := hck4 4
    have a5 : w4.cell? ⟨g, 5, none⟩ = some (.int .i64 x5) := hcg4 5
    have b5 : w4.cell? ⟨k, 5, none⟩ = some (.int .i64 x5) := hck4 5
    have a6 : w4.cell? ⟨g, 6, none⟩ = some (.int .i64 x6) := hcg4 6
    have b6 : w4.cell? ⟨k, 6, none⟩ = some (.int .i64 x6) := hck4 6
    clear hck4 hcg4 hck hcg2 hb3 hb4 hb24 hks hgs3 HB3 HL HM
    have HF := hid (first_calls w4 ((unhid HG).below (unhid HB4)))
    go_wp2_with fail
    refine (unhid HF).mono ?_
    rintro e w5 ⟨rfl, hb5⟩
    have HB5 := hid ((unhid HB4).trans (hb5.mono (unhid HB4).size))
    clear hb5
    go_wp2_with fail
    go_ret
    exact ⟨rfl, unhid HB5⟩

end Go.Proofs.YtmagidoodlkeoaaGreatDoor
