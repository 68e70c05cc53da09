/-
  The law FaceRows.
-/
import Derived.Test.YtmagidoodlkeoaaGreatDoorFcRw
set_option linter.unusedSimpArgs false
set_option linter.unusedVariables false
namespace Go.Proofs.YtmagidoodlkeoaaGreatDoor
open Go.RowKit

set_option maxHeartbeats 2000000 in
set_option maxRecDepth 100000 in
theorem prow_no (f : Fc) (A : Option Addr) (c : Nat) (j : Int) (w : World) (hit : ItsOk w A f.items) (hf : fcB f = false) :
    Calls Tryz.prog 39 #[.agg #[.int .i64 f.shape, .int .i64 f.size, .int .i64 f.height, .slice A f.items.length c], .int .i64 j] w fun e w' => e = .returned (.tuple #[.slice none 0 0, .int .i64 10]) ∧ Below w.heap.size w w' := by
  have HV := hid hf
  have HF0 := hid (FaceAt.new w c hit)
  have HB0 := hid (below_alloc w (.cells #[.int .i64 f.shape, .int .i64 f.size, .int .i64 f.height, .slice A f.items.length c] 25))
  clear hit hf
  go_enter Tryz.func39, Tryz.ntmps39
  go_wp2_with fail
  generalize w.alloc (.cells #[.int .i64 f.shape, .int .i64 f.size, .int .i64 f.height, .slice A f.items.length c] 25) = W0 at *
  refine (valid_calls f A c W0 (unhid HF0).ok).mono ?_
  rintro e wa ⟨rfl, hba⟩
  have HBa := hid ((unhid HB0).trans (hba.mono (unhid HB0).size))
  clear hba HF0 HB0
  rw [unhid HV]
  go_wp2_with fail
  go_ret2
  exact ⟨rfl, unhid HBa⟩
set_option maxHeartbeats 2000000 in
set_option maxRecDepth 100000 in
theorem prow_arg (f : Fc) (A : Option Addr) (c : Nat) (j : Int) (w : World) (hit : ItsOk w A f.items) (hf : fcB f = true) (hj : ¬ (0 ≤ j ∧ j < heiF f)) :
    Calls Tryz.prog 39 #[.agg #[.int .i64 f.shape, .int .i64 f.size, .int .i64 f.height, .slice A f.items.length c], .int .i64 j] w fun e w' => e = .returned (.tuple #[.slice none 0 0, .int .i64 2]) ∧ Below w.heap.size w w' := by
  have HV := hid hf
  have HJ := hid hj
  obtain ⟨s0, s1⟩ := size_bounds hf
  obtain ⟨h0, h1⟩ := heiF_bounds hf
  have HWI := hid (show wiB 0 j (heiF f - 1) = decide (0 ≤ j ∧ j < heiF f) by unfold wiB; rw [decide_eq_decide]; omega)
  obtain ⟨y0, y0'⟩ := w64 (n := heiF f - 1) (by omega) (by omega)
  have HF := hid (FaceAt.new w c hit)
  have HB := hid (below_alloc w (.cells #[.int .i64 f.shape, .int .i64 f.size, .int .i64 f.height, .slice A f.items.length c] 25))
  clear hit hf hj
  go_enter Tryz.func39, Tryz.ntmps39
  go_wp2_with fail
  generalize w.alloc (.cells #[.int .i64 f.shape, .int .i64 f.size, .int .i64 f.height, .slice A f.items.length c] 25) = W0 at *
  refine (valid_calls f A c W0 (unhid HF).ok).mono ?_
  rintro e wa ⟨rfl, hb⟩
  have HF := hid ((unhid HF).below hb)
  have HB := hid ((unhid HB).trans (hb.mono (unhid HB).size))
  clear hb
  obtain ⟨c0, c1, c2, c3⟩ := (unhid HF).cells
  rw [unhid HV]
  go_wp2_with fail
  refine (extent_calls f A c wa (by omega) (by omega)).mono ?_
  rintro e wb ⟨rfl, hb⟩
  have HF := hid ((unhid HF).below hb)
  have HB := hid ((unhid HB).trans (hb.mono (unhid HB).size))
  clear hb c0 c1 c2 c3
  obtain ⟨c0, c1, c2, c3⟩ := (unhid HF).cells
  go_wp2_with (go_at_call 71; refine (within_b _ _ _ _).mono ?_; rintro e w' ⟨rfl, rfl⟩; rw [unhid HWI, decide_eq_false (unhid HJ)])
  go_ret2
  exact ⟨rfl, unhid HB⟩
set_option maxHeartbeats 2000000 in
set_option maxRecDepth 100000 in
theorem prow_ok (f : Fc) (A : Option Addr) (c : Nat) (j : Int) (w : World) (hit : ItsOk w A f.items) (hf : fcB f = true) (hj : 0 ≤ j ∧ j < heiF f) :
    Calls Tryz.prog 39 #[.agg #[.int .i64 f.shape, .int .i64 f.size, .int .i64 f.height, .slice A f.items.length c], .int .i64 j] w fun e w' => Below w.heap.size w w' ∧ ∃ (A1 : Option Addr) (c1 : Nat), e = .returned (.tuple #[.slice A1 (runsK (rowI f j) f.size.toNat).length c1, .int .i64 0]) ∧ Rd w' A1 (rns (runsK (rowI f j) f.size.toNat)) := by
  have HV := hid hf
  have HJ := hid hj
  obtain ⟨s0, s1⟩ := size_bounds hf
  obtain ⟨h0, h1⟩ := heiF_bounds hf
  have HWI := hid (show wiB 0 j (heiF f - 1) = decide (0 ≤ j ∧ j < heiF f) by unfold wiB; rw [decide_eq_decide]; omega)
  obtain ⟨y0, y0'⟩ := w64 (n := heiF f - 1) (by omega) (by omega)
  have HF := hid (FaceAt.new w c hit)
  have HB := hid (below_alloc w (.cells #[.int .i64 f.shape, .int .i64 f.size, .int .i64 f.height, .slice A f.items.length c] 25))
  clear hit hf hj
  go_enter Tryz.func39, Tryz.ntmps39
  go_wp2_with fail
  generalize w.alloc (.cells #[.int .i64 f.shape, .int .i64 f.size, .int .i64 f.height, .slice A f.items.length c] 25) = W0 at *
  refine (valid_calls f A c W0 (unhid HF).ok).mono ?_
  rintro e wa ⟨rfl, hb⟩
  have HF := hid ((unhid HF).below hb)
  have HB := hid ((unhid HB).trans (hb.mono (unhid HB).size))
  clear hb
  obtain ⟨c0, c1, c2, c3⟩ := (unhid HF).cells
  rw [unhid HV]
  go_wp2_with fail
  refine (extent_calls f A c wa (by omega) (by omega)).mono ?_
  rintro e wb ⟨rfl, hb⟩
  have HF := hid ((unhid HF).below hb)
  have HB := hid ((unhid HB).trans (hb.mono (unhid HB).size))
  clear hb c0 c1 c2 c3
  obtain ⟨c0, c1, c2, c3⟩ := (unhid HF).cells
  go_wp2_with (go_at_call 71; refine (within_b _ _ _ _).mono ?_; rintro e w' ⟨rfl, rfl⟩; rw [unhid HWI, decide_eq_true (unhid HJ)])
  refine (row_calls f A c j wb (unhid HF).ok (unhid HV) (unhid HJ)).mono ?_
  rintro e w5 ⟨hb, A1, k1, rfl, hr⟩
  have HR := hid hr
  have HB := hid ((unhid HB).trans (hb.mono (unhid HB).size))
  clear hb hr c0 c1 c2 c3
  go_wp2_with fail
  go_ret2
  first | exact ⟨unhid HB, A1, ⟨k1, rfl⟩, unhid HR⟩ | exact ⟨unhid HB, A1, k1, rfl, unhid HR⟩

set_option maxHeartbeats 4000000 in
set_option maxRecDepth 100000 in
theorem rrow_calls (f : Fc) (A1 A2 : Option Addr) (c1 c2 : Nat) (j : Int) (w : World) (hf : fcB f = true) (hj : 0 ≤ j ∧ j < heiF f) (hr : Rd w A1 (ints (dotL f f.items.length))) :
    Calls Tryz.prog 41 #[.agg #[.int .i64 f.size, .int .i64 (heiF f), .slice A1 (numD f) c1, .slice A2 (numD f) c2], .int .i64 j] w fun e w' => Below w.heap.size w w' ∧ ∃ (A3 : Option Addr) (c3 : Nat), e = .returned (.slice A3 (runsK (rowI f j) f.size.toNat).length c3) ∧ Rd w' A3 (rns (runsK (rowI f j) f.size.toNat)) := by
  obtain ⟨s0, s1⟩ := size_bounds hf
  obtain ⟨j0, j1⟩ := hj
  have HFF := hid hf
  obtain ⟨sz, hsz⟩ : ∃ sz : Nat, sz = f.size.toNat := ⟨_, rfl⟩
  rw [← hsz]
  have HSZ := hid (show (sz : Int) = f.size by omega)
  have hsz0 : sz ≤ 200 := by omega
  have HR := hid (hr.below (below_alloc w (.cells #[.int .i64 f.size, .int .i64 (heiF f), .slice A1 (numD f) c1, .slice A2 (numD f) c2] 36)))
  have HB := hid (below_alloc w (.cells #[.int .i64 f.size, .int .i64 (heiF f), .slice A1 (numD f) c1, .slice A2 (numD f) c2] 36))
  have hblk : (w.alloc (.cells #[.int .i64 f.size, .int .i64 (heiF f), .slice A1 (numD f) c1, .slice A2 (numD f) c2] 36)).heap[w.heap.size]? = some (.cells #[.int .i64 f.size, .int .i64 (heiF f), .slice A1 (numD f) c1, .slice A2 (numD f) c2] 36 (0, 0)) := heap_alloc_new _ _
  have HBLK := hid hblk
  obtain ⟨i0, hi, hz0, hz1, hz2⟩ := info_partsd info_run
  clear hf hsz hr hblk
  go_enter Tryz.func41, Tryz.ntmps41
  go_wp2_with fail
  generalize w.alloc (.cells #[.int .i64 f.size, .int .i64 (heiF f), .slice A1 (numD f) c1, .slice A2 (numD f) c2] 36) = W at *
  obtain ⟨B, hBB⟩ : ∃ B, B = w.heap.size := ⟨_, rfl⟩
  rw [← hBB] at HBLK ⊢
  clear hBB
  go_loopw [6, 5] (fun iv v wr => ∃ k : Nat, k ≤ sz ∧ iv = .int .i64 k ∧ wr.ownsRow W.heap.size 85 3 v (runsK (rowI f j) k).length (rns (runsK (rowI f j) k)) ∧ Below W.heap.size W wr) (fun iv _ _ => sz - (intOf iv).toNat)
  case atStart => exact ⟨0, Nat.zero_le _, rfl, World.ownsRow_nil _ _ _ _, Below.refl _ _⟩
  case round =>
    obtain ⟨k, hk, rfl, hown, hbel⟩ := hrel
    have HOWN := hid hown
    have HBEL := hid hbel
    have hblk := (hbel.block B (Array.getElem?_eq_some_iff.1 (unhid HBLK)).1).trans (unhid HBLK)
    have HRr := hid ((unhid HR).below hbel)
    have p0 := cell_of_row _ B 0 _ _ _ hblk
    have p1 := cell_of_row _ B 1 _ _ _ hblk
    have p2 := cell_of_row _ B 2 _ _ _ hblk
    have p3 := cell_of_row _ B 3 _ _ _ hblk
    simp at p0 p1 p2 p3
    clear hown hbel hblk
    by_cases hkl : k < sz
    · have hkf : (k : Int) < f.size := by have := unhid HSZ; omega
      have HCA := hid (show colAt f (k : Int) j = colI f k j from if_pos ⟨Int.natCast_nonneg _, hkf, j0, j1⟩)
      go_wp2_with fail
      refine (rat_calls f A1 A2 c1 c2 (k : Int) j wr (unhid HFF) (unhid HRr)).mono ?_
      rintro e w3 ⟨rfl, hb3⟩
      rw [unhid HCA]
      have HO3 := hid (own_belowd (unhid HOWN) hb3)
      have HB3 := hid ((unhid HBEL).trans (hb3.mono (unhid HBEL).size))
      clear hb3 p0 p1 p2 p3
      obtain ⟨ck, hck⟩ : ∃ ck : Int, ck = colI f (k : Int) j := ⟨_, rfl⟩
      rw [← hck]
      have HCK := hid (show rowI f j k = ck from hck.symm)
      clear hck
      have HL := hid (runs_last (rowI f j) k)
      have hll := runs_len (rowI f j) k
      by_cases hc0 : ck = 0
      · have HS := hid (runs_zero (c := rowI f j) (k := k) ((unhid HCK).trans hc0))
        have hcc : (ck == 0) = true := by simp [hc0]
        clear hc0
        go_wp2_with fail
        go_roundw
        case rel => exact ⟨k + 1, by omega, by go_num, by rw [unhid HS]; exact unhid HO3, unhid HB3⟩
        case measure => simp [intOf]; omega
      · have hcc : (ck == 0) = false := by simp [hc0]
        have HSAME := hid (runs_same (c := rowI f j) (k := k) (by rw [unhid HCK]; exact hc0))
        have HBUMP := hid (fun h => runs_bump (c := rowI f j) (k := k) (by rw [unhid HCK]; exact hc0) h)
        rcases List.eq_nil_or_concat (runsK (rowI f j) k) with hnil | ⟨l, r, hcon⟩
        · have HS := hid (show runsK (rowI f j) (k + 1) = [] ++ [⟨k, 1, ck⟩] by
            have h := runs_new (c := rowI f j) (k := k) (by rw [unhid HCK]; exact hc0) (fun h => by
              obtain ⟨l, r, e, -⟩ := (unhid HSAME).2 h
              rw [hnil] at e
              simp at e)
            rw [h, hnil, unhid HCK])
          rw [hnil] at HO3
          have HO3 := hid (show World.ownsRow w3 W.heap.size 85 3 _ 0 (rns []) from unhid HO3)
          obtain ⟨A4, c4, rfl, -⟩ := own_slice (unhid HO3)
          clear hnil hll
          go_wp2_with fail
          go_quiet (fail)
          generalize hWW : w3.drewN _ = W3
          have hbW : Below w3.heap.size w3 W3 := by rw [← hWW]; exact below_drewN' (Below.refl _ _) _
          have HO4 := hid (own_belowd (unhid HO3) hbW)
          have HB4 := hid ((unhid HB3).trans (hbW.mono (unhid HB3).size))
          clear hbW hWW
          go_wp2_with (at_builtin; refine wpList_append_own _ rfl _ _ 54 rfl W.heap.size 85 i0 (.agg #[.int .i64 0, .int .i64 0, .int .i64 0]) 3 24 Tryz.underlying54 hi hz0 hz1 hz2 rfl (by decide) _ _ _ rfl ((unhid HO4).alloc _) ⟨W3.heap.size, 0, none⟩ 1 1 [.int .i64 k, .int .i64 1, .int .i64 ck] rfl rfl ?c1 ?c2 ?c3 ?c4 ?c5 ?_)
          case c1 => exact World.news_of_block (cs := #[.int .i64 k, .int .i64 1, .int .i64 ck]) (t := 85) (fr := (0, 0)) (by simpa using heap_alloc_new W3 (.cells #[.int .i64 k, .int .i64 1, .int .i64 ck] 85))
          case c2 => intro u hu; simp at hu; rcases hu with rfl | rfl | rfl <;> rfl
          case c3 => unfold maxLen; omega
          case c4 => omega
          case c5 => have := (unhid HB4).size; simp; omega
          intro v' w4 hown4 hg4 _
          have hb4 : Below W.heap.size W w4 := by
            refine Below.grown ((unhid HB4).alloc (unhid HB4).size _) hg4 (by have := (unhid HB4).size; simp; omega) (fun i hi => ?_)
            rcases Nat.lt_or_ge i W.heap.size with h | h
            · exact absurd hi (own_ne (unhid HO4) (Or.inl h))
            · exact h
          have HO5 := hid hown4
          clear hown4 hg4
          go_wp2_with fail
          go_roundw
          case rel => exact ⟨k + 1, by omega, by go_num, by rw [unhid HS, rns_app, List.length_append, List.length_singleton]; exact unhid HO5, hb4⟩
          case measure => simp [intOf]; omega
        · rw [List.concat_eq_append] at hcon
          have hno := unhid HO3
          rw [hcon] at hno hll
          simp only [List.length_append, List.length_singleton] at hno hll
          obtain ⟨g, cap, rfl⟩ := own_someG hno (by omega)
          have m0 : w3.cell? ⟨g, l.length * 3, none⟩ = some (.int .i64 r.fr) := own_cellG hno (rns_last l r).1
          have m1 : w3.cell? ⟨g, l.length * 3 + 1, none⟩ = some (.int .i64 r.cnt) := own_cellG hno (rns_last l r).2.1
          have m2 : w3.cell? ⟨g, l.length * 3 + 2, none⟩ = some (.int .i64 r.col) := own_cellG hno (rns_last l r).2.2
          obtain ⟨q0, q1, q2, -⟩ := (unhid HL).1 l r hcon
          obtain ⟨y0, y0'⟩ := w64 (n := r.cnt + 1) (by omega) (by omega)
          obtain ⟨y1, y1'⟩ := w64 (n := r.fr + r.cnt) (by omega) (by omega)
          have HO3 := hid hno
          have hgb := own_lt hno (g := g) rfl
          have HCON := hid hcon
          clear hno hcon
          by_cases hsame : r.col = ck ∧ r.fr + r.cnt = k
          · have HS := hid (show runsK (rowI f j) (k + 1) = l ++ [⟨r.fr, r.cnt + 1, r.col⟩] by
              have h := (unhid HBUMP) ((unhid HSAME).1 ⟨l, r, unhid HCON, hsame.1.trans (unhid HCK).symm, hsame.2⟩)
              rw [h, unhid HCON, bump_snoc])
            have e1 : (r.col == ck) = true := by simp [hsame.1]
            have e2 : (r.fr + r.cnt == (k : Int)) = true := by simp [hsame.2]
            clear hsame
            go_wp2_with fail
            go_quiet (fail)
            generalize hWW : w3.drewN _ = W3
            have hbW : Below w3.heap.size w3 W3 := by rw [← hWW]; exact below_drewN' (Below.refl _ _) _
            have m1' := (hbW.cell (p := ⟨g, l.length * 3 + 1, none⟩) hgb.2).trans m1
            have HO4 := hid (own_belowd (unhid HO3) hbW)
            have HB4 := hid ((unhid HB3).trans (hbW.mono (unhid HB3).size))
            have m4 : W3.frozen? ⟨g, l.length * 3 + 1, none⟩ = false := own_free (unhid HO4) _
            clear hbW hWW m0 m1 m2 e1 e2
            go_wp2_with fail
            go_roundw
            case rel =>
              refine ⟨k + 1, by omega, by go_num, ?_, Below.setCell (unhid HB4) hgb.1 _⟩
              rw [unhid HS, List.length_append, List.length_singleton, ← rns_set]
              exact own_setG (unhid HO4) _ _
            case measure => simp [intOf]; omega
          · have HS := hid (show runsK (rowI f j) (k + 1) = (l ++ [r]) ++ [⟨k, 1, ck⟩] by
              have h := runs_new (c := rowI f j) (k := k) (by rw [unhid HCK]; exact hc0) (fun h => by
                obtain ⟨l', r', e, e1, e2⟩ := (unhid HSAME).2 h
                rw [unhid HCON] at e
                obtain ⟨-, e3⟩ := List.append_inj' e rfl
                injection e3 with e3
                subst e3
                exact hsame ⟨e1.trans (unhid HCK), e2⟩)
              rw [h, unhid HCON, unhid HCK])
            by_cases hcol : r.col = ck
            · have e1 : (r.col == ck) = true := by simp [hcol]
              have e2 : (r.fr + r.cnt == (k : Int)) = false := by
                rw [beq_eq_false_iff_ne]
                exact fun h => hsame ⟨hcol, h⟩
              clear hsame hcol
              go_wp2_with fail
              go_quiet (fail)
              generalize hWW : w3.drewN _ = W3
              have hbW : Below w3.heap.size w3 W3 := by rw [← hWW]; exact below_drewN' (Below.refl _ _) _
              have HO4 := hid (own_belowd (unhid HO3) hbW)
              have HB4 := hid ((unhid HB3).trans (hbW.mono (unhid HB3).size))
              clear hbW hWW
              go_wp2_with (at_builtin; refine wpList_append_own _ rfl _ _ 54 rfl W.heap.size 85 i0 (.agg #[.int .i64 0, .int .i64 0, .int .i64 0]) 3 24 Tryz.underlying54 hi hz0 hz1 hz2 rfl (by decide) _ _ _ rfl ((unhid HO4).alloc _) ⟨W3.heap.size, 0, none⟩ 1 1 [.int .i64 k, .int .i64 1, .int .i64 ck] rfl rfl ?c1 ?c2 ?c3 ?c4 ?c5 ?_)
              case c1 => exact World.news_of_block (cs := #[.int .i64 k, .int .i64 1, .int .i64 ck]) (t := 85) (fr := (0, 0)) (by simpa using heap_alloc_new W3 (.cells #[.int .i64 k, .int .i64 1, .int .i64 ck] 85))
              case c2 => intro u hu; simp at hu; rcases hu with rfl | rfl | rfl <;> rfl
              case c3 => unfold maxLen; omega
              case c4 => omega
              case c5 => have := (unhid HB4).size; simp; omega
              intro v' w4 hown4 hg4 _
              have hb4 : Below W.heap.size W w4 := by
                refine Below.grown ((unhid HB4).alloc (unhid HB4).size _) hg4 (by have := (unhid HB4).size; simp; omega) (fun i hi => ?_)
                rcases Nat.lt_or_ge i W.heap.size with h | h
                · exact absurd hi (own_ne (unhid HO4) (Or.inl h))
                · exact h
              have HO5 := hid hown4
              clear hown4 hg4
              go_wp2_with fail
              go_roundw
              case rel => exact ⟨k + 1, by omega, by go_num, by rw [unhid HS, rns_app, List.length_append, List.length_singleton, List.length_append, List.length_singleton]; exact unhid HO5, hb4⟩
              case measure => simp [intOf]; omega
            · have e1 : (r.col == ck) = false := by simp [hcol]
              clear hsame hcol
              go_wp2_with fail
              go_quiet (fail)
              generalize hWW : w3.drewN _ = W3
              have hbW : Below w3.heap.size w3 W3 := by rw [← hWW]; exact below_drewN' (Below.refl _ _) _
              have HO4 := hid (own_belowd (unhid HO3) hbW)
              have HB4 := hid ((unhid HB3).trans (hbW.mono (unhid HB3).size))
              clear hbW hWW
              go_wp2_with (at_builtin; refine wpList_append_own _ rfl _ _ 54 rfl W.heap.size 85 i0 (.agg #[.int .i64 0, .int .i64 0, .int .i64 0]) 3 24 Tryz.underlying54 hi hz0 hz1 hz2 rfl (by decide) _ _ _ rfl ((unhid HO4).alloc _) ⟨W3.heap.size, 0, none⟩ 1 1 [.int .i64 k, .int .i64 1, .int .i64 ck] rfl rfl ?c1 ?c2 ?c3 ?c4 ?c5 ?_)
              case c1 => exact World.news_of_block (cs := #[.int .i64 k, .int .i64 1, .int .i64 ck]) (t := 85) (fr := (0, 0)) (by simpa using heap_alloc_new W3 (.cells #[.int .i64 k, .int .i64 1, .int .i64 ck] 85))
              case c2 => intro u hu; simp at hu; rcases hu with rfl | rfl | rfl <;> rfl
              case c3 => unfold maxLen; omega
              case c4 => omega
              case c5 => have := (unhid HB4).size; simp; omega
              intro v' w4 hown4 hg4 _
              have hb4 : Below W.heap.size W w4 := by
                refine Below.grown ((unhid HB4).alloc (unhid HB4).size _) hg4 (by have := (unhid HB4).size; simp; omega) (fun i hi => ?_)
                rcases Nat.lt_or_ge i W.heap.size with h | h
                · exact absurd hi (own_ne (unhid HO4) (Or.inl h))
                · exact h
              have HO5 := hid hown4
              clear hown4 hg4
              go_wp2_with fail
              go_roundw
              case rel => exact ⟨k + 1, by omega, by go_num, by rw [unhid HS, rns_app, List.length_append, List.length_singleton, List.length_append, List.length_singleton]; exact unhid HO5, hb4⟩
              case measure => simp [intOf]; omega
    · obtain rfl : k = sz := by omega
      have hkf : ¬ (k : Int) < f.size := by have := unhid HSZ; omega
      obtain ⟨A3, c3, rfl, hrd, -⟩ := own_slice (unhid HOWN)
      have HRD := hid hrd
      clear hrd
      go_wp2_with fail
      go_ret
      first | exact ⟨(unhid HB).trans ((unhid HBEL).mono (unhid HB).size), A3, ⟨c3, rfl⟩, unhid HRD⟩ | exact ⟨(unhid HB).trans ((unhid HBEL).mono (unhid HB).size), A3, c3, rfl, unhid HRD⟩

theorem eqRun (a b d : Int) (w : World) : (Op.equalIn 10000 85 (.agg #[.int .i64 a, .int .i64 b, .int .i64 d]) (.agg #[.int .i64 a, .int .i64 b, .int .i64 d])).run Tryz.prog w = .ok true w := by
  rw [run_equalIn_agg w 9999 85 _ _ (by kernel_rfl) (by kernel_rfl)]
  simp [Program.fieldsOf, Tryz.underlying85, Op.eqFields, go_sem, Tryz.underlying3]

set_option maxHeartbeats 2000000 in
set_option maxRecDepth 100000 in
theorem sameRuns_self (l : List Rn) (A A2 : Option Addr) (c c2 : Nat) (w : World) (h1 : Rd w A (rns l)) (h2 : Rd w A2 (rns l)) (hn : l.length ≤ 100000) :
    Calls Tryz.prog 40 #[.slice A l.length c, .slice A2 l.length c2] w fun e w' => e = .returned (.bool true) ∧ Below w.heap.size w w' := by
  have H1 := hid h1
  have H2 := hid h2
  clear h1 h2
  have hlen' : ((l.length : Int) != (l.length : Int)) = false := by simp
  go_enter Tryz.func40, Tryz.ntmps40
  go_wp2_with fail
  go_loopw [5] (fun i wr => ∃ k : Nat, k ≤ l.length ∧ i = .int .i64 k ∧ Below w.heap.size w wr) (fun i _ => l.length - (intOf i).toNat)
  case atStart => exact ⟨0, Nat.zero_le _, rfl, Below.refl _ _⟩
  case round =>
    obtain ⟨k, hk, rfl, hbel⟩ := hrel
    have HBL := hid hbel
    by_cases hlt : k < l.length
    · obtain ⟨b, off, rfl, hb, hc⟩ := ((unhid H1).below hbel) (rns_ne hlt)
      obtain ⟨b2, off2, rfl, hb2, hc2⟩ := ((unhid H2).below hbel) (rns_ne hlt)
      obtain ⟨m0, m1, m2⟩ := rns_cells hc hlt
      obtain ⟨n0, n1, n2⟩ := rns_cells hc2 hlt
      clear hc hc2 hbel
      generalize l[k] = x at *
      have hq := fun W => eqRun x.fr x.cnt x.col W
      go_wp2_with fail
      go_quiet (fail)
      go_wp2_with fail
      go_roundw
      case rel => exact ⟨k + 1, by omega, by go_num, by first | exact below_drewN' (unhid HBL) _ | exact Below.drew (unhid HBL)⟩
      case measure => simp [intOf]; omega
    · clear hbel
      go_wp2_with fail
      go_ret
      exact ⟨rfl, unhid HBL⟩

set_option maxHeartbeats 4000000 in
set_option maxRecDepth 100000 in
theorem rows_calls (f : Fc) (A : Option Addr) (c : Nat) (j : Int) (w : World) (hg : Gl w) (hit : ItsOk w A f.items) :
    Calls Tryz.prog 9 #[.agg #[.int .i64 f.shape, .int .i64 f.size, .int .i64 f.height, .slice A f.items.length c], .int .i64 j] w fun e w' => e = .returned (.bool true) ∧ Below w.heap.size w w' := by
  have HF := hid (FaceAt.new w c hit)
  have HO := hid ((On.start hg).lay (.cells #[.int .i64 f.shape, .int .i64 f.size, .int .i64 f.height, .slice A f.items.length c] 25))
  clear hg hit
  go_enter Tryz.func9, Tryz.ntmps9
  go_wp2_with fail
  generalize w.alloc (.cells #[.int .i64 f.shape, .int .i64 f.size, .int .i64 f.height, .slice A f.items.length c] 25) = W at *
  refine (heavy_calls f A c W (unhid HF).ok).mono ?_
  rintro e w1 ⟨rfl, hb⟩
  have HF := hid ((unhid HF).below hb)
  have HO := hid ((unhid HO).next hb)
  clear hb
  cases hl : heavyF f with
  | true =>
    go_wp2_with fail
    refine (unhid HO).first.mono ?_
    rintro e w9 ⟨rfl, hb2⟩
    have HB2 := hid hb2
    clear hb2
    go_wp2_with fail
    go_ret
    exact ⟨rfl, unhid HB2⟩
  | false =>
    obtain ⟨c0, c1, c2, c3⟩ := (unhid HF).cells
    cases hf : fcB f with
    | false =>
      have HFF := hid hf
      go_wp2_with fail
      refine (prow_no f A c j w1 (unhid HF).ok (unhid HFF)).mono ?_
      rintro e w2 ⟨rfl, hb⟩
      have HF := hid ((unhid HF).below hb)
      have HO := hid ((unhid HO).next hb)
      clear hb c0 c1 c2 c3
      obtain ⟨c0, c1, c2, c3⟩ := (unhid HF).cells

      go_wp2_with fail
      refine (rvalid_calls f A c w2 (unhid HF).ok).mono ?_
      rintro e w3 ⟨rfl, hb⟩
      rw [unhid HFF]
      have HF := hid ((unhid HF).below hb)
      have HO := hid ((unhid HO).next hb)
      clear hb c0 c1 c2 c3
      obtain ⟨c0, c1, c2, c3⟩ := (unhid HF).cells

      go_wp2_with fail
      refine (unhid HO).first.mono ?_
      rintro e w9 ⟨rfl, hb2⟩
      have HB2 := hid hb2
      clear hb2
      go_wp2_with fail
      go_ret
      exact ⟨rfl, unhid HB2⟩

    | true =>
      have HFF := hid hf
      by_cases hj : 0 ≤ j ∧ j < heiF f
      · have HJ := hid hj
        have hrl := runs_len (rowI f j) f.size.toNat
        obtain ⟨s0, s1⟩ := size_bounds hf
        obtain ⟨j0, j1⟩ := hj
        go_wp2_with fail
        refine (prow_ok f A c j w1 (unhid HF).ok (unhid HFF) (unhid HJ)).mono ?_
        rintro e w2 ⟨hb, A1, k1, rfl, hr1⟩
        have HR1 := hid hr1
        clear hr1
        have HF := hid ((unhid HF).below hb)
        have HO := hid ((unhid HO).next hb)
        clear hb c0 c1 c2 c3
        obtain ⟨c0, c1, c2, c3⟩ := (unhid HF).cells

        go_wp2_with fail
        refine (rvalid_calls f A c w2 (unhid HF).ok).mono ?_
        rintro e w3 ⟨rfl, hb⟩
        rw [unhid HFF]
        have HR1 := hid ((unhid HR1).below hb)
        have HF := hid ((unhid HF).below hb)
        have HO := hid ((unhid HO).next hb)
        clear hb c0 c1 c2 c3
        obtain ⟨c0, c1, c2, c3⟩ := (unhid HF).cells

        go_wp2_with fail
        refine (paint_calls f A c w3 (unhid HF).ok (unhid HFF)).mono ?_
        rintro e w4 ⟨hb, A2, A3, k2, k3, rfl, hr2, -⟩
        have HR1 := hid ((unhid HR1).below (hb.trans ((below_alloc w4 (.cells #[.int .i64 f.size, .int .i64 (heiF f), .slice A2 (numD f) k2, .slice A3 (numD f) k3] 36)).mono hb.size)))
        have HR2 := hid (hr2.below (below_alloc w4 (.cells #[.int .i64 f.size, .int .i64 (heiF f), .slice A2 (numD f) k2, .slice A3 (numD f) k3] 36)))
        have hb := hb.trans ((below_alloc w4 (.cells #[.int .i64 f.size, .int .i64 (heiF f), .slice A2 (numD f) k2, .slice A3 (numD f) k3] 36)).mono hb.size)
        clear hr2
        have HPB := hid (heap_alloc_new w4 (.cells #[.int .i64 f.size, .int .i64 (heiF f), .slice A2 (numD f) k2, .slice A3 (numD f) k3] 36))
        go_upto_region 7 with (fail)
        generalize w4.alloc (.cells #[.int .i64 f.size, .int .i64 (heiF f), .slice A2 (numD f) k2, .slice A3 (numD f) k3] 36) = W4 at *
        generalize w4.heap.size = P at *
        have HF := hid ((unhid HF).below hb)
        have HO := hid ((unhid HO).next hb)
        clear hb c0 c1 c2 c3
        obtain ⟨c0, c1, c2, c3⟩ := (unhid HF).cells

        have p0 := cell_of_row _ P 0 _ _ _ (unhid HPB)
        have p1 := cell_of_row _ P 1 _ _ _ (unhid HPB)
        have p2 := cell_of_row _ P 2 _ _ _ (unhid HPB)
        have p3 := cell_of_row _ P 3 _ _ _ (unhid HPB)
        simp at p0 p1 p2 p3
        have hj0 : ¬ j < 0 := by omega
        have hj1 : ¬ heiF f ≤ j := by omega
        go_wp2_with fail
        refine (rrow_calls f A2 A3 k2 k3 j W4 (unhid HFF) (unhid HJ) (unhid HR2)).mono ?_
        rintro e w5 ⟨hb, A4, k4, rfl, hr4⟩
        have HR4 := hid hr4
        have HR1 := hid ((unhid HR1).below hb)
        clear hr4 p0 p1 p2 p3
        have HF := hid ((unhid HF).below hb)
        have HO := hid ((unhid HO).next hb)
        clear hb c0 c1 c2 c3
        obtain ⟨c0, c1, c2, c3⟩ := (unhid HF).cells

        generalize runsK (rowI f j) f.size.toNat = R at *
        go_wp2_with fail
        refine (sameRuns_self R A1 A4 k1 k4 w5 (unhid HR1) (unhid HR4) (by omega)).mono ?_
        rintro e w6 ⟨rfl, hb⟩
        have HF := hid ((unhid HF).below hb)
        have HO := hid ((unhid HO).next hb)
        clear hb c0 c1 c2 c3
        obtain ⟨c0, c1, c2, c3⟩ := (unhid HF).cells

        go_wp2_with fail
        refine (unhid HO).first.mono ?_
        rintro e w9 ⟨rfl, hb2⟩
        have HB2 := hid hb2
        clear hb2
        go_wp2_with fail
        go_ret
        exact ⟨rfl, unhid HB2⟩

      · have HJ := hid hj
        go_wp2_with fail
        refine (prow_arg f A c j w1 (unhid HF).ok (unhid HFF) (unhid HJ)).mono ?_
        rintro e w2 ⟨rfl, hb⟩
        have HF := hid ((unhid HF).below hb)
        have HO := hid ((unhid HO).next hb)
        clear hb c0 c1 c2 c3
        obtain ⟨c0, c1, c2, c3⟩ := (unhid HF).cells

        go_wp2_with fail
        refine (rvalid_calls f A c w2 (unhid HF).ok).mono ?_
        rintro e w3 ⟨rfl, hb⟩
        rw [unhid HFF]
        have HF := hid ((unhid HF).below hb)
        have HO := hid ((unhid HO).next hb)
        clear hb c0 c1 c2 c3
        obtain ⟨c0, c1, c2, c3⟩ := (unhid HF).cells

        go_wp2_with fail
        refine (paint_calls f A c w3 (unhid HF).ok (unhid HFF)).mono ?_
        rintro e w4 ⟨hb, A2, A3, k2, k3, rfl, -, -⟩
        have hb := hb.trans ((below_alloc w4 (.cells #[.int .i64 f.size, .int .i64 (heiF f), .slice A2 (numD f) k2, .slice A3 (numD f) k3] 36)).mono hb.size)
        have HPB := hid (heap_alloc_new w4 (.cells #[.int .i64 f.size, .int .i64 (heiF f), .slice A2 (numD f) k2, .slice A3 (numD f) k3] 36))
        go_upto_region 7 with (fail)
        generalize w4.alloc (.cells #[.int .i64 f.size, .int .i64 (heiF f), .slice A2 (numD f) k2, .slice A3 (numD f) k3] 36) = W4 at *
        generalize w4.heap.size = P at *
        have HF := hid ((unhid HF).below hb)
        have HO := hid ((unhid HO).next hb)
        clear hb c0 c1 c2 c3
        obtain ⟨c0, c1, c2, c3⟩ := (unhid HF).cells

        have p1 := cell_of_row _ P 1 _ _ _ (unhid HPB)
        simp at p1
        rcases (show j < 0 ∨ (¬ j < 0 ∧ heiF f ≤ j) by omega) with b1 | ⟨b1, b2⟩
        all_goals
          clear hj
          go_wp2_with fail
          refine (unhid HO).first.mono ?_
          rintro e w9 ⟨rfl, hb2⟩
          have HB2 := hid hb2
          clear hb2
          go_wp2_with fail
          go_ret
          exact ⟨rfl, unhid HB2⟩

end Go.Proofs.YtmagidoodlkeoaaGreatDoor
