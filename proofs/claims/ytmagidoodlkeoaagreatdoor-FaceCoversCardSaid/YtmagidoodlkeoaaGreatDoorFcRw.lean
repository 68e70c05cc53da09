/-
  The runs of a row: package face, the reference; the law FaceRows.
-/
import Derived.Test.YtmagidoodlkeoaaGreatDoorFcPaint
import Derived.Test.YtmagidoodlkeoaaGreatDoorFcU
import Derived.Laws.StructEq
set_option linter.unusedSimpArgs false
set_option linter.unusedVariables false
namespace Go.Proofs.YtmagidoodlkeoaaGreatDoor
open Go.RowKit

def rnC (r : Rn) : List Value := [.int .i64 r.fr, .int .i64 r.cnt, .int .i64 r.col]
def rns (l : List Rn) : List Value := l.flatMap rnC
theorem rns_len (l : List Rn) : (rns l).length = l.length * 3 := flat_len (f := rnC) (fun _ => rfl) l
theorem rns_app (a b : List Rn) : rns (a ++ b) = rns a ++ rns b := by simp [rns]
theorem rns_ne {l : List Rn} {k : Nat} (h : k < l.length) : rns l ≠ [] := flat_ne (f := rnC) (K := 3) (fun _ => rfl) (by omega) h
theorem rns_cells {w : World} {b off : Nat} {l : List Rn} (h : ∀ j u, (rns l)[j]? = some u → w.cell? ⟨b, off + j, none⟩ = some u) {k : Nat} (hk : k < l.length) :
    w.cell? ⟨b, off + k * 3, none⟩ = some (.int .i64 l[k].fr) ∧ w.cell? ⟨b, off + k * 3 + 1, none⟩ = some (.int .i64 l[k].cnt) ∧ w.cell? ⟨b, off + k * 3 + 2, none⟩ = some (.int .i64 l[k].col) :=
  ⟨h _ _ (flat_at (f := rnC) (K := 3) (fun _ => rfl) l k 0 hk (by omega)), h _ _ (flat_at (f := rnC) (K := 3) (fun _ => rfl) l k 1 hk (by omega)), h _ _ (flat_at (f := rnC) (K := 3) (fun _ => rfl) l k 2 hk (by omega))⟩
theorem bump_len (l : List Rn) : (bump l).length = l.length := by
  rcases List.eq_nil_or_concat l with rfl | ⟨m, r, rfl⟩
  · rfl
  · rw [List.concat_eq_append, bump_snoc]; simp
theorem runs_len (c : Nat → Int) : ∀ k, (runsK c k).length ≤ k
  | 0 => by simp [runsK]
  | k + 1 => by
    have ih := runs_len c k
    unfold runsK
    split
    · omega
    · split
      · rw [bump_len]; omega
      · simp; omega
def rowI (f : Fc) (j : Int) : Nat → Int := fun i => colI f i j

/-- A row of any cells, one of them set. -/
theorem own_setG {w : World} {base e n g cap size : Nat} {xs : List Value} (h : w.ownsRow base e size (.slice (some ⟨g, 0, none⟩) n cap) n xs) (k : Nat) (u : Value) : (w.setCell ⟨g, k, none⟩ u).ownsRow base e size (.slice (some ⟨g, 0, none⟩) n cap) n (xs.set k u) := by
  obtain ⟨hlen, h2⟩ := h
  refine ⟨by simpa using hlen, ?_⟩
  rcases h2 with ⟨hv, _⟩ | ⟨g', cap', cur, hv, hb, hh, hnc, hcap, hcs, htk⟩
  · cases hv
  · injection hv with e1 e2 e3
    injection e1 with e1
    injection e1 with e1
    subst e1 e3
    refine .inr ⟨g, cap, cur.setIfInBounds k u, rfl, hb, heap_setCell_same _ _ _ _ _ _ hh, hnc, hcap, by simpa using hcs, ?_⟩
    rw [Array.toList_setIfInBounds, List.take_set, htk]
theorem own_cellG {w : World} {base e n g cap size : Nat} {xs : List Value} (h : w.ownsRow base e size (.slice (some ⟨g, 0, none⟩) n cap) n xs) {k : Nat} {u : Value} (hk : xs[k]? = some u) : w.cell? ⟨g, k, none⟩ = some u := by
  obtain ⟨A, c, hv, hr, -⟩ := own_slice h
  injection hv with e1 e2 e3
  subst e1 e3
  obtain ⟨b, off, hA, hb, hc⟩ := hr (by rintro rfl; simp at hk)
  injection hA with hA
  injection hA with h1 h2
  subst h1 h2
  have := hc k _ hk
  rwa [Nat.zero_add] at this
theorem own_someG {w : World} {base e n size : Nat} {v : Value} {xs : List Value} (h : w.ownsRow base e size v n xs) (hl : 0 < n) : ∃ g cap, v = .slice (some ⟨g, 0, none⟩) n cap := by
  rcases h.2 with ⟨-, h0⟩ | ⟨g, cap, cur, hv, -⟩
  · omega
  · exact ⟨g, cap, hv⟩
theorem rns_set (l : List Rn) (r : Rn) : (rns (l ++ [r])).set (l.length * 3 + 1) (.int .i64 (r.cnt + 1)) = rns (l ++ [⟨r.fr, r.cnt + 1, r.col⟩]) := by
  rw [rns_app, rns_app, List.set_append_right _ _ (by rw [rns_len]; omega), rns_len, show l.length * 3 + 1 - l.length * 3 = 1 by omega]
  rfl
theorem rns_last (l : List Rn) (r : Rn) : (rns (l ++ [r]))[l.length * 3]? = some (.int .i64 r.fr) ∧ (rns (l ++ [r]))[l.length * 3 + 1]? = some (.int .i64 r.cnt) ∧ (rns (l ++ [r]))[l.length * 3 + 2]? = some (.int .i64 r.col) := by
  have h : ∀ j, j < 3 → (rns (l ++ [r]))[l.length * 3 + j]? = (rnC r)[j]? := fun j hj => by
    rw [rns_app, List.getElem?_append_right (by rw [rns_len]; omega), rns_len, show l.length * 3 + j - l.length * 3 = j by omega]
    simp [rns]
  exact ⟨h 0 (by omega), h 1 (by omega), h 2 (by omega)⟩
theorem info_run : (Tryz.prog.info? 85).map (fun i => (i.zero, i.size, i.bytes)) = some (some (.agg #[.int .i64 0, .int .i64 0, .int .i64 0]), 3, 24) := by kernel_rfl
theorem runs_zero {c : Nat → Int} {k : Nat} (h : c k = 0) : runsK c (k + 1) = runsK c k := by rw [runsK, if_pos h]
theorem runs_bump {c : Nat → Int} {k : Nat} (h : c k ≠ 0) (h1 : 0 < k ∧ c (k - 1) = c k) : runsK c (k + 1) = bump (runsK c k) := by rw [runsK, if_neg h, if_pos h1]
theorem runs_new {c : Nat → Int} {k : Nat} (h : c k ≠ 0) (h1 : ¬ (0 < k ∧ c (k - 1) = c k)) : runsK c (k + 1) = runsK c k ++ [⟨k, 1, c k⟩] := by rw [runsK, if_neg h, if_neg h1]

set_option maxHeartbeats 4000000 in
set_option maxRecDepth 100000 in
theorem row_calls (f : Fc) (A : Option Addr) (c : Nat) (j : Int) (w : World) (hit : ItsOk w A f.items) (hf : fcB f = true) (hj : 0 ≤ j ∧ j < heiF f) :
    Calls Tryz.prog 83 #[.agg #[.int .i64 f.shape, .int .i64 f.size, .int .i64 f.height, .slice A f.items.length c], .int .i64 j] w fun e w' => Below w.heap.size w w' ∧ ∃ (A1 : Option Addr) (c1 : Nat), e = .returned (.slice A1 (runsK (rowI f j) f.size.toNat).length c1) ∧ Rd w' A1 (rns (runsK (rowI f j) f.size.toNat)) ∧ ∀ a, A1 = some a → w.heap.size ≤ a.block := by
  obtain ⟨s0, s1⟩ := size_bounds hf
  obtain ⟨j0, j1⟩ := hj
  have HFF := hid hf
  obtain ⟨sz, hsz⟩ : ∃ sz : Nat, sz = f.size.toNat := ⟨_, rfl⟩
  rw [← hsz]
  have HSZ := hid (show (sz : Int) = f.size by omega)
  have hsz0 : sz ≤ 200 := by omega
  have HF := hid (FaceAt.new w c hit)
  have HB := hid (below_alloc w (.cells #[.int .i64 f.shape, .int .i64 f.size, .int .i64 f.height, .slice A f.items.length c] 25))
  have HCOL := hid (fun i => colI_bounds hf i j)
  obtain ⟨i0, hi, hz0, hz1, hz2⟩ := info_partsd info_run
  clear hit hf hsz
  go_enter Tryz.func83, Tryz.ntmps83
  go_wp2_with fail
  generalize w.alloc (.cells #[.int .i64 f.shape, .int .i64 f.size, .int .i64 f.height, .slice A f.items.length c] 25) = W at *
  refine (extent_calls f A c W (by omega) (by omega)).mono ?_
  rintro e w1 ⟨rfl, hb1⟩
  have HF := hid ((unhid HF).below hb1)
  have HB := hid ((unhid HB).trans (hb1.mono (unhid HB).size))
  clear hb1
  go_wp2_with fail
  go_loopw [17, 5, 8] (fun iv v lv wr => ∃ (k : Nat) (la : Int), k ≤ sz ∧ iv = .int .i64 k ∧ lv = .int .i64 la ∧ (la = if k = 0 then 0 else rowI f j (k - 1)) ∧ wr.ownsRow w1.heap.size 85 3 v (runsK (rowI f j) k).length (rns (runsK (rowI f j) k)) ∧ Below w1.heap.size w1 wr) (fun iv _ _ _ => sz - (intOf iv).toNat)
  case atStart => exact ⟨0, 0, Nat.zero_le _, rfl, rfl, rfl, World.ownsRow_nil _ _ _ _, Below.refl _ _⟩
  case round =>
    obtain ⟨k, la, hk, rfl, rfl, hla, hown, hbel⟩ := hrel
    have HLA := hid hla
    have HOWN := hid hown
    have HBEL := hid hbel
    have HFr := hid ((unhid HF).below hbel)
    clear hla hown hbel
    by_cases hkl : k < sz
    · have hkf : (k : Int) < f.size := by have := unhid HSZ; omega
      obtain ⟨c0, c1, c2, c3⟩ := (unhid HFr).cells
      go_wp2_with fail
      refine (colour_calls f A c (k : Int) j wr (unhid HFr).ok (unhid HFF) ⟨Int.natCast_nonneg _, hkf⟩ ⟨j0, j1⟩).mono ?_
      rintro e w3 ⟨rfl, hb3⟩
      have HO3 := hid (own_belowd (unhid HOWN) hb3)
      have HB3 := hid ((unhid HBEL).trans (hb3.mono (unhid HBEL).size))
      clear hb3 c0 c1 c2 c3
      obtain ⟨ck, hck⟩ : ∃ ck : Int, ck = colI f (k : Int) j := ⟨_, rfl⟩
      have hcb := (unhid HCOL) (k : Int)
      rw [← hck] at hcb ⊢
      have HCK := hid (show rowI f j k = ck from hck.symm)
      clear hck
      have HL := hid (runs_last (rowI f j) k)
      have HN := hid (runs_len (rowI f j) k)
      by_cases hc0 : ck = 0
      · have HS := hid (runs_zero (c := rowI f j) (k := k) ((unhid HCK).trans hc0))
        have hcc : (ck == 0) = true := by simp [hc0]
        clear hc0
        go_wp2_with fail
        go_roundw
        case rel => exact ⟨k + 1, ck, by omega, by go_num, rfl, by rw [if_neg (by omega)]; exact (unhid HCK).symm, by rw [unhid HS]; exact unhid HO3, unhid HB3⟩
        case measure => simp [intOf]; omega
      · have hcc : (ck == 0) = false := by simp [hc0]
        by_cases hcl : ck = la
        · have hpos : 0 < k ∧ rowI f j (k - 1) = rowI f j k := by
            have h := unhid HLA
            have h2 := unhid HCK
            by_cases hk0 : k = 0
            · rw [if_pos hk0] at h; omega
            · rw [if_neg hk0] at h; exact ⟨by omega, by omega⟩
          obtain ⟨l, r, hl, hr1, hr2⟩ := (unhid HL).2 hpos.1 (by rw [hpos.2, unhid HCK]; exact hc0)
          obtain ⟨q0, q1, q2, -⟩ := (unhid HL).1 l r hl
          have HS := hid ((runs_bump (c := rowI f j) (k := k) (by rw [unhid HCK]; exact hc0) hpos).trans (by rw [hl, bump_snoc]))
          have hlb : (ck == la) = true := by simp [hcl]
          have hno := unhid HO3
          have hll := unhid HN
          rw [hl] at hno hll
          simp only [List.length_append, List.length_singleton] at hno hll
          obtain ⟨g, cap, rfl⟩ := own_someG hno (by omega)
          have m0 : w3.cell? ⟨g, l.length * 3 + 1, none⟩ = some (.int .i64 r.cnt) := own_cellG hno (rns_last l r).2.1
          have m1 : w3.frozen? ⟨g, l.length * 3 + 1, none⟩ = false := own_free hno _
          obtain ⟨y0, y0'⟩ := w64 (n := r.cnt + 1) (by omega) (by omega)
          have HNO := hid hno
          have hgb := (own_lt hno (g := g) rfl).1
          clear hno hl hr1 hr2 hpos hcl
          go_wp2_with fail
          go_roundw
          case rel =>
            refine ⟨k + 1, ck, by omega, by go_num, rfl, by rw [if_neg (by omega)]; exact (unhid HCK).symm, ?_, Below.setCell (unhid HB3) hgb _⟩
            rw [unhid HS, List.length_append, List.length_singleton, ← rns_set]
            exact own_setG (unhid HNO) _ _
          case measure => simp [intOf]; omega
        · have hneg : ¬ (0 < k ∧ rowI f j (k - 1) = rowI f j k) := fun h => hcl (by
            have h1 := unhid HLA
            rw [if_neg (by omega)] at h1
            have h2 := unhid HCK
            omega)
          have HS := hid (runs_new (c := rowI f j) (k := k) (by rw [unhid HCK]; exact hc0) hneg)
          rw [unhid HCK] at HS
          have hlb : (ck == la) = false := by simp [hcl]
          have hll := unhid HN
          clear hneg hcl
          go_wp2_with (at_builtin; refine wpList_append_own _ rfl _ _ 54 rfl w1.heap.size 85 i0 (.agg #[.int .i64 0, .int .i64 0, .int .i64 0]) 3 24 Tryz.underlying54 hi hz0 hz1 hz2 rfl (by decide) _ _ _ rfl ((unhid HO3).alloc _) ⟨w3.heap.size, 0, none⟩ 1 1 [.int .i64 k, .int .i64 1, .int .i64 ck] rfl rfl ?c1 ?c2 ?c3 ?c4 ?c5 ?_)
          case c1 => exact World.news_of_block (cs := #[.int .i64 k, .int .i64 1, .int .i64 ck]) (t := 85) (fr := (0, 0)) (by simpa using heap_alloc_new w3 (.cells #[.int .i64 k, .int .i64 1, .int .i64 ck] 85))
          case c2 => intro u hu; simp at hu; rcases hu with rfl | rfl | rfl <;> rfl
          case c3 => unfold maxLen; omega
          case c4 => omega
          case c5 => have := (unhid HB3).size; simp; omega
          intro v' w4 hown4 hg4 _
          have hb4 : Below w1.heap.size w1 w4 := by
            refine Below.grown ((unhid HB3).alloc (unhid HB3).size _) hg4 (by have := (unhid HB3).size; simp; omega) (fun i hi => ?_)
            rcases Nat.lt_or_ge i w1.heap.size with h | h
            · exact absurd hi (own_ne (unhid HO3) (Or.inl h))
            · exact h
          have HO4 := hid hown4
          clear hown4 hg4
          go_wp2_with fail
          go_roundw
          case rel => exact ⟨k + 1, ck, by omega, by go_num, rfl, by rw [if_neg (by omega)]; exact (unhid HCK).symm, by rw [unhid HS, rns_app, List.length_append, List.length_singleton]; exact unhid HO4, hb4⟩
          case measure => simp [intOf]; omega
    · obtain rfl : k = sz := by omega
      have hkf : ¬ (k : Int) < f.size := by have := unhid HSZ; omega
      obtain ⟨A1, c1, rfl, hrd, hob⟩ := own_slice (unhid HOWN)
      have HRD := hid hrd
      have HFR := hid (show ∀ a, A1 = some a → w.heap.size ≤ a.block from fun a ha => by
        subst ha
        have h1 := hob a.block rfl
        have h2 := (unhid HB).size
        omega)
      clear hrd hob
      go_wp2_with fail
      go_ret
      first | exact ⟨(unhid HB).trans ((unhid HBEL).mono (unhid HB).size), A1, ⟨c1, rfl⟩, unhid HRD, unhid HFR⟩ | exact ⟨(unhid HB).trans ((unhid HBEL).mono (unhid HB).size), A1, c1, rfl, unhid HRD, unhid HFR⟩
set_option maxHeartbeats 2000000 in
set_option maxRecDepth 100000 in
theorem prow_no (f : Fc) (A : Option Addr) (c : Nat) (j : Int) (w : World) (hit : ItsOk w A f.items) (hf : fcB f = false) :
    Calls Tryz.prog 39 #[.agg #[.int .i64 f.shape, .int .i64 f.size, .int .i64 f.height, .slice A f.items.length c], .int .i64 j] w fun e w' => e = .returned (.tuple #[.slice none 0 0, .int .i64 10]) ∧ Below w.heap.size w w' := by
  have HV := hid hf
  have HF0 := hid (FaceAt.new w c hit)
  have HB0 := hid (below_alloc w (.cells #[.int .i64 f.shape, .int .i64 f.size, .int .i64 f.height, .slice A f.items.length c] 25))
  clear hit hf
  go_enter Tryz.func39, Tryz.ntmps39
  go_wp2_with fail
  generalize w.alloc (.cells #[.int .i64 f.shape, .int .i64 f.size, .int .i64 f.height, .slice A f.items.length c] 25) = W0 at *
  refine (valid_calls f A c W0 (unhid HF0).ok).mono ?_
  rintro e wa ⟨rfl, hba⟩
  have HBa := hid ((unhid HB0).trans (hba.mono (unhid HB0).size))
  clear hba HF0 HB0
  rw [unhid HV]
  go_wp2_with fail
  go_ret2
  exact ⟨rfl, unhid HBa⟩
set_option maxHeartbeats 2000000 in
set_option maxRecDepth 100000 in
theorem prow_arg (f : Fc) (A : Option Addr) (c : Nat) (j : Int) (w : World) (hit : ItsOk w A f.items) (hf : fcB f = true) (hj : ¬ (0 ≤ j ∧ j < heiF f)) :
    Calls Tryz.prog 39 #[.agg #[.int .i64 f.shape, .int .i64 f.size, .int .i64 f.height, .slice A f.items.length c], .int .i64 j] w fun e w' => e = .returned (.tuple #[.slice none 0 0, .int .i64 2]) ∧ Below w.heap.size w w' := by
  have HV := hid hf
  have HJ := hid hj
  obtain ⟨s0, s1⟩ := size_bounds hf
  obtain ⟨h0, h1⟩ := heiF_bounds hf
  have HWI := hid (show wiB 0 j (heiF f - 1) = decide (0 ≤ j ∧ j < heiF f) by unfold wiB; rw [decide_eq_decide]; omega)
  obtain ⟨y0, y0'⟩ := w64 (n := heiF f - 1) (by omega) (by omega)
  have HF := hid (FaceAt.new w c hit)
  have HB := hid (below_alloc w (.cells #[.int .i64 f.shape, .int .i64 f.size, .int .i64 f.height, .slice A f.items.length c] 25))
  clear hit hf hj
  go_enter Tryz.func39, Tryz.ntmps39
  go_wp2_with fail
  generalize w.alloc (.cells #[.int .i64 f.shape, .int .i64 f.size, .int .i64 f.height, .slice A f.items.length c] 25) = W0 at *
  refine (valid_calls f A c W0 (unhid HF).ok).mono ?_
  rintro e wa ⟨rfl, hb⟩
  have HF := hid ((unhid HF).below hb)
  have HB := hid ((unhid HB).trans (hb.mono (unhid HB).size))
  clear hb
  obtain ⟨c0, c1, c2, c3⟩ := (unhid HF).cells
  rw [unhid HV]
  go_wp2_with fail
  refine (extent_calls f A c wa (by omega) (by omega)).mono ?_
  rintro e wb ⟨rfl, hb⟩
  have HF := hid ((unhid HF).below hb)
  have HB := hid ((unhid HB).trans (hb.mono (unhid HB).size))
  clear hb c0 c1 c2 c3
  obtain ⟨c0, c1, c2, c3⟩ := (unhid HF).cells
  go_wp2_with (go_at_call 71; refine (within_b _ _ _ _).mono ?_; rintro e w' ⟨rfl, rfl⟩; rw [unhid HWI, decide_eq_false (unhid HJ)])
  go_ret2
  exact ⟨rfl, unhid HB⟩
set_option maxHeartbeats 2000000 in
set_option maxRecDepth 100000 in
theorem prow_ok (f : Fc) (A : Option Addr) (c : Nat) (j : Int) (w : World) (hit : ItsOk w A f.items) (hf : fcB f = true) (hj : 0 ≤ j ∧ j < heiF f) :
    Calls Tryz.prog 39 #[.agg #[.int .i64 f.shape, .int .i64 f.size, .int .i64 f.height, .slice A f.items.length c], .int .i64 j] w fun e w' => Below w.heap.size w w' ∧ ∃ (A1 : Option Addr) (c1 : Nat), e = .returned (.tuple #[.slice A1 (runsK (rowI f j) f.size.toNat).length c1, .int .i64 0]) ∧ Rd w' A1 (rns (runsK (rowI f j) f.size.toNat)) ∧ ∀ a, A1 = some a → w.heap.size ≤ a.block := by
  have HV := hid hf
  have HJ := hid hj
  obtain ⟨s0, s1⟩ := size_bounds hf
  obtain ⟨h0, h1⟩ := heiF_bounds hf
  have HWI := hid (show wiB 0 j (heiF f - 1) = decide (0 ≤ j ∧ j < heiF f) by unfold wiB; rw [decide_eq_decide]; omega)
  obtain ⟨y0, y0'⟩ := w64 (n := heiF f - 1) (by omega) (by omega)
  have HF := hid (FaceAt.new w c hit)
  have HB := hid (below_alloc w (.cells #[.int .i64 f.shape, .int .i64 f.size, .int .i64 f.height, .slice A f.items.length c] 25))
  clear hit hf hj
  go_enter Tryz.func39, Tryz.ntmps39
  go_wp2_with fail
  generalize w.alloc (.cells #[.int .i64 f.shape, .int .i64 f.size, .int .i64 f.height, .slice A f.items.length c] 25) = W0 at *
  refine (valid_calls f A c W0 (unhid HF).ok).mono ?_
  rintro e wa ⟨rfl, hb⟩
  have HF := hid ((unhid HF).below hb)
  have HB := hid ((unhid HB).trans (hb.mono (unhid HB).size))
  clear hb
  obtain ⟨c0, c1, c2, c3⟩ := (unhid HF).cells
  rw [unhid HV]
  go_wp2_with fail
  refine (extent_calls f A c wa (by omega) (by omega)).mono ?_
  rintro e wb ⟨rfl, hb⟩
  have HF := hid ((unhid HF).below hb)
  have HB := hid ((unhid HB).trans (hb.mono (unhid HB).size))
  clear hb c0 c1 c2 c3
  obtain ⟨c0, c1, c2, c3⟩ := (unhid HF).cells
  go_wp2_with (go_at_call 71; refine (within_b _ _ _ _).mono ?_; rintro e w' ⟨rfl, rfl⟩; rw [unhid HWI, decide_eq_true (unhid HJ)])
  refine (row_calls f A c j wb (unhid HF).ok (unhid HV) (unhid HJ)).mono ?_
  rintro e w5 ⟨hb, A1, k1, rfl, hr, hfr⟩
  have HR := hid hr
  have HFR := hid (show ∀ a, A1 = some a → w.heap.size ≤ a.block from fun a ha => Nat.le_trans (unhid HB).size (hfr a ha))
  have HB := hid ((unhid HB).trans (hb.mono (unhid HB).size))
  clear hb hr hfr c0 c1 c2 c3
  go_wp2_with fail
  go_ret2
  first | exact ⟨unhid HB, A1, ⟨k1, rfl⟩, unhid HR, unhid HFR⟩ | exact ⟨unhid HB, A1, k1, rfl, unhid HR, unhid HFR⟩

end Go.Proofs.YtmagidoodlkeoaaGreatDoor
