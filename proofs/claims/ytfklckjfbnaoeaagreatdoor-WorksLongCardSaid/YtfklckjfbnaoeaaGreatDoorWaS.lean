/-
  The runs of a row: package face, the reference; the law FaceRows. The areas of the colours: the reference. The areas of the colours: package face. The screens: the reference. The screens: package face.
-/
import Derived.Test.YtfklckjfbnaoeaaGreatDoorFcPaint
import Derived.Test.YtfklckjfbnaoeaaGreatDoorWaP
import Derived.Laws.StructEq
set_option linter.unusedSimpArgs false
set_option linter.unusedVariables false
namespace Go.Proofs.YtfklckjfbnaoeaaGreatDoor

section
open Go.RowKit

def rnC (r : Rn) : List Value := [.int .i64 r.fr, .int .i64 r.cnt, .int .i64 r.col]
def rns (l : List Rn) : List Value := l.flatMap rnC
theorem rns_len (l : List Rn) : (rns l).length = l.length * 3 := flat_len (f := rnC) (fun _ => rfl) l
theorem rns_app (a b : List Rn) : rns (a ++ b) = rns a ++ rns b := by simp [rns]
theorem rns_ne {l : List Rn} {k : Nat} (h : k < l.length) : rns l ≠ [] := flat_ne (f := rnC) (K := 3) (fun _ => rfl) (by omega) h
theorem rns_cells {w : World} {b off : Nat} {l : List Rn} (h : ∀ j u, (rns l)[j]? = some u → w.cell? ⟨b, off + j, none⟩ = some u) {k : Nat} (hk : k < l.length) :
    w.cell? ⟨b, off + k * 3, none⟩ = some (.int .i64 l[k].fr) ∧ w.cell? ⟨b, off + k * 3 + 1, none⟩ = some (.int .i64 l[k].cnt) ∧ w.cell? ⟨b, off + k * 3 + 2, none⟩ = some (.int .i64 l[k].col) :=
  ⟨h _ _ (flat_at (f := rnC) (K := 3) (fun _ => rfl) l k 0 hk (by omega)), h _ _ (flat_at (f := rnC) (K := 3) (fun _ => rfl) l k 1 hk (by omega)), h _ _ (flat_at (f := rnC) (K := 3) (fun _ => rfl) l k 2 hk (by omega))⟩
theorem bump_len (l : List Rn) : (bump l).length = l.length := by
  rcases List.eq_nil_or_concat l with rfl | ⟨m, r, rfl⟩
  · rfl
  · rw [List.concat_eq_append, bump_snoc]; simp
theorem runs_len (c : Nat → Int) : ∀ k, (runsK c k).length ≤ k
  | 0 => by simp [runsK]
  | k + 1 => by
    have ih := runs_len c k
    unfold runsK
    split
    · omega
    · split
      · rw [bump_len]; omega
      · simp; omega
def rowI (f : Fc) (j : Int) : Nat → Int := fun i => colI f i j

/-- A row of any cells, one of them set. -/
theorem own_setG {w : World} {base e n g cap size : Nat} {xs : List Value} (h : w.ownsRow base e size (.slice (some ⟨g, 0, none⟩) n cap) n xs) (k : Nat) (u : Value) : (w.setCell ⟨g, k, none⟩ u).ownsRow base e size (.slice (some ⟨g, 0, none⟩) n cap) n (xs.set k u) := by
  obtain ⟨hlen, h2⟩ := h
  refine ⟨by simpa using hlen, ?_⟩
  rcases h2 with ⟨hv, _⟩ | ⟨g', cap', cur, hv, hb, hh, hnc, hcap, hcs, htk⟩
  · cases hv
  · injection hv with e1 e2 e3
    injection e1 with e1
    injection e1 with e1
    subst e1 e3
    refine .inr ⟨g, cap, cur.setIfInBounds k u, rfl, hb, heap_setCell_same _ _ _ _ _ _ hh, hnc, hcap, by simpa using hcs, ?_⟩
    rw [Array.toList_setIfInBounds, List.take_set, htk]
theorem own_cellG {w : World} {base e n g cap size : Nat} {xs : List Value} (h : w.ownsRow base e size (.slice (some ⟨g, 0, none⟩) n cap) n xs) {k : Nat} {u : Value} (hk : xs[k]? = some u) : w.cell? ⟨g, k, none⟩ = some u := by
  obtain ⟨A, c, hv, hr, -⟩ := own_slice h
  injection hv with e1 e2 e3
  subst e1 e3
  obtain ⟨b, off, hA, hb, hc⟩ := hr (by rintro rfl; simp at hk)
  injection hA with hA
  injection hA with h1 h2
  subst h1 h2
  have := hc k _ hk
  rwa [Nat.zero_add] at this
theorem own_someG {w : World} {base e n size : Nat} {v : Value} {xs : List Value} (h : w.ownsRow base e size v n xs) (hl : 0 < n) : ∃ g cap, v = .slice (some ⟨g, 0, none⟩) n cap := by
  rcases h.2 with ⟨-, h0⟩ | ⟨g, cap, cur, hv, -⟩
  · omega
  · exact ⟨g, cap, hv⟩
theorem rns_set (l : List Rn) (r : Rn) : (rns (l ++ [r])).set (l.length * 3 + 1) (.int .i64 (r.cnt + 1)) = rns (l ++ [⟨r.fr, r.cnt + 1, r.col⟩]) := by
  rw [rns_app, rns_app, List.set_append_right _ _ (by rw [rns_len]; omega), rns_len, show l.length * 3 + 1 - l.length * 3 = 1 by omega]
  rfl
theorem rns_last (l : List Rn) (r : Rn) : (rns (l ++ [r]))[l.length * 3]? = some (.int .i64 r.fr) ∧ (rns (l ++ [r]))[l.length * 3 + 1]? = some (.int .i64 r.cnt) ∧ (rns (l ++ [r]))[l.length * 3 + 2]? = some (.int .i64 r.col) := by
  have h : ∀ j, j < 3 → (rns (l ++ [r]))[l.length * 3 + j]? = (rnC r)[j]? := fun j hj => by
    rw [rns_app, List.getElem?_append_right (by rw [rns_len]; omega), rns_len, show l.length * 3 + j - l.length * 3 = j by omega]
    simp [rns]
  exact ⟨h 0 (by omega), h 1 (by omega), h 2 (by omega)⟩
theorem info_run : (Tryz.prog.info? 267).map (fun i => (i.zero, i.size, i.bytes)) = some (some (.agg #[.int .i64 0, .int .i64 0, .int .i64 0]), 3, 24) := by kernel_rfl
theorem runs_zero {c : Nat → Int} {k : Nat} (h : c k = 0) : runsK c (k + 1) = runsK c k := by rw [runsK, if_pos h]
theorem runs_bump {c : Nat → Int} {k : Nat} (h : c k ≠ 0) (h1 : 0 < k ∧ c (k - 1) = c k) : runsK c (k + 1) = bump (runsK c k) := by rw [runsK, if_neg h, if_pos h1]
theorem runs_new {c : Nat → Int} {k : Nat} (h : c k ≠ 0) (h1 : ¬ (0 < k ∧ c (k - 1) = c k)) : runsK c (k + 1) = runsK c k ++ [⟨k, 1, c k⟩] := by rw [runsK, if_neg h, if_neg h1]

set_option maxHeartbeats 4000000 in
set_option maxRecDepth 100000 in
theorem row_calls (f : Fc) (A : Option Addr) (c : Nat) (j : Int) (w : World) (hit : ItsOk w A f.items) (hf : fcB f = true) (hj : 0 ≤ j ∧ j < heiF f) :
    Calls Tryz.prog 175 #[.agg #[.int .i64 f.shape, .int .i64 f.size, .int .i64 f.height, .slice A f.items.length c], .int .i64 j] w fun e w' => Below w.heap.size w w' ∧ ∃ (A1 : Option Addr) (c1 : Nat), e = .returned (.slice A1 (runsK (rowI f j) f.size.toNat).length c1) ∧ Rd w' A1 (rns (runsK (rowI f j) f.size.toNat)) ∧ ∀ a, A1 = some a → w.heap.size ≤ a.block := by
  obtain ⟨s0, s1⟩ := size_bounds hf
  obtain ⟨j0, j1⟩ := hj
  have HFF := hid hf
  obtain ⟨sz, hsz⟩ : ∃ sz : Nat, sz = f.size.toNat := ⟨_, rfl⟩
  rw [← hsz]
  have HSZ := hid (show (sz : Int) = f.size by omega)
  have hsz0 : sz ≤ 200 := by omega
  have HF := hid (FaceAt.new w c hit)
  have HB := hid (below_alloc w (.cells #[.int .i64 f.shape, .int .i64 f.size, .int .i64 f.height, .slice A f.items.length c] 214))
  have HCOL := hid (fun i => colI_bounds hf i j)
  obtain ⟨i0, hi, hz0, hz1, hz2⟩ := info_partsd info_run
  clear hit hf hsz
  go_enter Tryz.func175, Tryz.ntmps175
  go_wp2_with fail
  generalize w.alloc (.cells #[.int .i64 f.shape, .int .i64 f.size, .int .i64 f.height, .slice A f.items.length c] 214) = W at *
  refine (extent_calls f A c W (by omega) (by omega)).mono ?_
  rintro e w1 ⟨rfl, hb1⟩
  have HF := hid ((unhid HF).below hb1)
  have HB := hid ((unhid HB).trans (hb1.mono (unhid HB).size))
  clear hb1
  go_wp2_with fail
  go_loopw [17, 5, 8] (fun iv v lv wr => ∃ (k : Nat) (la : Int), k ≤ sz ∧ iv = .int .i64 k ∧ lv = .int .i64 la ∧ (la = if k = 0 then 0 else rowI f j (k - 1)) ∧ wr.ownsRow w1.heap.size 267 3 v (runsK (rowI f j) k).length (rns (runsK (rowI f j) k)) ∧ Below w1.heap.size w1 wr) (fun iv _ _ _ => sz - (intOf iv).toNat)
  case atStart => exact ⟨0, 0, Nat.zero_le _, rfl, rfl, rfl, World.ownsRow_nil _ _ _ _, Below.refl _ _⟩
  case round =>
    obtain ⟨k, la, hk, rfl, rfl, hla, hown, hbel⟩ := hrel
    have HLA := hid hla
    have HOWN := hid hown
    have HBEL := hid hbel
    have HFr := hid ((unhid HF).below hbel)
    clear hla hown hbel
    by_cases hkl : k < sz
    · have hkf : (k : Int) < f.size := by have := unhid HSZ; omega
      obtain ⟨c0, c1, c2, c3⟩ := (unhid HFr).cells
      go_wp2_with fail
      refine (colour_calls f A c (k : Int) j wr (unhid HFr).ok (unhid HFF) ⟨Int.natCast_nonneg _, hkf⟩ ⟨j0, j1⟩).mono ?_
      rintro e w3 ⟨rfl, hb3⟩
      have HO3 := hid (own_belowd (unhid HOWN) hb3)
      have HB3 := hid ((unhid HBEL).trans (hb3.mono (unhid HBEL).size))
      clear hb3 c0 c1 c2 c3
      obtain ⟨ck, hck⟩ : ∃ ck : Int, ck = colI f (k : Int) j := ⟨_, rfl⟩
      have hcb := (unhid HCOL) (k : Int)
      rw [← hck] at hcb ⊢
      have HCK := hid (show rowI f j k = ck from hck.symm)
      clear hck
      have HL := hid (runs_last (rowI f j) k)
      have HN := hid (runs_len (rowI f j) k)
      by_cases hc0 : ck = 0
      · have HS := hid (runs_zero (c := rowI f j) (k := k) ((unhid HCK).trans hc0))
        have hcc : (ck == 0) = true := by simp [hc0]
        clear hc0
        go_wp2_with fail
        go_roundw
        case rel => exact ⟨k + 1, ck, by omega, by go_num, rfl, by rw [if_neg (by omega)]; exact (unhid HCK).symm, by rw [unhid HS]; exact unhid HO3, unhid HB3⟩
        case measure => simp [intOf]; omega
      · have hcc : (ck == 0) = false := by simp [hc0]
        by_cases hcl : ck = la
        · have hpos : 0 < k ∧ rowI f j (k - 1) = rowI f j k := by
            have h := unhid HLA
            have h2 := unhid HCK
            by_cases hk0 : k = 0
            · rw [if_pos hk0] at h; omega
            · rw [if_neg hk0] at h; exact ⟨by omega, by omega⟩
          obtain ⟨l, r, hl, hr1, hr2⟩ := (unhid HL).2 hpos.1 (by rw [hpos.2, unhid HCK]; exact hc0)
          obtain ⟨q0, q1, q2, -⟩ := (unhid HL).1 l r hl
          have HS := hid ((runs_bump (c := rowI f j) (k := k) (by rw [unhid HCK]; exact hc0) hpos).trans (by rw [hl, bump_snoc]))
          have hlb : (ck == la) = true := by simp [hcl]
          have hno := unhid HO3
          have hll := unhid HN
          rw [hl] at hno hll
          simp only [List.length_append, List.length_singleton] at hno hll
          obtain ⟨g, cap, rfl⟩ := own_someG hno (by omega)
          have m0 : w3.cell? ⟨g, l.length * 3 + 1, none⟩ = some (.int .i64 r.cnt) := own_cellG hno (rns_last l r).2.1
          have m1 : w3.frozen? ⟨g, l.length * 3 + 1, none⟩ = false := own_free hno _
          obtain ⟨y0, y0'⟩ := w64 (n := r.cnt + 1) (by omega) (by omega)
          have HNO := hid hno
          have hgb := (own_lt hno (g := g) rfl).1
          clear hno hl hr1 hr2 hpos hcl
          go_wp2_with fail
          go_roundw
          case rel =>
            refine ⟨k + 1, ck, by omega, by go_num, rfl, by rw [if_neg (by omega)]; exact (unhid HCK).symm, ?_, Below.setCell (unhid HB3) hgb _⟩
            rw [unhid HS, List.length_append, List.length_singleton, ← rns_set]
            exact own_setG (unhid HNO) _ _
          case measure => simp [intOf]; omega
        · have hneg : ¬ (0 < k ∧ rowI f j (k - 1) = rowI f j k) := fun h => hcl (by
            have h1 := unhid HLA
            rw [if_neg (by omega)] at h1
            have h2 := unhid HCK
            omega)
          have HS := hid (runs_new (c := rowI f j) (k := k) (by rw [unhid HCK]; exact hc0) hneg)
          rw [unhid HCK] at HS
          have hlb : (ck == la) = false := by simp [hcl]
          have hll := unhid HN
          clear hneg hcl
          go_wp2_with (at_builtin; refine wpList_append_own _ rfl _ _ 264 rfl w1.heap.size 267 i0 (.agg #[.int .i64 0, .int .i64 0, .int .i64 0]) 3 24 Tryz.underlying264 hi hz0 hz1 hz2 rfl (by decide) _ _ _ rfl ((unhid HO3).alloc _) ⟨w3.heap.size, 0, none⟩ 1 1 [.int .i64 k, .int .i64 1, .int .i64 ck] rfl rfl ?c1 ?c2 ?c3 ?c4 ?c5 ?_)
          case c1 => exact World.news_of_block (cs := #[.int .i64 k, .int .i64 1, .int .i64 ck]) (t := 267) (fr := (0, 0)) (by simpa using heap_alloc_new w3 (.cells #[.int .i64 k, .int .i64 1, .int .i64 ck] 267))
          case c2 => intro u hu; simp at hu; rcases hu with rfl | rfl | rfl <;> rfl
          case c3 => unfold maxLen; omega
          case c4 => omega
          case c5 => have := (unhid HB3).size; simp; omega
          intro v' w4 hown4 hg4 _
          have hb4 : Below w1.heap.size w1 w4 := by
            refine Below.grown ((unhid HB3).alloc (unhid HB3).size _) hg4 (by have := (unhid HB3).size; simp; omega) (fun i hi => ?_)
            rcases Nat.lt_or_ge i w1.heap.size with h | h
            · exact absurd hi (own_ne (unhid HO3) (Or.inl h))
            · exact h
          have HO4 := hid hown4
          clear hown4 hg4
          go_wp2_with fail
          go_roundw
          case rel => exact ⟨k + 1, ck, by omega, by go_num, rfl, by rw [if_neg (by omega)]; exact (unhid HCK).symm, by rw [unhid HS, rns_app, List.length_append, List.length_singleton]; exact unhid HO4, hb4⟩
          case measure => simp [intOf]; omega
    · obtain rfl : k = sz := by omega
      have hkf : ¬ (k : Int) < f.size := by have := unhid HSZ; omega
      obtain ⟨A1, c1, rfl, hrd, hob⟩ := own_slice (unhid HOWN)
      have HRD := hid hrd
      have HFR := hid (show ∀ a, A1 = some a → w.heap.size ≤ a.block from fun a ha => by
        subst ha
        have h1 := hob a.block rfl
        have h2 := (unhid HB).size
        omega)
      clear hrd hob
      go_wp2_with fail
      go_ret
      first | exact ⟨(unhid HB).trans ((unhid HBEL).mono (unhid HB).size), A1, ⟨c1, rfl⟩, unhid HRD, unhid HFR⟩ | exact ⟨(unhid HB).trans ((unhid HBEL).mono (unhid HB).size), A1, c1, rfl, unhid HRD, unhid HFR⟩
end

section
open Go.RowKit

def arrN (f : Fc) (n : Nat) : List Int := (List.range 10).map fun (v : Nat) => cntN f (v : Int) n
def areasL (f : Fc) : List Int := (List.range 10).map fun (v : Nat) => areaP f (v : Int)
theorem arrN_len (f : Fc) (n : Nat) : (arrN f n).length = 10 := by simp [arrN]
theorem areasL_len (f : Fc) : (areasL f).length = 10 := by simp [areasL]
theorem arrN_zero (f : Fc) : arrN f 0 = [0, 0, 0, 0, 0, 0, 0, 0, 0, 0] := by simp [arrN, cntN, List.range_succ]
theorem arrN_all {f : Fc} (h : fcB f = true) : arrN f (numD f) = areasL f := by
  obtain ⟨s0, s1⟩ := size_bounds h
  unfold arrN areasL areaP numD
  apply List.map_congr_left
  intro v _
  rw [Nat.mul_comm, cntN_rows f v (by omega)]
theorem cntN_bounds (f : Fc) (v : Int) (n : Nat) : 0 ≤ cntN f v n ∧ cntN f v n ≤ n := by
  induction n with
  | zero => simp [cntN]
  | succ n ih => unfold cntN; split <;> omega
theorem arrN_at (f : Fc) (n : Nat) {v : Nat} (h : v < 10) : (arrN f n)[v]? = some (cntN f (v : Int) n) := by simp [arrN, h]
theorem arrN_succ (f : Fc) (n : Nat) {v : Nat} (h : v < 10) (hv : dotK f f.items.length n = (v : Int)) : arrN f (n + 1) = (arrN f n).set v (cntN f (v : Int) n + 1) := by
  have hc : colI f ((n % f.size.toNat : Nat) : Int) ((n / f.size.toNat : Nat) : Int) = (v : Int) := hv
  have hs : ∀ u : Nat, cntN f (u : Int) (n + 1) = cntN f (u : Int) n + (if (v : Int) = (u : Int) then 1 else 0) := fun u => by rw [cntN, hc]
  apply List.ext_getElem?
  intro u
  rw [List.getElem?_set]
  by_cases e : v = u
  · subst e
    simp [arrN, h, hs]
  · rw [if_neg e]
    by_cases hu : u < 10
    · have : ¬ (v : Int) = (u : Int) := by omega
      simp only [arrN, List.getElem?_map, List.getElem?_range hu, Option.map_some, hs, if_neg this, Int.add_zero]
    · simp [arrN, hu]
theorem dot_bounds {f : Fc} (h : fcB f = true) (n : Nat) : 0 ≤ dotK f f.items.length n ∧ dotK f f.items.length n ≤ 9 := colI_bounds h _ _
theorem rowd_cell {w : World} {g : Nat} {L : List Int} {t : TypeId} (h : w.heap[g]? = some (.cells (ints L).toArray t (0, 0))) {b : Nat} {x : Int} (hb : L[b]? = some x) : w.cell? ⟨g, b, none⟩ = some (.int .i64 x) := by
  rw [cell_of_row _ _ _ _ _ _ h]
  simp [ints, hb]
theorem rowd_free {w : World} {g : Nat} {L : List Int} {t : TypeId} (h : w.heap[g]? = some (.cells (ints L).toArray t (0, 0))) (b : Nat) : w.frozen? ⟨g, b, none⟩ = false := by simp [World.frozen?, h]
theorem rowd_set {w : World} {g : Nat} {L : List Int} {t : TypeId} (h : w.heap[g]? = some (.cells (ints L).toArray t (0, 0))) (b : Nat) (x : Int) : (w.setCell ⟨g, b, none⟩ (.int .i64 x)).heap[g]? = some (.cells (ints (L.set b x)).toArray t (0, 0)) := by
  rw [block_set_same h]
  simp [ints, List.map_set]
theorem arr_size {L : List Int} (h : L.length = 10) : (Tryz.prog.info? 217).map (·.size) = some (ints L).toArray.size := by
  have e : (ints L).toArray.size = 10 := by simp [h]
  rw [e]
  show (Tryz.prog.info? 217).map (·.size) = some 10
  kernel_rfl
theorem arr_one (L : List Int) : (ints L).toArray.all (·.oneCell') = true := by
  simp [ints, Value.oneCell']

end

section
open Go.RowKit

theorem arrJ_zero (f : Fc) : arrJ f 0 = [0, 0, 0, 0, 0, 0, 0, 0, 0, 0] := by simp [arrJ, areaJ, List.range_succ]
theorem rowI_rowC (f : Fc) (j : Nat) : rowI f (j : Int) = rowC f j := rfl
theorem sums_bounds : ∀ l : List Rn, (∀ x ∈ l, 0 ≤ x.cnt ∧ x.cnt ≤ 200) → ∀ v, (0 ≤ sumV v l ∧ sumV v l ≤ 200 * l.length) ∧ 0 ≤ sumA l ∧ sumA l ≤ 200 * l.length
  | [], _, v => by simp [sumV, sumA]
  | r :: l, h, v => by
    have ih := sums_bounds l (fun x hx => h x (List.mem_cons_of_mem _ hx)) v
    have hr := h r List.mem_cons_self
    simp only [sumV, sumA, List.length_cons]
    split <;> omega
theorem rowV_bounds {f : Fc} (h : fcB f = true) {j : Nat} (hj : j ≤ 200) (r v : Nat) : -1000000 ≤ rowV f j r v ∧ rowV f j r v ≤ 1000000 := by
  obtain ⟨s0, s1⟩ := size_bounds h
  have hl := runs_len (rowC f j) f.size.toNat
  have he := (runs_ok (rowC f j) f.size.toNat).each
  have hs := sums_bounds ((runsK (rowC f j) f.size.toNat).take r) (fun x hx => by
    have := he x (List.mem_of_mem_take hx)
    omega) (v : Int)
  have hlen : ((runsK (rowC f j) f.size.toNat).take r).length ≤ 200 := by rw [List.length_take]; omega
  obtain ⟨a0, a1⟩ := areaJ_bounds f (v : Int) j
  obtain ⟨b0, b1⟩ := areaJ_bounds f 0 j
  have hm : (j : Int) * (f.size.toNat : Int) ≤ 200 * 200 := Int.mul_le_mul (by omega) (by omega) (by omega) (by omega)
  unfold rowV
  split <;> omega
theorem rd_setd {w : World} {A : Option Addr} {xs : List Value} {g : Nat} (h : Rd w A xs) (hf : ∀ a, A = some a → a.block ≠ g) (i : Nat) (u : Value) : Rd (w.setCell ⟨g, i, none⟩ u) A xs := fun hx => by
  obtain ⟨b, off, rfl, hb, hc⟩ := h hx
  have hfb := hf _ rfl
  dsimp only at hfb
  refine ⟨b, off, rfl, by simpa [World.setCell] using hb, fun j v hv => ?_⟩
  rw [← hc j v hv]
  exact World.cell?_of_block (block_set_other _ _ hfb)
theorem arrJ_areas (f : Fc) : arrJ f (heiF f).toNat = areasL f := rfl

set_option maxHeartbeats 4000000 in
set_option maxRecDepth 100000 in
theorem pareas_calls (f : Fc) (A : Option Addr) (c : Nat) (w : World) (hit : ItsOk w A f.items) (hf : fcB f = true) :
    Calls Tryz.prog 118 #[.agg #[.int .i64 f.shape, .int .i64 f.size, .int .i64 f.height, .slice A f.items.length c]] w fun e w' => e = .returned (.tuple #[.agg (ints (areasL f)).toArray, .int .i64 0]) ∧ Below w.heap.size w w' := by
  obtain ⟨s0, s1⟩ := size_bounds hf
  obtain ⟨h0, h1⟩ := heiF_bounds hf
  have HFF := hid hf
  obtain ⟨hh, hhh⟩ : ∃ hh : Nat, hh = (heiF f).toNat := ⟨_, rfl⟩
  have hh0 : 1 ≤ hh ∧ hh ≤ 200 := by omega
  have HHH := hid (show (hh : Int) = heiF f by omega)
  have HAR := hid (show arrJ f hh = areasL f by rw [hhh]; rfl)
  have HVB := hid (fun (j : Nat) (hj : j ≤ 200) => rowV_bounds hf hj)
  have HJB := hid (fun (j : Nat) => areaJ_bounds f 0 j)
  have HF := hid ((FaceAt.new w c hit).below (below_alloc _ (.cells #[.int .i64 0, .int .i64 0, .int .i64 0, .int .i64 0, .int .i64 0, .int .i64 0, .int .i64 0, .int .i64 0, .int .i64 0, .int .i64 0] 217)))
  have hRn : ((w.alloc (.cells #[.int .i64 f.shape, .int .i64 f.size, .int .i64 f.height, .slice A f.items.length c] 214)).alloc (.cells #[.int .i64 0, .int .i64 0, .int .i64 0, .int .i64 0, .int .i64 0, .int .i64 0, .int .i64 0, .int .i64 0, .int .i64 0, .int .i64 0] 217)).heap[w.heap.size + 1]? = some (.cells #[.int .i64 0, .int .i64 0, .int .i64 0, .int .i64 0, .int .i64 0, .int .i64 0, .int .i64 0, .int .i64 0, .int .i64 0, .int .i64 0] 217 (0, 0)) := by
    have h := heap_alloc_new (w.alloc (.cells #[.int .i64 f.shape, .int .i64 f.size, .int .i64 f.height, .slice A f.items.length c] 214)) (.cells #[.int .i64 0, .int .i64 0, .int .i64 0, .int .i64 0, .int .i64 0, .int .i64 0, .int .i64 0, .int .i64 0, .int .i64 0, .int .i64 0] 217)
    simpa using h
  have HR := hid hRn
  have HB := hid (below_alloc' (below_alloc w (.cells #[.int .i64 f.shape, .int .i64 f.size, .int .i64 f.height, .slice A f.items.length c] 214)) (.cells #[.int .i64 0, .int .i64 0, .int .i64 0, .int .i64 0, .int .i64 0, .int .i64 0, .int .i64 0, .int .i64 0, .int .i64 0, .int .i64 0] 217))
  clear hit hf hhh hRn
  go_enter Tryz.func118, Tryz.ntmps118
  go_wp2_with fail
  generalize (w.alloc (.cells #[.int .i64 f.shape, .int .i64 f.size, .int .i64 f.height, .slice A f.items.length c] 214)).alloc (.cells #[.int .i64 0, .int .i64 0, .int .i64 0, .int .i64 0, .int .i64 0, .int .i64 0, .int .i64 0, .int .i64 0, .int .i64 0, .int .i64 0] 217) = W at *
  refine (valid_calls f A c W (unhid HF).ok).mono ?_
  rintro e wa ⟨rfl, hba⟩
  rw [unhid HFF]
  have HF := hid ((unhid HF).below hba)
  have hRl := (Array.getElem?_eq_some_iff.1 (unhid HR)).1
  have HR := hid ((hba.block _ hRl).trans (unhid HR))
  have HB := hid ((unhid HB).trans (hba.mono (unhid HB).size))
  have hR1 : w.heap.size + 1 < wa.heap.size := Nat.lt_of_lt_of_le hRl hba.size
  clear hba hRl
  obtain ⟨B, hBB⟩ : ∃ B, B = w.heap.size := ⟨_, rfl⟩
  rw [← hBB] at HF HR hR1 ⊢
  have HBB := hid hBB
  clear hBB
  have e0 : (ints (arrJ f 0)).toArray = #[Value.int .i64 0, .int .i64 0, .int .i64 0, .int .i64 0, .int .i64 0, .int .i64 0, .int .i64 0, .int .i64 0, .int .i64 0, .int .i64 0] := by rw [arrJ_zero]; rfl
  have hO : (wa.alloc (.cells #[.int .i64 0, .int .i64 0, .int .i64 0, .int .i64 0, .int .i64 0, .int .i64 0, .int .i64 0, .int .i64 0, .int .i64 0, .int .i64 0] 217)).heap[wa.heap.size]? = some (.cells (ints (arrJ f 0)).toArray 217 (0, 0)) := by rw [e0]; exact heap_alloc_new wa _
  have HO := hid hO
  have HBO := hid (below_alloc wa (.cells #[.int .i64 0, .int .i64 0, .int .i64 0, .int .i64 0, .int .i64 0, .int .i64 0, .int .i64 0, .int .i64 0, .int .i64 0, .int .i64 0] 217))
  clear hO e0
  go_upto_region 4 with (fail)
  generalize wa.alloc (.cells #[.int .i64 0, .int .i64 0, .int .i64 0, .int .i64 0, .int .i64 0, .int .i64 0, .int .i64 0, .int .i64 0, .int .i64 0, .int .i64 0] 217) = W1 at *
  have HF1 := hid ((unhid HF).below (unhid HBO))
  obtain ⟨c0, c1, c2, c3⟩ := (unhid HF1).cells
  go_wp2_with fail
  refine (extent_calls f A c W1 (by omega) (by omega)).mono ?_
  rintro e wb ⟨rfl, hbb⟩
  have HO := hid ((hbb.block _ (Array.getElem?_eq_some_iff.1 (unhid HO)).1).trans (unhid HO))
  have HBO := hid ((unhid HBO).trans (hbb.mono (unhid HBO).size))
  clear hbb c0 c1 c2 c3
  obtain ⟨O, hOO⟩ : ∃ O, O = wa.heap.size := ⟨_, rfl⟩
  rw [← hOO] at HO HBO hR1 ⊢
  have HOO := hid hOO
  clear hOO
  go_wp2_with fail
  go_loopw [20] (fun jv wr => ∃ j : Nat, j ≤ hh ∧ jv = .int .i64 j ∧ wr.heap[O]? = some (.cells (ints (arrJ f j)).toArray 217 (0, 0)) ∧ Below O wa wr) (fun jv _ => hh - (intOf jv).toNat)
  case atStart => exact ⟨0, Nat.zero_le _, rfl, unhid HO, unhid HBO⟩
  case round =>
    obtain ⟨j, hj, rfl, ho, hbel⟩ := hrel
    have HO2 := hid ho
    have HBL := hid hbel
    clear ho hbel
    by_cases hjl : j < hh
    · have hjh : (j : Int) < heiF f := by have := unhid HHH; omega
      have m0 := rowd_cell (unhid HO2) (arrJ_at f j (v := 0) (by omega))
      have m1 := rowd_free (unhid HO2) 0
      have hjb := (unhid HJB) j
      have hjm : (j : Int) * (f.size.toNat : Int) ≤ 200 * 200 := Int.mul_le_mul (by omega) (by omega) (by omega) (by omega)
      simp only [Int.natCast_zero] at m0
      obtain ⟨y0, y0'⟩ := w64 (n := areaJ f 0 j + f.size) (by omega) (by omega)
      go_upto_region 9 with (fail)
      have HO3 := hid (show (wr.setCell ⟨O, 0, none⟩ (.int .i64 (areaJ f 0 j + f.size))).heap[O]? = some (.cells (ints (rowS f j 0)).toArray 217 (0, 0)) by rw [rowS_start]; exact rowd_set (unhid HO2) _ _)
      have HB3 := hid (show Below O wa (wr.setCell ⟨O, 0, none⟩ (.int .i64 (areaJ f 0 j + f.size))) from Below.setCell (unhid HBL) (Nat.le_refl _) _)
      generalize wr.setCell ⟨O, 0, none⟩ (.int .i64 (areaJ f 0 j + f.size)) = W3 at *
      clear m0 m1 y0 y0'
      have HF3 := hid ((unhid HF).below (show Below wa.heap.size wa W3 by rw [← unhid HOO]; exact unhid HB3))
      obtain ⟨c0, c1, c2, c3⟩ := (unhid HF3).cells
      go_wp2_with fail
      refine (row_calls f A c (j : Int) W3 (unhid HF3).ok (unhid HFF) ⟨Int.natCast_nonneg _, hjh⟩).mono ?_
      rintro e w4 ⟨hb4, A1, k1, rfl, hr1, hfr⟩
      have hOl := (Array.getElem?_eq_some_iff.1 (unhid HO3)).1
      have HO4 := hid ((hb4.block O hOl).trans (unhid HO3))
      have HB4 := hid ((unhid HB3).trans (hb4.mono (Nat.le_of_lt hOl)))
      have HR1 := hid hr1
      have HFR := hid (show ∀ a, A1 = some a → O < a.block from fun a ha => Nat.lt_of_lt_of_le hOl (hfr a ha))
      clear hb4 hr1 hfr c0 c1 c2 c3 hOl
      rw [rowI_rowC] at HR1 ⊢
      have HEACH := hid (runs_ok (rowC f j) f.size.toNat).each
      have HNX := hid (fun (r cv : Nat) (hr : r < (runsK (rowC f j) f.size.toNat).length) (h1 : 1 ≤ cv) (h9 : cv < 10) hc => rowS_next (f := f) (j := j) hr h1 h9 hc)
      have HEND := hid (rowS_end (unhid HFF) j)
      have HCB := hid (fun i => colI_bounds (unhid HFF) i (j : Int))
      have hrl := runs_len (rowC f j) f.size.toNat
      obtain ⟨R, hR⟩ : ∃ R, R = runsK (rowC f j) f.size.toNat := ⟨_, rfl⟩
      have HRR := hid hR
      rw [← hR] at HR1 HEACH hrl HEND ⊢
      clear hR
      go_wp2_with fail
      go_loopw [32] (fun rv wr => ∃ r : Nat, r ≤ R.length ∧ rv = .int .i64 r ∧ wr.heap[O]? = some (.cells (ints (rowS f j r)).toArray 217 (0, 0)) ∧ Rd wr A1 (rns R) ∧ Below O wa wr) (fun rv _ => R.length - (intOf rv).toNat)
      case atStart => exact ⟨0, Nat.zero_le _, rfl, unhid HO4, unhid HR1, unhid HB4⟩
      case round =>
        obtain ⟨r, hr, rfl, ho, hrd, hbel⟩ := hrel
        have HO5 := hid ho
        have HR5 := hid hrd
        have HB5 := hid hbel
        clear ho hrd hbel
        by_cases hrl2 : r < R.length
        · obtain ⟨b, off, rfl, hb, hc⟩ := (unhid HR5) (rns_ne hrl2)
          obtain ⟨d0, d1, d2⟩ := rns_cells hc hrl2
          have hex := (unhid HEACH) R[r] (List.getElem_mem hrl2)
          have HXX := hid (show ∀ h : r < (runsK (rowC f j) f.size.toNat).length, (runsK (rowC f j) f.size.toNat)[r] = R[r] from fun h => by simp [unhid HRR])
          have hbO := (unhid HFR) _ rfl
          dsimp only at hbO
          obtain ⟨x, hx⟩ : ∃ x, x = R[r] := ⟨_, rfl⟩
          rw [← hx] at d0 d1 d2 hex HXX
          clear hx hc
          obtain ⟨ex0, ex1, ex2, ex3⟩ := hex
          obtain ⟨fi, hfi⟩ := Int.eq_ofNat_of_zero_le ex0
          obtain ⟨ec1, ec2⟩ := ex3 fi (by omega) (by omega)
          have hcb := (unhid HCB) (fi : Int)
          have hcol : 1 ≤ x.col ∧ x.col ≤ 9 := by
            have e : rowC f j fi = colI f (fi : Int) (j : Int) := rfl
            omega
          obtain ⟨cv, hcv⟩ := Int.eq_ofNat_of_zero_le (show 0 ≤ x.col by omega)
          have hcv9 : 1 ≤ cv ∧ cv < 10 := by omega
          have hrl3 : r < (runsK (rowC f j) f.size.toNat).length := by rw [← unhid HRR]; exact hrl2
          have hnext := (unhid HNX) r cv hrl3 hcv9.1 hcv9.2 (by rw [(unhid HXX) hrl3]; exact hcv)
          rw [(unhid HXX) hrl3] at hnext
          have HNEXT := hid hnext
          have vb0 := (unhid HVB) j (by omega) r 0
          have vb1 := (unhid HVB) j (by omega) r cv
          have hOl := (Array.getElem?_eq_some_iff.1 (unhid HO5)).1
          have hcv10 : (cv : Int) < 10 := by omega
          rw [hcv] at d2
          have hcn : 1 ≤ x.cnt ∧ x.cnt ≤ 1000 := by omega
          clear hnext ex0 ex3 ec1 ec2 hcb hcol hfi
          obtain ⟨p, hp⟩ : ∃ p, p = rowV f j r cv := ⟨_, rfl⟩
          obtain ⟨q, hq⟩ : ∃ q, q = rowV f j r 0 := ⟨_, rfl⟩
          have hat1 := rowS_at f j r (v := cv) hcv9.2
          have hat0 := rowS_at f j r (v := 0) (by omega)
          rw [← hp] at vb1 hat1 HNEXT
          rw [← hq] at vb0 hat0 HNEXT
          clear hp hq
          obtain ⟨y0, y0'⟩ := w64 (n := p + x.cnt) (by omega) (by omega)
          obtain ⟨y1, y1'⟩ := w64 (n := q - x.cnt) (by omega) (by omega)
          have HCV := hid hcv
          clear hcv
          obtain ⟨fr, cnt, col⟩ := x
          dsimp only at *
          have hsub : col = (cv : Int) := unhid HCV
          go_upto_region 12 with (fail)
          have hbn := below_alloc wr (.cells #[.int .i64 fr, .int .i64 cnt, .int .i64 cv] 267)
          have HO6 := hid ((hbn.block O hOl).trans (unhid HO5))
          have HR6 := hid ((unhid HR5).below hbn)
          have HB6 := hid ((unhid HB5).trans (hbn.mono (Nat.le_of_lt hOl)))
          have HE6 := hid (heap_alloc_new wr (.cells #[.int .i64 fr, .int .i64 cnt, .int .i64 cv] 267))
          have hEO : O < wr.heap.size := hOl
          generalize wr.alloc (.cells #[.int .i64 fr, .int .i64 cnt, .int .i64 cv] 267) = W6 at *
          generalize wr.heap.size = E at *
          have g1 := cell_of_row _ E 1 _ _ _ (unhid HE6)
          have g2 := cell_of_row _ E 2 _ _ _ (unhid HE6)
          simp at g1 g2
          have m0 := rowd_cell (unhid HO6) hat1
          have m1 := rowd_free (unhid HO6) cv
          clear hbn d0 d1 d2 hb
          refine wp_region_noPanic ?_
          refine wp_region_E (S := fun w' => w'.cell? ⟨E, 2, none⟩ = some (.int .i64 cv) ∧ w'.cell? ⟨E, 1, none⟩ = some (.int .i64 cnt) ∧ w'.cell? ⟨O, cv, none⟩ = some (.int .i64 p)) 8 9 rfl (by kernel_rfl) (by kernel_rfl) ⟨g2, g1, m0⟩ ?_
          intro hSE
          (refine WE_take (i := 0) (v := ?_) rfl (by kernel_rfl) (by decide) (by kernel_rfl) (by kernel_rfl) (fun _ _ _ h => h) (by rfl) hSE ?_ ?_; rotate_left; (focus (intro w hSw; (try dsimp only at hSw); go_simp; (try with_reducible rfl))); simp only [Act.put, List.setIfInBounds_toArray, List.set_cons_zero, List.set_cons_succ])
          (refine WE_take (i := 1) (v := ?_) rfl (by kernel_rfl) (by decide) (by kernel_rfl) (by kernel_rfl) (fun _ _ _ h => h) (by rfl) hSE ?_ ?_; rotate_left; (focus (intro w hSw; (try dsimp only at hSw); go_simp; (try with_reducible rfl))); simp only [Act.put, List.setIfInBounds_toArray, List.set_cons_zero, List.set_cons_succ])
          (refine WE_take (i := 2) (v := ?_) rfl (by kernel_rfl) (by decide) (by kernel_rfl) (by kernel_rfl) (fun _ _ _ h => h) (by rfl) hSE ?_ ?_; rotate_left; (focus (intro w hSw; (try dsimp only at hSw); go_simp; (try with_reducible rfl))); simp only [Act.put, List.setIfInBounds_toArray, List.set_cons_zero, List.set_cons_succ])
          (refine WE_take (i := 3) (v := ?_) rfl (by kernel_rfl) (by decide) (by kernel_rfl) (by kernel_rfl) (fun _ _ _ h => h) (by rfl) hSE ?_ ?_; rotate_left; (focus (intro w hSw; (try dsimp only at hSw); go_simp; (try with_reducible rfl))); simp only [Act.put, List.setIfInBounds_toArray, List.set_cons_zero, List.set_cons_succ])
          (refine WE_take (i := 4) (v := ?_) rfl (by kernel_rfl) (by decide) (by kernel_rfl) (by kernel_rfl) (fun _ _ _ h => h) (by rfl) hSE ?_ ?_; rotate_left; (focus (intro w hSw; (try dsimp only at hSw); go_simp; (try with_reducible rfl))); simp only [Act.put, List.setIfInBounds_toArray, List.set_cons_zero, List.set_cons_succ])
          (refine WE_take (i := 5) (v := ?_) rfl (by kernel_rfl) (by decide) (by kernel_rfl) (by kernel_rfl) (fun _ _ _ h => h) (by rfl) hSE ?_ ?_; rotate_left; (focus (intro w hSw; (try dsimp only at hSw); go_simp; (try with_reducible rfl))); simp only [Act.put, List.setIfInBounds_toArray, List.set_cons_zero, List.set_cons_succ])
          (refine WE_take (i := 6) (v := ?_) rfl (by kernel_rfl) (by decide) (by kernel_rfl) (by kernel_rfl) (fun _ _ _ h => h) (by rfl) hSE ?_ ?_; rotate_left; (focus (intro w hSw; (try dsimp only at hSw); go_simp; (try with_reducible rfl))); simp only [Act.put, List.setIfInBounds_toArray, List.set_cons_zero, List.set_cons_succ])
          (refine WE_take (i := 7) (v := ?_) rfl (by kernel_rfl) (by decide) (by kernel_rfl) (by kernel_rfl) (fun _ _ _ h => h) (by rfl) hSE ?_ ?_; rotate_left; (focus (intro w hSw; (try dsimp only at hSw); go_simp; (try with_reducible rfl))); simp only [Act.put, List.setIfInBounds_toArray, List.set_cons_zero, List.set_cons_succ])
          (refine WE_last rfl (by kernel_rfl) (by kernel_rfl) (by kernel_rfl) ?_; intro K hK; go_simp; refine hK.out _ _ (NoPanic.normal ?_); clear hK K)
          have HO7 := hid (show ((W6.setCell ⟨O, cv, none⟩ (.int .i64 (p + cnt))).drew).heap[O]? = some (.cells (ints ((rowS f j r).set cv (p + cnt))).toArray 217 (0, 0)) from rowd_set (unhid HO6) _ _)
          have hE7 : ((W6.setCell ⟨O, cv, none⟩ (.int .i64 (p + cnt))).drew).heap[E]? = some (.cells #[.int .i64 fr, .int .i64 cnt, .int .i64 cv] 267 (0, 0)) := (heap_setCell_other _ _ _ _ (by dsimp only; omega)).trans (unhid HE6)
          have HR7 := hid (show Rd ((W6.setCell ⟨O, cv, none⟩ (.int .i64 (p + cnt))).drew) (some ⟨b, off, none⟩) (rns R) from rd_setd (unhid HR6) (fun a ha => by cases ha; dsimp only; omega) cv _)
          have HB7 := hid (show Below O wa ((W6.setCell ⟨O, cv, none⟩ (.int .i64 (p + cnt))).drew) from Below.drew (Below.setCell (unhid HB6) (Nat.le_refl _) _))
          generalize (W6.setCell ⟨O, cv, none⟩ (.int .i64 (p + cnt))).drew = W7 at *
          have k1' := cell_of_row _ E 1 _ _ _ hE7
          simp at k1'
          have m2 := rowd_cell (unhid HO7) (b := 0) (x := q) (by rw [List.getElem?_set_ne (by omega)]; exact hat0)
          have m3 := rowd_free (unhid HO7) 0
          clear g1 g2 m0 m1 hE7
          go_wp2_with fail
          go_roundw
          case rel =>
            refine ⟨r + 1, by omega, by go_num, ?_, rd_setd (unhid HR7) (fun a ha => by cases ha; dsimp only; omega) 0 _, Below.setCell (unhid HB7) (Nat.le_refl _) _⟩
            rw [unhid HNEXT]
            exact rowd_set (unhid HO7) _ _
          case measure => simp [intOf]; omega
        · obtain rfl : r = R.length := by omega
          go_wp2_with fail
          go_roundw
          case rel => exact ⟨j + 1, by omega, by go_num, by rw [← unhid HEND]; exact unhid HO5, unhid HB5⟩
          case measure => simp [intOf]; omega
    · obtain rfl : j = hh := by omega
      have hjn : ¬ (j : Int) < heiF f := by have := unhid HHH; omega
      have HR9 := hid (((unhid HBL).block (B + 1) hR1).trans (unhid HR))
      have ho := unhid HO2
      rw [unhid HAR] at ho
      have HO3 := hid ho
      clear ho
      go_wp2_with (first | (refine wpList_load_row rfl 217 (.tmp 4) rfl O rfl 217 (ints (areasL f)).toArray (0, 0) _ (unhid HO3) Tryz.underlying217 rfl (arr_size (areasL_len f)) ?_) | (refine wpList_store_row rfl 217 (.tmp 2) (.tmp 52) rfl (B + 1) (ints (areasL f)).toArray rfl rfl 217 _ (unhid HR9) (arr_size (areasL_len f)) (by simp [areasL_len]) (arr_one _) ?_))
      (try simp only [Exit.inBlock, Exit.then])
      refine bodyPost_ret_by (v := .tuple #[.agg (ints (areasL f)).toArray, .int .i64 0]) (results_cell_row_tmp Tryz.results118 _ _ (B + 1) 217 (ints (areasL f)).toArray (0, 0) _ _ rfl rfl (setRow_heap _ _ _ _ _ _ (unhid HR9)) Tryz.underlying217 rfl (arr_size (areasL_len f))) rfl ?_
      exact ⟨rfl, below_setRow ((unhid HB).trans ((unhid HBL).mono (by have := unhid HBB; have := unhid HOO; omega))) (by have := unhid HBB; omega) _⟩
end

section
open Go.RowKit

theorem screensK_len (f : Fc) : ∀ k, (screensK f k).length ≤ k
  | 0 => Nat.le_refl _
  | k + 1 => by
    have := screensK_len f k
    unfold screensK
    split
    · simp; omega
    · omega
theorem areasL_at (f : Fc) {v : Nat} (h : v < 10) : (areasL f)[v]? = some (areaP f (v : Int)) := by simp [areasL, h]

end

section
open Go.RowKit

theorem z10_one : (#[Value.int .i64 0, .int .i64 0, .int .i64 0, .int .i64 0, .int .i64 0, .int .i64 0, .int .i64 0, .int .i64 0, .int .i64 0, .int .i64 0] : Array Value).all (·.oneCell') = true := by kernel_rfl
theorem z10_size : (Tryz.prog.info? 217).map (·.size) = some (#[Value.int .i64 0, .int .i64 0, .int .i64 0, .int .i64 0, .int .i64 0, .int .i64 0, .int .i64 0, .int .i64 0, .int .i64 0, .int .i64 0] : Array Value).size := by
  show _ = some 10
  kernel_rfl

set_option maxHeartbeats 2000000 in
set_option maxRecDepth 100000 in
theorem pareas_no (f : Fc) (A : Option Addr) (c : Nat) (w : World) (hit : ItsOk w A f.items) (hf : fcB f = false) :
    Calls Tryz.prog 118 #[.agg #[.int .i64 f.shape, .int .i64 f.size, .int .i64 f.height, .slice A f.items.length c]] w fun e w' => e = .returned (.tuple #[.agg #[.int .i64 0, .int .i64 0, .int .i64 0, .int .i64 0, .int .i64 0, .int .i64 0, .int .i64 0, .int .i64 0, .int .i64 0, .int .i64 0], .int .i64 10]) ∧ Below w.heap.size w w' := by
  have HFF := hid hf
  have HF := hid ((FaceAt.new w c hit).below (below_alloc _ (.cells #[.int .i64 0, .int .i64 0, .int .i64 0, .int .i64 0, .int .i64 0, .int .i64 0, .int .i64 0, .int .i64 0, .int .i64 0, .int .i64 0] 217)))
  have hRn : ((w.alloc (.cells #[.int .i64 f.shape, .int .i64 f.size, .int .i64 f.height, .slice A f.items.length c] 214)).alloc (.cells #[.int .i64 0, .int .i64 0, .int .i64 0, .int .i64 0, .int .i64 0, .int .i64 0, .int .i64 0, .int .i64 0, .int .i64 0, .int .i64 0] 217)).heap[w.heap.size + 1]? = some (.cells #[.int .i64 0, .int .i64 0, .int .i64 0, .int .i64 0, .int .i64 0, .int .i64 0, .int .i64 0, .int .i64 0, .int .i64 0, .int .i64 0] 217 (0, 0)) := by
    have h := heap_alloc_new (w.alloc (.cells #[.int .i64 f.shape, .int .i64 f.size, .int .i64 f.height, .slice A f.items.length c] 214)) (.cells #[.int .i64 0, .int .i64 0, .int .i64 0, .int .i64 0, .int .i64 0, .int .i64 0, .int .i64 0, .int .i64 0, .int .i64 0, .int .i64 0] 217)
    simpa using h
  have HR := hid hRn
  have HB := hid (below_alloc' (below_alloc w (.cells #[.int .i64 f.shape, .int .i64 f.size, .int .i64 f.height, .slice A f.items.length c] 214)) (.cells #[.int .i64 0, .int .i64 0, .int .i64 0, .int .i64 0, .int .i64 0, .int .i64 0, .int .i64 0, .int .i64 0, .int .i64 0, .int .i64 0] 217))
  clear hit hf hRn
  go_enter Tryz.func118, Tryz.ntmps118
  go_wp2_with fail
  generalize (w.alloc (.cells #[.int .i64 f.shape, .int .i64 f.size, .int .i64 f.height, .slice A f.items.length c] 214)).alloc (.cells #[.int .i64 0, .int .i64 0, .int .i64 0, .int .i64 0, .int .i64 0, .int .i64 0, .int .i64 0, .int .i64 0, .int .i64 0, .int .i64 0] 217) = W at *
  refine (valid_calls f A c W (unhid HF).ok).mono ?_
  rintro e wa ⟨rfl, hba⟩
  rw [unhid HFF]
  have HR := hid ((hba.block _ (Array.getElem?_eq_some_iff.1 (unhid HR)).1).trans (unhid HR))
  have HB := hid ((unhid HB).trans (hba.mono (unhid HB).size))
  clear hba HF
  go_wp2_with (refine wpList_store_row rfl 217 (.tmp 2) (.tmp 13) rfl (w.heap.size + 1) #[.int .i64 0, .int .i64 0, .int .i64 0, .int .i64 0, .int .i64 0, .int .i64 0, .int .i64 0, .int .i64 0, .int .i64 0, .int .i64 0] rfl rfl 217 _ (unhid HR) z10_size rfl z10_one ?_)
  (try simp only [Exit.inBlock, Exit.then])
  refine bodyPost_ret_by (v := .tuple #[.agg #[.int .i64 0, .int .i64 0, .int .i64 0, .int .i64 0, .int .i64 0, .int .i64 0, .int .i64 0, .int .i64 0, .int .i64 0, .int .i64 0], .int .i64 10]) (results_cell_row_tmp Tryz.results118 _ _ (w.heap.size + 1) 217 #[.int .i64 0, .int .i64 0, .int .i64 0, .int .i64 0, .int .i64 0, .int .i64 0, .int .i64 0, .int .i64 0, .int .i64 0, .int .i64 0] (0, 0) _ _ rfl rfl (setRow_heap _ _ _ _ _ _ (unhid HR)) Tryz.underlying217 rfl z10_size) rfl ?_
  exact ⟨rfl, below_setRow (unhid HB) (by omega) _⟩

set_option maxHeartbeats 2000000 in
set_option maxRecDepth 100000 in
theorem pscreens_no (f : Fc) (A : Option Addr) (c : Nat) (w : World) (hit : ItsOk w A f.items) (hf : fcB f = false) :
    Calls Tryz.prog 119 #[.agg #[.int .i64 f.shape, .int .i64 f.size, .int .i64 f.height, .slice A f.items.length c]] w fun e w' => e = .returned (.tuple #[.slice none 0 0, .int .i64 10]) ∧ Below w.heap.size w w' := by
  have HFF := hid hf
  have HF := hid (FaceAt.new w c hit)
  have HB := hid (below_alloc w (.cells #[.int .i64 f.shape, .int .i64 f.size, .int .i64 f.height, .slice A f.items.length c] 214))
  clear hit hf
  go_enter Tryz.func119, Tryz.ntmps119
  go_wp2_with fail
  generalize w.alloc (.cells #[.int .i64 f.shape, .int .i64 f.size, .int .i64 f.height, .slice A f.items.length c] 214) = W at *
  refine (pareas_no f A c W (unhid HF).ok (unhid HFF)).mono ?_
  rintro e w1 ⟨rfl, hb⟩
  have HB1 := hid ((unhid HB).trans (hb.mono (unhid HB).size))
  clear hb HB HF
  go_wp2_with fail
  go_ret2
  exact ⟨rfl, below_alloc' (unhid HB1) _⟩

set_option maxHeartbeats 4000000 in
set_option maxRecDepth 100000 in
theorem pscreens_calls (f : Fc) (A : Option Addr) (c : Nat) (w : World) (hit : ItsOk w A f.items) (hf : fcB f = true) :
    Calls Tryz.prog 119 #[.agg #[.int .i64 f.shape, .int .i64 f.size, .int .i64 f.height, .slice A f.items.length c]] w fun e w' => Below w.heap.size w w' ∧ ∃ (A3 : Option Addr) (c3 : Nat), e = .returned (.tuple #[.slice A3 (screensK f 8).length c3, .int .i64 0]) ∧ Rd w' A3 (ints (screensK f 8)) := by
  have HFF := hid hf
  obtain ⟨i0, hi, hz0, hz1, hz2⟩ := info_partsd info_i64d
  have HF := hid (FaceAt.new w c hit)
  have HB := hid (below_alloc w (.cells #[.int .i64 f.shape, .int .i64 f.size, .int .i64 f.height, .slice A f.items.length c] 214))
  clear hit hf
  go_enter Tryz.func119, Tryz.ntmps119
  go_wp2_with fail
  generalize w.alloc (.cells #[.int .i64 f.shape, .int .i64 f.size, .int .i64 f.height, .slice A f.items.length c] 214) = W at *
  refine (pareas_calls f A c W (unhid HF).ok (unhid HFF)).mono ?_
  rintro e w1 ⟨rfl, hb1⟩
  have HB1 := hid ((unhid HB).trans (hb1.mono (unhid HB).size))
  clear hb1
  have hz : (w1.alloc (.cells #[.int .i64 0, .int .i64 0, .int .i64 0, .int .i64 0, .int .i64 0, .int .i64 0, .int .i64 0, .int .i64 0, .int .i64 0, .int .i64 0] 217)).heap[w1.heap.size]? = some (.cells #[.int .i64 0, .int .i64 0, .int .i64 0, .int .i64 0, .int .i64 0, .int .i64 0, .int .i64 0, .int .i64 0, .int .i64 0, .int .i64 0] 217 (0, 0)) := heap_alloc_new _ _
  have HZ := hid hz
  have HBA := hid (below_alloc w1 (.cells #[.int .i64 0, .int .i64 0, .int .i64 0, .int .i64 0, .int .i64 0, .int .i64 0, .int .i64 0, .int .i64 0, .int .i64 0, .int .i64 0] 217))
  clear hz
  go_wp2_with (refine wpList_store_row rfl 217 (.tmp 4) (.tmp 11) rfl w1.heap.size (ints (areasL f)).toArray rfl rfl 217 _ (unhid HZ) (arr_size (areasL_len f)) (by simp [areasL_len]) (arr_one _) ?_)
  have HD := hid (setRow_heap _ _ _ (ints (areasL f)).toArray _ _ (unhid HZ))
  have HBW := hid (below_setRow ((unhid HB1).trans ((unhid HBA).mono (unhid HB1).size)) (unhid HB1).size (ints (areasL f)).toArray)
  generalize World.setRow _ w1.heap.size (ints (areasL f)).toArray = Wb at *
  generalize w1.heap.size = D at *
  clear HZ HBA
  go_wp2_with fail
  go_loopw [7, 6] (fun cvv v wr => ∃ q : Nat, 1 ≤ q ∧ q ≤ 9 ∧ cvv = .int .i64 q ∧ wr.ownsRow Wb.heap.size 3 1 v (screensK f (q - 1)).length (ints (screensK f (q - 1))) ∧ Below Wb.heap.size Wb wr) (fun cvv _ _ => 10 - (intOf cvv).toNat)
  case atStart => exact ⟨1, by omega, by omega, rfl, World.ownsRow_nil _ _ _ _, Below.refl _ _⟩
  case round =>
    obtain ⟨q, hq1, hq2, rfl, hown, hbel⟩ := hrel
    have HOWN := hid hown
    have HBEL := hid hbel
    have hd := (hbel.block D (Array.getElem?_eq_some_iff.1 (unhid HD)).1).trans (unhid HD)
    clear hown hbel
    by_cases hq : q < 9
    · have m0 := rowd_cell hd (areasL_at f (v := q) (by omega))
      have HLN := hid (screensK_len f (q - 1))
      have hsl := screensK_len f (q - 1)
      have hq8 : (q : Int) ≤ 8 := by omega
      have hq10 : (q : Int) < 10 := by omega
      obtain ⟨p, hp⟩ : ∃ p, q = p + 1 := ⟨q - 1, by omega⟩
      have HSY := hid (show 0 < areaP f (q : Int) → screensK f (q + 1 - 1) = screensK f (q - 1) ++ [(q : Int)] from fun h => by
        subst hp
        simp only [Nat.add_sub_cancel]
        rw [screensK, if_pos h])
      have HSN := hid (show ¬ 0 < areaP f (q : Int) → screensK f (q + 1 - 1) = screensK f (q - 1) from fun h => by
        subst hp
        simp only [Nat.add_sub_cancel]
        rw [screensK, if_neg h])
      clear hd hp
      generalize areaP f (q : Int) = x at *
      by_cases hx : 0 < x
      · have HS := hid ((unhid HSY) hx)
        go_wp2_with (at_builtin; refine wpList_append_own _ rfl _ _ 49 rfl Wb.heap.size 3 i0 (.int .i64 0) 1 8 Tryz.underlying49 hi hz0 hz1 hz2 rfl (by decide) _ _ _ rfl ((unhid HOWN).alloc _) ⟨wr.heap.size, 0, none⟩ 1 1 [.int .i64 q] rfl rfl (by exact World.news_of_block (cs := #[.int .i64 q]) (t := 3) (fr := (0, 0)) (by simpa using heap_alloc_new wr (.cells #[.int .i64 q] 3))) ?k2 ?k3 ?k4 ?k5 ?_)
        case k2 => first | rfl | (intro u hu; simp at hu; subst hu; rfl)
        case k3 => unfold maxLen; omega
        case k4 => omega
        case k5 => have := (unhid HBEL).size; simp; omega
        intro v' w4 hown4 hg4 _
        have hb4 : Below Wb.heap.size Wb w4 := by
          refine Below.grown ((unhid HBEL).alloc (unhid HBEL).size _) hg4 (by have := (unhid HBEL).size; simp; omega) (fun i hi => ?_)
          rcases Nat.lt_or_ge i Wb.heap.size with h | h
          · exact absurd hi (own_ne (unhid HOWN) (Or.inl h))
          · exact h
        have HO4 := hid hown4
        clear hown4 hg4
        go_wp2_with fail
        go_roundw
        case rel => exact ⟨q + 1, by omega, by omega, by go_num, by rw [unhid HS, List.length_append, List.length_singleton]; simpa [ints] using unhid HO4, hb4⟩
        case measure => simp [intOf]; omega
      · have HS := hid ((unhid HSN) hx)
        go_wp2_with fail
        go_roundw
        case rel => exact ⟨q + 1, by omega, by omega, by go_num, by rw [unhid HS]; exact unhid HOWN, unhid HBEL⟩
        case measure => simp [intOf]; omega
    · obtain rfl : q = 9 := by omega
      obtain ⟨A3, c3, rfl, hrd, -⟩ := own_slice (unhid HOWN)
      have HRD := hid (show Rd wr A3 (ints (screensK f 8)) from hrd)
      clear hrd hd
      go_wp2_with fail
      go_ret2
      first | exact ⟨(unhid HBW).trans ((unhid HBEL).mono (unhid HBW).size), A3, ⟨c3, rfl⟩, unhid HRD⟩ | exact ⟨(unhid HBW).trans ((unhid HBEL).mono (unhid HBW).size), A3, c3, rfl, unhid HRD⟩
end

end Go.Proofs.YtfklckjfbnaoeaaGreatDoor
